/- Own texts, put together. -/
import Derived.Test.YtijpdcidhbkmmaaGreatM1
import Derived.Maps.RangeRun
import Derived.Maps.Keyed
import Derived.DeepKeys4
import Derived.Laws.Strings
section
/- What the functions of this program ask. -/
set_option linter.unusedVariables false
set_option maxRecDepth 100000
namespace Go.Gx.S
open Go Go.Gx Go.Proofs
-- gemel/gemellaw12.step
def p27 (P : Program) (K : Value → World → Prop) (x0 : Value) (x1 : Value) (x2 : Value) : World → Prop :=
  opS P (S.box 29 x2) fun x3 =>
  opS P (S.fa 29 x3 0) fun x4 =>
  opS P (S.ld 3 x4) fun x5 =>
  opS P (S.binI .eql x5 (.int .i64 0)) fun x6 =>
  brn x6 (
    opS P (S.fa 29 x3 1) fun x7 =>
    opS P (S.ld 3 x7) fun x8 =>
    opS P (S.fa 29 x3 5) fun x9 =>
    opS P (S.ld 27 x9) fun x10 =>
    opS P (S.fa 29 x3 6) fun x11 =>
    opS P (S.ld 3 x11) fun x12 =>
    opS P (S.cl 13 [x0, x8, x10, x12]) fun x13 =>
    opS P (S.alloc 37) fun x14 =>
    opS P (S.st 37 x14 x13) fun x15 =>
    jnJ 1 (fun x16 =>
      K x16
    ) fun j0 =>
    drw <|
    opS P (S.fa 29 x3 1) fun x16 =>
    opS P (S.ld 3 x16) fun x17 =>
    opS P (S.fa 29 x3 5) fun x18 =>
    opS P (S.ld 27 x18) fun x19 =>
    opS P (S.fa 29 x3 6) fun x20 =>
    opS P (S.ld 3 x20) fun x21 =>
    allW (
      opS P (S.ld 37 x14) fun x22 =>
      opS P (S.cl 54 [x1, x17, x19, x21]) fun x23 =>
      opS P (S.cl 21 [x22, x23]) fun x24 =>
      j0 x24
    ) (
      opS P (S.cl 54 [x1, x17, x19, x21]) fun x22 =>
      opS P (S.ld 37 x14) fun x23 =>
      opS P (S.cl 21 [x23, x22]) fun x24 =>
      j0 x24
    )
  ) (
    opS P (S.binI .eql x5 (.int .i64 1)) fun x7 =>
    brn x7 (
      opS P (S.fa 29 x3 1) fun x8 =>
      opS P (S.ld 3 x8) fun x9 =>
      opS P (S.fa 29 x3 2) fun x10 =>
      opS P (S.ld 3 x10) fun x11 =>
      opS P (S.cl 23 [x0, x9, x11]) fun x12 =>
      opS P (S.fa 29 x3 1) fun x13 =>
      opS P (S.ld 3 x13) fun x14 =>
      opS P (S.fa 29 x3 2) fun x15 =>
      opS P (S.ld 3 x15) fun x16 =>
      opS P (S.cl 55 [x1, x14, x16]) fun x17 =>
      opS P (S.binI .eql x12 x17) fun x18 =>
      K x18
    ) (
      opS P (S.binI .eql x5 (.int .i64 2)) fun x8 =>
      brn x8 (
        jnJ 1 (fun x9 =>
          drw <|
          opS P (S.nc x1) fun x10 =>
          opS P (S.fa 113 x10 1) fun x11 =>
          opS P (S.ld 109 x11) fun x12 =>
          opS P (S.fa 29 x3 3) fun x13 =>
          opS P (S.ld 3 x13) fun x14 =>
          opS P (S.fa 29 x3 1) fun x15 =>
          opS P (S.ld 3 x15) fun x16 =>
          opS P (S.fa 29 x3 4) fun x17 =>
          opS P (S.ld 4 x17) fun x18 =>
          opS P (S.cl 57 [x12, x14, x16, x18]) fun x19 =>
          opS P (S.binI .eql x9 x19) fun x20 =>
          K x20
        ) fun j0 =>
        drw <|
        opS P (S.fa 29 x3 3) fun x9 =>
        opS P (S.fa 29 x3 1) fun x10 =>
        opS P (S.fa 29 x3 4) fun x11 =>
        allW (
          opS P (S.cl 29 [x0]) fun x12 =>
          opS P (S.ld 3 x9) fun x13 =>
          opS P (S.ld 3 x10) fun x14 =>
          opS P (S.ld 4 x11) fun x15 =>
          opS P (S.cl 56 [x12, x13, x14, x15]) fun x16 =>
          j0 x16
        ) (
          allW (
            opS P (S.ld 3 x9) fun x12 =>
            allW (
              opS P (S.cl 29 [x0]) fun x13 =>
              opS P (S.ld 3 x10) fun x14 =>
              opS P (S.ld 4 x11) fun x15 =>
              opS P (S.cl 56 [x13, x12, x14, x15]) fun x16 =>
              j0 x16
            ) (
              allW (
                opS P (S.ld 3 x10) fun x13 =>
                allW (
                  opS P (S.cl 29 [x0]) fun x14 =>
                  opS P (S.ld 4 x11) fun x15 =>
                  opS P (S.cl 56 [x14, x12, x13, x15]) fun x16 =>
                  j0 x16
                ) (
                  opS P (S.ld 4 x11) fun x14 =>
                  opS P (S.cl 29 [x0]) fun x15 =>
                  opS P (S.cl 56 [x15, x12, x13, x14]) fun x16 =>
                  j0 x16
                )
              ) (
                opS P (S.ld 4 x11) fun x13 =>
                allW (
                  opS P (S.cl 29 [x0]) fun x14 =>
                  opS P (S.ld 3 x10) fun x15 =>
                  opS P (S.cl 56 [x14, x12, x15, x13]) fun x16 =>
                  j0 x16
                ) (
                  opS P (S.ld 3 x10) fun x14 =>
                  opS P (S.cl 29 [x0]) fun x15 =>
                  opS P (S.cl 56 [x15, x12, x14, x13]) fun x16 =>
                  j0 x16
                )
              )
            )
          ) (
            allW (
              opS P (S.ld 3 x10) fun x12 =>
              allW (
                opS P (S.cl 29 [x0]) fun x13 =>
                opS P (S.ld 3 x9) fun x14 =>
                opS P (S.ld 4 x11) fun x15 =>
                opS P (S.cl 56 [x13, x14, x12, x15]) fun x16 =>
                j0 x16
              ) (
                allW (
                  opS P (S.ld 3 x9) fun x13 =>
                  allW (
                    opS P (S.cl 29 [x0]) fun x14 =>
                    opS P (S.ld 4 x11) fun x15 =>
                    opS P (S.cl 56 [x14, x13, x12, x15]) fun x16 =>
                    j0 x16
                  ) (
                    opS P (S.ld 4 x11) fun x14 =>
                    opS P (S.cl 29 [x0]) fun x15 =>
                    opS P (S.cl 56 [x15, x13, x12, x14]) fun x16 =>
                    j0 x16
                  )
                ) (
                  opS P (S.ld 4 x11) fun x13 =>
                  allW (
                    opS P (S.cl 29 [x0]) fun x14 =>
                    opS P (S.ld 3 x9) fun x15 =>
                    opS P (S.cl 56 [x14, x15, x12, x13]) fun x16 =>
                    j0 x16
                  ) (
                    opS P (S.ld 3 x9) fun x14 =>
                    opS P (S.cl 29 [x0]) fun x15 =>
                    opS P (S.cl 56 [x15, x14, x12, x13]) fun x16 =>
                    j0 x16
                  )
                )
              )
            ) (
              opS P (S.ld 4 x11) fun x12 =>
              allW (
                opS P (S.cl 29 [x0]) fun x13 =>
                opS P (S.ld 3 x9) fun x14 =>
                opS P (S.ld 3 x10) fun x15 =>
                opS P (S.cl 56 [x13, x14, x15, x12]) fun x16 =>
                j0 x16
              ) (
                allW (
                  opS P (S.ld 3 x9) fun x13 =>
                  allW (
                    opS P (S.cl 29 [x0]) fun x14 =>
                    opS P (S.ld 3 x10) fun x15 =>
                    opS P (S.cl 56 [x14, x13, x15, x12]) fun x16 =>
                    j0 x16
                  ) (
                    opS P (S.ld 3 x10) fun x14 =>
                    opS P (S.cl 29 [x0]) fun x15 =>
                    opS P (S.cl 56 [x15, x13, x14, x12]) fun x16 =>
                    j0 x16
                  )
                ) (
                  opS P (S.ld 3 x10) fun x13 =>
                  allW (
                    opS P (S.cl 29 [x0]) fun x14 =>
                    opS P (S.ld 3 x9) fun x15 =>
                    opS P (S.cl 56 [x14, x15, x13, x12]) fun x16 =>
                    j0 x16
                  ) (
                    opS P (S.ld 3 x9) fun x14 =>
                    opS P (S.cl 29 [x0]) fun x15 =>
                    opS P (S.cl 56 [x15, x14, x13, x12]) fun x16 =>
                    j0 x16
                  )
                )
              )
            )
          )
        )
      ) (
        opS P (S.binI .eql x5 (.int .i64 3)) fun x9 =>
        brn x9 (
          jnJ 1 (fun x10 =>
            drw <|
            opS P (S.nc x1) fun x11 =>
            opS P (S.fa 113 x11 1) fun x12 =>
            opS P (S.ld 109 x12) fun x13 =>
            opS P (S.fa 29 x3 1) fun x14 =>
            opS P (S.ld 3 x14) fun x15 =>
            opS P (S.fa 29 x3 3) fun x16 =>
            opS P (S.ld 3 x16) fun x17 =>
            opS P (S.cl 59 [x13, x15, x17]) fun x18 =>
            opS P (S.binI .eql x10 x18) fun x19 =>
            K x19
          ) fun j0 =>
          drw <|
          opS P (S.fa 29 x3 1) fun x10 =>
          opS P (S.fa 29 x3 3) fun x11 =>
          allW (
            opS P (S.cl 29 [x0]) fun x12 =>
            opS P (S.ld 3 x10) fun x13 =>
            opS P (S.ld 3 x11) fun x14 =>
            opS P (S.cl 58 [x12, x13, x14]) fun x15 =>
            j0 x15
          ) (
            allW (
              opS P (S.ld 3 x10) fun x12 =>
              allW (
                opS P (S.cl 29 [x0]) fun x13 =>
                opS P (S.ld 3 x11) fun x14 =>
                opS P (S.cl 58 [x13, x12, x14]) fun x15 =>
                j0 x15
              ) (
                opS P (S.ld 3 x11) fun x13 =>
                opS P (S.cl 29 [x0]) fun x14 =>
                opS P (S.cl 58 [x14, x12, x13]) fun x15 =>
                j0 x15
              )
            ) (
              opS P (S.ld 3 x11) fun x12 =>
              allW (
                opS P (S.cl 29 [x0]) fun x13 =>
                opS P (S.ld 3 x10) fun x14 =>
                opS P (S.cl 58 [x13, x14, x12]) fun x15 =>
                j0 x15
              ) (
                opS P (S.ld 3 x10) fun x13 =>
                opS P (S.cl 29 [x0]) fun x14 =>
                opS P (S.cl 58 [x14, x13, x12]) fun x15 =>
                j0 x15
              )
            )
          )
        ) (
          opS P (S.binI .eql x5 (.int .i64 4)) fun x10 =>
          brn x10 (
            jnJ 1 (fun x11 =>
              drw <|
              opS P (S.nc x1) fun x12 =>
              opS P (S.fa 113 x12 1) fun x13 =>
              opS P (S.ld 109 x13) fun x14 =>
              opS P (S.fa 29 x3 3) fun x15 =>
              opS P (S.ld 3 x15) fun x16 =>
              opS P (S.fa 29 x3 1) fun x17 =>
              opS P (S.ld 3 x17) fun x18 =>
              opS P (S.cl 61 [x14, x16, x18]) fun x19 =>
              opS P (S.binI .eql x11 x19) fun x20 =>
              K x20
            ) fun j0 =>
            drw <|
            opS P (S.fa 29 x3 3) fun x11 =>
            opS P (S.fa 29 x3 1) fun x12 =>
            allW (
              opS P (S.cl 29 [x0]) fun x13 =>
              opS P (S.ld 3 x11) fun x14 =>
              opS P (S.ld 3 x12) fun x15 =>
              opS P (S.cl 60 [x13, x14, x15]) fun x16 =>
              j0 x16
            ) (
              allW (
                opS P (S.ld 3 x11) fun x13 =>
                allW (
                  opS P (S.cl 29 [x0]) fun x14 =>
                  opS P (S.ld 3 x12) fun x15 =>
                  opS P (S.cl 60 [x14, x13, x15]) fun x16 =>
                  j0 x16
                ) (
                  opS P (S.ld 3 x12) fun x14 =>
                  opS P (S.cl 29 [x0]) fun x15 =>
                  opS P (S.cl 60 [x15, x13, x14]) fun x16 =>
                  j0 x16
                )
              ) (
                opS P (S.ld 3 x12) fun x13 =>
                allW (
                  opS P (S.cl 29 [x0]) fun x14 =>
                  opS P (S.ld 3 x11) fun x15 =>
                  opS P (S.cl 60 [x14, x15, x13]) fun x16 =>
                  j0 x16
                ) (
                  opS P (S.ld 3 x11) fun x14 =>
                  opS P (S.cl 29 [x0]) fun x15 =>
                  opS P (S.cl 60 [x15, x14, x13]) fun x16 =>
                  j0 x16
                )
              )
            )
          ) (
            opS P (S.binI .eql x5 (.int .i64 5)) fun x11 =>
            brn x11 (
              jnJ 1 (fun x12 =>
                drw <|
                opS P (S.nc x1) fun x13 =>
                opS P (S.fa 113 x13 2) fun x14 =>
                opS P (S.ld 106 x14) fun x15 =>
                opS P (S.fa 29 x3 6) fun x16 =>
                opS P (S.ld 3 x16) fun x17 =>
                opS P (S.fa 29 x3 2) fun x18 =>
                opS P (S.ld 3 x18) fun x19 =>
                opS P (S.cl 63 [x15, x17, x19]) fun x20 =>
                opS P (S.cl 20 [x12, x20]) fun x21 =>
                K x21
              ) fun j0 =>
              drw <|
              opS P (S.fa 29 x3 6) fun x12 =>
              opS P (S.fa 29 x3 2) fun x13 =>
              allW (
                opS P (S.cl 14 [x0]) fun x14 =>
                opS P (S.ld 3 x12) fun x15 =>
                opS P (S.ld 3 x13) fun x16 =>
                opS P (S.cl 62 [x14, x15, x16]) fun x17 =>
                j0 x17
              ) (
                allW (
                  opS P (S.ld 3 x12) fun x14 =>
                  allW (
                    opS P (S.cl 14 [x0]) fun x15 =>
                    opS P (S.ld 3 x13) fun x16 =>
                    opS P (S.cl 62 [x15, x14, x16]) fun x17 =>
                    j0 x17
                  ) (
                    opS P (S.ld 3 x13) fun x15 =>
                    opS P (S.cl 14 [x0]) fun x16 =>
                    opS P (S.cl 62 [x16, x14, x15]) fun x17 =>
                    j0 x17
                  )
                ) (
                  opS P (S.ld 3 x13) fun x14 =>
                  allW (
                    opS P (S.cl 14 [x0]) fun x15 =>
                    opS P (S.ld 3 x12) fun x16 =>
                    opS P (S.cl 62 [x15, x16, x14]) fun x17 =>
                    j0 x17
                  ) (
                    opS P (S.ld 3 x12) fun x15 =>
                    opS P (S.cl 14 [x0]) fun x16 =>
                    opS P (S.cl 62 [x16, x15, x14]) fun x17 =>
                    j0 x17
                  )
                )
              )
            ) (
              opS P (S.binI .eql x5 (.int .i64 6)) fun x12 =>
              brn x12 (
                jnJ 1 (fun x13 =>
                  drw <|
                  opS P (S.nc x1) fun x14 =>
                  opS P (S.fa 113 x14 2) fun x15 =>
                  opS P (S.ld 106 x15) fun x16 =>
                  opS P (S.fa 29 x3 3) fun x17 =>
                  opS P (S.ld 3 x17) fun x18 =>
                  opS P (S.fa 29 x3 5) fun x19 =>
                  opS P (S.fa 27 x19 1) fun x20 =>
                  opS P (S.ld 24 x20) fun x21 =>
                  opS P (S.fa 29 x3 1) fun x22 =>
                  opS P (S.ld 3 x22) fun x23 =>
                  opS P (S.cl 65 [x16, x18, x21, x23]) fun x24 =>
                  opS P (S.binI .eql x13 x24) fun x25 =>
                  K x25
                ) fun j0 =>
                drw <|
                opS P (S.fa 29 x3 3) fun x13 =>
                opS P (S.fa 29 x3 5) fun x14 =>
                opS P (S.fa 27 x14 1) fun x15 =>
                opS P (S.fa 29 x3 1) fun x16 =>
                allW (
                  opS P (S.cl 14 [x0]) fun x17 =>
                  opS P (S.ld 3 x13) fun x18 =>
                  opS P (S.ld 24 x15) fun x19 =>
                  opS P (S.ld 3 x16) fun x20 =>
                  opS P (S.cl 64 [x17, x18, x19, x20]) fun x21 =>
                  j0 x21
                ) (
                  allW (
                    opS P (S.ld 3 x13) fun x17 =>
                    allW (
                      opS P (S.cl 14 [x0]) fun x18 =>
                      opS P (S.ld 24 x15) fun x19 =>
                      opS P (S.ld 3 x16) fun x20 =>
                      opS P (S.cl 64 [x18, x17, x19, x20]) fun x21 =>
                      j0 x21
                    ) (
                      allW (
                        opS P (S.ld 24 x15) fun x18 =>
                        allW (
                          opS P (S.cl 14 [x0]) fun x19 =>
                          opS P (S.ld 3 x16) fun x20 =>
                          opS P (S.cl 64 [x19, x17, x18, x20]) fun x21 =>
                          j0 x21
                        ) (
                          opS P (S.ld 3 x16) fun x19 =>
                          opS P (S.cl 14 [x0]) fun x20 =>
                          opS P (S.cl 64 [x20, x17, x18, x19]) fun x21 =>
                          j0 x21
                        )
                      ) (
                        opS P (S.ld 3 x16) fun x18 =>
                        allW (
                          opS P (S.cl 14 [x0]) fun x19 =>
                          opS P (S.ld 24 x15) fun x20 =>
                          opS P (S.cl 64 [x19, x17, x20, x18]) fun x21 =>
                          j0 x21
                        ) (
                          opS P (S.ld 24 x15) fun x19 =>
                          opS P (S.cl 14 [x0]) fun x20 =>
                          opS P (S.cl 64 [x20, x17, x19, x18]) fun x21 =>
                          j0 x21
                        )
                      )
                    )
                  ) (
                    allW (
                      opS P (S.ld 24 x15) fun x17 =>
                      allW (
                        opS P (S.cl 14 [x0]) fun x18 =>
                        opS P (S.ld 3 x13) fun x19 =>
                        opS P (S.ld 3 x16) fun x20 =>
                        opS P (S.cl 64 [x18, x19, x17, x20]) fun x21 =>
                        j0 x21
                      ) (
                        allW (
                          opS P (S.ld 3 x13) fun x18 =>
                          allW (
                            opS P (S.cl 14 [x0]) fun x19 =>
                            opS P (S.ld 3 x16) fun x20 =>
                            opS P (S.cl 64 [x19, x18, x17, x20]) fun x21 =>
                            j0 x21
                          ) (
                            opS P (S.ld 3 x16) fun x19 =>
                            opS P (S.cl 14 [x0]) fun x20 =>
                            opS P (S.cl 64 [x20, x18, x17, x19]) fun x21 =>
                            j0 x21
                          )
                        ) (
                          opS P (S.ld 3 x16) fun x18 =>
                          allW (
                            opS P (S.cl 14 [x0]) fun x19 =>
                            opS P (S.ld 3 x13) fun x20 =>
                            opS P (S.cl 64 [x19, x20, x17, x18]) fun x21 =>
                            j0 x21
                          ) (
                            opS P (S.ld 3 x13) fun x19 =>
                            opS P (S.cl 14 [x0]) fun x20 =>
                            opS P (S.cl 64 [x20, x19, x17, x18]) fun x21 =>
                            j0 x21
                          )
                        )
                      )
                    ) (
                      opS P (S.ld 3 x16) fun x17 =>
                      allW (
                        opS P (S.cl 14 [x0]) fun x18 =>
                        opS P (S.ld 3 x13) fun x19 =>
                        opS P (S.ld 24 x15) fun x20 =>
                        opS P (S.cl 64 [x18, x19, x20, x17]) fun x21 =>
                        j0 x21
                      ) (
                        allW (
                          opS P (S.ld 3 x13) fun x18 =>
                          allW (
                            opS P (S.cl 14 [x0]) fun x19 =>
                            opS P (S.ld 24 x15) fun x20 =>
                            opS P (S.cl 64 [x19, x18, x20, x17]) fun x21 =>
                            j0 x21
                          ) (
                            opS P (S.ld 24 x15) fun x19 =>
                            opS P (S.cl 14 [x0]) fun x20 =>
                            opS P (S.cl 64 [x20, x18, x19, x17]) fun x21 =>
                            j0 x21
                          )
                        ) (
                          opS P (S.ld 24 x15) fun x18 =>
                          allW (
                            opS P (S.cl 14 [x0]) fun x19 =>
                            opS P (S.ld 3 x13) fun x20 =>
                            opS P (S.cl 64 [x19, x20, x18, x17]) fun x21 =>
                            j0 x21
                          ) (
                            opS P (S.ld 3 x13) fun x19 =>
                            opS P (S.cl 14 [x0]) fun x20 =>
                            opS P (S.cl 64 [x20, x19, x18, x17]) fun x21 =>
                            j0 x21
                          )
                        )
                      )
                    )
                  )
                )
              ) (
                opS P (S.fa 29 x3 3) fun x13 =>
                opS P (S.ld 3 x13) fun x14 =>
                opS P (S.fa 29 x3 1) fun x15 =>
                opS P (S.ld 3 x15) fun x16 =>
                opS P (S.fa 29 x3 2) fun x17 =>
                opS P (S.ld 3 x17) fun x18 =>
                opS P (S.fa 29 x3 5) fun x19 =>
                opS P (S.ld 27 x19) fun x20 =>
                opS P (S.cl 17 [x0, x14, x16, x18, x20]) fun x21 =>
                opS P (S.fa 29 x3 3) fun x22 =>
                opS P (S.ld 3 x22) fun x23 =>
                opS P (S.fa 29 x3 1) fun x24 =>
                opS P (S.ld 3 x24) fun x25 =>
                opS P (S.fa 29 x3 2) fun x26 =>
                opS P (S.ld 3 x26) fun x27 =>
                opS P (S.fa 29 x3 5) fun x28 =>
                opS P (S.ld 27 x28) fun x29 =>
                opS P (S.cl 66 [x1, x23, x25, x27, x29]) fun x30 =>
                opS P (S.cl 18 [x21, x30]) fun x31 =>
                K x31
              )
            )
          )
        )
      )
    )
  )
instance fnb27 : FnB Tryz.prog 27 := ⟨Tryz.call27⟩
theorem e27 : p27 Tryz.prog = fun K x0 x1 x2 => denF Tryz.prog Tryz.f27 [x0, x1, x2] K := by kernel_rfl
theorem c27 {K : Value → World → Prop} {x0 x1 x2 : Value} {w : World} (h : p27 Tryz.prog K x0 x1 x2 w) : CallsR Tryz.prog 27 #[x0, x1, x2] K w := by
  rw [e27] at h
  exact denF_sound mixed Tryz.func27 h

-- gemel/gemellaw12.alike
def p28 (P : Program) (K : Value → World → Prop) (x0 : Value) (x1 : Value) (x2 : Value) : World → Prop :=
  jnJ 1 (fun x3 =>
    drw <|
    brn x3 (
      opS P (S.cl 24 [x0, x2]) fun x4 =>
      opS P (S.cl 67 [x1, x2]) fun x5 =>
      opS P (S.binI .eql x4 x5) fun x6 =>
      brn x6 (
        opS P (S.nc x1) fun x7 =>
        opS P (S.fa 113 x7 4) fun x8 =>
        allW (
          opS P (S.cl 22 [x0]) fun x9 =>
          opS P (S.ld 55 x8) fun x10 =>
          opS P (S.binG .eql 55 x9 x10) fun x11 =>
          brn x11 (
            opS P (S.nc x1) fun x12 =>
            opS P (S.fa 113 x12 5) fun x13 =>
            allW (
              opS P (S.cl 68 [x0]) fun x14 =>
              opS P (S.ld 81 x13) fun x15 =>
              opS P (S.binG .eql 81 x14 x15) fun x16 =>
              K x16
            ) (
              opS P (S.ld 81 x13) fun x14 =>
              opS P (S.cl 68 [x0]) fun x15 =>
              opS P (S.binG .eql 81 x15 x14) fun x16 =>
              K x16
            )
          ) (
            allW (
              K (.bool false)
            ) (
              K (.bool false)
            )
          )
        ) (
          opS P (S.ld 55 x8) fun x9 =>
          opS P (S.cl 22 [x0]) fun x10 =>
          opS P (S.binG .eql 55 x10 x9) fun x11 =>
          brn x11 (
            opS P (S.nc x1) fun x12 =>
            opS P (S.fa 113 x12 5) fun x13 =>
            allW (
              opS P (S.cl 68 [x0]) fun x14 =>
              opS P (S.ld 81 x13) fun x15 =>
              opS P (S.binG .eql 81 x14 x15) fun x16 =>
              K x16
            ) (
              opS P (S.ld 81 x13) fun x14 =>
              opS P (S.cl 68 [x0]) fun x15 =>
              opS P (S.binG .eql 81 x15 x14) fun x16 =>
              K x16
            )
          ) (
            allW (
              K (.bool false)
            ) (
              K (.bool false)
            )
          )
        )
      ) (
        allW (
          allW (
            K (.bool false)
          ) (
            K (.bool false)
          )
        ) (
          allW (
            K (.bool false)
          ) (
            K (.bool false)
          )
        )
      )
    ) (
      allW (
        allW (
          K (.bool false)
        ) (
          K (.bool false)
        )
      ) (
        allW (
          K (.bool false)
        ) (
          K (.bool false)
        )
      )
    )
  ) fun j0 =>
  drw <|
  opS P (S.nc x1) fun x3 =>
  opS P (S.fa 113 x3 2) fun x4 =>
  allW (
    opS P (S.cl 14 [x0]) fun x5 =>
    allW (
      opS P (S.cl 19 [x5]) fun x6 =>
      opS P (S.ld 106 x4) fun x7 =>
      opS P (S.nc x7) fun x8 =>
      opS P (S.fa 118 x8 1) fun x9 =>
      opS P (S.ld 51 x9) fun x10 =>
      opS P (S.cl 20 [x6, x10]) fun x11 =>
      j0 x11
    ) (
      opS P (S.ld 106 x4) fun x6 =>
      opS P (S.nc x6) fun x7 =>
      opS P (S.fa 118 x7 1) fun x8 =>
      allW (
        opS P (S.cl 19 [x5]) fun x9 =>
        opS P (S.ld 51 x8) fun x10 =>
        opS P (S.cl 20 [x9, x10]) fun x11 =>
        j0 x11
      ) (
        opS P (S.ld 51 x8) fun x9 =>
        opS P (S.cl 19 [x5]) fun x10 =>
        opS P (S.cl 20 [x10, x9]) fun x11 =>
        j0 x11
      )
    )
  ) (
    opS P (S.ld 106 x4) fun x5 =>
    opS P (S.nc x5) fun x6 =>
    opS P (S.fa 118 x6 1) fun x7 =>
    allW (
      opS P (S.cl 14 [x0]) fun x8 =>
      allW (
        opS P (S.cl 19 [x8]) fun x9 =>
        opS P (S.ld 51 x7) fun x10 =>
        opS P (S.cl 20 [x9, x10]) fun x11 =>
        j0 x11
      ) (
        opS P (S.ld 51 x7) fun x9 =>
        opS P (S.cl 19 [x8]) fun x10 =>
        opS P (S.cl 20 [x10, x9]) fun x11 =>
        j0 x11
      )
    ) (
      opS P (S.ld 51 x7) fun x8 =>
      opS P (S.cl 14 [x0]) fun x9 =>
      opS P (S.cl 19 [x9]) fun x10 =>
      opS P (S.cl 20 [x10, x8]) fun x11 =>
      j0 x11
    )
  )
instance fnb28 : FnB Tryz.prog 28 := ⟨Tryz.call28⟩
theorem e28 : p28 Tryz.prog = fun K x0 x1 x2 => denF Tryz.prog Tryz.f28 [x0, x1, x2] K := by kernel_rfl
theorem c28 {K : Value → World → Prop} {x0 x1 x2 : Value} {w : World} (h : p28 Tryz.prog K x0 x1 x2 w) : CallsR Tryz.prog 28 #[x0, x1, x2] K w := by
  rw [e28] at h
  exact denF_sound mixed Tryz.func28 h

end Go.Gx.S
-- 27 28
end

section
/- What the functions of this program ask. -/
set_option linter.unusedVariables false
set_option maxRecDepth 100000
namespace Go.Gx.S
open Go Go.Gx Go.Proofs
-- gemel/gemelref12.SameOuts
def p18 (P : Program) (K : Value → World → Prop) (x0 : Value) (x1 : Value) : World → Prop :=
  opS P (S.len x0) fun x2 =>
  opS P (S.len x1) fun x3 =>
  opS P (S.binI .neq x2 x3) fun x4 =>
  brn x4 (
    K (.bool false)
  ) (
    jnJ 0 (
      K (.bool true)
    ) fun j0 =>
    loopJ 1 (fun j1 x5 =>
      opS P (S.len x0) fun x6 =>
      opS P (S.binI .lss x5 x6) fun x7 =>
      brn x7 (
        drw <|
        opS P (S.ia 35 x0 x5) fun x8 =>
        opS P (S.fa 49 x8 1) fun x9 =>
        opS P (S.ld 27 x9) fun x10 =>
        opS P (S.ia 35 x1 x5) fun x11 =>
        opS P (S.fa 49 x11 1) fun x12 =>
        opS P (S.ld 27 x12) fun x13 =>
        opS P (S.cl 40 [x10, x13]) fun x14 =>
        drw <|
        opS P (S.ia 35 x0 x5) fun x15 =>
        opS P (S.fa 49 x15 0) fun x16 =>
        opS P (S.ld 3 x16) fun x17 =>
        opS P (S.ia 35 x1 x5) fun x18 =>
        opS P (S.fa 49 x18 0) fun x19 =>
        opS P (S.ld 3 x19) fun x20 =>
        opS P (S.binI .neq x17 x20) fun x21 =>
        brn x21 (
          K (.bool false)
        ) (
          opS P (S.un .not x14) fun x22 =>
          brn x22 (
            K (.bool false)
          ) (
            opS P (S.binI .add x5 (.int .i64 1)) fun x23 =>
            j1 x23
          )
        )
      ) (
        j0
      )
    ) (.int .i64 0)
  )
instance fnb18 : FnB Tryz.prog 18 := ⟨Tryz.call18⟩
theorem e18 : p18 Tryz.prog = fun K x0 x1 => denF Tryz.prog Tryz.f18 [x0, x1] K := by kernel_rfl
theorem c18 {K : Value → World → Prop} {x0 x1 : Value} {w : World} (h : p18 Tryz.prog K x0 x1 w) : CallsR Tryz.prog 18 #[x0, x1] K w := by
  rw [e18] at h
  exact denF_sound mixed Tryz.func18 h

-- gemel/gemelref12.Same
def p21 (P : Program) (K : Value → World → Prop) (x0 : Value) (x1 : Value) : World → Prop :=
  opS P (S.box 37 x0) fun x2 =>
  opS P (S.box 37 x1) fun x3 =>
  opS P (S.fa 37 x2 3) fun x4 =>
  opS P (S.ld 35 x4) fun x5 =>
  opS P (S.fa 37 x3 3) fun x6 =>
  opS P (S.ld 35 x6) fun x7 =>
  opS P (S.cl 18 [x5, x7]) fun x8 =>
  opS P (S.fa 37 x2 0) fun x9 =>
  opS P (S.ld 3 x9) fun x10 =>
  opS P (S.fa 37 x3 0) fun x11 =>
  opS P (S.ld 3 x11) fun x12 =>
  opS P (S.binI .eql x10 x12) fun x13 =>
  brn x13 (
    opS P (S.fa 37 x2 1) fun x14 =>
    opS P (S.ld 3 x14) fun x15 =>
    opS P (S.fa 37 x3 1) fun x16 =>
    opS P (S.ld 3 x16) fun x17 =>
    opS P (S.binI .eql x15 x17) fun x18 =>
    brn x18 (
      opS P (S.fa 37 x2 2) fun x19 =>
      opS P (S.ld 3 x19) fun x20 =>
      opS P (S.fa 37 x3 2) fun x21 =>
      opS P (S.ld 3 x21) fun x22 =>
      opS P (S.binI .eql x20 x22) fun x23 =>
      brn x23 (
        K x8
      ) (
        K (.bool false)
      )
    ) (
      K (.bool false)
    )
  ) (
    K (.bool false)
  )
instance fnb21 : FnB Tryz.prog 21 := ⟨Tryz.call21⟩
theorem e21 : p21 Tryz.prog = fun K x0 x1 => denF Tryz.prog Tryz.f21 [x0, x1] K := by kernel_rfl
theorem c21 {K : Value → World → Prop} {x0 x1 : Value} {w : World} (h : p21 Tryz.prog K x0 x1 w) : CallsR Tryz.prog 21 #[x0, x1] K w := by
  rw [e21] at h
  exact denF_sound mixed Tryz.func21 h

-- gemel/flow.New
def p25 (P : Program) (K : Value → World → Prop) (x0 : Value) (x1 : Value) : World → Prop :=
  opS P (S.binI .lss x0 (.int .i64 1)) fun x2 =>
  brn x2 (
    K (.tuple #[(.pointer none), (.int .i64 1)])
  ) (
    opS P (S.binI .gtr x0 (.int .i64 63)) fun x3 =>
    brn x3 (
      K (.tuple #[(.pointer none), (.int .i64 1)])
    ) (
      opS P (S.binI .add x0 (.int .i64 1)) fun x4 =>
      opS P (S.cl 50 [x4]) fun x5 =>
      opS P (S.ext x5 0) fun x6 =>
      opS P (S.ext x5 1) fun x7 =>
      opS P (S.cl 51 [x1]) fun x8 =>
      opS P (S.ext x8 0) fun x9 =>
      opS P (S.ext x8 1) fun x10 =>
      opS P (S.binI .neq x10 (.int .i64 0)) fun x11 =>
      brn x11 (
        K (.tuple #[(.pointer none), x10])
      ) (
        opS P (S.binI .add x0 (.int .i64 1)) fun x12 =>
        opS P (S.mks 70 x12 x12) fun x13 =>
        opS P (S.build 83 [(0, x6), (1, x9), (2, x13)]) fun x14 =>
        opS P (S.box 83 x14) fun x15 =>
        K (.tuple #[x15, (.int .i64 0)])
      )
    )
  )
instance fnb25 : FnB Tryz.prog 25 := ⟨Tryz.call25⟩
theorem e25 : p25 Tryz.prog = fun K x0 x1 => denF Tryz.prog Tryz.f25 [x0, x1] K := by kernel_rfl
theorem c25 {K : Value → World → Prop} {x0 x1 : Value} {w : World} (h : p25 Tryz.prog K x0 x1 w) : CallsR Tryz.prog 25 #[x0, x1] K w := by
  rw [e25] at h
  exact denF_sound mixed Tryz.func25 h

-- gemel/gemelref12.New
def p26 (P : Program) (K : Value → World → Prop) (x0 : Value) (x1 : Value) : World → Prop :=
  opS P (S.cl 52 [x1]) fun x2 =>
  opS P (S.ext x2 0) fun x3 =>
  opS P (S.ext x2 1) fun x4 =>
  opS P (S.binI .lss x0 (.int .i64 1)) fun x5 =>
  brn x5 (
    K (.tuple #[(.pointer none), (.int .i64 1)])
  ) (
    opS P (S.binI .gtr x0 (.int .i64 63)) fun x6 =>
    brn x6 (
      K (.tuple #[(.pointer none), (.int .i64 1)])
    ) (
      opS P (S.binI .neq x4 (.int .i64 0)) fun x7 =>
      brn x7 (
        K (.tuple #[(.pointer none), (.int .i64 1)])
      ) (
        opS P (S.binI .add x0 (.int .i64 1)) fun x8 =>
        opS P (S.cl 53 [x8]) fun x9 =>
        opS P (S.ext x9 0) fun x10 =>
        opS P (S.ext x9 1) fun x11 =>
        opS P (S.binI .add x0 (.int .i64 1)) fun x12 =>
        opS P (S.mks 70 x12 x12) fun x13 =>
        opS P (S.build 113 [(0, x0), (1, x10), (2, x3), (3, x13)]) fun x14 =>
        opS P (S.box 113 x14) fun x15 =>
        K (.tuple #[x15, (.int .i64 0)])
      )
    )
  )
instance fnb26 : FnB Tryz.prog 26 := ⟨Tryz.call26⟩
theorem e26 : p26 Tryz.prog = fun K x0 x1 => denF Tryz.prog Tryz.f26 [x0, x1] K := by kernel_rfl
theorem c26 {K : Value → World → Prop} {x0 x1 : Value} {w : World} (h : p26 Tryz.prog K x0 x1 w) : CallsR Tryz.prog 26 #[x0, x1] K w := by
  rw [e26] at h
  exact denF_sound mixed Tryz.func26 h

-- (*gemel/gemelref12.Bridge).Take
def p54 (P : Program) (K : Value → World → Prop) (x0 : Value) (x1 : Value) (x2 : Value) (x3 : Value) : World → Prop :=
  opS P (S.box 27 x2) fun x4 =>
  opS P (S.alloc 37) fun x5 =>
  opS P (S.ld 27 x4) fun x6 =>
  opS P (S.cl 83 [x0, x1, x6, x3]) fun x7 =>
  opS P (S.alloc 37) fun x8 =>
  opS P (S.st 37 x8 x7) fun x9 =>
  drw <|
  opS P (S.fa 37 x8 0) fun x10 =>
  opS P (S.ld 3 x10) fun x11 =>
  opS P (S.nc x0) fun x12 =>
  opS P (S.fa 113 x12 4) fun x13 =>
  opS P (S.ia 55 x13 x11) fun x14 =>
  opS P (S.ld 3 x14) fun x15 =>
  opS P (S.binI .add x15 (.int .i64 1)) fun x16 =>
  opS P (S.nc x0) fun x17 =>
  opS P (S.fa 113 x17 4) fun x18 =>
  opS P (S.ia 55 x18 x11) fun x19 =>
  opS P (S.st 3 x19 x16) fun x20 =>
  opS P (S.ld 37 x8) fun x21 =>
  opS P (S.st 37 x5 x21) fun x22 =>
  opS P (S.ld 37 x5) fun x23 =>
  K x23
instance fnb54 : FnB Tryz.prog 54 := ⟨Tryz.call54⟩
theorem e54 : p54 Tryz.prog = fun K x0 x1 x2 x3 => denF Tryz.prog Tryz.f54 [x0, x1, x2, x3] K := by kernel_rfl
theorem c54 {K : Value → World → Prop} {x0 x1 x2 x3 : Value} {w : World} (h : p54 Tryz.prog K x0 x1 x2 x3 w) : CallsR Tryz.prog 54 #[x0, x1, x2, x3] K w := by
  rw [e54] at h
  exact denF_sound mixed Tryz.func54 h

end Go.Gx.S
-- 54 25 26 18 21
end

section
/- What the functions of this program ask. -/
set_option linter.unusedVariables false
set_option maxRecDepth 100000
namespace Go.Gx.S
open Go Go.Gx Go.Proofs
-- (*gemel/gemelref12.Bridge).way
def p83 (P : Program) (K : Value → World → Prop) (x0 : Value) (x1 : Value) (x2 : Value) (x3 : Value) : World → Prop :=
  opS P (S.box 27 x2) fun x4 =>
  opS P (S.alloc 37) fun x5 =>
  opS P (S.ld 27 x4) fun x6 =>
  opS P (S.cl 113 [x6]) fun x7 =>
  opS P (S.cl 84 [x0, x1]) fun x8 =>
  opS P (S.un .not x7) fun x9 =>
  brn x9 (
    opS P (S.build 37 [(0, (.int .i64 1))]) fun x10 =>
    opS P (S.st 37 x5 x10) fun x11 =>
    opS P (S.ld 37 x5) fun x12 =>
    K x12
  ) (
    opS P (S.un .not x8) fun x10 =>
    brn x10 (
      opS P (S.build 37 [(0, (.int .i64 1))]) fun x11 =>
      opS P (S.st 37 x5 x11) fun x12 =>
      opS P (S.ld 37 x5) fun x13 =>
      K x13
    ) (
      opS P (S.binI .lss x3 (.int .i64 0)) fun x11 =>
      brn x11 (
        opS P (S.build 37 [(0, (.int .i64 1))]) fun x12 =>
        opS P (S.st 37 x5 x12) fun x13 =>
        opS P (S.ld 37 x5) fun x14 =>
        K x14
      ) (
        opS P (S.binI .gtr x3 (.int .i64 1099511627776)) fun x12 =>
        brn x12 (
          opS P (S.build 37 [(0, (.int .i64 1))]) fun x13 =>
          opS P (S.st 37 x5 x13) fun x14 =>
          opS P (S.ld 37 x5) fun x15 =>
          K x15
        ) (
          opS P (S.fa 27 x4 0) fun x13 =>
          opS P (S.ld 24 x13) fun x14 =>
          opS P (S.cl 114 [x14]) fun x15 =>
          brn x15 (
            opS P (S.build 37 [(0, (.int .i64 2))]) fun x16 =>
            opS P (S.st 37 x5 x16) fun x17 =>
            opS P (S.ld 37 x5) fun x18 =>
            K x18
          ) (
            opS P (S.nc x0) fun x16 =>
            opS P (S.fa 113 x16 3) fun x17 =>
            opS P (S.ld 70 x17) fun x18 =>
            opS P (S.ia 70 x18 x1) fun x19 =>
            opS P (S.ld 3 x19) fun x20 =>
            opS P (S.binI .eql x20 (.int .i64 0)) fun x21 =>
            brn x21 (
              opS P (S.build 37 [(0, (.int .i64 3))]) fun x22 =>
              opS P (S.st 37 x5 x22) fun x23 =>
              opS P (S.ld 37 x5) fun x24 =>
              K x24
            ) (
              drw <|
              opS P (S.nc x0) fun x22 =>
              opS P (S.fa 113 x22 1) fun x23 =>
              opS P (S.ld 109 x23) fun x24 =>
              opS P (S.ld 27 x4) fun x25 =>
              opS P (S.cl 115 [x24, x1, x25]) fun x26 =>
              opS P (S.ext x26 0) fun x27 =>
              opS P (S.ext x26 1) fun x28 =>
              opS P (S.binI .neq x28 (.int .i64 0)) fun x29 =>
              brn x29 (
                opS P (S.build 37 [(0, (.int .i64 4))]) fun x30 =>
                opS P (S.st 37 x5 x30) fun x31 =>
                opS P (S.ld 37 x5) fun x32 =>
                K x32
              ) (
                opS P (S.fa 27 x4 1) fun x30 =>
                opS P (S.ld 24 x30) fun x31 =>
                opS P (S.cl 16 [x31]) fun x32 =>
                brn x32 (
                  opS P (S.build 37 [(0, (.int .i64 5)), (1, x27)]) fun x33 =>
                  opS P (S.st 37 x5 x33) fun x34 =>
                  opS P (S.ld 37 x5) fun x35 =>
                  K x35
                ) (
                  opS P (S.fa 27 x4 1) fun x33 =>
                  opS P (S.ld 24 x33) fun x34 =>
                  opS P (S.cl 116 [x0, x27, x34, x1, x3]) fun x35 =>
                  opS P (S.nc x0) fun x36 =>
                  opS P (S.fa 113 x36 3) fun x37 =>
                  opS P (S.ld 70 x37) fun x38 =>
                  opS P (S.ia 70 x38 x1) fun x39 =>
                  opS P (S.ld 3 x39) fun x40 =>
                  opS P (S.binI .eql x40 (.int .i64 1)) fun x41 =>
                  brn x41 (
                    opS P (S.build 37 [(0, (.int .i64 6)), (1, x27)]) fun x42 =>
                    opS P (S.st 37 x5 x42) fun x43 =>
                    opS P (S.ld 37 x5) fun x44 =>
                    K x44
                  ) (
                    jnJ 2 (fun x42 x43 =>
                      jnJ 1 (fun x44 =>
                        jnJ 1 (fun x45 =>
                          opS P (S.len x45) fun x46 =>
                          opS P (S.binI .eql x46 (.int .i64 0)) fun x47 =>
                          brn x47 (
                            opS P (S.build 37 [(0, (.int .i64 8)), (1, x27), (2, x44)]) fun x48 =>
                            opS P (S.st 37 x5 x48) fun x49 =>
                            opS P (S.ld 37 x5) fun x50 =>
                            K x50
                          ) (
                            opS P (S.build 37 [(1, x27), (2, x44), (3, x45)]) fun x48 =>
                            opS P (S.st 37 x5 x48) fun x49 =>
                            opS P (S.ld 37 x5) fun x50 =>
                            K x50
                          )
                        ) fun j0 =>
                        jnJ 0 (
                          opS P (S.ld 27 x4) fun x45 =>
                          opS P (S.cl 66 [x0, x27, x1, x44, x45]) fun x46 =>
                          j0 x46
                        ) fun j1 =>
                        opS P (S.un .not x43) fun x45 =>
                        brn x45 (
                          j1
                        ) (
                          opS P (S.binI .gtr x44 (.int .i64 0)) fun x46 =>
                          brn x46 (
                            j1
                          ) (
                            j0 (.slice none 0 0)
                          )
                        )
                      ) fun j0 =>
                      jnJ 0 (
                        j0 (.int .i64 0)
                      ) fun j1 =>
                      brn x43 (
                        opS P (S.fa 27 x4 0) fun x44 =>
                        opS P (S.ld 24 x44) fun x45 =>
                        opS P (S.cl 16 [x45]) fun x46 =>
                        opS P (S.un .not x46) fun x47 =>
                        brn x47 (
                          opS P (S.fa 40 x42 2) fun x48 =>
                          opS P (S.ld 3 x48) fun x49 =>
                          opS P (S.binI .eql x49 x1) fun x50 =>
                          brn x50 (
                            opS P (S.build 37 [(0, (.int .i64 7)), (1, x27)]) fun x51 =>
                            opS P (S.st 37 x5 x51) fun x52 =>
                            opS P (S.ld 37 x5) fun x53 =>
                            K x53
                          ) (
                            opS P (S.fa 40 x42 2) fun x51 =>
                            opS P (S.ld 3 x51) fun x52 =>
                            j0 x52
                          )
                        ) (
                          j1
                        )
                      ) (
                        j1
                      )
                    ) fun j0 =>
                    drw <|
                    opS P (S.nc x0) fun x42 =>
                    opS P (S.fa 113 x42 2) fun x43 =>
                    opS P (S.fa 27 x4 0) fun x44 =>
                    allW (
                      opS P (S.ld 106 x43) fun x45 =>
                      allW (
                        opS P (S.ld 24 x44) fun x46 =>
                        allW (
                          opS P (S.cl 117 [x45, x27, x46]) fun x47 =>
                          opS P (S.ext x47 0) fun x48 =>
                          opS P (S.ext x47 1) fun x49 =>
                          opS P (S.alloc 40) fun x50 =>
                          opS P (S.st 40 x50 x48) fun x51 =>
                          j0 x50 x49
                        ) (
                          opS P (S.alloc 40) fun x47 =>
                          opS P (S.cl 117 [x45, x27, x46]) fun x48 =>
                          opS P (S.ext x48 0) fun x49 =>
                          opS P (S.ext x48 1) fun x50 =>
                          opS P (S.st 40 x47 x49) fun x51 =>
                          j0 x47 x50
                        )
                      ) (
                        opS P (S.alloc 40) fun x46 =>
                        opS P (S.ld 24 x44) fun x47 =>
                        opS P (S.cl 117 [x45, x27, x47]) fun x48 =>
                        opS P (S.ext x48 0) fun x49 =>
                        opS P (S.ext x48 1) fun x50 =>
                        opS P (S.st 40 x46 x49) fun x51 =>
                        j0 x46 x50
                      )
                    ) (
                      allW (
                        opS P (S.ld 24 x44) fun x45 =>
                        allW (
                          opS P (S.ld 106 x43) fun x46 =>
                          allW (
                            opS P (S.cl 117 [x46, x27, x45]) fun x47 =>
                            opS P (S.ext x47 0) fun x48 =>
                            opS P (S.ext x47 1) fun x49 =>
                            opS P (S.alloc 40) fun x50 =>
                            opS P (S.st 40 x50 x48) fun x51 =>
                            j0 x50 x49
                          ) (
                            opS P (S.alloc 40) fun x47 =>
                            opS P (S.cl 117 [x46, x27, x45]) fun x48 =>
                            opS P (S.ext x48 0) fun x49 =>
                            opS P (S.ext x48 1) fun x50 =>
                            opS P (S.st 40 x47 x49) fun x51 =>
                            j0 x47 x50
                          )
                        ) (
                          opS P (S.alloc 40) fun x46 =>
                          opS P (S.ld 106 x43) fun x47 =>
                          opS P (S.cl 117 [x47, x27, x45]) fun x48 =>
                          opS P (S.ext x48 0) fun x49 =>
                          opS P (S.ext x48 1) fun x50 =>
                          opS P (S.st 40 x46 x49) fun x51 =>
                          j0 x46 x50
                        )
                      ) (
                        opS P (S.alloc 40) fun x45 =>
                        opS P (S.ld 106 x43) fun x46 =>
                        opS P (S.ld 24 x44) fun x47 =>
                        opS P (S.cl 117 [x46, x27, x47]) fun x48 =>
                        opS P (S.ext x48 0) fun x49 =>
                        opS P (S.ext x48 1) fun x50 =>
                        opS P (S.st 40 x45 x49) fun x51 =>
                        j0 x45 x50
                      )
                    )
                  )
                )
              )
            )
          )
        )
      )
    )
  )
instance fnb83 : FnB Tryz.prog 83 := ⟨Tryz.call83⟩
theorem e83 : p83 Tryz.prog = fun K x0 x1 x2 x3 => denF Tryz.prog Tryz.f83 [x0, x1, x2, x3] K := by kernel_rfl
theorem c83 {K : Value → World → Prop} {x0 x1 x2 x3 : Value} {w : World} (h : p83 Tryz.prog K x0 x1 x2 x3 w) : CallsR Tryz.prog 83 #[x0, x1, x2, x3] K w := by
  rw [e83] at h
  exact denF_sound mixed Tryz.func83 h

end Go.Gx.S
-- 83
end

section
/- What the functions of this program ask. -/
set_option linter.unusedVariables false
set_option maxRecDepth 100000
namespace Go.Gx.S
open Go Go.Gx Go.Proofs
-- (*gemel/gemelref12.Bridge).Relay
def p66 (P : Program) (K : Value → World → Prop) (x0 : Value) (x1 : Value) (x2 : Value) (x3 : Value) (x4 : Value) : World → Prop :=
  opS P (S.box 27 x4) fun x5 =>
  jnJ 1 (fun x6 =>
    K x6
  ) fun j0 =>
  loopJ 2 (fun j1 x6 x7 =>
    opS P (S.nc x0) fun x8 =>
    opS P (S.fa 113 x8 0) fun x9 =>
    opS P (S.ld 3 x9) fun x10 =>
    opS P (S.binI .leq x7 x10) fun x11 =>
    brn x11 (
      jnJ 0 (
        jnJ 2 (fun x12 x13 =>
          opS P (S.binI .eql x13 (.int .i64 0)) fun x14 =>
          brn x14 (
            opS P (S.ld 27 x12) fun x15 =>
            opS P (S.build 49 [(0, x7), (1, x15)]) fun x16 =>
            opS P (S.buildS 35 1 [(0, x16)]) fun x17 =>
            opS P (S.bi .append #[35, 35] 35 [x6, x17]) fun x18 =>
            opS P (S.binI .add x7 (.int .i64 1)) fun x19 =>
            j1 x18 x19
          ) (
            opS P (S.binI .add x7 (.int .i64 1)) fun x15 =>
            j1 x6 x15
          )
        ) fun j2 =>
        drw <|
        opS P (S.nc x0) fun x12 =>
        opS P (S.fa 113 x12 1) fun x13 =>
        allW (
          opS P (S.ld 109 x13) fun x14 =>
          allW (
            opS P (S.ld 27 x5) fun x15 =>
            allW (
              opS P (S.cl 98 [x14, x1, x7, x15]) fun x16 =>
              opS P (S.ext x16 0) fun x17 =>
              opS P (S.ext x16 1) fun x18 =>
              opS P (S.alloc 27) fun x19 =>
              opS P (S.st 27 x19 x17) fun x20 =>
              j2 x19 x18
            ) (
              opS P (S.alloc 27) fun x16 =>
              opS P (S.cl 98 [x14, x1, x7, x15]) fun x17 =>
              opS P (S.ext x17 0) fun x18 =>
              opS P (S.ext x17 1) fun x19 =>
              opS P (S.st 27 x16 x18) fun x20 =>
              j2 x16 x19
            )
          ) (
            opS P (S.alloc 27) fun x15 =>
            opS P (S.ld 27 x5) fun x16 =>
            opS P (S.cl 98 [x14, x1, x7, x16]) fun x17 =>
            opS P (S.ext x17 0) fun x18 =>
            opS P (S.ext x17 1) fun x19 =>
            opS P (S.st 27 x15 x18) fun x20 =>
            j2 x15 x19
          )
        ) (
          allW (
            opS P (S.ld 27 x5) fun x14 =>
            allW (
              opS P (S.ld 109 x13) fun x15 =>
              allW (
                opS P (S.cl 98 [x15, x1, x7, x14]) fun x16 =>
                opS P (S.ext x16 0) fun x17 =>
                opS P (S.ext x16 1) fun x18 =>
                opS P (S.alloc 27) fun x19 =>
                opS P (S.st 27 x19 x17) fun x20 =>
                j2 x19 x18
              ) (
                opS P (S.alloc 27) fun x16 =>
                opS P (S.cl 98 [x15, x1, x7, x14]) fun x17 =>
                opS P (S.ext x17 0) fun x18 =>
                opS P (S.ext x17 1) fun x19 =>
                opS P (S.st 27 x16 x18) fun x20 =>
                j2 x16 x19
              )
            ) (
              opS P (S.alloc 27) fun x15 =>
              opS P (S.ld 109 x13) fun x16 =>
              opS P (S.cl 98 [x16, x1, x7, x14]) fun x17 =>
              opS P (S.ext x17 0) fun x18 =>
              opS P (S.ext x17 1) fun x19 =>
              opS P (S.st 27 x15 x18) fun x20 =>
              j2 x15 x19
            )
          ) (
            opS P (S.alloc 27) fun x14 =>
            opS P (S.ld 109 x13) fun x15 =>
            opS P (S.ld 27 x5) fun x16 =>
            opS P (S.cl 98 [x15, x1, x7, x16]) fun x17 =>
            opS P (S.ext x17 0) fun x18 =>
            opS P (S.ext x17 1) fun x19 =>
            opS P (S.st 27 x14 x18) fun x20 =>
            j2 x14 x19
          )
        )
      ) fun j2 =>
      opS P (S.binI .eql x7 x2) fun x12 =>
      brn x12 (
        opS P (S.binI .add x7 (.int .i64 1)) fun x13 =>
        j1 x6 x13
      ) (
        opS P (S.binI .neq x3 (.int .i64 0)) fun x13 =>
        brn x13 (
          opS P (S.binI .neq x7 x3) fun x14 =>
          brn x14 (
            opS P (S.binI .add x7 (.int .i64 1)) fun x15 =>
            j1 x6 x15
          ) (
            opS P (S.nc x0) fun x15 =>
            opS P (S.fa 113 x15 3) fun x16 =>
            opS P (S.ld 70 x16) fun x17 =>
            opS P (S.ia 70 x17 x7) fun x18 =>
            opS P (S.ld 3 x18) fun x19 =>
            opS P (S.binI .neq x19 (.int .i64 2)) fun x20 =>
            brn x20 (
              opS P (S.binI .add x7 (.int .i64 1)) fun x21 =>
              j1 x6 x21
            ) (
              j2
            )
          )
        ) (
          opS P (S.nc x0) fun x14 =>
          opS P (S.fa 113 x14 3) fun x15 =>
          opS P (S.ld 70 x15) fun x16 =>
          opS P (S.ia 70 x16 x7) fun x17 =>
          opS P (S.ld 3 x17) fun x18 =>
          opS P (S.binI .neq x18 (.int .i64 2)) fun x19 =>
          brn x19 (
            opS P (S.binI .add x7 (.int .i64 1)) fun x20 =>
            j1 x6 x20
          ) (
            j2
          )
        )
      )
    ) (
      j0 x6
    )
  ) (.slice none 0 0) (.int .i64 1)
instance fnb66 : FnB Tryz.prog 66 := ⟨Tryz.call66⟩
theorem e66 : p66 Tryz.prog = fun K x0 x1 x2 x3 x4 => denF Tryz.prog Tryz.f66 [x0, x1, x2, x3, x4] K := by kernel_rfl
theorem c66 {K : Value → World → Prop} {x0 x1 x2 x3 x4 : Value} {w : World} (h : p66 Tryz.prog K x0 x1 x2 x3 x4 w) : CallsR Tryz.prog 66 #[x0, x1, x2, x3, x4] K w := by
  rw [e66] at h
  exact denF_sound mixed Tryz.func66 h

end Go.Gx.S
-- 66
end

section
/- What the functions of this program ask. -/
set_option linter.unusedVariables false
set_option maxRecDepth 100000
namespace Go.Gx.S
open Go Go.Gx Go.Proofs
-- (*gemel/gemelref12.Bridge).Set
def p55 (P : Program) (K : Value → World → Prop) (x0 : Value) (x1 : Value) (x2 : Value) : World → Prop :=
  opS P (S.cl 84 [x0, x1]) fun x3 =>
  opS P (S.un .not x3) fun x4 =>
  brn x4 (
    K (.int .i64 1)
  ) (
    opS P (S.binI .lss x2 (.int .i64 0)) fun x5 =>
    brn x5 (
      K (.int .i64 1)
    ) (
      opS P (S.binI .gtr x2 (.int .i64 2)) fun x6 =>
      brn x6 (
        K (.int .i64 1)
      ) (
        opS P (S.nc x0) fun x7 =>
        opS P (S.fa 113 x7 3) fun x8 =>
        opS P (S.ld 70 x8) fun x9 =>
        opS P (S.ia 70 x9 x1) fun x10 =>
        opS P (S.st 3 x10 x2) fun x11 =>
        K (.int .i64 0)
      )
    )
  )
instance fnb55 : FnB Tryz.prog 55 := ⟨Tryz.call55⟩
theorem e55 : p55 Tryz.prog = fun K x0 x1 x2 => denF Tryz.prog Tryz.f55 [x0, x1, x2] K := by kernel_rfl
theorem c55 {K : Value → World → Prop} {x0 x1 x2 : Value} {w : World} (h : p55 Tryz.prog K x0 x1 x2 w) : CallsR Tryz.prog 55 #[x0, x1, x2] K w := by
  rw [e55] at h
  exact denF_sound mixed Tryz.func55 h

-- (*gemel/gemelref12.Bridge).State
def p67 (P : Program) (K : Value → World → Prop) (x0 : Value) (x1 : Value) : World → Prop :=
  opS P (S.cl 84 [x0, x1]) fun x2 =>
  opS P (S.un .not x2) fun x3 =>
  brn x3 (
    K (.int .i64 0)
  ) (
    opS P (S.nc x0) fun x4 =>
    opS P (S.fa 113 x4 3) fun x5 =>
    opS P (S.ld 70 x5) fun x6 =>
    opS P (S.ia 70 x6 x1) fun x7 =>
    opS P (S.ld 3 x7) fun x8 =>
    K x8
  )
instance fnb67 : FnB Tryz.prog 67 := ⟨Tryz.call67⟩
theorem e67 : p67 Tryz.prog = fun K x0 x1 => denF Tryz.prog Tryz.f67 [x0, x1] K := by kernel_rfl
theorem c67 {K : Value → World → Prop} {x0 x1 : Value} {w : World} (h : p67 Tryz.prog K x0 x1 w) : CallsR Tryz.prog 67 #[x0, x1] K w := by
  rw [e67] at h
  exact denF_sound mixed Tryz.func67 h

-- (*gemel/gemelref12.Bridge).has
def p84 (P : Program) (K : Value → World → Prop) (x0 : Value) (x1 : Value) : World → Prop :=
  opS P (S.binI .geq x1 (.int .i64 1)) fun x2 =>
  brn x2 (
    opS P (S.nc x0) fun x3 =>
    opS P (S.fa 113 x3 0) fun x4 =>
    opS P (S.ld 3 x4) fun x5 =>
    opS P (S.binI .leq x1 x5) fun x6 =>
    K x6
  ) (
    K (.bool false)
  )
instance fnb84 : FnB Tryz.prog 84 := ⟨Tryz.call84⟩
theorem e84 : p84 Tryz.prog = fun K x0 x1 => denF Tryz.prog Tryz.f84 [x0, x1] K := by kernel_rfl
theorem c84 {K : Value → World → Prop} {x0 x1 : Value} {w : World} (h : p84 Tryz.prog K x0 x1 w) : CallsR Tryz.prog 84 #[x0, x1] K w := by
  rw [e84] at h
  exact denF_sound mixed Tryz.func84 h

-- gemel/gemelref01.Reserved
def p114 (P : Program) (K : Value → World → Prop) (x0 : Value) : World → Prop :=
  opS P (S.box 24 x0) fun x1 =>
  opS P (S.ld 24 x1) fun x2 =>
  opS P (S.cl 128 [x2]) fun x3 =>
  opS P (S.binI .quo x3 (.int .u64 16)) fun x4 =>
  opS P (S.binI .eql x4 (.int .u64 103282638848)) fun x5 =>
  K x5
instance fnb114 : FnB Tryz.prog 114 := ⟨Tryz.call114⟩
theorem e114 : p114 Tryz.prog = fun K x0 => denF Tryz.prog Tryz.f114 [x0] K := by kernel_rfl
theorem c114 {K : Value → World → Prop} {x0 : Value} {w : World} (h : p114 Tryz.prog K x0 w) : CallsR Tryz.prog 114 #[x0] K w := by
  rw [e114] at h
  exact denF_sound mixed Tryz.func114 h

-- (*gemel/gemelref12.Bridge).learn
def p116 (P : Program) (K : Value → World → Prop) (x0 : Value) (x1 : Value) (x2 : Value) (x3 : Value) (x4 : Value) : World → Prop :=
  opS P (S.box 24 x2) fun x5 =>
  drw <|
  opS P (S.nc x0) fun x6 =>
  opS P (S.fa 113 x6 2) fun x7 =>
  opS P (S.ld 106 x7) fun x8 =>
  opS P (S.ld 24 x5) fun x9 =>
  opS P (S.cl 129 [x8, x1, x9, x3, x4]) fun x10 =>
  opS P (S.ext x10 0) fun x11 =>
  opS P (S.ext x10 1) fun x12 =>
  opS P (S.binI .neq x12 (.int .i64 0)) fun x13 =>
  brn x13 (
    drw <|
    opS P (S.nc x0) fun x14 =>
    opS P (S.fa 113 x14 5) fun x15 =>
    opS P (S.ia 81 x15 (.int .i64 2)) fun x16 =>
    opS P (S.ld 3 x16) fun x17 =>
    opS P (S.binI .add x17 (.int .i64 1)) fun x18 =>
    opS P (S.nc x0) fun x19 =>
    opS P (S.fa 113 x19 5) fun x20 =>
    opS P (S.ia 81 x20 (.int .i64 2)) fun x21 =>
    opS P (S.st 3 x21 x18) fun x22 =>
    K (.tuple #[])
  ) (
    opS P (S.binI .gtr x11 (.int .i64 0)) fun x14 =>
    brn x14 (
      drw <|
      opS P (S.binI .sub x11 (.int .i64 1)) fun x15 =>
      opS P (S.nc x0) fun x16 =>
      opS P (S.fa 113 x16 5) fun x17 =>
      opS P (S.ia 81 x17 x15) fun x18 =>
      opS P (S.ld 3 x18) fun x19 =>
      opS P (S.binI .add x19 (.int .i64 1)) fun x20 =>
      opS P (S.nc x0) fun x21 =>
      opS P (S.fa 113 x21 5) fun x22 =>
      opS P (S.ia 81 x22 x15) fun x23 =>
      opS P (S.st 3 x23 x20) fun x24 =>
      K (.tuple #[])
    ) (
      K (.tuple #[])
    )
  )
instance fnb116 : FnB Tryz.prog 116 := ⟨Tryz.call116⟩
theorem e116 : p116 Tryz.prog = fun K x0 x1 x2 x3 x4 => denF Tryz.prog Tryz.f116 [x0, x1, x2, x3, x4] K := by kernel_rfl
theorem c116 {K : Value → World → Prop} {x0 x1 x2 x3 x4 : Value} {w : World} (h : p116 Tryz.prog K x0 x1 x2 x3 x4 w) : CallsR Tryz.prog 116 #[x0, x1, x2, x3, x4] K w := by
  rw [e116] at h
  exact denF_sound mixed Tryz.func116 h

end Go.Gx.S
-- 84 55 67 116 114
end

section
/- What the functions of this program ask. -/
set_option linter.unusedVariables false
set_option maxRecDepth 100000
namespace Go.Gx.S
open Go Go.Gx Go.Proofs
-- (*gemel/flow.Bridge).Take
def p13 (P : Program) (K : Value → World → Prop) (x0 : Value) (x1 : Value) (x2 : Value) (x3 : Value) : World → Prop :=
  opS P (S.box 27 x2) fun x4 =>
  opS P (S.alloc 37) fun x5 =>
  opS P (S.ld 27 x4) fun x6 =>
  opS P (S.cl 34 [x0, x1, x6, x3]) fun x7 =>
  opS P (S.ext x7 0) fun x8 =>
  opS P (S.ext x7 1) fun x9 =>
  opS P (S.build 37 [(0, x8), (1, x9)]) fun x10 =>
  opS P (S.alloc 37) fun x11 =>
  opS P (S.st 37 x11 x10) fun x12 =>
  jnJ 0 (
    drw <|
    opS P (S.fa 37 x11 0) fun x13 =>
    opS P (S.ld 3 x13) fun x14 =>
    opS P (S.nc x0) fun x15 =>
    opS P (S.fa 83 x15 3) fun x16 =>
    opS P (S.ia 55 x16 x14) fun x17 =>
    opS P (S.ld 3 x17) fun x18 =>
    opS P (S.binI .add x18 (.int .i64 1)) fun x19 =>
    opS P (S.nc x0) fun x20 =>
    opS P (S.fa 83 x20 3) fun x21 =>
    opS P (S.ia 55 x21 x14) fun x22 =>
    opS P (S.st 3 x22 x19) fun x23 =>
    opS P (S.ld 37 x11) fun x24 =>
    opS P (S.st 37 x5 x24) fun x25 =>
    opS P (S.ld 37 x5) fun x26 =>
    K x26
  ) fun j0 =>
  opS P (S.binI .eql x8 (.int .i64 0)) fun x13 =>
  brn x13 (
    opS P (S.fa 27 x4 1) fun x14 =>
    opS P (S.ld 24 x14) fun x15 =>
    opS P (S.cl 35 [x0, x9, x15, x1, x3]) fun x16 =>
    opS P (S.ld 27 x4) fun x17 =>
    opS P (S.cl 36 [x0, x9, x1, x17]) fun x18 =>
    opS P (S.st 37 x11 x18) fun x19 =>
    j0
  ) (
    j0
  )
instance fnb13 : FnB Tryz.prog 13 := ⟨Tryz.call13⟩
theorem e13 : p13 Tryz.prog = fun K x0 x1 x2 x3 => denF Tryz.prog Tryz.f13 [x0, x1, x2, x3] K := by kernel_rfl
theorem c13 {K : Value → World → Prop} {x0 x1 x2 x3 : Value} {w : World} (h : p13 Tryz.prog K x0 x1 x2 x3 w) : CallsR Tryz.prog 13 #[x0, x1, x2, x3] K w := by
  rw [e13] at h
  exact denF_sound mixed Tryz.func13 h

-- (*gemel/flow.Bridge).Counts
def p22 (P : Program) (K : Value → World → Prop) (x0 : Value) : World → Prop :=
  opS P (S.alloc 55) fun x1 =>
  opS P (S.nc x0) fun x2 =>
  opS P (S.fa 83 x2 3) fun x3 =>
  opS P (S.ld 55 x3) fun x4 =>
  opS P (S.st 55 x1 x4) fun x5 =>
  opS P (S.ld 55 x1) fun x6 =>
  K x6
instance fnb22 : FnB Tryz.prog 22 := ⟨Tryz.call22⟩
theorem e22 : p22 Tryz.prog = fun K x0 => denF Tryz.prog Tryz.f22 [x0] K := by kernel_rfl
theorem c22 {K : Value → World → Prop} {x0 : Value} {w : World} (h : p22 Tryz.prog K x0 w) : CallsR Tryz.prog 22 #[x0] K w := by
  rw [e22] at h
  exact denF_sound mixed Tryz.func22 h

-- (*gemel/flow.Bridge).sent
def p36 (P : Program) (K : Value → World → Prop) (x0 : Value) (x1 : Value) (x2 : Value) (x3 : Value) : World → Prop :=
  opS P (S.box 27 x3) fun x4 =>
  opS P (S.alloc 37) fun x5 =>
  opS P (S.build 37 [(1, x1)]) fun x6 =>
  opS P (S.alloc 37) fun x7 =>
  opS P (S.st 37 x7 x6) fun x8 =>
  jnJ 2 (fun x9 x10 =>
    jnJ 0 (
      opS P (S.fa 37 x7 0) fun x11 =>
      opS P (S.ld 3 x11) fun x12 =>
      opS P (S.binI .eql x12 (.int .i64 0)) fun x13 =>
      brn x13 (
        opS P (S.fa 37 x7 3) fun x14 =>
        opS P (S.ld 35 x14) fun x15 =>
        opS P (S.len x15) fun x16 =>
        opS P (S.binI .eql x16 (.int .i64 0)) fun x17 =>
        brn x17 (
          opS P (S.fa 37 x7 0) fun x18 =>
          opS P (S.st 3 x18 (.int .i64 8)) fun x19 =>
          opS P (S.ld 37 x7) fun x20 =>
          opS P (S.st 37 x5 x20) fun x21 =>
          opS P (S.ld 37 x5) fun x22 =>
          K x22
        ) (
          opS P (S.ld 37 x7) fun x18 =>
          opS P (S.st 37 x5 x18) fun x19 =>
          opS P (S.ld 37 x5) fun x20 =>
          K x20
        )
      ) (
        opS P (S.ld 37 x7) fun x14 =>
        opS P (S.st 37 x5 x14) fun x15 =>
        opS P (S.ld 37 x5) fun x16 =>
        K x16
      )
    ) fun j0 =>
    opS P (S.nc x0) fun x11 =>
    opS P (S.fa 83 x11 2) fun x12 =>
    opS P (S.ld 70 x12) fun x13 =>
    opS P (S.ia 70 x13 x2) fun x14 =>
    opS P (S.ld 3 x14) fun x15 =>
    opS P (S.binI .eql x15 (.int .i64 1)) fun x16 =>
    brn x16 (
      opS P (S.fa 37 x7 0) fun x17 =>
      opS P (S.st 3 x17 (.int .i64 6)) fun x18 =>
      j0
    ) (
      jnJ 0 (
        j0
      ) fun j1 =>
      jnJ 0 (
        jnJ 0 (
          j1
        ) fun j2 =>
        brn x10 (
          opS P (S.fa 40 x9 2) fun x17 =>
          opS P (S.ld 3 x17) fun x18 =>
          opS P (S.fa 37 x7 2) fun x19 =>
          opS P (S.st 3 x19 x18) fun x20 =>
          jnJ 0 (
            j2
          ) fun j3 =>
          opS P (S.fa 37 x7 2) fun x21 =>
          opS P (S.ld 3 x21) fun x22 =>
          opS P (S.binI .gtr x22 (.int .i64 0)) fun x23 =>
          brn x23 (
            opS P (S.fa 37 x7 2) fun x24 =>
            opS P (S.ld 3 x24) fun x25 =>
            opS P (S.ld 27 x4) fun x26 =>
            opS P (S.cl 17 [x0, x1, x2, x25, x26]) fun x27 =>
            opS P (S.fa 37 x7 3) fun x28 =>
            opS P (S.st 35 x28 x27) fun x29 =>
            j3
          ) (
            j3
          )
        ) (
          opS P (S.ld 27 x4) fun x17 =>
          opS P (S.cl 17 [x0, x1, x2, (.int .i64 0), x17]) fun x18 =>
          opS P (S.fa 37 x7 3) fun x19 =>
          opS P (S.st 35 x19 x18) fun x20 =>
          j2
        )
      ) fun j2 =>
      brn x10 (
        opS P (S.fa 40 x9 2) fun x17 =>
        opS P (S.ld 3 x17) fun x18 =>
        opS P (S.binI .eql x18 x2) fun x19 =>
        brn x19 (
          opS P (S.fa 37 x7 0) fun x20 =>
          opS P (S.st 3 x20 (.int .i64 7)) fun x21 =>
          j1
        ) (
          j2
        )
      ) (
        j2
      )
    )
  ) fun j0 =>
  drw <|
  opS P (S.nc x0) fun x9 =>
  opS P (S.fa 83 x9 1) fun x10 =>
  opS P (S.fa 27 x4 0) fun x11 =>
  allW (
    opS P (S.ld 42 x10) fun x12 =>
    allW (
      opS P (S.ld 24 x11) fun x13 =>
      allW (
        opS P (S.cl 15 [x12, x1, x13]) fun x14 =>
        opS P (S.ext x14 0) fun x15 =>
        opS P (S.ext x14 1) fun x16 =>
        opS P (S.alloc 40) fun x17 =>
        opS P (S.st 40 x17 x15) fun x18 =>
        j0 x17 x16
      ) (
        opS P (S.alloc 40) fun x14 =>
        opS P (S.cl 15 [x12, x1, x13]) fun x15 =>
        opS P (S.ext x15 0) fun x16 =>
        opS P (S.ext x15 1) fun x17 =>
        opS P (S.st 40 x14 x16) fun x18 =>
        j0 x14 x17
      )
    ) (
      opS P (S.alloc 40) fun x13 =>
      opS P (S.ld 24 x11) fun x14 =>
      opS P (S.cl 15 [x12, x1, x14]) fun x15 =>
      opS P (S.ext x15 0) fun x16 =>
      opS P (S.ext x15 1) fun x17 =>
      opS P (S.st 40 x13 x16) fun x18 =>
      j0 x13 x17
    )
  ) (
    allW (
      opS P (S.ld 24 x11) fun x12 =>
      allW (
        opS P (S.ld 42 x10) fun x13 =>
        allW (
          opS P (S.cl 15 [x13, x1, x12]) fun x14 =>
          opS P (S.ext x14 0) fun x15 =>
          opS P (S.ext x14 1) fun x16 =>
          opS P (S.alloc 40) fun x17 =>
          opS P (S.st 40 x17 x15) fun x18 =>
          j0 x17 x16
        ) (
          opS P (S.alloc 40) fun x14 =>
          opS P (S.cl 15 [x13, x1, x12]) fun x15 =>
          opS P (S.ext x15 0) fun x16 =>
          opS P (S.ext x15 1) fun x17 =>
          opS P (S.st 40 x14 x16) fun x18 =>
          j0 x14 x17
        )
      ) (
        opS P (S.alloc 40) fun x13 =>
        opS P (S.ld 42 x10) fun x14 =>
        opS P (S.cl 15 [x14, x1, x12]) fun x15 =>
        opS P (S.ext x15 0) fun x16 =>
        opS P (S.ext x15 1) fun x17 =>
        opS P (S.st 40 x13 x16) fun x18 =>
        j0 x13 x17
      )
    ) (
      opS P (S.alloc 40) fun x12 =>
      opS P (S.ld 42 x10) fun x13 =>
      opS P (S.ld 24 x11) fun x14 =>
      opS P (S.cl 15 [x13, x1, x14]) fun x15 =>
      opS P (S.ext x15 0) fun x16 =>
      opS P (S.ext x15 1) fun x17 =>
      opS P (S.st 40 x12 x16) fun x18 =>
      j0 x12 x17
    )
  )
instance fnb36 : FnB Tryz.prog 36 := ⟨Tryz.call36⟩
theorem e36 : p36 Tryz.prog = fun K x0 x1 x2 x3 => denF Tryz.prog Tryz.f36 [x0, x1, x2, x3] K := by kernel_rfl
theorem c36 {K : Value → World → Prop} {x0 x1 x2 x3 : Value} {w : World} (h : p36 Tryz.prog K x0 x1 x2 x3 w) : CallsR Tryz.prog 36 #[x0, x1, x2, x3] K w := by
  rw [e36] at h
  exact denF_sound mixed Tryz.func36 h

-- (*gemel/flow.Bridge).Learned
def p68 (P : Program) (K : Value → World → Prop) (x0 : Value) : World → Prop :=
  opS P (S.alloc 81) fun x1 =>
  opS P (S.nc x0) fun x2 =>
  opS P (S.fa 83 x2 4) fun x3 =>
  opS P (S.ld 81 x3) fun x4 =>
  opS P (S.st 81 x1 x4) fun x5 =>
  opS P (S.ld 81 x1) fun x6 =>
  K x6
instance fnb68 : FnB Tryz.prog 68 := ⟨Tryz.call68⟩
theorem e68 : p68 Tryz.prog = fun K x0 => denF Tryz.prog Tryz.f68 [x0] K := by kernel_rfl
theorem c68 {K : Value → World → Prop} {x0 : Value} {w : World} (h : p68 Tryz.prog K x0 w) : CallsR Tryz.prog 68 #[x0] K w := by
  rw [e68] at h
  exact denF_sound mixed Tryz.func68 h

end Go.Gx.S
-- 36 13 22 68
end

section
/- What the functions of this program ask. -/
set_option linter.unusedVariables false
set_option maxRecDepth 100000
namespace Go.Gx.S
open Go Go.Gx Go.Proofs
-- (*gemel/flow.Bridge).Relay
def p17 (P : Program) (K : Value → World → Prop) (x0 : Value) (x1 : Value) (x2 : Value) (x3 : Value) (x4 : Value) : World → Prop :=
  opS P (S.box 3 x3) fun x5 =>
  opS P (S.box 27 x4) fun x6 =>
  opS P (S.alloc 35) fun x7 =>
  opS P (S.ld 27 x6) fun x8 =>
  opS P (S.cl 38 [x0, x1, x2, x8]) fun x9 =>
  rfS P x9 1 (fun bs K => JT.app 2 (fun x10 x11 =>
    opS P (S.alloc 49) fun x12 =>
    opS P (S.st 49 x12 x11) fun x13 =>
    opS P (S.beginR x10) fun x14 =>
    jnJ 0 (
      opS P (S.ld 35 x7) fun x15 =>
      opS P (S.ld 49 x12) fun x16 =>
      opS P (S.buildS 35 1 [(0, x16)]) fun x17 =>
      opS P (S.bi .append #[35, 35] 35 [x15, x17]) fun x18 =>
      opS P (S.st 35 x7 x18) fun x19 =>
      opS P (S.endR x10 none) fun x20 =>
      K x20
    ) fun j0 =>
    opS P (S.ld 3 x5) fun x15 =>
    opS P (S.binI .eql x15 (.int .i64 0)) fun x16 =>
    brn x16 (
      j0
    ) (
      opS P (S.fa 49 x12 0) fun x17 =>
      opS P (S.ld 3 x17) fun x18 =>
      opS P (S.ld 3 x5) fun x19 =>
      opS P (S.binI .eql x18 x19) fun x20 =>
      brn x20 (
        j0
      ) (
        opS P (S.endR x10 none) fun x21 =>
        K x21
      )
    )
  ) bs) (fun x10 =>
    opS P (S.ld 35 x7) fun x11 =>
    opS P (S.cl 39 [x11]) fun x12 =>
    takeD P x10 fun x13 =>
    K x12
  ) (fun x10 =>
    takeD P x10 fun x11 =>
    K (.slice none 0 0)
  ) 0 (fun x10 =>
    fun _ => False
  )
instance fnb17 : FnB Tryz.prog 17 := ⟨Tryz.call17⟩
theorem e17 : p17 Tryz.prog = fun K x0 x1 x2 x3 x4 => denF Tryz.prog Tryz.f17 [x0, x1, x2, x3, x4] K := by kernel_rfl
theorem c17 {K : Value → World → Prop} {x0 x1 x2 x3 x4 : Value} {w : World} (h : p17 Tryz.prog K x0 x1 x2 x3 x4 w) : CallsR Tryz.prog 17 #[x0, x1, x2, x3, x4] K w := by
  rw [e17] at h
  exact denF_sound mixed Tryz.func17 h

-- (*gemel/flow.Bridge).senders
def p38 (P : Program) (K : Value → World → Prop) (x0 : Value) (x1 : Value) (x2 : Value) (x3 : Value) : World → Prop :=
  opS P (S.box 32 x0) fun x4 =>
  opS P (S.box 3 x1) fun x5 =>
  opS P (S.box 3 x2) fun x6 =>
  opS P (S.box 27 x3) fun x7 =>
  opS P (S.mkf (.func 76) [] [x4, x6, x5, x7]) fun x8 =>
  K x8
instance fnb38 : FnB Tryz.prog 38 := ⟨Tryz.call38⟩
theorem e38 : p38 Tryz.prog = fun K x0 x1 x2 x3 => denF Tryz.prog Tryz.f38 [x0, x1, x2, x3] K := by kernel_rfl
theorem c38 {K : Value → World → Prop} {x0 x1 x2 x3 : Value} {w : World} (h : p38 Tryz.prog K x0 x1 x2 x3 w) : CallsR Tryz.prog 38 #[x0, x1, x2, x3] K w := by
  rw [e38] at h
  exact denF_sound mixed Tryz.func38 h

-- slices.Clip[[]gemel/api.Out,gemel/api.Out]
def p39 (P : Program) (K : Value → World → Prop) (x0 : Value) : World → Prop :=
  opS P (S.len x0) fun x1 =>
  opS P (S.len x0) fun x2 =>
  opS P (S.slc 35 x0 none (some x1) (some x2)) fun x3 =>
  K x3
instance fnb39 : FnB Tryz.prog 39 := ⟨Tryz.call39⟩
theorem e39 : p39 Tryz.prog = fun K x0 => denF Tryz.prog Tryz.f39 [x0] K := by kernel_rfl
theorem c39 {K : Value → World → Prop} {x0 : Value} {w : World} (h : p39 Tryz.prog K x0 w) : CallsR Tryz.prog 39 #[x0] K w := by
  rw [e39] at h
  exact denF_sound mixed Tryz.func39 h

-- (*gemel/flow.Bridge).senders$1
def p76 (P : Program) (K : Value → World → Prop) (x0 : Value) (x1 : Value) (x2 : Value) (x3 : Value) (x4 : Value) : World → Prop :=
  opS P (S.ld 32 x1) fun x5 =>
  opS P (S.nc x5) fun x6 =>
  opS P (S.fa 83 x6 2) fun x7 =>
  opS P (S.ld 70 x7) fun x8 =>
  opS P (S.len x8) fun x9 =>
  jnJ 0 (
    K (.tuple #[])
  ) fun j0 =>
  loopJ 1 (fun j1 x10 =>
    opS P (S.binI .lss x10 x9) fun x11 =>
    brn x11 (
      opS P (S.ia 70 x8 x10) fun x12 =>
      opS P (S.ld 3 x12) fun x13 =>
      opS P (S.ld 3 x2) fun x14 =>
      opS P (S.binI .eql x10 x14) fun x15 =>
      brn x15 (
        opS P (S.binI .add x10 (.int .i64 1)) fun x16 =>
        j1 x16
      ) (
        opS P (S.binI .neq x13 (.int .i64 2)) fun x16 =>
        brn x16 (
          opS P (S.binI .add x10 (.int .i64 1)) fun x17 =>
          j1 x17
        ) (
          jnJ 2 (fun x17 x18 =>
            opS P (S.binI .eql x18 (.int .i64 0)) fun x19 =>
            brn x19 (
              opS P (S.ld 27 x17) fun x20 =>
              opS P (S.build 49 [(0, x10), (1, x20)]) fun x21 =>
              opS P (S.call x0 [x21]) fun x22 =>
              opS P (S.un .not x22) fun x23 =>
              brn x23 (
                K (.tuple #[])
              ) (
                opS P (S.binI .add x10 (.int .i64 1)) fun x24 =>
                j1 x24
              )
            ) (
              opS P (S.binI .add x10 (.int .i64 1)) fun x20 =>
              j1 x20
            )
          ) fun j2 =>
          drw <|
          allW (
            opS P (S.ld 32 x1) fun x17 =>
            opS P (S.nc x17) fun x18 =>
            opS P (S.fa 83 x18 0) fun x19 =>
            allW (
              opS P (S.ld 71 x19) fun x20 =>
              allW (
                opS P (S.ld 3 x3) fun x21 =>
                allW (
                  opS P (S.ld 27 x4) fun x22 =>
                  allW (
                    opS P (S.cl 77 [x20, x21, x10, x22]) fun x23 =>
                    opS P (S.ext x23 0) fun x24 =>
                    opS P (S.ext x23 1) fun x25 =>
                    opS P (S.alloc 27) fun x26 =>
                    opS P (S.st 27 x26 x24) fun x27 =>
                    j2 x26 x25
                  ) (
                    opS P (S.alloc 27) fun x23 =>
                    opS P (S.cl 77 [x20, x21, x10, x22]) fun x24 =>
                    opS P (S.ext x24 0) fun x25 =>
                    opS P (S.ext x24 1) fun x26 =>
                    opS P (S.st 27 x23 x25) fun x27 =>
                    j2 x23 x26
                  )
                ) (
                  opS P (S.alloc 27) fun x22 =>
                  opS P (S.ld 27 x4) fun x23 =>
                  opS P (S.cl 77 [x20, x21, x10, x23]) fun x24 =>
                  opS P (S.ext x24 0) fun x25 =>
                  opS P (S.ext x24 1) fun x26 =>
                  opS P (S.st 27 x22 x25) fun x27 =>
                  j2 x22 x26
                )
              ) (
                allW (
                  opS P (S.ld 27 x4) fun x21 =>
                  allW (
                    opS P (S.ld 3 x3) fun x22 =>
                    allW (
                      opS P (S.cl 77 [x20, x22, x10, x21]) fun x23 =>
                      opS P (S.ext x23 0) fun x24 =>
                      opS P (S.ext x23 1) fun x25 =>
                      opS P (S.alloc 27) fun x26 =>
                      opS P (S.st 27 x26 x24) fun x27 =>
                      j2 x26 x25
                    ) (
                      opS P (S.alloc 27) fun x23 =>
                      opS P (S.cl 77 [x20, x22, x10, x21]) fun x24 =>
                      opS P (S.ext x24 0) fun x25 =>
                      opS P (S.ext x24 1) fun x26 =>
                      opS P (S.st 27 x23 x25) fun x27 =>
                      j2 x23 x26
                    )
                  ) (
                    opS P (S.alloc 27) fun x22 =>
                    opS P (S.ld 3 x3) fun x23 =>
                    opS P (S.cl 77 [x20, x23, x10, x21]) fun x24 =>
                    opS P (S.ext x24 0) fun x25 =>
                    opS P (S.ext x24 1) fun x26 =>
                    opS P (S.st 27 x22 x25) fun x27 =>
                    j2 x22 x26
                  )
                ) (
                  opS P (S.alloc 27) fun x21 =>
                  opS P (S.ld 3 x3) fun x22 =>
                  opS P (S.ld 27 x4) fun x23 =>
                  opS P (S.cl 77 [x20, x22, x10, x23]) fun x24 =>
                  opS P (S.ext x24 0) fun x25 =>
                  opS P (S.ext x24 1) fun x26 =>
                  opS P (S.st 27 x21 x25) fun x27 =>
                  j2 x21 x26
                )
              )
            ) (
              allW (
                opS P (S.ld 3 x3) fun x20 =>
                allW (
                  opS P (S.ld 71 x19) fun x21 =>
                  allW (
                    opS P (S.ld 27 x4) fun x22 =>
                    allW (
                      opS P (S.cl 77 [x21, x20, x10, x22]) fun x23 =>
                      opS P (S.ext x23 0) fun x24 =>
                      opS P (S.ext x23 1) fun x25 =>
                      opS P (S.alloc 27) fun x26 =>
                      opS P (S.st 27 x26 x24) fun x27 =>
                      j2 x26 x25
                    ) (
                      opS P (S.alloc 27) fun x23 =>
                      opS P (S.cl 77 [x21, x20, x10, x22]) fun x24 =>
                      opS P (S.ext x24 0) fun x25 =>
                      opS P (S.ext x24 1) fun x26 =>
                      opS P (S.st 27 x23 x25) fun x27 =>
                      j2 x23 x26
                    )
                  ) (
                    opS P (S.alloc 27) fun x22 =>
                    opS P (S.ld 27 x4) fun x23 =>
                    opS P (S.cl 77 [x21, x20, x10, x23]) fun x24 =>
                    opS P (S.ext x24 0) fun x25 =>
                    opS P (S.ext x24 1) fun x26 =>
                    opS P (S.st 27 x22 x25) fun x27 =>
                    j2 x22 x26
                  )
                ) (
                  allW (
                    opS P (S.ld 27 x4) fun x21 =>
                    allW (
                      opS P (S.ld 71 x19) fun x22 =>
                      allW (
                        opS P (S.cl 77 [x22, x20, x10, x21]) fun x23 =>
                        opS P (S.ext x23 0) fun x24 =>
                        opS P (S.ext x23 1) fun x25 =>
                        opS P (S.alloc 27) fun x26 =>
                        opS P (S.st 27 x26 x24) fun x27 =>
                        j2 x26 x25
                      ) (
                        opS P (S.alloc 27) fun x23 =>
                        opS P (S.cl 77 [x22, x20, x10, x21]) fun x24 =>
                        opS P (S.ext x24 0) fun x25 =>
                        opS P (S.ext x24 1) fun x26 =>
                        opS P (S.st 27 x23 x25) fun x27 =>
                        j2 x23 x26
                      )
                    ) (
                      opS P (S.alloc 27) fun x22 =>
                      opS P (S.ld 71 x19) fun x23 =>
                      opS P (S.cl 77 [x23, x20, x10, x21]) fun x24 =>
                      opS P (S.ext x24 0) fun x25 =>
                      opS P (S.ext x24 1) fun x26 =>
                      opS P (S.st 27 x22 x25) fun x27 =>
                      j2 x22 x26
                    )
                  ) (
                    opS P (S.alloc 27) fun x21 =>
                    opS P (S.ld 71 x19) fun x22 =>
                    opS P (S.ld 27 x4) fun x23 =>
                    opS P (S.cl 77 [x22, x20, x10, x23]) fun x24 =>
                    opS P (S.ext x24 0) fun x25 =>
                    opS P (S.ext x24 1) fun x26 =>
                    opS P (S.st 27 x21 x25) fun x27 =>
                    j2 x21 x26
                  )
                )
              ) (
                allW (
                  opS P (S.ld 27 x4) fun x20 =>
                  allW (
                    opS P (S.ld 71 x19) fun x21 =>
                    allW (
                      opS P (S.ld 3 x3) fun x22 =>
                      allW (
                        opS P (S.cl 77 [x21, x22, x10, x20]) fun x23 =>
                        opS P (S.ext x23 0) fun x24 =>
                        opS P (S.ext x23 1) fun x25 =>
                        opS P (S.alloc 27) fun x26 =>
                        opS P (S.st 27 x26 x24) fun x27 =>
                        j2 x26 x25
                      ) (
                        opS P (S.alloc 27) fun x23 =>
                        opS P (S.cl 77 [x21, x22, x10, x20]) fun x24 =>
                        opS P (S.ext x24 0) fun x25 =>
                        opS P (S.ext x24 1) fun x26 =>
                        opS P (S.st 27 x23 x25) fun x27 =>
                        j2 x23 x26
                      )
                    ) (
                      opS P (S.alloc 27) fun x22 =>
                      opS P (S.ld 3 x3) fun x23 =>
                      opS P (S.cl 77 [x21, x23, x10, x20]) fun x24 =>
                      opS P (S.ext x24 0) fun x25 =>
                      opS P (S.ext x24 1) fun x26 =>
                      opS P (S.st 27 x22 x25) fun x27 =>
                      j2 x22 x26
                    )
                  ) (
                    allW (
                      opS P (S.ld 3 x3) fun x21 =>
                      allW (
                        opS P (S.ld 71 x19) fun x22 =>
                        allW (
                          opS P (S.cl 77 [x22, x21, x10, x20]) fun x23 =>
                          opS P (S.ext x23 0) fun x24 =>
                          opS P (S.ext x23 1) fun x25 =>
                          opS P (S.alloc 27) fun x26 =>
                          opS P (S.st 27 x26 x24) fun x27 =>
                          j2 x26 x25
                        ) (
                          opS P (S.alloc 27) fun x23 =>
                          opS P (S.cl 77 [x22, x21, x10, x20]) fun x24 =>
                          opS P (S.ext x24 0) fun x25 =>
                          opS P (S.ext x24 1) fun x26 =>
                          opS P (S.st 27 x23 x25) fun x27 =>
                          j2 x23 x26
                        )
                      ) (
                        opS P (S.alloc 27) fun x22 =>
                        opS P (S.ld 71 x19) fun x23 =>
                        opS P (S.cl 77 [x23, x21, x10, x20]) fun x24 =>
                        opS P (S.ext x24 0) fun x25 =>
                        opS P (S.ext x24 1) fun x26 =>
                        opS P (S.st 27 x22 x25) fun x27 =>
                        j2 x22 x26
                      )
                    ) (
                      opS P (S.alloc 27) fun x21 =>
                      opS P (S.ld 71 x19) fun x22 =>
                      opS P (S.ld 3 x3) fun x23 =>
                      opS P (S.cl 77 [x22, x23, x10, x20]) fun x24 =>
                      opS P (S.ext x24 0) fun x25 =>
                      opS P (S.ext x24 1) fun x26 =>
                      opS P (S.st 27 x21 x25) fun x27 =>
                      j2 x21 x26
                    )
                  )
                ) (
                  opS P (S.alloc 27) fun x20 =>
                  opS P (S.ld 71 x19) fun x21 =>
                  opS P (S.ld 3 x3) fun x22 =>
                  opS P (S.ld 27 x4) fun x23 =>
                  opS P (S.cl 77 [x21, x22, x10, x23]) fun x24 =>
                  opS P (S.ext x24 0) fun x25 =>
                  opS P (S.ext x24 1) fun x26 =>
                  opS P (S.st 27 x20 x25) fun x27 =>
                  j2 x20 x26
                )
              )
            )
          ) (
            allW (
              opS P (S.ld 3 x3) fun x17 =>
              allW (
                opS P (S.ld 32 x1) fun x18 =>
                opS P (S.nc x18) fun x19 =>
                opS P (S.fa 83 x19 0) fun x20 =>
                allW (
                  opS P (S.ld 71 x20) fun x21 =>
                  allW (
                    opS P (S.ld 27 x4) fun x22 =>
                    allW (
                      opS P (S.cl 77 [x21, x17, x10, x22]) fun x23 =>
                      opS P (S.ext x23 0) fun x24 =>
                      opS P (S.ext x23 1) fun x25 =>
                      opS P (S.alloc 27) fun x26 =>
                      opS P (S.st 27 x26 x24) fun x27 =>
                      j2 x26 x25
                    ) (
                      opS P (S.alloc 27) fun x23 =>
                      opS P (S.cl 77 [x21, x17, x10, x22]) fun x24 =>
                      opS P (S.ext x24 0) fun x25 =>
                      opS P (S.ext x24 1) fun x26 =>
                      opS P (S.st 27 x23 x25) fun x27 =>
                      j2 x23 x26
                    )
                  ) (
                    opS P (S.alloc 27) fun x22 =>
                    opS P (S.ld 27 x4) fun x23 =>
                    opS P (S.cl 77 [x21, x17, x10, x23]) fun x24 =>
                    opS P (S.ext x24 0) fun x25 =>
                    opS P (S.ext x24 1) fun x26 =>
                    opS P (S.st 27 x22 x25) fun x27 =>
                    j2 x22 x26
                  )
                ) (
                  allW (
                    opS P (S.ld 27 x4) fun x21 =>
                    allW (
                      opS P (S.ld 71 x20) fun x22 =>
                      allW (
                        opS P (S.cl 77 [x22, x17, x10, x21]) fun x23 =>
                        opS P (S.ext x23 0) fun x24 =>
                        opS P (S.ext x23 1) fun x25 =>
                        opS P (S.alloc 27) fun x26 =>
                        opS P (S.st 27 x26 x24) fun x27 =>
                        j2 x26 x25
                      ) (
                        opS P (S.alloc 27) fun x23 =>
                        opS P (S.cl 77 [x22, x17, x10, x21]) fun x24 =>
                        opS P (S.ext x24 0) fun x25 =>
                        opS P (S.ext x24 1) fun x26 =>
                        opS P (S.st 27 x23 x25) fun x27 =>
                        j2 x23 x26
                      )
                    ) (
                      opS P (S.alloc 27) fun x22 =>
                      opS P (S.ld 71 x20) fun x23 =>
                      opS P (S.cl 77 [x23, x17, x10, x21]) fun x24 =>
                      opS P (S.ext x24 0) fun x25 =>
                      opS P (S.ext x24 1) fun x26 =>
                      opS P (S.st 27 x22 x25) fun x27 =>
                      j2 x22 x26
                    )
                  ) (
                    opS P (S.alloc 27) fun x21 =>
                    opS P (S.ld 71 x20) fun x22 =>
                    opS P (S.ld 27 x4) fun x23 =>
                    opS P (S.cl 77 [x22, x17, x10, x23]) fun x24 =>
                    opS P (S.ext x24 0) fun x25 =>
                    opS P (S.ext x24 1) fun x26 =>
                    opS P (S.st 27 x21 x25) fun x27 =>
                    j2 x21 x26
                  )
                )
              ) (
                allW (
                  opS P (S.ld 27 x4) fun x18 =>
                  allW (
                    opS P (S.ld 32 x1) fun x19 =>
                    opS P (S.nc x19) fun x20 =>
                    opS P (S.fa 83 x20 0) fun x21 =>
                    allW (
                      opS P (S.ld 71 x21) fun x22 =>
                      allW (
                        opS P (S.cl 77 [x22, x17, x10, x18]) fun x23 =>
                        opS P (S.ext x23 0) fun x24 =>
                        opS P (S.ext x23 1) fun x25 =>
                        opS P (S.alloc 27) fun x26 =>
                        opS P (S.st 27 x26 x24) fun x27 =>
                        j2 x26 x25
                      ) (
                        opS P (S.alloc 27) fun x23 =>
                        opS P (S.cl 77 [x22, x17, x10, x18]) fun x24 =>
                        opS P (S.ext x24 0) fun x25 =>
                        opS P (S.ext x24 1) fun x26 =>
                        opS P (S.st 27 x23 x25) fun x27 =>
                        j2 x23 x26
                      )
                    ) (
                      opS P (S.alloc 27) fun x22 =>
                      opS P (S.ld 71 x21) fun x23 =>
                      opS P (S.cl 77 [x23, x17, x10, x18]) fun x24 =>
                      opS P (S.ext x24 0) fun x25 =>
                      opS P (S.ext x24 1) fun x26 =>
                      opS P (S.st 27 x22 x25) fun x27 =>
                      j2 x22 x26
                    )
                  ) (
                    opS P (S.alloc 27) fun x19 =>
                    opS P (S.ld 32 x1) fun x20 =>
                    opS P (S.nc x20) fun x21 =>
                    opS P (S.fa 83 x21 0) fun x22 =>
                    opS P (S.ld 71 x22) fun x23 =>
                    opS P (S.cl 77 [x23, x17, x10, x18]) fun x24 =>
                    opS P (S.ext x24 0) fun x25 =>
                    opS P (S.ext x24 1) fun x26 =>
                    opS P (S.st 27 x19 x25) fun x27 =>
                    j2 x19 x26
                  )
                ) (
                  opS P (S.alloc 27) fun x18 =>
                  opS P (S.ld 32 x1) fun x19 =>
                  opS P (S.nc x19) fun x20 =>
                  opS P (S.fa 83 x20 0) fun x21 =>
                  opS P (S.ld 71 x21) fun x22 =>
                  opS P (S.ld 27 x4) fun x23 =>
                  opS P (S.cl 77 [x22, x17, x10, x23]) fun x24 =>
                  opS P (S.ext x24 0) fun x25 =>
                  opS P (S.ext x24 1) fun x26 =>
                  opS P (S.st 27 x18 x25) fun x27 =>
                  j2 x18 x26
                )
              )
            ) (
              allW (
                opS P (S.ld 27 x4) fun x17 =>
                allW (
                  opS P (S.ld 32 x1) fun x18 =>
                  opS P (S.nc x18) fun x19 =>
                  opS P (S.fa 83 x19 0) fun x20 =>
                  allW (
                    opS P (S.ld 71 x20) fun x21 =>
                    allW (
                      opS P (S.ld 3 x3) fun x22 =>
                      allW (
                        opS P (S.cl 77 [x21, x22, x10, x17]) fun x23 =>
                        opS P (S.ext x23 0) fun x24 =>
                        opS P (S.ext x23 1) fun x25 =>
                        opS P (S.alloc 27) fun x26 =>
                        opS P (S.st 27 x26 x24) fun x27 =>
                        j2 x26 x25
                      ) (
                        opS P (S.alloc 27) fun x23 =>
                        opS P (S.cl 77 [x21, x22, x10, x17]) fun x24 =>
                        opS P (S.ext x24 0) fun x25 =>
                        opS P (S.ext x24 1) fun x26 =>
                        opS P (S.st 27 x23 x25) fun x27 =>
                        j2 x23 x26
                      )
                    ) (
                      opS P (S.alloc 27) fun x22 =>
                      opS P (S.ld 3 x3) fun x23 =>
                      opS P (S.cl 77 [x21, x23, x10, x17]) fun x24 =>
                      opS P (S.ext x24 0) fun x25 =>
                      opS P (S.ext x24 1) fun x26 =>
                      opS P (S.st 27 x22 x25) fun x27 =>
                      j2 x22 x26
                    )
                  ) (
                    allW (
                      opS P (S.ld 3 x3) fun x21 =>
                      allW (
                        opS P (S.ld 71 x20) fun x22 =>
                        allW (
                          opS P (S.cl 77 [x22, x21, x10, x17]) fun x23 =>
                          opS P (S.ext x23 0) fun x24 =>
                          opS P (S.ext x23 1) fun x25 =>
                          opS P (S.alloc 27) fun x26 =>
                          opS P (S.st 27 x26 x24) fun x27 =>
                          j2 x26 x25
                        ) (
                          opS P (S.alloc 27) fun x23 =>
                          opS P (S.cl 77 [x22, x21, x10, x17]) fun x24 =>
                          opS P (S.ext x24 0) fun x25 =>
                          opS P (S.ext x24 1) fun x26 =>
                          opS P (S.st 27 x23 x25) fun x27 =>
                          j2 x23 x26
                        )
                      ) (
                        opS P (S.alloc 27) fun x22 =>
                        opS P (S.ld 71 x20) fun x23 =>
                        opS P (S.cl 77 [x23, x21, x10, x17]) fun x24 =>
                        opS P (S.ext x24 0) fun x25 =>
                        opS P (S.ext x24 1) fun x26 =>
                        opS P (S.st 27 x22 x25) fun x27 =>
                        j2 x22 x26
                      )
                    ) (
                      opS P (S.alloc 27) fun x21 =>
                      opS P (S.ld 71 x20) fun x22 =>
                      opS P (S.ld 3 x3) fun x23 =>
                      opS P (S.cl 77 [x22, x23, x10, x17]) fun x24 =>
                      opS P (S.ext x24 0) fun x25 =>
                      opS P (S.ext x24 1) fun x26 =>
                      opS P (S.st 27 x21 x25) fun x27 =>
                      j2 x21 x26
                    )
                  )
                ) (
                  allW (
                    opS P (S.ld 3 x3) fun x18 =>
                    allW (
                      opS P (S.ld 32 x1) fun x19 =>
                      opS P (S.nc x19) fun x20 =>
                      opS P (S.fa 83 x20 0) fun x21 =>
                      allW (
                        opS P (S.ld 71 x21) fun x22 =>
                        allW (
                          opS P (S.cl 77 [x22, x18, x10, x17]) fun x23 =>
                          opS P (S.ext x23 0) fun x24 =>
                          opS P (S.ext x23 1) fun x25 =>
                          opS P (S.alloc 27) fun x26 =>
                          opS P (S.st 27 x26 x24) fun x27 =>
                          j2 x26 x25
                        ) (
                          opS P (S.alloc 27) fun x23 =>
                          opS P (S.cl 77 [x22, x18, x10, x17]) fun x24 =>
                          opS P (S.ext x24 0) fun x25 =>
                          opS P (S.ext x24 1) fun x26 =>
                          opS P (S.st 27 x23 x25) fun x27 =>
                          j2 x23 x26
                        )
                      ) (
                        opS P (S.alloc 27) fun x22 =>
                        opS P (S.ld 71 x21) fun x23 =>
                        opS P (S.cl 77 [x23, x18, x10, x17]) fun x24 =>
                        opS P (S.ext x24 0) fun x25 =>
                        opS P (S.ext x24 1) fun x26 =>
                        opS P (S.st 27 x22 x25) fun x27 =>
                        j2 x22 x26
                      )
                    ) (
                      opS P (S.alloc 27) fun x19 =>
                      opS P (S.ld 32 x1) fun x20 =>
                      opS P (S.nc x20) fun x21 =>
                      opS P (S.fa 83 x21 0) fun x22 =>
                      opS P (S.ld 71 x22) fun x23 =>
                      opS P (S.cl 77 [x23, x18, x10, x17]) fun x24 =>
                      opS P (S.ext x24 0) fun x25 =>
                      opS P (S.ext x24 1) fun x26 =>
                      opS P (S.st 27 x19 x25) fun x27 =>
                      j2 x19 x26
                    )
                  ) (
                    opS P (S.alloc 27) fun x18 =>
                    opS P (S.ld 32 x1) fun x19 =>
                    opS P (S.nc x19) fun x20 =>
                    opS P (S.fa 83 x20 0) fun x21 =>
                    opS P (S.ld 71 x21) fun x22 =>
                    opS P (S.ld 3 x3) fun x23 =>
                    opS P (S.cl 77 [x22, x23, x10, x17]) fun x24 =>
                    opS P (S.ext x24 0) fun x25 =>
                    opS P (S.ext x24 1) fun x26 =>
                    opS P (S.st 27 x18 x25) fun x27 =>
                    j2 x18 x26
                  )
                )
              ) (
                opS P (S.alloc 27) fun x17 =>
                opS P (S.ld 32 x1) fun x18 =>
                opS P (S.nc x18) fun x19 =>
                opS P (S.fa 83 x19 0) fun x20 =>
                opS P (S.ld 71 x20) fun x21 =>
                opS P (S.ld 3 x3) fun x22 =>
                opS P (S.ld 27 x4) fun x23 =>
                opS P (S.cl 77 [x21, x22, x10, x23]) fun x24 =>
                opS P (S.ext x24 0) fun x25 =>
                opS P (S.ext x24 1) fun x26 =>
                opS P (S.st 27 x17 x25) fun x27 =>
                j2 x17 x26
              )
            )
          )
        )
      )
    ) (
      j0
    )
  ) (.int .i64 0)
instance fnb76 : FnB Tryz.prog 76 := ⟨Tryz.call76⟩
theorem e76 : p76 Tryz.prog = fun K x0 x1 x2 x3 x4 => denF Tryz.prog Tryz.f76 [x0, x1, x2, x3, x4] K := by kernel_rfl
theorem c76 {K : Value → World → Prop} {x0 x1 x2 x3 x4 : Value} {w : World} (h : p76 Tryz.prog K x0 x1 x2 x3 x4 w) : CallsR Tryz.prog 76 #[x0, x1, x2, x3, x4] K w := by
  rw [e76] at h
  exact denF_sound mixed Tryz.func76 h

end Go.Gx.S
-- 38 76 17 39
end

section
/- What the functions of this program ask. -/
set_option linter.unusedVariables false
set_option maxRecDepth 100000
namespace Go.Gx.S
open Go Go.Gx Go.Proofs
-- (*gemel/flow.Bridge).Stations
def p14 (P : Program) (K : Value → World → Prop) (x0 : Value) : World → Prop :=
  opS P (S.nc x0) fun x1 =>
  opS P (S.fa 83 x1 1) fun x2 =>
  opS P (S.ld 42 x2) fun x3 =>
  K x3
instance fnb14 : FnB Tryz.prog 14 := ⟨Tryz.call14⟩
theorem e14 : p14 Tryz.prog = fun K x0 => denF Tryz.prog Tryz.f14 [x0] K := by kernel_rfl
theorem c14 {K : Value → World → Prop} {x0 : Value} {w : World} (h : p14 Tryz.prog K x0 w) : CallsR Tryz.prog 14 #[x0] K w := by
  rw [e14] at h
  exact denF_sound mixed Tryz.func14 h

-- (*gemel/flow.Bridge).Set
def p23 (P : Program) (K : Value → World → Prop) (x0 : Value) (x1 : Value) (x2 : Value) : World → Prop :=
  opS P (S.cl 49 [x0, x1]) fun x3 =>
  opS P (S.un .not x3) fun x4 =>
  brn x4 (
    K (.int .i64 1)
  ) (
    opS P (S.binI .lss x2 (.int .i64 0)) fun x5 =>
    brn x5 (
      K (.int .i64 1)
    ) (
      opS P (S.binI .gtr x2 (.int .i64 2)) fun x6 =>
      brn x6 (
        K (.int .i64 1)
      ) (
        opS P (S.nc x0) fun x7 =>
        opS P (S.fa 83 x7 2) fun x8 =>
        opS P (S.ld 70 x8) fun x9 =>
        opS P (S.ia 70 x9 x1) fun x10 =>
        opS P (S.st 3 x10 x2) fun x11 =>
        K (.int .i64 0)
      )
    )
  )
instance fnb23 : FnB Tryz.prog 23 := ⟨Tryz.call23⟩
theorem e23 : p23 Tryz.prog = fun K x0 x1 x2 => denF Tryz.prog Tryz.f23 [x0, x1, x2] K := by kernel_rfl
theorem c23 {K : Value → World → Prop} {x0 x1 x2 : Value} {w : World} (h : p23 Tryz.prog K x0 x1 x2 w) : CallsR Tryz.prog 23 #[x0, x1, x2] K w := by
  rw [e23] at h
  exact denF_sound mixed Tryz.func23 h

-- (*gemel/flow.Bridge).State
def p24 (P : Program) (K : Value → World → Prop) (x0 : Value) (x1 : Value) : World → Prop :=
  opS P (S.cl 49 [x0, x1]) fun x2 =>
  opS P (S.un .not x2) fun x3 =>
  brn x3 (
    K (.int .i64 0)
  ) (
    opS P (S.nc x0) fun x4 =>
    opS P (S.fa 83 x4 2) fun x5 =>
    opS P (S.ld 70 x5) fun x6 =>
    opS P (S.ia 70 x6 x1) fun x7 =>
    opS P (S.ld 3 x7) fun x8 =>
    K x8
  )
instance fnb24 : FnB Tryz.prog 24 := ⟨Tryz.call24⟩
theorem e24 : p24 Tryz.prog = fun K x0 x1 => denF Tryz.prog Tryz.f24 [x0, x1] K := by kernel_rfl
theorem c24 {K : Value → World → Prop} {x0 x1 : Value} {w : World} (h : p24 Tryz.prog K x0 x1 w) : CallsR Tryz.prog 24 #[x0, x1] K w := by
  rw [e24] at h
  exact denF_sound mixed Tryz.func24 h

-- (*gemel/flow.Bridge).Vlans
def p29 (P : Program) (K : Value → World → Prop) (x0 : Value) : World → Prop :=
  opS P (S.nc x0) fun x1 =>
  opS P (S.fa 83 x1 0) fun x2 =>
  opS P (S.ld 71 x2) fun x3 =>
  K x3
instance fnb29 : FnB Tryz.prog 29 := ⟨Tryz.call29⟩
theorem e29 : p29 Tryz.prog = fun K x0 => denF Tryz.prog Tryz.f29 [x0] K := by kernel_rfl
theorem c29 {K : Value → World → Prop} {x0 : Value} {w : World} (h : p29 Tryz.prog K x0 w) : CallsR Tryz.prog 29 #[x0] K w := by
  rw [e29] at h
  exact denF_sound mixed Tryz.func29 h

-- (*gemel/flow.Bridge).refused
def p34 (P : Program) (K : Value → World → Prop) (x0 : Value) (x1 : Value) (x2 : Value) (x3 : Value) : World → Prop :=
  opS P (S.box 27 x2) fun x4 =>
  opS P (S.cl 49 [x0, x1]) fun x5 =>
  opS P (S.un .not x5) fun x6 =>
  brn x6 (
    K (.tuple #[(.int .i64 1), (.int .i64 0)])
  ) (
    opS P (S.ld 27 x4) fun x7 =>
    opS P (S.cl 69 [x7]) fun x8 =>
    opS P (S.un .not x8) fun x9 =>
    brn x9 (
      K (.tuple #[(.int .i64 1), (.int .i64 0)])
    ) (
      opS P (S.binI .lss x3 (.int .i64 0)) fun x10 =>
      brn x10 (
        K (.tuple #[(.int .i64 1), (.int .i64 0)])
      ) (
        opS P (S.binI .gtr x3 (.int .i64 1099511627776)) fun x11 =>
        brn x11 (
          K (.tuple #[(.int .i64 1), (.int .i64 0)])
        ) (
          opS P (S.fa 27 x4 0) fun x12 =>
          opS P (S.ld 24 x12) fun x13 =>
          opS P (S.cl 70 [x13]) fun x14 =>
          brn x14 (
            K (.tuple #[(.int .i64 2), (.int .i64 0)])
          ) (
            opS P (S.nc x0) fun x15 =>
            opS P (S.fa 83 x15 2) fun x16 =>
            opS P (S.ld 70 x16) fun x17 =>
            opS P (S.ia 70 x17 x1) fun x18 =>
            opS P (S.ld 3 x18) fun x19 =>
            opS P (S.binI .eql x19 (.int .i64 0)) fun x20 =>
            brn x20 (
              K (.tuple #[(.int .i64 3), (.int .i64 0)])
            ) (
              drw <|
              opS P (S.nc x0) fun x21 =>
              opS P (S.fa 83 x21 0) fun x22 =>
              opS P (S.ld 71 x22) fun x23 =>
              opS P (S.ld 27 x4) fun x24 =>
              opS P (S.cl 71 [x23, x1, x24]) fun x25 =>
              opS P (S.ext x25 0) fun x26 =>
              opS P (S.ext x25 1) fun x27 =>
              opS P (S.binI .neq x27 (.int .i64 0)) fun x28 =>
              brn x28 (
                K (.tuple #[(.int .i64 4), (.int .i64 0)])
              ) (
                opS P (S.fa 27 x4 1) fun x29 =>
                opS P (S.ld 24 x29) fun x30 =>
                opS P (S.cl 72 [x30]) fun x31 =>
                brn x31 (
                  K (.tuple #[(.int .i64 5), x26])
                ) (
                  K (.tuple #[(.int .i64 0), x26])
                )
              )
            )
          )
        )
      )
    )
  )
instance fnb34 : FnB Tryz.prog 34 := ⟨Tryz.call34⟩
theorem e34 : p34 Tryz.prog = fun K x0 x1 x2 x3 => denF Tryz.prog Tryz.f34 [x0, x1, x2, x3] K := by kernel_rfl
theorem c34 {K : Value → World → Prop} {x0 x1 x2 x3 : Value} {w : World} (h : p34 Tryz.prog K x0 x1 x2 x3 w) : CallsR Tryz.prog 34 #[x0, x1, x2, x3] K w := by
  rw [e34] at h
  exact denF_sound mixed Tryz.func34 h

-- (*gemel/flow.Bridge).learn
def p35 (P : Program) (K : Value → World → Prop) (x0 : Value) (x1 : Value) (x2 : Value) (x3 : Value) (x4 : Value) : World → Prop :=
  opS P (S.box 24 x2) fun x5 =>
  drw <|
  opS P (S.nc x0) fun x6 =>
  opS P (S.fa 83 x6 1) fun x7 =>
  opS P (S.ld 42 x7) fun x8 =>
  opS P (S.ld 24 x5) fun x9 =>
  opS P (S.cl 73 [x8, x1, x9, x3, x4]) fun x10 =>
  opS P (S.ext x10 0) fun x11 =>
  opS P (S.ext x10 1) fun x12 =>
  opS P (S.binI .neq x12 (.int .i64 0)) fun x13 =>
  brn x13 (
    drw <|
    opS P (S.nc x0) fun x14 =>
    opS P (S.fa 83 x14 4) fun x15 =>
    opS P (S.ia 81 x15 (.int .i64 2)) fun x16 =>
    opS P (S.ld 3 x16) fun x17 =>
    opS P (S.binI .add x17 (.int .i64 1)) fun x18 =>
    opS P (S.nc x0) fun x19 =>
    opS P (S.fa 83 x19 4) fun x20 =>
    opS P (S.ia 81 x20 (.int .i64 2)) fun x21 =>
    opS P (S.st 3 x21 x18) fun x22 =>
    K (.tuple #[])
  ) (
    opS P (S.binI .eql x11 (.int .i64 1)) fun x14 =>
    brn x14 (
      drw <|
      opS P (S.nc x0) fun x15 =>
      opS P (S.fa 83 x15 4) fun x16 =>
      opS P (S.ia 81 x16 (.int .i64 0)) fun x17 =>
      opS P (S.ld 3 x17) fun x18 =>
      opS P (S.binI .add x18 (.int .i64 1)) fun x19 =>
      opS P (S.nc x0) fun x20 =>
      opS P (S.fa 83 x20 4) fun x21 =>
      opS P (S.ia 81 x21 (.int .i64 0)) fun x22 =>
      opS P (S.st 3 x22 x19) fun x23 =>
      K (.tuple #[])
    ) (
      opS P (S.binI .eql x11 (.int .i64 2)) fun x15 =>
      brn x15 (
        drw <|
        opS P (S.nc x0) fun x16 =>
        opS P (S.fa 83 x16 4) fun x17 =>
        opS P (S.ia 81 x17 (.int .i64 1)) fun x18 =>
        opS P (S.ld 3 x18) fun x19 =>
        opS P (S.binI .add x19 (.int .i64 1)) fun x20 =>
        opS P (S.nc x0) fun x21 =>
        opS P (S.fa 83 x21 4) fun x22 =>
        opS P (S.ia 81 x22 (.int .i64 1)) fun x23 =>
        opS P (S.st 3 x23 x20) fun x24 =>
        K (.tuple #[])
      ) (
        K (.tuple #[])
      )
    )
  )
instance fnb35 : FnB Tryz.prog 35 := ⟨Tryz.call35⟩
theorem e35 : p35 Tryz.prog = fun K x0 x1 x2 x3 x4 => denF Tryz.prog Tryz.f35 [x0, x1, x2, x3, x4] K := by kernel_rfl
theorem c35 {K : Value → World → Prop} {x0 x1 x2 x3 x4 : Value} {w : World} (h : p35 Tryz.prog K x0 x1 x2 x3 x4 w) : CallsR Tryz.prog 35 #[x0, x1, x2, x3, x4] K w := by
  rw [e35] at h
  exact denF_sound mixed Tryz.func35 h

-- (*gemel/flow.Bridge).has
def p49 (P : Program) (K : Value → World → Prop) (x0 : Value) (x1 : Value) : World → Prop :=
  opS P (S.binI .geq x1 (.int .i64 1)) fun x2 =>
  brn x2 (
    opS P (S.nc x0) fun x3 =>
    opS P (S.fa 83 x3 2) fun x4 =>
    opS P (S.ld 70 x4) fun x5 =>
    opS P (S.len x5) fun x6 =>
    opS P (S.binI .lss x1 x6) fun x7 =>
    K x7
  ) (
    K (.bool false)
  )
instance fnb49 : FnB Tryz.prog 49 := ⟨Tryz.call49⟩
theorem e49 : p49 Tryz.prog = fun K x0 x1 => denF Tryz.prog Tryz.f49 [x0, x1] K := by kernel_rfl
theorem c49 {K : Value → World → Prop} {x0 x1 : Value} {w : World} (h : p49 Tryz.prog K x0 x1 w) : CallsR Tryz.prog 49 #[x0, x1] K w := by
  rw [e49] at h
  exact denF_sound mixed Tryz.func49 h

-- gemel/mac.Reserved
def p70 (P : Program) (K : Value → World → Prop) (x0 : Value) : World → Prop :=
  opS P (S.box 24 x0) fun x1 =>
  opS P (S.ia 24 x1 (.int .i64 5)) fun x2 =>
  opS P (S.ld 5 x2) fun x3 =>
  opS P (S.binI .andNot x3 (.int .u8 15)) fun x4 =>
  opS P (S.ia 24 x1 (.int .i64 5)) fun x5 =>
  opS P (S.st 5 x5 x4) fun x6 =>
  opS P (S.ld 24 x1) fun x7 =>
  opS P (S.build 24 [(0, (.int .u8 1)), (1, (.int .u8 128)), (2, (.int .u8 194))]) fun x8 =>
  opS P (S.binG .eql 24 x7 x8) fun x9 =>
  K x9
instance fnb70 : FnB Tryz.prog 70 := ⟨Tryz.call70⟩
theorem e70 : p70 Tryz.prog = fun K x0 => denF Tryz.prog Tryz.f70 [x0] K := by kernel_rfl
theorem c70 {K : Value → World → Prop} {x0 : Value} {w : World} (h : p70 Tryz.prog K x0 w) : CallsR Tryz.prog 70 #[x0] K w := by
  rw [e70] at h
  exact denF_sound mixed Tryz.func70 h

end Go.Gx.S
-- 29 14 49 23 24 35 34 70
end

section
/- What the functions of this program ask. -/
set_option linter.unusedVariables false
set_option maxRecDepth 100000
namespace Go.Gx.S
open Go Go.Gx Go.Proofs
-- (*gemel/vlan.Table).Members
def p30 (P : Program) (K : Value → World → Prop) (x0 : Value) (x1 : Value) : World → Prop :=
  opS P (S.nc x0) fun x2 =>
  opS P (S.fa 122 x2 1) fun x3 =>
  opS P (S.ld 70 x3) fun x4 =>
  opS P (S.len x4) fun x5 =>
  jnJ 1 (fun x6 =>
    K x6
  ) fun j0 =>
  loopJ 2 (fun j1 x6 x7 =>
    opS P (S.binI .lss x7 x5) fun x8 =>
    brn x8 (
      opS P (S.nc x0) fun x9 =>
      opS P (S.fa 122 x9 0) fun x10 =>
      opS P (S.ld 120 x10) fun x11 =>
      opS P (S.build 125 [(0, x1), (1, x7)]) fun x12 =>
      opS P (S.lk 120 x11 x12 true) fun x13 =>
      opS P (S.ext x13 0) fun x14 =>
      opS P (S.ext x13 1) fun x15 =>
      brn x15 (
        opS P (S.buildS 70 1 [(0, x7)]) fun x16 =>
        opS P (S.bi .append #[70, 70] 70 [x6, x16]) fun x17 =>
        opS P (S.binI .add x7 (.int .i64 1)) fun x18 =>
        j1 x17 x18
      ) (
        opS P (S.binI .add x7 (.int .i64 1)) fun x16 =>
        j1 x6 x16
      )
    ) (
      j0 x6
    )
  ) (.slice none 0 0) (.int .i64 0)
instance fnb30 : FnB Tryz.prog 30 := ⟨Tryz.call30⟩
theorem e30 : p30 Tryz.prog = fun K x0 x1 => denF Tryz.prog Tryz.f30 [x0, x1] K := by kernel_rfl
theorem c30 {K : Value → World → Prop} {x0 x1 : Value} {w : World} (h : p30 Tryz.prog K x0 x1 w) : CallsR Tryz.prog 30 #[x0, x1] K w := by
  rw [e30] at h
  exact denF_sound mixed Tryz.func30 h

-- gemel/gemelref07.SameInts
def p31 (P : Program) (K : Value → World → Prop) (x0 : Value) (x1 : Value) : World → Prop :=
  opS P (S.len x0) fun x2 =>
  opS P (S.len x1) fun x3 =>
  opS P (S.binI .neq x2 x3) fun x4 =>
  brn x4 (
    K (.bool false)
  ) (
    jnJ 0 (
      K (.bool true)
    ) fun j0 =>
    loopJ 1 (fun j1 x5 =>
      opS P (S.len x0) fun x6 =>
      opS P (S.binI .lss x5 x6) fun x7 =>
      brn x7 (
        drw <|
        opS P (S.ia 70 x0 x5) fun x8 =>
        opS P (S.ld 3 x8) fun x9 =>
        opS P (S.ia 70 x1 x5) fun x10 =>
        opS P (S.ld 3 x10) fun x11 =>
        opS P (S.binI .neq x9 x11) fun x12 =>
        brn x12 (
          K (.bool false)
        ) (
          opS P (S.binI .add x5 (.int .i64 1)) fun x13 =>
          j1 x13
        )
      ) (
        j0
      )
    ) (.int .i64 0)
  )
instance fnb31 : FnB Tryz.prog 31 := ⟨Tryz.call31⟩
theorem e31 : p31 Tryz.prog = fun K x0 x1 => denF Tryz.prog Tryz.f31 [x0, x1] K := by kernel_rfl
theorem c31 {K : Value → World → Prop} {x0 x1 : Value} {w : World} (h : p31 Tryz.prog K x0 x1 w) : CallsR Tryz.prog 31 #[x0, x1] K w := by
  rw [e31] at h
  exact denF_sound mixed Tryz.func31 h

-- gemel/gemelref02.Same
def p40 (P : Program) (K : Value → World → Prop) (x0 : Value) (x1 : Value) : World → Prop :=
  opS P (S.box 27 x0) fun x2 =>
  opS P (S.box 27 x1) fun x3 =>
  opS P (S.fa 27 x2 0) fun x4 =>
  opS P (S.ld 24 x4) fun x5 =>
  opS P (S.fa 27 x3 0) fun x6 =>
  opS P (S.ld 24 x6) fun x7 =>
  opS P (S.binG .eql 24 x5 x7) fun x8 =>
  brn x8 (
    opS P (S.fa 27 x2 1) fun x9 =>
    opS P (S.ld 24 x9) fun x10 =>
    opS P (S.fa 27 x3 1) fun x11 =>
    opS P (S.ld 24 x11) fun x12 =>
    opS P (S.binG .eql 24 x10 x12) fun x13 =>
    brn x13 (
      opS P (S.fa 27 x2 2) fun x14 =>
      opS P (S.ld 4 x14) fun x15 =>
      opS P (S.fa 27 x3 2) fun x16 =>
      opS P (S.ld 4 x16) fun x17 =>
      opS P (S.binB .eql x15 x17) fun x18 =>
      brn x18 (
        opS P (S.fa 27 x2 3) fun x19 =>
        opS P (S.ld 3 x19) fun x20 =>
        opS P (S.fa 27 x3 3) fun x21 =>
        opS P (S.ld 3 x21) fun x22 =>
        opS P (S.binI .eql x20 x22) fun x23 =>
        brn x23 (
          opS P (S.fa 27 x2 4) fun x24 =>
          opS P (S.ld 3 x24) fun x25 =>
          opS P (S.fa 27 x3 4) fun x26 =>
          opS P (S.ld 3 x26) fun x27 =>
          opS P (S.binI .eql x25 x27) fun x28 =>
          brn x28 (
            opS P (S.fa 27 x2 5) fun x29 =>
            opS P (S.ld 3 x29) fun x30 =>
            opS P (S.fa 27 x3 5) fun x31 =>
            opS P (S.ld 3 x31) fun x32 =>
            opS P (S.binI .eql x30 x32) fun x33 =>
            brn x33 (
              opS P (S.fa 27 x2 6) fun x34 =>
              opS P (S.ld 25 x34) fun x35 =>
              opS P (S.conv 25 9 x35) fun x36 =>
              opS P (S.fa 27 x3 6) fun x37 =>
              opS P (S.ld 25 x37) fun x38 =>
              opS P (S.conv 25 9 x38) fun x39 =>
              opS P (S.binS .eql x36 x39) fun x40 =>
              K x40
            ) (
              K (.bool false)
            )
          ) (
            K (.bool false)
          )
        ) (
          K (.bool false)
        )
      ) (
        K (.bool false)
      )
    ) (
      K (.bool false)
    )
  ) (
    K (.bool false)
  )
instance fnb40 : FnB Tryz.prog 40 := ⟨Tryz.call40⟩
theorem e40 : p40 Tryz.prog = fun K x0 x1 => denF Tryz.prog Tryz.f40 [x0, x1] K := by kernel_rfl
theorem c40 {K : Value → World → Prop} {x0 x1 : Value} {w : World} (h : p40 Tryz.prog K x0 x1 w) : CallsR Tryz.prog 40 #[x0, x1] K w := by
  rw [e40] at h
  exact denF_sound mixed Tryz.func40 h

-- gemel/vlan.New
def p50 (P : Program) (K : Value → World → Prop) (x0 : Value) : World → Prop :=
  opS P (S.binI .lss x0 (.int .i64 1)) fun x1 =>
  brn x1 (
    K (.tuple #[(.pointer none), (.int .i64 1)])
  ) (
    opS P (S.binI .gtr x0 (.int .i64 64)) fun x2 =>
    brn x2 (
      K (.tuple #[(.pointer none), (.int .i64 1)])
    ) (
      opS P (S.mkm 120 none) fun x3 =>
      opS P (S.mks 70 x0 x0) fun x4 =>
      opS P (S.build 122 [(0, x3), (1, x4)]) fun x5 =>
      opS P (S.box 122 x5) fun x6 =>
      K (.tuple #[x6, (.int .i64 0)])
    )
  )
instance fnb50 : FnB Tryz.prog 50 := ⟨Tryz.call50⟩
theorem e50 : p50 Tryz.prog = fun K x0 => denF Tryz.prog Tryz.f50 [x0] K := by kernel_rfl
theorem c50 {K : Value → World → Prop} {x0 : Value} {w : World} (h : p50 Tryz.prog K x0 w) : CallsR Tryz.prog 50 #[x0] K w := by
  rw [e50] at h
  exact denF_sound mixed Tryz.func50 h

-- gemel/gemelref07.New
def p53 (P : Program) (K : Value → World → Prop) (x0 : Value) : World → Prop :=
  opS P (S.binI .lss x0 (.int .i64 1)) fun x1 =>
  brn x1 (
    K (.tuple #[(.pointer none), (.int .i64 1)])
  ) (
    opS P (S.binI .gtr x0 (.int .i64 64)) fun x2 =>
    brn x2 (
      K (.tuple #[(.pointer none), (.int .i64 1)])
    ) (
      opS P (S.mks 70 x0 x0) fun x3 =>
      opS P (S.build 141 [(0, x0), (2, x3)]) fun x4 =>
      opS P (S.box 141 x4) fun x5 =>
      K (.tuple #[x5, (.int .i64 0)])
    )
  )
instance fnb53 : FnB Tryz.prog 53 := ⟨Tryz.call53⟩
theorem e53 : p53 Tryz.prog = fun K x0 => denF Tryz.prog Tryz.f53 [x0] K := by kernel_rfl
theorem c53 {K : Value → World → Prop} {x0 : Value} {w : World} (h : p53 Tryz.prog K x0 w) : CallsR Tryz.prog 53 #[x0] K w := by
  rw [e53] at h
  exact denF_sound mixed Tryz.func53 h

-- (*gemel/vlan.Table).Add
def p56 (P : Program) (K : Value → World → Prop) (x0 : Value) (x1 : Value) (x2 : Value) (x3 : Value) : World → Prop :=
  opS P (S.cl 85 [x0, x1, x2]) fun x4 =>
  opS P (S.un .not x4) fun x5 =>
  brn x5 (
    K (.int .i64 1)
  ) (
    opS P (S.nc x0) fun x6 =>
    opS P (S.fa 122 x6 0) fun x7 =>
    opS P (S.ld 120 x7) fun x8 =>
    opS P (S.build 125 [(0, x1), (1, x2)]) fun x9 =>
    opS P (S.mu 120 x8 x9 x3) fun x10 =>
    K (.int .i64 0)
  )
instance fnb56 : FnB Tryz.prog 56 := ⟨Tryz.call56⟩
theorem e56 : p56 Tryz.prog = fun K x0 x1 x2 x3 => denF Tryz.prog Tryz.f56 [x0, x1, x2, x3] K := by kernel_rfl
theorem c56 {K : Value → World → Prop} {x0 x1 x2 x3 : Value} {w : World} (h : p56 Tryz.prog K x0 x1 x2 x3 w) : CallsR Tryz.prog 56 #[x0, x1, x2, x3] K w := by
  rw [e56] at h
  exact denF_sound mixed Tryz.func56 h

-- (*gemel/gemelref07.Table).Add
def p57 (P : Program) (K : Value → World → Prop) (x0 : Value) (x1 : Value) (x2 : Value) (x3 : Value) : World → Prop :=
  opS P (S.cl 86 [x0, x1, x2]) fun x4 =>
  opS P (S.un .not x4) fun x5 =>
  brn x5 (
    K (.int .i64 1)
  ) (
    opS P (S.cl 87 [x0, x1, x2]) fun x6 =>
    opS P (S.binI .geq x6 (.int .i64 0)) fun x7 =>
    brn x7 (
      opS P (S.nc x0) fun x8 =>
      opS P (S.fa 141 x8 1) fun x9 =>
      opS P (S.ld 139 x9) fun x10 =>
      opS P (S.ia 139 x10 x6) fun x11 =>
      opS P (S.fa 144 x11 2) fun x12 =>
      opS P (S.st 4 x12 x3) fun x13 =>
      K (.int .i64 0)
    ) (
      opS P (S.buildS 139 0 []) fun x8 =>
      opS P (S.nc x0) fun x9 =>
      opS P (S.fa 141 x9 1) fun x10 =>
      opS P (S.ld 139 x10) fun x11 =>
      opS P (S.bi .append #[139, 139] 139 [x8, x11]) fun x12 =>
      opS P (S.build 144 [(0, x1), (1, x2), (2, x3)]) fun x13 =>
      opS P (S.buildS 139 1 [(0, x13)]) fun x14 =>
      opS P (S.bi .append #[139, 139] 139 [x12, x14]) fun x15 =>
      opS P (S.nc x0) fun x16 =>
      opS P (S.fa 141 x16 1) fun x17 =>
      opS P (S.st 139 x17 x15) fun x18 =>
      K (.int .i64 0)
    )
  )
instance fnb57 : FnB Tryz.prog 57 := ⟨Tryz.call57⟩
theorem e57 : p57 Tryz.prog = fun K x0 x1 x2 x3 => denF Tryz.prog Tryz.f57 [x0, x1, x2, x3] K := by kernel_rfl
theorem c57 {K : Value → World → Prop} {x0 x1 x2 x3 : Value} {w : World} (h : p57 Tryz.prog K x0 x1 x2 x3 w) : CallsR Tryz.prog 57 #[x0, x1, x2, x3] K w := by
  rw [e57] at h
  exact denF_sound mixed Tryz.func57 h

-- (*gemel/vlan.Table).Native
def p58 (P : Program) (K : Value → World → Prop) (x0 : Value) (x1 : Value) (x2 : Value) : World → Prop :=
  opS P (S.cl 88 [x0, x1]) fun x3 =>
  opS P (S.un .not x3) fun x4 =>
  brn x4 (
    K (.int .i64 1)
  ) (
    opS P (S.binI .lss x2 (.int .i64 0)) fun x5 =>
    brn x5 (
      K (.int .i64 1)
    ) (
      opS P (S.binI .gtr x2 (.int .i64 4094)) fun x6 =>
      brn x6 (
        K (.int .i64 1)
      ) (
        opS P (S.nc x0) fun x7 =>
        opS P (S.fa 122 x7 1) fun x8 =>
        opS P (S.ld 70 x8) fun x9 =>
        opS P (S.ia 70 x9 x1) fun x10 =>
        opS P (S.st 3 x10 x2) fun x11 =>
        K (.int .i64 0)
      )
    )
  )
instance fnb58 : FnB Tryz.prog 58 := ⟨Tryz.call58⟩
theorem e58 : p58 Tryz.prog = fun K x0 x1 x2 => denF Tryz.prog Tryz.f58 [x0, x1, x2] K := by kernel_rfl
theorem c58 {K : Value → World → Prop} {x0 x1 x2 : Value} {w : World} (h : p58 Tryz.prog K x0 x1 x2 w) : CallsR Tryz.prog 58 #[x0, x1, x2] K w := by
  rw [e58] at h
  exact denF_sound mixed Tryz.func58 h

-- (*gemel/gemelref07.Table).Native
def p59 (P : Program) (K : Value → World → Prop) (x0 : Value) (x1 : Value) (x2 : Value) : World → Prop :=
  opS P (S.binI .lss x1 (.int .i64 0)) fun x3 =>
  brn x3 (
    K (.int .i64 1)
  ) (
    opS P (S.nc x0) fun x4 =>
    opS P (S.fa 141 x4 0) fun x5 =>
    opS P (S.ld 3 x5) fun x6 =>
    opS P (S.binI .geq x1 x6) fun x7 =>
    brn x7 (
      K (.int .i64 1)
    ) (
      opS P (S.binI .lss x2 (.int .i64 0)) fun x8 =>
      brn x8 (
        K (.int .i64 1)
      ) (
        opS P (S.binI .gtr x2 (.int .i64 4094)) fun x9 =>
        brn x9 (
          K (.int .i64 1)
        ) (
          opS P (S.nc x0) fun x10 =>
          opS P (S.fa 141 x10 2) fun x11 =>
          opS P (S.ld 70 x11) fun x12 =>
          opS P (S.ia 70 x12 x1) fun x13 =>
          opS P (S.st 3 x13 x2) fun x14 =>
          K (.int .i64 0)
        )
      )
    )
  )
instance fnb59 : FnB Tryz.prog 59 := ⟨Tryz.call59⟩
theorem e59 : p59 Tryz.prog = fun K x0 x1 x2 => denF Tryz.prog Tryz.f59 [x0, x1, x2] K := by kernel_rfl
theorem c59 {K : Value → World → Prop} {x0 x1 x2 : Value} {w : World} (h : p59 Tryz.prog K x0 x1 x2 w) : CallsR Tryz.prog 59 #[x0, x1, x2] K w := by
  rw [e59] at h
  exact denF_sound mixed Tryz.func59 h

-- (*gemel/vlan.Table).Remove
def p60 (P : Program) (K : Value → World → Prop) (x0 : Value) (x1 : Value) (x2 : Value) : World → Prop :=
  opS P (S.cl 85 [x0, x1, x2]) fun x3 =>
  opS P (S.un .not x3) fun x4 =>
  brn x4 (
    K (.int .i64 1)
  ) (
    opS P (S.nc x0) fun x5 =>
    opS P (S.fa 122 x5 0) fun x6 =>
    opS P (S.ld 120 x6) fun x7 =>
    opS P (S.build 125 [(0, x1), (1, x2)]) fun x8 =>
    opS P (S.lk 120 x7 x8 true) fun x9 =>
    opS P (S.ext x9 0) fun x10 =>
    opS P (S.ext x9 1) fun x11 =>
    opS P (S.un .not x11) fun x12 =>
    brn x12 (
      K (.int .i64 4)
    ) (
      opS P (S.nc x0) fun x13 =>
      opS P (S.fa 122 x13 0) fun x14 =>
      opS P (S.ld 120 x14) fun x15 =>
      opS P (S.build 125 [(0, x1), (1, x2)]) fun x16 =>
      opS P (S.bi .delete #[120, 125] 0 [x15, x16]) fun x17 =>
      K (.int .i64 0)
    )
  )
instance fnb60 : FnB Tryz.prog 60 := ⟨Tryz.call60⟩
theorem e60 : p60 Tryz.prog = fun K x0 x1 x2 => denF Tryz.prog Tryz.f60 [x0, x1, x2] K := by kernel_rfl
theorem c60 {K : Value → World → Prop} {x0 x1 x2 : Value} {w : World} (h : p60 Tryz.prog K x0 x1 x2 w) : CallsR Tryz.prog 60 #[x0, x1, x2] K w := by
  rw [e60] at h
  exact denF_sound mixed Tryz.func60 h

-- (*gemel/gemelref07.Table).Remove
def p61 (P : Program) (K : Value → World → Prop) (x0 : Value) (x1 : Value) (x2 : Value) : World → Prop :=
  opS P (S.cl 86 [x0, x1, x2]) fun x3 =>
  opS P (S.un .not x3) fun x4 =>
  brn x4 (
    K (.int .i64 1)
  ) (
    opS P (S.cl 87 [x0, x1, x2]) fun x5 =>
    opS P (S.binI .lss x5 (.int .i64 0)) fun x6 =>
    brn x6 (
      K (.int .i64 4)
    ) (
      drw <|
      opS P (S.nc x0) fun x7 =>
      opS P (S.fa 141 x7 1) fun x8 =>
      opS P (S.nc x0) fun x9 =>
      opS P (S.fa 141 x9 1) fun x10 =>
      opS P (S.binI .add x5 (.int .i64 1)) fun x11 =>
      allW (
        opS P (S.buildS 139 0 []) fun x12 =>
        opS P (S.ld 139 x8) fun x13 =>
        opS P (S.slc 139 x13 none (some x5) none) fun x14 =>
        allW (
          opS P (S.bi .append #[139, 139] 139 [x12, x14]) fun x15 =>
          opS P (S.ld 139 x10) fun x16 =>
          opS P (S.slc 139 x16 (some x11) none none) fun x17 =>
          opS P (S.bi .append #[139, 139] 139 [x15, x17]) fun x18 =>
          opS P (S.nc x0) fun x19 =>
          opS P (S.fa 141 x19 1) fun x20 =>
          opS P (S.st 139 x20 x18) fun x21 =>
          K (.int .i64 0)
        ) (
          opS P (S.ld 139 x10) fun x15 =>
          opS P (S.bi .append #[139, 139] 139 [x12, x14]) fun x16 =>
          opS P (S.slc 139 x15 (some x11) none none) fun x17 =>
          opS P (S.bi .append #[139, 139] 139 [x16, x17]) fun x18 =>
          opS P (S.nc x0) fun x19 =>
          opS P (S.fa 141 x19 1) fun x20 =>
          opS P (S.st 139 x20 x18) fun x21 =>
          K (.int .i64 0)
        )
      ) (
        allW (
          opS P (S.ld 139 x8) fun x12 =>
          opS P (S.slc 139 x12 none (some x5) none) fun x13 =>
          allW (
            opS P (S.buildS 139 0 []) fun x14 =>
            allW (
              opS P (S.bi .append #[139, 139] 139 [x14, x13]) fun x15 =>
              opS P (S.ld 139 x10) fun x16 =>
              opS P (S.slc 139 x16 (some x11) none none) fun x17 =>
              opS P (S.bi .append #[139, 139] 139 [x15, x17]) fun x18 =>
              opS P (S.nc x0) fun x19 =>
              opS P (S.fa 141 x19 1) fun x20 =>
              opS P (S.st 139 x20 x18) fun x21 =>
              K (.int .i64 0)
            ) (
              opS P (S.ld 139 x10) fun x15 =>
              opS P (S.bi .append #[139, 139] 139 [x14, x13]) fun x16 =>
              opS P (S.slc 139 x15 (some x11) none none) fun x17 =>
              opS P (S.bi .append #[139, 139] 139 [x16, x17]) fun x18 =>
              opS P (S.nc x0) fun x19 =>
              opS P (S.fa 141 x19 1) fun x20 =>
              opS P (S.st 139 x20 x18) fun x21 =>
              K (.int .i64 0)
            )
          ) (
            opS P (S.ld 139 x10) fun x14 =>
            opS P (S.buildS 139 0 []) fun x15 =>
            opS P (S.bi .append #[139, 139] 139 [x15, x13]) fun x16 =>
            opS P (S.slc 139 x14 (some x11) none none) fun x17 =>
            opS P (S.bi .append #[139, 139] 139 [x16, x17]) fun x18 =>
            opS P (S.nc x0) fun x19 =>
            opS P (S.fa 141 x19 1) fun x20 =>
            opS P (S.st 139 x20 x18) fun x21 =>
            K (.int .i64 0)
          )
        ) (
          opS P (S.ld 139 x10) fun x12 =>
          opS P (S.slc 139 x12 (some x11) none none) fun x13 =>
          allW (
            opS P (S.buildS 139 0 []) fun x14 =>
            opS P (S.ld 139 x8) fun x15 =>
            opS P (S.slc 139 x15 none (some x5) none) fun x16 =>
            opS P (S.bi .append #[139, 139] 139 [x14, x16]) fun x17 =>
            opS P (S.bi .append #[139, 139] 139 [x17, x13]) fun x18 =>
            opS P (S.nc x0) fun x19 =>
            opS P (S.fa 141 x19 1) fun x20 =>
            opS P (S.st 139 x20 x18) fun x21 =>
            K (.int .i64 0)
          ) (
            opS P (S.ld 139 x8) fun x14 =>
            opS P (S.buildS 139 0 []) fun x15 =>
            opS P (S.slc 139 x14 none (some x5) none) fun x16 =>
            opS P (S.bi .append #[139, 139] 139 [x15, x16]) fun x17 =>
            opS P (S.bi .append #[139, 139] 139 [x17, x13]) fun x18 =>
            opS P (S.nc x0) fun x19 =>
            opS P (S.fa 141 x19 1) fun x20 =>
            opS P (S.st 139 x20 x18) fun x21 =>
            K (.int .i64 0)
          )
        )
      )
    )
  )
instance fnb61 : FnB Tryz.prog 61 := ⟨Tryz.call61⟩
theorem e61 : p61 Tryz.prog = fun K x0 x1 x2 => denF Tryz.prog Tryz.f61 [x0, x1, x2] K := by kernel_rfl
theorem c61 {K : Value → World → Prop} {x0 x1 x2 : Value} {w : World} (h : p61 Tryz.prog K x0 x1 x2 w) : CallsR Tryz.prog 61 #[x0, x1, x2] K w := by
  rw [e61] at h
  exact denF_sound mixed Tryz.func61 h

-- gemel/ether.Right
def p69 (P : Program) (K : Value → World → Prop) (x0 : Value) : World → Prop :=
  opS P (S.box 27 x0) fun x1 =>
  opS P (S.fa 27 x1 5) fun x2 =>
  opS P (S.ld 3 x2) fun x3 =>
  opS P (S.binI .lss x3 (.int .i64 1536)) fun x4 =>
  brn x4 (
    K (.bool false)
  ) (
    opS P (S.fa 27 x1 5) fun x5 =>
    opS P (S.ld 3 x5) fun x6 =>
    opS P (S.binI .gtr x6 (.int .i64 65535)) fun x7 =>
    brn x7 (
      K (.bool false)
    ) (
      opS P (S.fa 27 x1 5) fun x8 =>
      opS P (S.ld 3 x8) fun x9 =>
      opS P (S.binI .eql x9 (.int .i64 33024)) fun x10 =>
      brn x10 (
        K (.bool false)
      ) (
        opS P (S.fa 27 x1 6) fun x11 =>
        opS P (S.ld 25 x11) fun x12 =>
        opS P (S.len x12) fun x13 =>
        opS P (S.binI .gtr x13 (.int .i64 1500)) fun x14 =>
        brn x14 (
          K (.bool false)
        ) (
          opS P (S.fa 27 x1 2) fun x15 =>
          opS P (S.ld 4 x15) fun x16 =>
          opS P (S.un .not x16) fun x17 =>
          brn x17 (
            jnJ 1 (fun x18 =>
              K x18
            ) fun j0 =>
            opS P (S.fa 27 x1 3) fun x18 =>
            opS P (S.ld 3 x18) fun x19 =>
            opS P (S.binI .eql x19 (.int .i64 0)) fun x20 =>
            brn x20 (
              opS P (S.fa 27 x1 4) fun x21 =>
              opS P (S.ld 3 x21) fun x22 =>
              opS P (S.binI .eql x22 (.int .i64 0)) fun x23 =>
              j0 x23
            ) (
              j0 (.bool false)
            )
          ) (
            opS P (S.fa 27 x1 3) fun x18 =>
            opS P (S.ld 3 x18) fun x19 =>
            opS P (S.binI .geq x19 (.int .i64 0)) fun x20 =>
            brn x20 (
              opS P (S.fa 27 x1 3) fun x21 =>
              opS P (S.ld 3 x21) fun x22 =>
              opS P (S.binI .leq x22 (.int .i64 4094)) fun x23 =>
              brn x23 (
                opS P (S.fa 27 x1 4) fun x24 =>
                opS P (S.ld 3 x24) fun x25 =>
                opS P (S.binI .geq x25 (.int .i64 0)) fun x26 =>
                brn x26 (
                  opS P (S.fa 27 x1 4) fun x27 =>
                  opS P (S.ld 3 x27) fun x28 =>
                  opS P (S.binI .leq x28 (.int .i64 7)) fun x29 =>
                  K x29
                ) (
                  K (.bool false)
                )
              ) (
                K (.bool false)
              )
            ) (
              K (.bool false)
            )
          )
        )
      )
    )
  )
instance fnb69 : FnB Tryz.prog 69 := ⟨Tryz.call69⟩
theorem e69 : p69 Tryz.prog = fun K x0 => denF Tryz.prog Tryz.f69 [x0] K := by kernel_rfl
theorem c69 {K : Value → World → Prop} {x0 : Value} {w : World} (h : p69 Tryz.prog K x0 w) : CallsR Tryz.prog 69 #[x0] K w := by
  rw [e69] at h
  exact denF_sound mixed Tryz.func69 h

-- (*gemel/vlan.Table).In
def p71 (P : Program) (K : Value → World → Prop) (x0 : Value) (x1 : Value) (x2 : Value) : World → Prop :=
  opS P (S.box 27 x2) fun x3 =>
  opS P (S.cl 88 [x0, x1]) fun x4 =>
  opS P (S.un .not x4) fun x5 =>
  brn x5 (
    K (.tuple #[(.int .i64 0), (.int .i64 1)])
  ) (
    opS P (S.ld 27 x3) fun x6 =>
    opS P (S.cl 69 [x6]) fun x7 =>
    opS P (S.un .not x7) fun x8 =>
    brn x8 (
      K (.tuple #[(.int .i64 0), (.int .i64 1)])
    ) (
      opS P (S.fa 27 x3 3) fun x9 =>
      opS P (S.ld 3 x9) fun x10 =>
      jnJ 1 (fun x11 =>
        opS P (S.nc x0) fun x12 =>
        opS P (S.fa 122 x12 0) fun x13 =>
        opS P (S.ld 120 x13) fun x14 =>
        opS P (S.build 125 [(0, x11), (1, x1)]) fun x15 =>
        opS P (S.lk 120 x14 x15 true) fun x16 =>
        opS P (S.ext x16 0) fun x17 =>
        opS P (S.ext x16 1) fun x18 =>
        opS P (S.un .not x18) fun x19 =>
        brn x19 (
          K (.tuple #[(.int .i64 0), (.int .i64 4)])
        ) (
          K (.tuple #[x11, (.int .i64 0)])
        )
      ) fun j0 =>
      opS P (S.binI .eql x10 (.int .i64 0)) fun x11 =>
      brn x11 (
        opS P (S.nc x0) fun x12 =>
        opS P (S.fa 122 x12 1) fun x13 =>
        opS P (S.ld 70 x13) fun x14 =>
        opS P (S.ia 70 x14 x1) fun x15 =>
        opS P (S.ld 3 x15) fun x16 =>
        j0 x16
      ) (
        j0 x10
      )
    )
  )
instance fnb71 : FnB Tryz.prog 71 := ⟨Tryz.call71⟩
theorem e71 : p71 Tryz.prog = fun K x0 x1 x2 => denF Tryz.prog Tryz.f71 [x0, x1, x2] K := by kernel_rfl
theorem c71 {K : Value → World → Prop} {x0 x1 x2 : Value} {w : World} (h : p71 Tryz.prog K x0 x1 x2 w) : CallsR Tryz.prog 71 #[x0, x1, x2] K w := by
  rw [e71] at h
  exact denF_sound mixed Tryz.func71 h

-- (*gemel/vlan.Table).Out
def p77 (P : Program) (K : Value → World → Prop) (x0 : Value) (x1 : Value) (x2 : Value) (x3 : Value) : World → Prop :=
  opS P (S.box 27 x3) fun x4 =>
  opS P (S.alloc 27) fun x5 =>
  opS P (S.cl 85 [x0, x1, x2]) fun x6 =>
  opS P (S.un .not x6) fun x7 =>
  brn x7 (
    opS P (S.build 27 []) fun x8 =>
    opS P (S.st 27 x5 x8) fun x9 =>
    opS P (S.ld 27 x5) fun x10 =>
    K (.tuple #[x10, (.int .i64 1)])
  ) (
    opS P (S.ld 27 x4) fun x8 =>
    opS P (S.cl 69 [x8]) fun x9 =>
    opS P (S.un .not x9) fun x10 =>
    brn x10 (
      opS P (S.build 27 []) fun x11 =>
      opS P (S.st 27 x5 x11) fun x12 =>
      opS P (S.ld 27 x5) fun x13 =>
      K (.tuple #[x13, (.int .i64 1)])
    ) (
      opS P (S.nc x0) fun x11 =>
      opS P (S.fa 122 x11 0) fun x12 =>
      opS P (S.ld 120 x12) fun x13 =>
      opS P (S.build 125 [(0, x1), (1, x2)]) fun x14 =>
      opS P (S.lk 120 x13 x14 true) fun x15 =>
      opS P (S.ext x15 0) fun x16 =>
      opS P (S.ext x15 1) fun x17 =>
      opS P (S.un .not x17) fun x18 =>
      brn x18 (
        opS P (S.build 27 []) fun x19 =>
        opS P (S.st 27 x5 x19) fun x20 =>
        opS P (S.ld 27 x5) fun x21 =>
        K (.tuple #[x21, (.int .i64 4)])
      ) (
        brn x16 (
          opS P (S.ld 27 x4) fun x19 =>
          opS P (S.fa 27 x4 4) fun x20 =>
          opS P (S.ld 3 x20) fun x21 =>
          opS P (S.cl 100 [x19, x1, x21]) fun x22 =>
          opS P (S.ext x22 0) fun x23 =>
          opS P (S.ext x22 1) fun x24 =>
          opS P (S.st 27 x5 x23) fun x25 =>
          opS P (S.ld 27 x5) fun x26 =>
          K (.tuple #[x26, x24])
        ) (
          opS P (S.ld 27 x4) fun x19 =>
          opS P (S.cl 101 [x19]) fun x20 =>
          opS P (S.st 27 x5 x20) fun x21 =>
          opS P (S.ld 27 x5) fun x22 =>
          K (.tuple #[x22, (.int .i64 0)])
        )
      )
    )
  )
instance fnb77 : FnB Tryz.prog 77 := ⟨Tryz.call77⟩
theorem e77 : p77 Tryz.prog = fun K x0 x1 x2 x3 => denF Tryz.prog Tryz.f77 [x0, x1, x2, x3] K := by kernel_rfl
theorem c77 {K : Value → World → Prop} {x0 x1 x2 x3 : Value} {w : World} (h : p77 Tryz.prog K x0 x1 x2 x3 w) : CallsR Tryz.prog 77 #[x0, x1, x2, x3] K w := by
  rw [e77] at h
  exact denF_sound mixed Tryz.func77 h

-- (*gemel/vlan.Table).right
def p85 (P : Program) (K : Value → World → Prop) (x0 : Value) (x1 : Value) (x2 : Value) : World → Prop :=
  opS P (S.binI .geq x1 (.int .i64 1)) fun x3 =>
  brn x3 (
    opS P (S.binI .leq x1 (.int .i64 4094)) fun x4 =>
    brn x4 (
      opS P (S.cl 88 [x0, x2]) fun x5 =>
      K x5
    ) (
      K (.bool false)
    )
  ) (
    K (.bool false)
  )
instance fnb85 : FnB Tryz.prog 85 := ⟨Tryz.call85⟩
theorem e85 : p85 Tryz.prog = fun K x0 x1 x2 => denF Tryz.prog Tryz.f85 [x0, x1, x2] K := by kernel_rfl
theorem c85 {K : Value → World → Prop} {x0 x1 x2 : Value} {w : World} (h : p85 Tryz.prog K x0 x1 x2 w) : CallsR Tryz.prog 85 #[x0, x1, x2] K w := by
  rw [e85] at h
  exact denF_sound mixed Tryz.func85 h

-- (*gemel/gemelref07.Table).right
def p86 (P : Program) (K : Value → World → Prop) (x0 : Value) (x1 : Value) (x2 : Value) : World → Prop :=
  opS P (S.binI .geq x1 (.int .i64 1)) fun x3 =>
  brn x3 (
    opS P (S.binI .leq x1 (.int .i64 4094)) fun x4 =>
    brn x4 (
      opS P (S.binI .geq x2 (.int .i64 0)) fun x5 =>
      brn x5 (
        opS P (S.nc x0) fun x6 =>
        opS P (S.fa 141 x6 0) fun x7 =>
        opS P (S.ld 3 x7) fun x8 =>
        opS P (S.binI .lss x2 x8) fun x9 =>
        K x9
      ) (
        K (.bool false)
      )
    ) (
      K (.bool false)
    )
  ) (
    K (.bool false)
  )
instance fnb86 : FnB Tryz.prog 86 := ⟨Tryz.call86⟩
theorem e86 : p86 Tryz.prog = fun K x0 x1 x2 => denF Tryz.prog Tryz.f86 [x0, x1, x2] K := by kernel_rfl
theorem c86 {K : Value → World → Prop} {x0 x1 x2 : Value} {w : World} (h : p86 Tryz.prog K x0 x1 x2 w) : CallsR Tryz.prog 86 #[x0, x1, x2] K w := by
  rw [e86] at h
  exact denF_sound mixed Tryz.func86 h

-- (*gemel/gemelref07.Table).Find
def p87 (P : Program) (K : Value → World → Prop) (x0 : Value) (x1 : Value) (x2 : Value) : World → Prop :=
  jnJ 0 (
    K (.int .i64 (-1))
  ) fun j0 =>
  loopJ 1 (fun j1 x3 =>
    opS P (S.nc x0) fun x4 =>
    opS P (S.fa 141 x4 1) fun x5 =>
    opS P (S.ld 139 x5) fun x6 =>
    opS P (S.len x6) fun x7 =>
    opS P (S.binI .lss x3 x7) fun x8 =>
    brn x8 (
      opS P (S.nc x0) fun x9 =>
      opS P (S.fa 141 x9 1) fun x10 =>
      opS P (S.ld 139 x10) fun x11 =>
      opS P (S.ia 139 x11 x3) fun x12 =>
      opS P (S.fa 144 x12 0) fun x13 =>
      opS P (S.ld 3 x13) fun x14 =>
      opS P (S.binI .eql x14 x1) fun x15 =>
      brn x15 (
        opS P (S.nc x0) fun x16 =>
        opS P (S.fa 141 x16 1) fun x17 =>
        opS P (S.ld 139 x17) fun x18 =>
        opS P (S.ia 139 x18 x3) fun x19 =>
        opS P (S.fa 144 x19 1) fun x20 =>
        opS P (S.ld 3 x20) fun x21 =>
        opS P (S.binI .eql x21 x2) fun x22 =>
        brn x22 (
          K x3
        ) (
          opS P (S.binI .add x3 (.int .i64 1)) fun x23 =>
          j1 x23
        )
      ) (
        opS P (S.binI .add x3 (.int .i64 1)) fun x16 =>
        j1 x16
      )
    ) (
      j0
    )
  ) (.int .i64 0)
instance fnb87 : FnB Tryz.prog 87 := ⟨Tryz.call87⟩
theorem e87 : p87 Tryz.prog = fun K x0 x1 x2 => denF Tryz.prog Tryz.f87 [x0, x1, x2] K := by kernel_rfl
theorem c87 {K : Value → World → Prop} {x0 x1 x2 : Value} {w : World} (h : p87 Tryz.prog K x0 x1 x2 w) : CallsR Tryz.prog 87 #[x0, x1, x2] K w := by
  rw [e87] at h
  exact denF_sound mixed Tryz.func87 h

-- (*gemel/vlan.Table).port
def p88 (P : Program) (K : Value → World → Prop) (x0 : Value) (x1 : Value) : World → Prop :=
  opS P (S.binI .geq x1 (.int .i64 0)) fun x2 =>
  brn x2 (
    opS P (S.nc x0) fun x3 =>
    opS P (S.fa 122 x3 1) fun x4 =>
    opS P (S.ld 70 x4) fun x5 =>
    opS P (S.len x5) fun x6 =>
    opS P (S.binI .lss x1 x6) fun x7 =>
    K x7
  ) (
    K (.bool false)
  )
instance fnb88 : FnB Tryz.prog 88 := ⟨Tryz.call88⟩
theorem e88 : p88 Tryz.prog = fun K x0 x1 => denF Tryz.prog Tryz.f88 [x0, x1] K := by kernel_rfl
theorem c88 {K : Value → World → Prop} {x0 x1 : Value} {w : World} (h : p88 Tryz.prog K x0 x1 w) : CallsR Tryz.prog 88 #[x0, x1] K w := by
  rw [e88] at h
  exact denF_sound mixed Tryz.func88 h

-- (*gemel/gemelref07.Table).Out
def p98 (P : Program) (K : Value → World → Prop) (x0 : Value) (x1 : Value) (x2 : Value) (x3 : Value) : World → Prop :=
  opS P (S.box 27 x3) fun x4 =>
  opS P (S.alloc 27) fun x5 =>
  opS P (S.ld 27 x4) fun x6 =>
  opS P (S.cl 113 [x6]) fun x7 =>
  opS P (S.cl 86 [x0, x1, x2]) fun x8 =>
  opS P (S.un .not x7) fun x9 =>
  brn x9 (
    opS P (S.build 27 []) fun x10 =>
    opS P (S.st 27 x5 x10) fun x11 =>
    opS P (S.ld 27 x5) fun x12 =>
    K (.tuple #[x12, (.int .i64 1)])
  ) (
    opS P (S.un .not x8) fun x10 =>
    brn x10 (
      opS P (S.build 27 []) fun x11 =>
      opS P (S.st 27 x5 x11) fun x12 =>
      opS P (S.ld 27 x5) fun x13 =>
      K (.tuple #[x13, (.int .i64 1)])
    ) (
      opS P (S.cl 87 [x0, x1, x2]) fun x11 =>
      opS P (S.binI .lss x11 (.int .i64 0)) fun x12 =>
      brn x12 (
        opS P (S.build 27 []) fun x13 =>
        opS P (S.st 27 x5 x13) fun x14 =>
        opS P (S.ld 27 x5) fun x15 =>
        K (.tuple #[x15, (.int .i64 4)])
      ) (
        opS P (S.nc x0) fun x13 =>
        opS P (S.fa 141 x13 1) fun x14 =>
        opS P (S.ld 139 x14) fun x15 =>
        opS P (S.ia 139 x15 x11) fun x16 =>
        opS P (S.fa 144 x16 2) fun x17 =>
        opS P (S.ld 4 x17) fun x18 =>
        brn x18 (
          opS P (S.ld 27 x4) fun x19 =>
          opS P (S.fa 27 x4 4) fun x20 =>
          opS P (S.ld 3 x20) fun x21 =>
          opS P (S.cl 121 [x19, x1, x21]) fun x22 =>
          opS P (S.ext x22 0) fun x23 =>
          opS P (S.ext x22 1) fun x24 =>
          opS P (S.alloc 27) fun x25 =>
          opS P (S.st 27 x25 x23) fun x26 =>
          opS P (S.ld 27 x25) fun x27 =>
          opS P (S.st 27 x5 x27) fun x28 =>
          opS P (S.ld 27 x5) fun x29 =>
          K (.tuple #[x29, (.int .i64 0)])
        ) (
          opS P (S.ld 27 x4) fun x19 =>
          opS P (S.cl 122 [x19]) fun x20 =>
          opS P (S.st 27 x5 x20) fun x21 =>
          opS P (S.ld 27 x5) fun x22 =>
          K (.tuple #[x22, (.int .i64 0)])
        )
      )
    )
  )
instance fnb98 : FnB Tryz.prog 98 := ⟨Tryz.call98⟩
theorem e98 : p98 Tryz.prog = fun K x0 x1 x2 x3 => denF Tryz.prog Tryz.f98 [x0, x1, x2, x3] K := by kernel_rfl
theorem c98 {K : Value → World → Prop} {x0 x1 x2 x3 : Value} {w : World} (h : p98 Tryz.prog K x0 x1 x2 x3 w) : CallsR Tryz.prog 98 #[x0, x1, x2, x3] K w := by
  rw [e98] at h
  exact denF_sound mixed Tryz.func98 h

-- gemel/ether.Tag
def p100 (P : Program) (K : Value → World → Prop) (x0 : Value) (x1 : Value) (x2 : Value) : World → Prop :=
  opS P (S.box 27 x0) fun x3 =>
  opS P (S.alloc 27) fun x4 =>
  opS P (S.fa 27 x3 2) fun x5 =>
  opS P (S.st 4 x5 (.bool true)) fun x6 =>
  opS P (S.fa 27 x3 3) fun x7 =>
  opS P (S.st 3 x7 x1) fun x8 =>
  opS P (S.fa 27 x3 4) fun x9 =>
  opS P (S.st 3 x9 x2) fun x10 =>
  opS P (S.ld 27 x3) fun x11 =>
  opS P (S.cl 69 [x11]) fun x12 =>
  opS P (S.un .not x12) fun x13 =>
  brn x13 (
    opS P (S.build 27 []) fun x14 =>
    opS P (S.st 27 x4 x14) fun x15 =>
    opS P (S.ld 27 x4) fun x16 =>
    K (.tuple #[x16, (.int .i64 1)])
  ) (
    opS P (S.ld 27 x3) fun x14 =>
    opS P (S.st 27 x4 x14) fun x15 =>
    opS P (S.ld 27 x4) fun x16 =>
    K (.tuple #[x16, (.int .i64 0)])
  )
instance fnb100 : FnB Tryz.prog 100 := ⟨Tryz.call100⟩
theorem e100 : p100 Tryz.prog = fun K x0 x1 x2 => denF Tryz.prog Tryz.f100 [x0, x1, x2] K := by kernel_rfl
theorem c100 {K : Value → World → Prop} {x0 x1 x2 : Value} {w : World} (h : p100 Tryz.prog K x0 x1 x2 w) : CallsR Tryz.prog 100 #[x0, x1, x2] K w := by
  rw [e100] at h
  exact denF_sound mixed Tryz.func100 h

-- gemel/ether.Untag
def p101 (P : Program) (K : Value → World → Prop) (x0 : Value) : World → Prop :=
  opS P (S.box 27 x0) fun x1 =>
  opS P (S.alloc 27) fun x2 =>
  opS P (S.fa 27 x1 2) fun x3 =>
  opS P (S.st 4 x3 (.bool false)) fun x4 =>
  opS P (S.fa 27 x1 3) fun x5 =>
  opS P (S.st 3 x5 (.int .i64 0)) fun x6 =>
  opS P (S.fa 27 x1 4) fun x7 =>
  opS P (S.st 3 x7 (.int .i64 0)) fun x8 =>
  opS P (S.ld 27 x1) fun x9 =>
  opS P (S.st 27 x2 x9) fun x10 =>
  opS P (S.ld 27 x2) fun x11 =>
  K x11
instance fnb101 : FnB Tryz.prog 101 := ⟨Tryz.call101⟩
theorem e101 : p101 Tryz.prog = fun K x0 => denF Tryz.prog Tryz.f101 [x0] K := by kernel_rfl
theorem c101 {K : Value → World → Prop} {x0 : Value} {w : World} (h : p101 Tryz.prog K x0 w) : CallsR Tryz.prog 101 #[x0] K w := by
  rw [e101] at h
  exact denF_sound mixed Tryz.func101 h

-- gemel/gemelref02.Right
def p113 (P : Program) (K : Value → World → Prop) (x0 : Value) : World → Prop :=
  opS P (S.box 27 x0) fun x1 =>
  opS P (S.fa 27 x1 5) fun x2 =>
  opS P (S.ld 3 x2) fun x3 =>
  opS P (S.binI .lss x3 (.int .i64 1536)) fun x4 =>
  brn x4 (
    K (.bool false)
  ) (
    opS P (S.fa 27 x1 5) fun x5 =>
    opS P (S.ld 3 x5) fun x6 =>
    opS P (S.binI .gtr x6 (.int .i64 65535)) fun x7 =>
    brn x7 (
      K (.bool false)
    ) (
      opS P (S.fa 27 x1 5) fun x8 =>
      opS P (S.ld 3 x8) fun x9 =>
      opS P (S.binI .eql x9 (.int .i64 33024)) fun x10 =>
      brn x10 (
        K (.bool false)
      ) (
        opS P (S.fa 27 x1 6) fun x11 =>
        opS P (S.ld 25 x11) fun x12 =>
        opS P (S.len x12) fun x13 =>
        opS P (S.binI .gtr x13 (.int .i64 1500)) fun x14 =>
        brn x14 (
          K (.bool false)
        ) (
          opS P (S.fa 27 x1 2) fun x15 =>
          opS P (S.ld 4 x15) fun x16 =>
          opS P (S.un .not x16) fun x17 =>
          brn x17 (
            jnJ 1 (fun x18 =>
              K x18
            ) fun j0 =>
            opS P (S.fa 27 x1 3) fun x18 =>
            opS P (S.ld 3 x18) fun x19 =>
            opS P (S.binI .eql x19 (.int .i64 0)) fun x20 =>
            brn x20 (
              opS P (S.fa 27 x1 4) fun x21 =>
              opS P (S.ld 3 x21) fun x22 =>
              opS P (S.binI .eql x22 (.int .i64 0)) fun x23 =>
              j0 x23
            ) (
              j0 (.bool false)
            )
          ) (
            opS P (S.fa 27 x1 3) fun x18 =>
            opS P (S.ld 3 x18) fun x19 =>
            opS P (S.binI .geq x19 (.int .i64 0)) fun x20 =>
            brn x20 (
              opS P (S.fa 27 x1 3) fun x21 =>
              opS P (S.ld 3 x21) fun x22 =>
              opS P (S.binI .leq x22 (.int .i64 4094)) fun x23 =>
              brn x23 (
                opS P (S.fa 27 x1 4) fun x24 =>
                opS P (S.ld 3 x24) fun x25 =>
                opS P (S.binI .geq x25 (.int .i64 0)) fun x26 =>
                brn x26 (
                  opS P (S.fa 27 x1 4) fun x27 =>
                  opS P (S.ld 3 x27) fun x28 =>
                  opS P (S.binI .leq x28 (.int .i64 7)) fun x29 =>
                  K x29
                ) (
                  K (.bool false)
                )
              ) (
                K (.bool false)
              )
            ) (
              K (.bool false)
            )
          )
        )
      )
    )
  )
instance fnb113 : FnB Tryz.prog 113 := ⟨Tryz.call113⟩
theorem e113 : p113 Tryz.prog = fun K x0 => denF Tryz.prog Tryz.f113 [x0] K := by kernel_rfl
theorem c113 {K : Value → World → Prop} {x0 : Value} {w : World} (h : p113 Tryz.prog K x0 w) : CallsR Tryz.prog 113 #[x0] K w := by
  rw [e113] at h
  exact denF_sound mixed Tryz.func113 h

-- (*gemel/gemelref07.Table).In
def p115 (P : Program) (K : Value → World → Prop) (x0 : Value) (x1 : Value) (x2 : Value) : World → Prop :=
  opS P (S.box 27 x2) fun x3 =>
  opS P (S.ld 27 x3) fun x4 =>
  opS P (S.cl 113 [x4]) fun x5 =>
  opS P (S.un .not x5) fun x6 =>
  brn x6 (
    K (.tuple #[(.int .i64 0), (.int .i64 1)])
  ) (
    opS P (S.binI .lss x1 (.int .i64 0)) fun x7 =>
    brn x7 (
      K (.tuple #[(.int .i64 0), (.int .i64 1)])
    ) (
      opS P (S.nc x0) fun x8 =>
      opS P (S.fa 141 x8 0) fun x9 =>
      opS P (S.ld 3 x9) fun x10 =>
      opS P (S.binI .geq x1 x10) fun x11 =>
      brn x11 (
        K (.tuple #[(.int .i64 0), (.int .i64 1)])
      ) (
        opS P (S.nc x0) fun x12 =>
        opS P (S.fa 141 x12 2) fun x13 =>
        opS P (S.ld 70 x13) fun x14 =>
        opS P (S.ia 70 x14 x1) fun x15 =>
        opS P (S.ld 3 x15) fun x16 =>
        jnJ 1 (fun x17 =>
          opS P (S.binI .eql x17 (.int .i64 0)) fun x18 =>
          brn x18 (
            K (.tuple #[(.int .i64 0), (.int .i64 4)])
          ) (
            opS P (S.cl 87 [x0, x17, x1]) fun x19 =>
            opS P (S.binI .lss x19 (.int .i64 0)) fun x20 =>
            brn x20 (
              K (.tuple #[(.int .i64 0), (.int .i64 4)])
            ) (
              K (.tuple #[x17, (.int .i64 0)])
            )
          )
        ) fun j0 =>
        jnJ 0 (
          j0 x16
        ) fun j1 =>
        opS P (S.fa 27 x3 2) fun x17 =>
        opS P (S.ld 4 x17) fun x18 =>
        brn x18 (
          opS P (S.fa 27 x3 3) fun x19 =>
          opS P (S.ld 3 x19) fun x20 =>
          opS P (S.binI .neq x20 (.int .i64 0)) fun x21 =>
          brn x21 (
            opS P (S.fa 27 x3 3) fun x22 =>
            opS P (S.ld 3 x22) fun x23 =>
            j0 x23
          ) (
            j1
          )
        ) (
          j1
        )
      )
    )
  )
instance fnb115 : FnB Tryz.prog 115 := ⟨Tryz.call115⟩
theorem e115 : p115 Tryz.prog = fun K x0 x1 x2 => denF Tryz.prog Tryz.f115 [x0, x1, x2] K := by kernel_rfl
theorem c115 {K : Value → World → Prop} {x0 x1 x2 : Value} {w : World} (h : p115 Tryz.prog K x0 x1 x2 w) : CallsR Tryz.prog 115 #[x0, x1, x2] K w := by
  rw [e115] at h
  exact denF_sound mixed Tryz.func115 h

-- gemel/gemelref02.Tag
def p121 (P : Program) (K : Value → World → Prop) (x0 : Value) (x1 : Value) (x2 : Value) : World → Prop :=
  opS P (S.box 27 x0) fun x3 =>
  opS P (S.alloc 27) fun x4 =>
  opS P (S.fa 27 x3 2) fun x5 =>
  opS P (S.st 4 x5 (.bool true)) fun x6 =>
  opS P (S.fa 27 x3 3) fun x7 =>
  opS P (S.st 3 x7 x1) fun x8 =>
  opS P (S.fa 27 x3 4) fun x9 =>
  opS P (S.st 3 x9 x2) fun x10 =>
  opS P (S.ld 27 x3) fun x11 =>
  opS P (S.cl 113 [x11]) fun x12 =>
  opS P (S.un .not x12) fun x13 =>
  brn x13 (
    opS P (S.build 27 []) fun x14 =>
    opS P (S.st 27 x4 x14) fun x15 =>
    opS P (S.ld 27 x4) fun x16 =>
    K (.tuple #[x16, (.int .i64 1)])
  ) (
    opS P (S.ld 27 x3) fun x14 =>
    opS P (S.st 27 x4 x14) fun x15 =>
    opS P (S.ld 27 x4) fun x16 =>
    K (.tuple #[x16, (.int .i64 0)])
  )
instance fnb121 : FnB Tryz.prog 121 := ⟨Tryz.call121⟩
theorem e121 : p121 Tryz.prog = fun K x0 x1 x2 => denF Tryz.prog Tryz.f121 [x0, x1, x2] K := by kernel_rfl
theorem c121 {K : Value → World → Prop} {x0 x1 x2 : Value} {w : World} (h : p121 Tryz.prog K x0 x1 x2 w) : CallsR Tryz.prog 121 #[x0, x1, x2] K w := by
  rw [e121] at h
  exact denF_sound mixed Tryz.func121 h

-- gemel/gemelref02.Untag
def p122 (P : Program) (K : Value → World → Prop) (x0 : Value) : World → Prop :=
  opS P (S.box 27 x0) fun x1 =>
  opS P (S.alloc 27) fun x2 =>
  opS P (S.fa 27 x1 2) fun x3 =>
  opS P (S.st 4 x3 (.bool false)) fun x4 =>
  opS P (S.fa 27 x1 3) fun x5 =>
  opS P (S.st 3 x5 (.int .i64 0)) fun x6 =>
  opS P (S.fa 27 x1 4) fun x7 =>
  opS P (S.st 3 x7 (.int .i64 0)) fun x8 =>
  opS P (S.ld 27 x1) fun x9 =>
  opS P (S.st 27 x2 x9) fun x10 =>
  opS P (S.ld 27 x2) fun x11 =>
  K x11
instance fnb122 : FnB Tryz.prog 122 := ⟨Tryz.call122⟩
theorem e122 : p122 Tryz.prog = fun K x0 => denF Tryz.prog Tryz.f122 [x0] K := by kernel_rfl
theorem c122 {K : Value → World → Prop} {x0 : Value} {w : World} (h : p122 Tryz.prog K x0 w) : CallsR Tryz.prog 122 #[x0] K w := by
  rw [e122] at h
  exact denF_sound mixed Tryz.func122 h

end Go.Gx.S
-- 69 113 100 121 101 122 40 50 88 85 56 60 58 30 71 77 53 86 87 57 61 59 115 98 31
end

section
/- Maps: what they hold; looking up, putting, deleting, going through. -/
namespace Go.Gx
open Go Go.Maps
variable {P : Program} {K : Value → World → Prop} {w : World}

/-- keys of a type, as values of a Lean type -/
class KeyC (P : Program) (T : TypeId) (κ : outParam Type) (kc : outParam (κ → Value)) (ok : outParam (κ → Prop)) : Prop where
  law : Keyed P T
  of : ∀ k, ok k → ∃ l, keyOf P T (kc k) = some l
  inj : ∀ a b, kc a = kc b → a = b

section
variable {κ ν : Type} {kc : κ → Value} {vc : ν → Value} {kok : κ → Prop}

structure MHolds (kc : κ → Value) (vc : ν → Value) (kok : κ → Prop) (es : List MapEntry) (clock : Nat) (l : List (κ × ν)) : Prop where
  same : es.map (fun e => (e.key, e.val)) = l.map fun p => (kc p.1, vc p.2)
  nd : (l.map Prod.fst).Nodup
  ok : ∀ p ∈ l, kok p.1
  born : (es.map (·.born)).Nodup
  lt : ∀ e ∈ es, e.born < clock

/-- a map, in the order in which its keys came -/
def MapR (kc : κ → Value) (vc : ν → Value) (kok : κ → Prop) (w : World) (m : Nat) (l : List (κ × ν)) : Prop :=
  ∃ es clock, w.heap[m]? = some (.map es clock) ∧ MHolds kc vc kok es.toList clock l

theorem MapR.fr {fp : Nat → Prop} {w w' : World} {m : Nat} {l : List (κ × ν)} (h : MapR kc vc kok w m l) (hf : Fr fp w w') (hn : ¬ fp m) : MapR kc vc kok w' m l := by
  obtain ⟨es, clock, hb, hh⟩ := h
  exact ⟨es, clock, hf.heap hb hn, hh⟩
theorem MapR.lt {m : Nat} {l : List (κ × ν)} (h : MapR kc vc kok w m l) : m < w.heap.size := by
  obtain ⟨es, clock, hb, hh⟩ := h
  exact lt_of_heap hb
theorem MapR.drew {m : Nat} {l : List (κ × ν)} (h : MapR kc vc kok w m l) : MapR kc vc kok w.drew m l := h

theorem MHolds.len {es : List MapEntry} {clock : Nat} {l : List (κ × ν)} (h : MHolds kc vc kok es clock l) : es.length = l.length := by
  have := congrArg List.length h.same
  simpa using this
theorem MHolds.at {es : List MapEntry} {clock : Nat} {l : List (κ × ν)} (h : MHolds kc vc kok es clock l) {j : Nat} {e : MapEntry} (he : es[j]? = some e) : ∃ p, l[j]? = some p ∧ e.key = kc p.1 ∧ e.val = vc p.2 := by
  have := congrArg (fun l => l[j]?) h.same
  simp only [List.getElem?_map, he, Option.map_some] at this
  cases hl : l[j]? with
  | none => rw [hl] at this; cases this
  | some p =>
    rw [hl, Option.map_some, Option.some.injEq, Prod.mk.injEq] at this
    exact ⟨p, rfl, this.1, this.2⟩
theorem MHolds.mem {es : List MapEntry} {clock : Nat} {l : List (κ × ν)} (h : MHolds kc vc kok es clock l) {e : MapEntry} (he : e ∈ es) : ∃ p ∈ l, e.key = kc p.1 ∧ e.val = vc p.2 := by
  obtain ⟨j, hj⟩ := List.mem_iff_getElem?.1 he
  obtain ⟨p, hp, h1, h2⟩ := h.at hj
  exact ⟨p, List.mem_of_getElem? hp, h1, h2⟩

variable [DecidableEq κ]

/-- what a key has -/
def getL {κ ν : Type} [DecidableEq κ] : List (κ × ν) → κ → Option ν
  | [], _ => none
  | q :: l, k => match @BEq.beq κ instBEqOfDecidableEq k q.1 with
    | true => some q.2
    | false => getL l k

theorem lookup_of_mem : ∀ {l : List (κ × ν)}, (l.map Prod.fst).Nodup → ∀ {p : κ × ν}, p ∈ l → getL l p.1 = some p.2
  | [], _, _, h => by cases h
  | q :: l, hn, p, h => by
    rw [List.map_cons, List.nodup_cons] at hn
    rcases List.mem_cons.1 h with rfl | h
    · simp [getL]
    · have hne : p.1 ≠ q.1 := fun e => hn.1 (e ▸ List.mem_map_of_mem h)
      have : (p.1 == q.1) = false := by simpa using hne
      rw [getL, this]
      exact lookup_of_mem hn.2 h
theorem lookup_none : ∀ {l : List (κ × ν)} {k : κ}, (∀ p ∈ l, p.1 ≠ k) → getL l k = none
  | [], _, _ => rfl
  | q :: l, k, h => by
    have hne : (k == q.1) = false := by simpa using (h q (List.mem_cons_self ..)).symm
    rw [getL, hne]
    exact lookup_none fun p hp => h p (List.mem_cons_of_mem _ hp)
theorem lookup_some_mem : ∀ {l : List (κ × ν)} {k : κ} {v : ν}, getL l k = some v → (k, v) ∈ l
  | [], _, _, h => by cases h
  | q :: l, k, v, h => by
    rw [getL] at h
    split at h
    · rename_i he
      rw [beq_iff_eq] at he
      cases h
      subst he
      exact List.mem_cons_self ..
    · exact List.mem_cons_of_mem _ (lookup_some_mem h)

/-- a value is put in -/
def setL (l : List (κ × ν)) (k : κ) (v : ν) : List (κ × ν) := if (getL l k).isSome then l.map fun p => if p.1 = k then (k, v) else p else l ++ [(k, v)]
def delL (l : List (κ × ν)) (k : κ) : List (κ × ν) := l.filter fun p => decide (p.1 ≠ k)

theorem lookup_setL (l : List (κ × ν)) (k : κ) (v : ν) (k' : κ) : getL (setL l k v) k' = if k' = k then some v else getL l k' := by
  unfold setL
  split
  · rename_i hs
    by_cases e : k' = k
    · subst e
      rw [if_pos rfl]
      obtain ⟨u, hu⟩ := Option.isSome_iff_exists.1 hs
      clear hs
      induction l with
      | nil => cases hu
      | cons q l ih =>
        rw [getL] at hu
        rw [List.map_cons]
        by_cases hq : q.1 = k'
        · rw [if_pos hq]; simp [getL]
        · have : (k' == q.1) = false := by simpa using fun h => hq h.symm
          rw [this] at hu
          rw [if_neg hq, getL, this]
          exact ih hu
    · rw [if_neg e]
      clear hs
      induction l with
      | nil => rfl
      | cons q l ih =>
        rw [List.map_cons]
        by_cases hq : q.1 = k
        · have h1 : (k' == k) = false := by simpa using e
          have h2 : (k' == q.1) = false := by rw [hq]; exact h1
          rw [if_pos hq, getL, h1, getL, h2]
          exact ih
        · rw [if_neg hq, getL, getL]
          cases (k' == q.1)
          · exact ih
          · rfl
  · rename_i hs
    have hn : getL l k = none := by
      cases hl : getL l k with
      | none => rfl
      | some v => rw [hl] at hs; exact absurd rfl hs
    clear hs
    induction l with
    | nil =>
      by_cases e : k' = k
      · subst e; simp [getL]
      · have : (k' == k) = false := by simpa using e
        simp [getL, this, e]
    | cons q l ih =>
      rw [getL] at hn
      rw [List.cons_append, getL, getL]
      cases hq : (k == q.1) with
      | true => rw [hq] at hn; cases hn
      | false =>
        rw [hq] at hn
        cases h1 : (k' == q.1) with
        | true =>
          have : k' ≠ k := fun e => by
            subst e; rw [hq] at h1; cases h1
          rw [if_neg this]
        | false => exact ih hn

theorem lookup_delL (l : List (κ × ν)) (k k' : κ) : getL (delL l k) k' = if k' = k then none else getL l k' := by
  unfold delL
  induction l with
  | nil => simp [getL]
  | cons q l ih =>
    rw [List.filter_cons]
    by_cases hq : q.1 = k
    · rw [if_neg (by simp [hq]), ih]
      by_cases e : k' = k
      · rw [if_pos e, if_pos e]
      · have : (k' == q.1) = false := by rw [hq]; simpa using e
        rw [if_neg e, if_neg e, getL, this]
    · rw [if_pos (by simpa using hq), getL, getL]
      cases h1 : (k' == q.1) with
      | true =>
        have : k' ≠ k := fun e => hq (by rw [← e]; exact (beq_iff_eq.1 h1).symm)
        rw [if_neg this]
      | false => exact ih

theorem setL_keys (l : List (κ × ν)) (k : κ) (v : ν) : (setL l k v).map Prod.fst = if (getL l k).isSome then l.map Prod.fst else l.map Prod.fst ++ [k] := by
  unfold setL
  split
  · rw [List.map_map]
    apply List.map_congr_left
    intro p _
    simp only [Function.comp]
    split
    · rename_i h; exact h.symm
    · rfl
  · simp

theorem not_key {l : List (κ × ν)} {k : κ} (h : getL l k = none) : ∀ p ∈ l, p.1 ≠ k := by
  intro p hp e
  subst e
  induction l with
  | nil => cases hp
  | cons q l ih =>
    rw [getL] at h
    split at h
    · cases h
    · rename_i hq
      rcases List.mem_cons.1 hp with rfl | hp
      · simp at hq
      · exact ih hp h

/-! ### What is found -/

theorem run_getObj {b : Nat} {o : Obj} (h : w.heap[b]? = some o) (ho : ∀ c T fz, o ≠ .cells c T fz) : (getObj b).run P w = .ok o w := by
  cases o with
  | cells c T fz => exact absurd rfl (ho c T fz)
  | _ => simp [getObj, Sem.run, h]
theorem run_getMap {b : Nat} {es : Array MapEntry} {c : Nat} (h : w.heap[b]? = some (.map es c)) : (getObj b).run P w = .ok (.map es c) w := run_getObj h (by intro c T fz e; cases e)

theorem run_find {KT : TypeId} [hK : KeyC P KT κ kc kok] {es : List MapEntry} {clock : Nat} {l : List (κ × ν)} (h : MHolds kc vc kok es clock l) {k : κ} (hk : kok k) :
    (getL l k = none ∧ (Instr.findKey KT (kc k) es).run P w = .ok none w ∧ ∀ p ∈ l, p.1 ≠ k) ∨
    ∃ j p, l[j]? = some p ∧ p.1 = k ∧ getL l k = some p.2 ∧ (Instr.findKey KT (kc k) es).run P w = .ok (some (j, vc p.2)) w := by
  obtain ⟨lx, hlx⟩ := hK.of k hk
  rcases hK.law.find w hlx es (fun e he => by
    obtain ⟨p, hp, h1, h2⟩ := h.mem he
    rw [h1]; exact hK.of _ (h.ok p hp)) with ⟨h1, h2⟩ | ⟨j, e, h1, h2, h3⟩
  · have hne : ∀ p ∈ l, p.1 ≠ k := by
      intro p hp e
      obtain ⟨j, hj⟩ := List.mem_iff_getElem?.1 hp
      have hlt : j < es.length := by rw [h.len]; exact (List.getElem?_eq_some_iff.1 hj).1
      obtain ⟨p', hp', h3, h4⟩ := h.at (List.getElem?_eq_getElem hlt)
      rw [hj] at hp'
      cases hp'
      exact h2 _ (List.getElem_mem hlt) (by rw [h3, e])
    exact .inl ⟨lookup_none hne, h1, hne⟩
  · obtain ⟨p, hp, h4, h5⟩ := h.at h2
    have hpk : p.1 = k := hK.inj _ _ (by rw [← h4, h3])
    refine .inr ⟨j, p, hp, hpk, ?_, by rw [h1, h5]⟩
    rw [← hpk]
    exact lookup_of_mem h.nd (List.mem_of_getElem? hp)

/-- what is told of a key -/
def got (vc : ν → Value) (z : Value) : Option ν → Value
  | some v => vc v
  | none => z

omit [DecidableEq κ] in
theorem run_check {KT : TypeId} [hK : KeyC P KT κ kc kok] {k : κ} (hk : kok k) (em : Bool) : (Instr.checkKey em 10000 KT (kc k)).run P w = .ok () w := by
  obtain ⟨lx, hlx⟩ := hK.of k hk
  exact hK.law.check w em hlx

theorem s_lk {T KT VT : TypeId} {z : Value} [hT : MpT P T KT VT] [hK : KeyC P KT κ kc kok] [hz : ZV P VT z] {m : Nat} {l : List (κ × ν)} {k : κ} {ok : Bool} (h : MapR kc vc kok w m l) (hk : kok k)
    (hh : K (if ok then .tuple #[got vc z (getL l k), .bool (getL l k).isSome] else got vc z (getL l k)) w) : opS P (S.lk T (.map (some m)) (kc k) ok) K w := by
  obtain ⟨es, clock, hb, hh'⟩ := h
  unfold S.lk
  rw [opS_bind]
  unfold Instr.lookup
  rw [Sem.run_bind, run_underlying_of hT.und, Result.andThen_ok]
  simp only []
  rw [Sem.run_bind, run_getMap hb, Result.andThen_ok]
  simp only [pure_bind]
  rw [Sem.run_bind, run_check hk, Result.andThen_ok]
  rcases run_find (P := P) (w := w) (KT := KT) hh' hk with ⟨h1, h2, _⟩ | ⟨j, p, h1, h2, h3, h4⟩
  · rw [h1] at hh
    simp only [Sem.run_bind, h2, hz.zero w, Result.andThen_ok, Sem.run_pure]
    cases ok <;> exact hh
  · rw [h3] at hh
    simp only [Sem.run_bind, h4, Result.andThen_ok, Sem.run_pure]
    cases ok <;> exact hh

/-! ### What is put in -/

theorem modify_map (es : Array MapEntry) (j : Nat) (f : MapEntry → MapEntry) : (es.modify j f).toList = es.toList.mapIdx fun i e => if i = j then f e else e := by
  apply List.ext_getElem?
  intro i
  rw [List.getElem?_mapIdx, Array.getElem?_toList, Array.getElem?_toList, Array.getElem?_modify]
  by_cases h : j = i
  · subst h; simp
  · have : ¬ i = j := fun e => h e.symm
    simp [h, this]

theorem MHolds.put {es : Array MapEntry} {clock : Nat} {l : List (κ × ν)} (h : MHolds kc vc kok es.toList clock l) {k : κ} {v : ν} {j : Nat} {p : κ × ν} (hj : l[j]? = some p) (hp : p.1 = k) :
    MHolds kc vc kok (es.modify j fun e => { e with key := kc k, val := vc v }).toList clock (setL l k v) := by
  have hl : getL l k = some p.2 := by rw [← hp]; exact lookup_of_mem h.nd (List.mem_of_getElem? hj)
  have hjl := (List.getElem?_eq_some_iff.1 hj).1
  have hset : setL l k v = l.mapIdx fun i q => if i = j then (k, v) else q := by
    unfold setL
    rw [if_pos (by rw [hl]; rfl)]
    apply List.ext_getElem?
    intro i
    rw [List.getElem?_map, List.getElem?_mapIdx]
    cases hq : l[i]? with
    | none => rfl
    | some q =>
      simp only [Option.map_some, Option.some.injEq]
      by_cases e : i = j
      · subst e
        rw [hj] at hq; cases hq
        rw [if_pos hp, if_pos rfl]
      · rw [if_neg e, if_neg]
        intro hqk
        have hi := (List.getElem?_eq_some_iff.1 hq).1
        have h1 : (l.map Prod.fst)[i]'(by simpa using hi) = (l.map Prod.fst)[j]'(by simpa using hjl) := by
          have a1 := (List.getElem?_eq_some_iff.1 hq).2
          have a2 := (List.getElem?_eq_some_iff.1 hj).2
          simp only [List.getElem_map]
          rw [a1, a2, hqk, hp]
        exact e ((List.getElem_inj h.nd).1 h1)
  refine ⟨?_, ?_, ?_, ?_, ?_⟩
  · rw [modify_map, hset]
    apply List.ext_getElem?
    intro i
    have := congrArg (fun l => l[i]?) h.same
    simp only [List.getElem?_map, List.getElem?_mapIdx] at this ⊢
    cases h1 : es.toList[i]? <;> cases h2 : l[i]? <;> rw [h1, h2] at this
    · rfl
    · cases this
    · cases this
    · simp only [Option.map_some, Option.some.injEq] at this ⊢
      split
      · rfl
      · exact this
  · rw [setL_keys, if_pos (by rw [hl]; rfl)]; exact h.nd
  · intro q hq
    rw [hset, List.mem_mapIdx] at hq
    obtain ⟨i, hi, rfl⟩ := hq
    split
    · rw [← hp]; exact h.ok p (List.mem_of_getElem? hj)
    · exact h.ok _ (List.getElem_mem hi)
  · rw [modify_map]
    have : (es.toList.mapIdx fun i e => if i = j then ({ e with key := kc k, val := vc v } : MapEntry) else e).map (·.born) = es.toList.map (·.born) := by
      apply List.ext_getElem?
      intro i
      simp only [List.getElem?_map, List.getElem?_mapIdx]
      cases es.toList[i]? with
      | none => rfl
      | some e => simp only [Option.map_some, Option.some.injEq]; split <;> rfl
    rw [this]; exact h.born
  · intro e he
    rw [modify_map, List.mem_mapIdx] at he
    obtain ⟨i, hi, rfl⟩ := he
    have := h.lt _ (List.getElem_mem hi)
    split <;> exact this

theorem MHolds.add {es : Array MapEntry} {clock : Nat} {l : List (κ × ν)} (h : MHolds kc vc kok es.toList clock l) {k : κ} {v : ν} (hk : kok k) (hn : ∀ p ∈ l, p.1 ≠ k) (hl : getL l k = none) :
    MHolds kc vc kok (es.push { key := kc k, val := vc v, born := clock }).toList (clock + 1) (setL l k v) := by
  have hset : setL l k v = l ++ [(k, v)] := by unfold setL; rw [if_neg (by rw [hl]; simp)]
  rw [hset, Array.toList_push]
  refine ⟨by simp [h.same], ?_, ?_, ?_, ?_⟩
  · rw [List.map_append, List.nodup_append]
    refine ⟨h.nd, by simp, ?_⟩
    intro a ha b hb
    simp at hb
    subst hb
    obtain ⟨p, hp, rfl⟩ := List.mem_map.1 ha
    exact hn p hp
  · intro p hp
    rcases List.mem_append.1 hp with hp | hp
    · exact h.ok p hp
    · simp at hp; subst hp; exact hk
  · rw [List.map_append, List.nodup_append]
    refine ⟨h.born, by simp, ?_⟩
    intro a ha b hb
    simp at hb
    subst hb
    obtain ⟨e, he, rfl⟩ := List.mem_map.1 ha
    have := h.lt e he
    omega
  · intro e he
    rcases List.mem_append.1 he with he | he
    · have := h.lt e he; omega
    · simp at he; subst he; simp

theorem s_mu {T KT VT : TypeId} [hT : MpT P T KT VT] [hK : KeyC P KT κ kc kok] {m : Nat} {l : List (κ × ν)} {k : κ} {v : ν} (h : MapR kc vc kok w m l) (hk : kok k)
    (hh : ∀ w', MapR kc vc kok w' m (setL l k v) → Fr (fun b => b = m) w w' → K undef w') : opS P (S.mu T (.map (some m)) (kc k) (vc v)) K w := by
  obtain ⟨es, clock, hb, hh'⟩ := h
  have key : ∃ es' clock', (Instr.mapUpdate T (.map (some m)) (kc k) (vc v)).run P w = .ok () (upd w m (.map es' clock')) ∧ MHolds kc vc kok es'.toList clock' (setL l k v) := by
    unfold Instr.mapUpdate
    rw [Sem.run_bind, run_underlying_of hT.und, Result.andThen_ok]
    simp only []
    rw [Sem.run_bind, run_getMap hb, Result.andThen_ok]
    simp only []
    rw [Sem.run_bind, run_check hk, Result.andThen_ok]
    rcases run_find (P := P) (w := w) (KT := KT) hh' hk with ⟨h1, h2, h3⟩ | ⟨j, p, h1, h2, h3, h4⟩
    · rw [Sem.run_bind, h2, Result.andThen_ok]
      simp only []
      exact ⟨_, _, run_setObj hb (by intro c T fz e; cases e), hh'.add hk h3 h1⟩
    · rw [Sem.run_bind, h4, Result.andThen_ok]
      simp only []
      have hje : ∃ e, es[j]? = some e ∧ e.key = kc k := by
        have hlt : j < es.size := by
          have := (List.getElem?_eq_some_iff.1 h1).1
          rw [← hh'.len, Array.length_toList] at this; exact this
        refine ⟨es[j], Array.getElem?_eq_getElem hlt, ?_⟩
        obtain ⟨q, hq, hk1, _⟩ := hh'.at (j := j) (e := es[j]) (by rw [Array.getElem?_toList]; exact Array.getElem?_eq_getElem hlt)
        rw [h1] at hq; cases hq
        rw [hk1, h2]
      obtain ⟨e, he, hke⟩ := hje
      obtain ⟨lx, hlx⟩ := hK.of k hk
      have hst := hK.law.stays w hlx
      rw [he]
      simp only [Option.map_some, Option.getD_some, hke]
      rw [Sem.run_bind, hst, Result.andThen_ok]
      exact ⟨_, _, run_setObj hb (by intro c T fz e; cases e), hh'.put h1 h2⟩
  obtain ⟨es', clock', hr, hM⟩ := key
  unfold S.mu opS
  rw [Sem.run_bind, hr, Result.andThen_ok]
  exact hh _ ⟨es', clock', heap_upd_same (by rw [hb]; rfl), hM⟩ (Fr.upd' hb rfl _ rfl rfl)

/-! ### What is taken out -/

omit [DecidableEq κ] in
theorem map_eraseIdx' {α β : Type} (f : α → β) : ∀ (l : List α) (i : Nat), (l.eraseIdx i).map f = (l.map f).eraseIdx i
  | [], _ => rfl
  | _ :: _, 0 => rfl
  | a :: l, i + 1 => by simp [map_eraseIdx' f l i]

theorem MHolds.del {es : Array MapEntry} {clock : Nat} {l : List (κ × ν)} (h : MHolds kc vc kok es.toList clock l) {k : κ} {j : Nat} {p : κ × ν} (hj : l[j]? = some p) (hp : p.1 = k) :
    MHolds kc vc kok (es.eraseIdxIfInBounds j).toList clock (delL l k) := by
  have hjl := (List.getElem?_eq_some_iff.1 hj).1
  have hje : j < es.size := by rw [← Array.length_toList, h.len]; exact hjl
  have hd : delL l k = l.eraseIdx j := by
    unfold delL
    have hnd := h.nd
    clear h hje hjl
    induction l generalizing j with
    | nil => cases hj
    | cons q l ih =>
      rw [List.map_cons, List.nodup_cons] at hnd
      cases j with
      | zero =>
        cases hj
        rw [List.filter_cons, if_neg (by simp [hp]), List.eraseIdx_cons_zero]
        apply List.filter_eq_self.2
        intro a ha
        simp only [decide_eq_true_eq]
        intro e
        exact hnd.1 (by rw [hp, ← e]; exact List.mem_map_of_mem ha)
      | succ j =>
        rw [List.getElem?_cons_succ] at hj
        have hne : q.1 ≠ k := fun e => hnd.1 (by rw [e, ← hp]; exact List.mem_map_of_mem (List.mem_of_getElem? hj))
        rw [List.filter_cons, if_pos (by simpa using hne), List.eraseIdx_cons_succ, ih hj hnd.2]
  have he : (es.eraseIdxIfInBounds j).toList = es.toList.eraseIdx j := by
    unfold Array.eraseIdxIfInBounds
    rw [dif_pos hje, Array.toList_eraseIdx]
  rw [hd, he]
  have sub := List.eraseIdx_sublist l j
  have sub2 := List.eraseIdx_sublist es.toList j
  refine ⟨?_, ?_, fun q hq => h.ok q (sub.subset hq), ?_, fun e hm => h.lt e (sub2.subset hm)⟩
  · rw [map_eraseIdx', map_eraseIdx', h.same]
  · exact h.nd.sublist (sub.map _)
  · exact h.born.sublist (sub2.map _)

theorem delL_none {l : List (κ × ν)} {k : κ} (h : ∀ p ∈ l, p.1 ≠ k) : delL l k = l :=
  List.filter_eq_self.2 fun p hp => by simpa using h p hp

theorem s_del {T KT VT KT' ty : TypeId} [hT : MpT P T KT VT] [hK : KeyC P KT κ kc kok] {m : Nat} {l : List (κ × ν)} {k : κ} (h : MapR kc vc kok w m l) (hk : kok k)
    (hh : ∀ w', MapR kc vc kok w' m (delL l k) → Fr (fun b => b = m) w w' → K (.tuple #[]) w') : opS P (S.bi .delete #[T, KT'] ty [.map (some m), kc k]) K w := by
  obtain ⟨es, clock, hb, hh'⟩ := h
  have key : ∃ es' clock', (Builtin.delete_ #[T, KT'] ty #[.map (some m), kc k]).run P w = .ok (.tuple #[]) (upd w m (.map es' clock')) ∧ MHolds kc vc kok es'.toList clock' (delL l k) := by
    unfold Builtin.delete_
    simp only [List.getElem?_toArray, List.getElem?_cons_zero, List.getElem?_cons_succ]
    rw [Sem.run_bind, run_underlying_of hT.und, Result.andThen_ok]
    simp only []
    rw [Sem.run_bind, run_getMap hb, Result.andThen_ok]
    simp only []
    rw [Sem.run_bind, run_check hk, Result.andThen_ok]
    rcases run_find (P := P) (w := w) (KT := KT) hh' hk with ⟨h1, h2, h3⟩ | ⟨j, p, h1, h2, h3, h4⟩
    · rw [Sem.run_bind, h2, Result.andThen_ok]
      simp only []
      rw [Sem.run_bind, run_setObj hb (by intro c T fz e; cases e), Result.andThen_ok]
      exact ⟨_, _, rfl, by rw [delL_none h3]; exact hh'⟩
    · rw [Sem.run_bind, h4, Result.andThen_ok]
      simp only []
      rw [Sem.run_bind, run_setObj hb (by intro c T fz e; cases e), Result.andThen_ok]
      exact ⟨_, _, rfl, hh'.del h1 h2⟩
  obtain ⟨es', clock', hr, hM⟩ := key
  show opS P (do pure (Next.value (← Builtin.delete_ #[T, KT'] ty #[.map (some m), kc k]))) K w
  rw [opS_bind, hr]
  exact hh _ ⟨es', clock', heap_upd_same (by rw [hb]; rfl), hM⟩ (Fr.upd' hb rfl _ rfl rfl)

omit [DecidableEq κ] in
theorem s_mkm {T : TypeId} (hh : ∀ w', MapR kc vc kok w' w.heap.size ([] : List (κ × ν)) → Fr none_ w w' → w'.heap.size = w.heap.size + 1 → K (.map (some w.heap.size)) w') : opS P (S.mkm T none) K w := by
  have : (Instr.makeMap T none).run P w = .ok (.map (some w.heap.size)) (w.alloc (.map #[] 0)) := rfl
  unfold S.mkm
  rw [opS_bind, this]
  exact hh _ ⟨#[], 0, heap_alloc_new _ _, rfl, List.nodup_nil, by simp, List.nodup_nil, by simp⟩ (Fr.alloc _ _ rfl) (size_alloc _ _)

/-! ### What is gone through -/

/-- an iterator over a map: what is left -/
def IterR (kc : κ → Value) (vc : ν → Value) (kok : κ → Prop) (w : World) (it m : Nat) (l todo : List (κ × ν)) : Prop :=
  it ≠ m ∧ ∃ es clock seen, w.heap[m]? = some (.map es clock) ∧ MHolds kc vc kok es.toList clock l ∧ w.heap[it]? = some (.mapIter (some m) clock seen clock) ∧
    (leftOf es seen).toList.map (fun e => (e.key, e.val)) = todo.map fun p => (kc p.1, vc p.2)

omit [DecidableEq κ] in
theorem IterR.map {it m : Nat} {l todo : List (κ × ν)} (h : IterR kc vc kok w it m l todo) : MapR kc vc kok w m l := by
  obtain ⟨_, es, clock, seen, h1, h2, _⟩ := h
  exact ⟨es, clock, h1, h2⟩
omit [DecidableEq κ] in
theorem IterR.fr {fp : Nat → Prop} {w w' : World} {it m : Nat} {l todo : List (κ × ν)} (h : IterR kc vc kok w it m l todo) (hf : Fr fp w w') (h1 : ¬ fp it) (h2 : ¬ fp m) : IterR kc vc kok w' it m l todo := by
  obtain ⟨hne, es, clock, seen, a1, a2, a3, a4⟩ := h
  exact ⟨hne, es, clock, seen, hf.heap a1 h2, a2, hf.heap a3 h1, a4⟩
omit [DecidableEq κ] in
theorem IterR.ne {it m : Nat} {l todo : List (κ × ν)} (h : IterR kc vc kok w it m l todo) : it ≠ m := h.1
omit [DecidableEq κ] in
theorem IterR.lt {it m : Nat} {l todo : List (κ × ν)} (h : IterR kc vc kok w it m l todo) : it < w.heap.size := by
  obtain ⟨hne, es, clock, seen, a1, a2, a3, a4⟩ := h
  exact lt_of_heap a3

omit [DecidableEq κ] in
theorem s_rng {T KT VT : TypeId} [hT : MpT P T KT VT] {m : Nat} {l : List (κ × ν)} (h : MapR kc vc kok w m l)
    (hh : ∀ w', IterR kc vc kok w' w.heap.size m l l → Fr none_ w w' → w'.heap.size = w.heap.size + 1 → K (pt w.heap.size 0) w') : opS P (S.rng T (.map (some m))) K w := by
  obtain ⟨es, clock, hb, hM⟩ := h
  have hr : (Instr.range T (.map (some m))).run P w = .ok (pt w.heap.size 0) (w.alloc (.mapIter (some m) clock #[] clock)) := by
    unfold Instr.range
    rw [Sem.run_bind, run_underlying_of hT.und, Result.andThen_ok]
    simp only []
    rw [Sem.run_bind, run_getMap hb, Result.andThen_ok]
    rfl
  unfold S.rng
  rw [opS_bind, hr]
  have hlt := lt_of_heap hb
  refine hh _ ⟨by omega, es, clock, #[], ?_, hM, heap_alloc_new _ _, ?_⟩ (Fr.alloc _ _ rfl) (size_alloc _ _)
  · rw [heap_alloc_lt hlt]; exact hb
  · rw [← hM.same]
    have : leftOf es #[] = es := by
      unfold leftOf
      simp
    rw [this]

omit [DecidableEq κ] in
theorem filter_seen {l : List MapEntry} {seen : Array Nat} {e : MapEntry} (hn : (l.map (·.born)).Nodup) : ∀ {i : Nat}, (l.filter fun x => !seen.contains x.born)[i]? = some e →
    (l.filter fun x => !(seen.push e.born).contains x.born) = (l.filter fun x => !seen.contains x.born).eraseIdx i := by
  induction l with
  | nil => intro i h; cases h
  | cons q l ih =>
    intro i h
    rw [List.map_cons, List.nodup_cons] at hn
    by_cases hq : q.born ∈ seen
    · rw [List.filter_cons, if_neg (by simp [hq])] at h
      rw [List.filter_cons, if_neg (by simp [hq]), List.filter_cons, if_neg (by simp [hq])]
      exact ih hn.2 h
    · rw [List.filter_cons, if_pos (by simp [hq])] at h
      cases i with
      | zero =>
        cases h
        rw [List.filter_cons, if_neg (by simp), List.filter_cons, if_pos (by simp [hq]), List.eraseIdx_cons_zero]
        apply List.filter_congr
        intro x hx
        have : x.born ≠ e.born := fun h2 => hn.1 (by rw [← h2]; exact List.mem_map_of_mem hx)
        simp [this]
      | succ i =>
        rw [List.getElem?_cons_succ] at h
        have hmem : e ∈ l := (List.mem_filter.1 (List.mem_of_getElem? h)).1
        have hne : q.born ≠ e.born := fun he => hn.1 (by rw [he]; exact List.mem_map_of_mem hmem)
        rw [List.filter_cons, if_pos (by simp [hq, hne]), ih hn.2 h, List.filter_cons, if_pos (by simp [hq]), List.eraseIdx_cons_succ]

omit [DecidableEq κ] in
/-- a step: nothing is left, or one that is left comes out -/
theorem s_nxt {ty it m : Nat} {l todo : List (κ × ν)} (h : IterR kc vc kok w it m l todo) (h0 : todo = [] → K (.tuple #[.bool false]) w)
    (h1 : ∀ i p w', todo[i]? = some p → IterR kc vc kok w' it m l (todo.eraseIdx i) → Fr (fun b => b = it) w w' → w'.heap.size = w.heap.size →
      (∀ w2, Fr (fun b => b ≠ it ∧ b ≠ m) w' w2 → (Instr.entry (pt it 0)).run P w2 = .ok (.tuple #[kc p.1, vc p.2]) w2) → K (.tuple #[.bool true, kc p.1, vc p.2]) w') :
    opS P (S.nxt (pt it 0) false ty) K w := by
  obtain ⟨hne, es, clock, seen, a1, a2, a3, a4⟩ := h
  unfold S.nxt
  rw [opS_bind]
  rcases run_next_at (P := P) w ty it m clock clock seen es clock a3 a1 (fun x hx => a2.lt x hx) (Nat.le_refl _) with ⟨g1, g2⟩ | ⟨e, he, w1, hw1, hr⟩
  · rw [show (pt it 0) = .pointer (some ⟨it, 0, none⟩) from rfl, g2]
    refine h0 ?_
    have : (leftOf es seen).toList = [] := List.eq_nil_of_length_eq_zero (by rw [Array.length_toList]; exact g1)
    rw [this] at a4
    exact List.map_eq_nil_iff.1 a4.symm
  · rw [show (pt it 0) = .pointer (some ⟨it, 0, none⟩) from rfl, hr]
    obtain ⟨i, hi⟩ := List.mem_iff_getElem?.1 he
    have hp : ∃ p, todo[i]? = some p ∧ e.key = kc p.1 ∧ e.val = vc p.2 := by
      have := congrArg (fun l => l[i]?) a4
      simp only [List.getElem?_map, hi, Option.map_some] at this
      cases hl : todo[i]? with
      | none => rw [hl] at this; cases this
      | some p =>
        rw [hl, Option.map_some, Option.some.injEq, Prod.mk.injEq] at this
        exact ⟨p, rfl, this.1, this.2⟩
    obtain ⟨p, hp, hk, hv⟩ := hp
    have hheap : w1.heap = w.heap := by rcases hw1 with rfl | rfl <;> rfl
    have hset : ChangeMaps.setBlock w1 it (.mapIter (some m) clock (seen.push e.born) clock) = upd w1 it (.mapIter (some m) clock (seen.push e.born) clock) := rfl
    rw [hset, hk, hv]
    have b1 : (upd w1 it (.mapIter (some m) clock (seen.push e.born) clock)).heap[m]? = some (.map es clock) := by rw [heap_upd_ne hne, hheap]; exact a1
    have b3 : (upd w1 it (.mapIter (some m) clock (seen.push e.born) clock)).heap[it]? = some (.mapIter (some m) clock (seen.push e.born) clock) := heap_upd_same (by rw [hheap, a3]; rfl)
    have hem : e ∈ es.toList := by
      unfold leftOf at he
      rw [Array.toList_filter] at he
      exact (List.mem_filter.1 he).1
    refine h1 i p _ hp ⟨hne, es, clock, seen.push e.born, b1, a2, b3, ?_⟩ ?_ ?_ ?_
    · have : (leftOf es (seen.push e.born)).toList = (leftOf es seen).toList.eraseIdx i := by
        unfold leftOf at hi ⊢
        rw [Array.toList_filter] at hi ⊢
        rw [Array.toList_filter]
        exact filter_seen a2.born hi
      rw [this, map_eraseIdx', map_eraseIdx', a4]
    · have hF : Fr (fun b => b = it) w w1 := by
        rcases hw1 with rfl | rfl
        · exact Fr.refl _ _
        · exact Fr.drew _
      exact hF.trans (Fr.upd' (x := .mapIter (some m) clock seen clock) (by rw [hheap]; exact a3) rfl _ rfl rfl)
    · rw [size_upd, hheap]
    · intro w2 hF
      have := run_entry_at (P := P) w2 it m clock seen es clock e (hF.heap b3 (fun h => h.1 rfl)) (hF.heap b1 (fun h => h.2 rfl)) hem a2.born
      rw [← hk, ← hv]
      exact this

theorem s_ent {it : Nat} {v : Value} (h : (Instr.entry (pt it 0)).run P w = .ok v w) (hh : K v w) : opS P (S.ent (pt it 0)) K w := by
  unfold S.ent
  rw [opS_bind, h]
  exact hh

end
end Go.Gx
end

section
/- Bytes, texts of bytes, frames. -/
namespace Go.Gx
open Go
variable {P : Program} {K : Value → World → Prop} {w : World}

/-! ### Bytes -/

def cell1 (n : Int) : List Value := [u8 n]
/-- bytes that can be read -/
def ByR (w : World) (v : Value) (bs : List Int) : Prop := RdE 1 w v (bs.map cell1) ∧ ∀ b ∈ bs, isB b
theorem ByR.fr {fp : Nat → Prop} {w w' : World} {v : Value} {bs : List Int} (h : ByR w v bs) (hf : Fr fp w w') (hn : ∀ b, blkS v = some b → ¬ fp b) : ByR w' v bs := ⟨h.1.fr hf hn, h.2⟩
theorem ByR.form {v : Value} {bs : List Int} (h : ByR w v bs) : ∃ a c, v = .slice a bs.length c := by
  obtain ⟨a, c, rfl⟩ := h.1.form
  exact ⟨a, c, by simp⟩
theorem ByR.nil (w : World) (a : Option Addr) (c : Nat) : ByR w (.slice a 0 c) [] := ⟨⟨.inl ⟨⟨_, _, rfl⟩, rfl, rfl⟩, by simp⟩, by simp⟩
theorem flat_cell1 (bs : List Int) : (bs.map cell1).flatten = bs.map u8 := by
  induction bs with
  | nil => rfl
  | cons b bs ih => simp [cell1, ih]
theorem flat_cell1_one (bs : List Int) : (bs.map cell1).flatten.all S.oneCell = true := by
  rw [flat_cell1, List.all_map, List.all_eq_true]
  intro x _
  rfl

/-- bytes as_ a text -/
def strOf (bs : List Int) : ByteArray := ⟨(bs.map fun n => UInt8.ofNat n.toNat).toArray⟩

theorem byte_inj {a b : Int} (ha : isB a) (hb : isB b) (h : UInt8.ofNat a.toNat = UInt8.ofNat b.toNat) : a = b := by
  have := congrArg UInt8.toNat h
  simp only [UInt8.toNat_ofNat'] at this
  unfold isB at ha hb
  omega

theorem strOf_inj : ∀ {a b : List Int}, (∀ x ∈ a, isB x) → (∀ x ∈ b, isB x) → ((strOf a).data.toList = (strOf b).data.toList ↔ a = b)
  | [], [], _, _ => by simp [strOf]
  | [], b :: bs, _, _ => by simp [strOf]
  | a :: as_, [], _, _ => by simp [strOf]
  | a :: as_, b :: bs, ha, hb => by
    have ih := @strOf_inj as_ bs (fun x hx => ha x (List.mem_cons_of_mem _ hx)) (fun x hx => hb x (List.mem_cons_of_mem _ hx))
    simp only [strOf] at ih ⊢
    simp only [List.map_cons, List.cons.injEq]
    constructor
    · rintro ⟨h1, h2⟩
      exact ⟨byte_inj (ha a (List.mem_cons_self ..)) (hb b (List.mem_cons_self ..)) h1, ih.1 h2⟩
    · rintro ⟨rfl, rfl⟩
      exact ⟨rfl, rfl⟩

class StrT (P : Program) (T : TypeId) : Prop where
  und : P.underlying T = some .string
class ByT (P : Program) (T : TypeId) : Prop where
  und : ∃ e, P.underlying T = some (.slice e) ∧ P.underlying e = some (.int .u8)

theorem push_strOf (bs cs : List Int) : cs.foldl (fun (s : ByteArray) n => s.push (UInt8.ofNat n.toNat)) (strOf bs) = strOf (bs ++ cs) := by
  induction cs generalizing bs with
  | nil => simp
  | cons c cs ih =>
    rw [List.foldl_cons]
    have : (strOf bs).push (UInt8.ofNat c.toNat) = strOf (bs ++ [c]) := by
      simp [strOf, ByteArray.push]
    rw [this, ih]
    simp

theorem run_b2s {v : Value} {bs : List Int} (h : ByR w v bs) : (Conv.bytesToString v).run P w = .ok (.string (strOf bs)) w := by
  obtain ⟨a, c, rfl⟩ := h.form
  have hf : (Builtin.firstCells 1 bs.length (.slice a bs.length c)).run P w = .ok (bs.map u8).toArray w := by
    have h1 := h.1.1
    rw [flat_cell1, List.length_map] at h1
    exact run_firstCells h1
  cases a with
  | none =>
    have hn : bs = [] := by
      rcases h.1.1 with ⟨_, h2, _⟩ | ⟨b, o, c', cs, T, fz, hv, _⟩
      · exact List.map_eq_nil_iff.1 (List.eq_nil_of_length_eq_zero h2)
      · cases hv
    subst hn
    rfl
  | some a =>
    unfold Conv.bytesToString
    have hl : (loadCells a bs.length).run P w = .ok (bs.map u8).toArray w := by
      have e : Builtin.firstCells 1 bs.length (.slice (some a) bs.length c) = loadCells a (bs.length * 1) := rfl
      rw [e, Nat.mul_one] at hf
      exact hf
    simp only []
    rw [Sem.run_bind, hl, Result.andThen_ok]
    have key : ∀ (F : Value → ByteArray → Sem (ForInStep ByteArray)), (∀ n r, F (u8 n) r = pure (ForInStep.yield (r.push (UInt8.ofNat n.toNat)))) →
        ∀ (cs ds : List Int), (forIn (cs.map u8) (strOf ds) F).run P w = .ok (strOf (ds ++ cs)) w := by
      intro F hF cs
      induction cs with
      | nil => intro ds; simp
      | cons c cs ih =>
        intro ds
        rw [List.map_cons, List.forIn_cons, hF]
        simp only [pure_bind]
        have : (strOf ds).push (UInt8.ofNat c.toNat) = strOf (ds ++ [c]) := by simp [strOf, ByteArray.push]
        rw [this]
        have := ih (ds ++ [c])
        rw [List.append_assoc] at this
        exact this
    rw [← Array.forIn_toList, Sem.run_bind]
    have e0 : ByteArray.empty = strOf [] := rfl
    rw [e0, key _ (fun n r => rfl) bs []]
    rfl

theorem s_b2s {T S' : TypeId} [hT : ByT P T] [hS : StrT P S'] {v : Value} {bs : List Int} (h : ByR w v bs) : opS P (S.conv T S' v) K w = K (.string (strOf bs)) w := by
  unfold S.conv
  rw [opS_bind]
  obtain ⟨e, h1, h2⟩ := hT.und
  have hr : (convert T S' v).run P w = .ok (.string (strOf bs)) w := by
    have hb := run_b2s (P := P) h
    obtain ⟨a, c, rfl⟩ := h.form
    unfold convert
    rw [Sem.run_bind, run_underlying_of h1, Result.andThen_ok, Sem.run_bind, run_underlying_of hS.und, Result.andThen_ok]
    simp only []
    rw [Sem.run_bind, run_underlying_of h2, Result.andThen_ok]
    exact hb
  rw [hr]

theorem s_eqS {a b : List Int} (ha : ∀ x ∈ a, isB x) (hb : ∀ x ∈ b, isB x) : opS P (S.binS .eql (.string (strOf a)) (.string (strOf b))) K w = K (.bool (decide (a = b))) w := by
  unfold S.binS
  simp only []
  rw [opS_bind]
  have : (Op.stringOp .eql (strOf a) (strOf b)).run P w = .ok (.bool (decide (a = b))) w := by
    unfold Op.stringOp
    simp only [Sem.run_pure]
    congr 2
    have e : ∀ x : List Int, (strOf x).toList = (strOf x).data.toList := fun x => by
      exact ByteArray.toList_eq _
    rw [e, e]
    have := strOf_inj ha hb
    by_cases h : a = b
    · subst h; simp
    · rw [decide_eq_false h]
      simpa using fun h2 => h (this.1 h2)
  rw [this]

/-! ### Frames -/

@[ext] structure Frm where
  dst : Mac
  src : Mac
  tagged : Bool
  vlan : Int
  prio : Int
  type : Int
  body : Value

def Frm.cells (f : Frm) : List Value :=
  [u8 f.dst.b0, u8 f.dst.b1, u8 f.dst.b2, u8 f.dst.b3, u8 f.dst.b4, u8 f.dst.b5, u8 f.src.b0, u8 f.src.b1, u8 f.src.b2, u8 f.src.b3, u8 f.src.b4, u8 f.src.b5, .bool f.tagged, i64 f.vlan, i64 f.prio, i64 f.type, f.body]
/-- a frame's numbers are of their kinds -/
def Frm.ok (f : Frm) : Prop := f.dst.ok ∧ f.src.ok ∧ isI f.vlan ∧ isI f.prio ∧ isI f.type
/-- a frame that can be read, and the bytes of its body -/
def FrmR (w : World) (f : Frm) (bs : List Int) : Prop := f.ok ∧ ByR w f.body bs
theorem FrmR.fr {fp : Nat → Prop} {w w' : World} {f : Frm} {bs : List Int} (h : FrmR w f bs) (hf : Fr fp w w') (hn : ∀ b, blkS f.body = some b → ¬ fp b) : FrmR w' f bs := ⟨h.1, h.2.fr hf hn⟩
theorem FrmR.fr0 {w w' : World} {f : Frm} {bs : List Int} (h : FrmR w f bs) (hf : Fr none_ w w') : FrmR w' f bs := h.fr hf fun _ _ h => h

def zMac : Mac := ⟨0, 0, 0, 0, 0, 0⟩
def zFrm : Frm := ⟨zMac, zMac, false, 0, 0, 0, .slice none 0 0⟩
theorem zFrmR (w : World) : FrmR w zFrm [] := ⟨⟨by simp [zFrm, zMac, Mac.ok, isB], by simp [zFrm, zMac, Mac.ok, isB], isI_iff.2 (by simp [zFrm]), isI_iff.2 (by simp [zFrm]), isI_iff.2 (by simp [zFrm])⟩, ByR.nil _ _ _⟩

/-- may it be? n: how long its body is -/
def Frm.right (f : Frm) (n : Nat) : Bool :=
  decide (1536 ≤ f.type ∧ f.type ≤ 65535 ∧ f.type ≠ 33024 ∧ n ≤ 1500) && (if f.tagged then decide (0 ≤ f.vlan ∧ f.vlan ≤ 4094 ∧ 0 ≤ f.prio ∧ f.prio ≤ 7) else decide (f.vlan = 0 ∧ f.prio = 0))

def Frm.tag (f : Frm) (v p : Int) : Frm := { f with tagged := true, vlan := v, prio := p }
def Frm.untag (f : Frm) : Frm := { f with tagged := false, vlan := 0, prio := 0 }

theorem Frm.len (f : Frm) : f.cells.length = 17 := id rfl
theorem Frm.g12 (f : Frm) : f.cells[12]? = some (.bool f.tagged) := id rfl
theorem Frm.g13 (f : Frm) : f.cells[13]? = some (i64 f.vlan) := id rfl
theorem Frm.g14 (f : Frm) : f.cells[14]? = some (i64 f.prio) := id rfl
theorem Frm.g15 (f : Frm) : f.cells[15]? = some (i64 f.type) := id rfl
theorem Frm.g16 (f : Frm) : f.cells[16]? = some f.body := id rfl
theorem Frm.d0 (f : Frm) : (f.cells.drop 0).take 6 = f.dst.cells := id rfl
theorem Frm.d6 (f : Frm) : (f.cells.drop 6).take 6 = f.src.cells := id rfl
theorem Frm.dw (f : Frm) : (f.cells.drop 0).take 17 = f.cells := id rfl
theorem Frm.s12 (f : Frm) (b : Bool) : splice f.cells 12 [.bool b] = { f with tagged := b }.cells := id rfl
theorem Frm.s13 (f : Frm) (n : Int) : splice f.cells 13 [i64 n] = { f with vlan := n }.cells := id rfl
theorem Frm.s14 (f : Frm) (n : Int) : splice f.cells 14 [i64 n] = { f with prio := n }.cells := id rfl
theorem Frm.s15 (f : Frm) (n : Int) : splice f.cells 15 [i64 n] = { f with type := n }.cells := id rfl
theorem Frm.s16 (f : Frm) (v : Value) : splice f.cells 16 [v] = { f with body := v }.cells := id rfl
theorem Frm.s0 (f : Frm) (m : Mac) : splice f.cells 0 m.cells = { f with dst := m }.cells := id rfl
theorem Frm.s6 (f : Frm) (m : Mac) : splice f.cells 6 m.cells = { f with src := m }.cells := id rfl
theorem Frm.sw (f g : Frm) : splice f.cells 0 g.cells = g.cells := id rfl
theorem Frm.one (f : Frm) (h : S.oneCell f.body = true) : f.cells.all S.oneCell = true := by
  simp only [Frm.cells, List.all_cons, one_int, one_bool, h, List.all_nil, Bool.and_self]
theorem Mac.one (m : Mac) : m.cells.all S.oneCell = true := id rfl
theorem Mac.len (m : Mac) : m.cells.length = 6 := id rfl
theorem ByR.one {v : Value} {bs : List Int} (h : ByR w v bs) : S.oneCell v = true := h.1.one
theorem FrmR.one {f : Frm} {bs : List Int} (h : FrmR w f bs) : f.cells.all S.oneCell = true := Frm.one _ h.2.one
attribute [push_cast] Frm.len Frm.g12 Frm.g13 Frm.g14 Frm.g15 Frm.g16 Frm.d0 Frm.d6 Frm.dw Frm.s12 Frm.s13 Frm.s14 Frm.s15 Frm.s16 Frm.s0 Frm.s6 Frm.sw Mac.one Mac.len

/-- what comes behind is small: it may stand in each way -/
theorem jn_1 {k : Value → World → Prop} {m : (Value → World → Prop) → World → Prop} : jnJ 1 k m = m k := id rfl
theorem jn_0 {k : World → Prop} {m : (World → Prop) → World → Prop} : jnJ 0 k m = m k := id rfl

end Go.Gx
end

section
/- What is asked of the program as a whole. -/
set_option maxRecDepth 100000
namespace Go.Gx.S
open Go Go.Gx Go.Proofs

theorem laidOut : laidOutB Tryz.prog = true := by kernel_rfl
theorem ctInt : Tryz.prog.cellsOf 3 = 1 := by kernel_rfl
theorem ctBool : Tryz.prog.cellsOf 4 = 1 := by kernel_rfl
theorem uInt : Tryz.prog.underlying 3 = some (.int .i64) := Tryz.underlying3
theorem uBool : Tryz.prog.underlying 4 = some .bool := Tryz.underlying4
theorem own : ownKnob Tryz.prog.godebug = none := by kernel_rfl

end Go.Gx.S
end

section
/- Addresses, bytes and texts among the program's types. -/
set_option maxRecDepth 100000
namespace Go.Gx.S
open Go Go.Gx Go.Proofs

theorem ctByte : Tryz.prog.cellsOf 5 = 1 := by kernel_rfl
theorem ctMac : Tryz.prog.cellsOf 24 = 6 := by kernel_rfl
instance : MacT Tryz.prog 24 5 := ⟨Tryz.underlying24, Tryz.underlying5, ctByte, ctMac⟩
instance : StrT Tryz.prog 9 := ⟨Tryz.underlying9⟩
instance : ByT Tryz.prog 25 := ⟨⟨_, Tryz.underlying25, Tryz.underlying5⟩⟩

end Go.Gx.S
end

section
/- Tables of VLANs: what they come to, in plain Lean. -/
namespace Go.Gx
open Go

/-- members, in the order in which they came, and the native VLANs of the ports -/
structure VT where
  tab : List ((Int × Int) × Bool)
  nat : List Int

namespace VT
def port (t : VT) (p : Int) : Prop := 0 ≤ p ∧ p < t.nat.length
instance (t : VT) (p : Int) : Decidable (t.port p) := by unfold port; infer_instance
def right (t : VT) (v p : Int) : Prop := 1 ≤ v ∧ v ≤ 4094 ∧ t.port p
instance (t : VT) (v p : Int) : Decidable (t.right v p) := by unfold right; infer_instance
structure ok (t : VT) : Prop where
  len : t.nat.length ≤ 64
  key : ∀ x ∈ t.tab, t.right x.1.1 x.1.2
  nat : ∀ n ∈ t.nat, 0 ≤ n ∧ n ≤ 4094
  nd : (t.tab.map Prod.fst).Nodup

def new (n : Nat) : VT := ⟨[], List.replicate n 0⟩
def add (t : VT) (v p : Int) (b : Bool) : VT × Int := if t.right v p then ({ t with tab := setL t.tab (v, p) b }, 0) else (t, 1)
def remove (t : VT) (v p : Int) : VT × Int := if t.right v p then (if (getL t.tab (v, p)).isSome then ({ t with tab := delL t.tab (v, p) }, 0) else (t, 4)) else (t, 1)
def native (t : VT) (p v : Int) : VT × Int := if t.port p ∧ 0 ≤ v ∧ v ≤ 4094 then ({ t with nat := t.nat.set p.toNat v }, 0) else (t, 1)
def is (t : VT) (v p : Int) : Bool := (getL t.tab (v, p)).isSome
def members (t : VT) (v : Int) : List Int := ((List.range t.nat.length).map Int.ofNat).filter fun p => t.is v p
def inn (t : VT) (p : Int) (f : Frm) (n : Nat) : Int × Int :=
  if t.port p ∧ f.right n = true then
    let v := if f.vlan = 0 then t.nat.getD p.toNat 0 else f.vlan
    if t.is v p then (v, 0) else (0, 4)
  else (0, 1)
def out (t : VT) (v p : Int) (f : Frm) (n : Nat) : Frm × Int :=
  if t.right v p ∧ f.right n = true then
    match getL t.tab (v, p) with
    | none => (zFrm, 4)
    | some true => (f.tag v f.prio, 0)
    | some false => (f.untag, 0)
  else (zFrm, 1)

theorem ok_new {n : Nat} (h : n ≤ 64) : (new n).ok := ⟨by simpa [new] using h, by simp [new], by simp [new], by simp [new]⟩

theorem setL_mem {κ ν : Type} [DecidableEq κ] {l : List (κ × ν)} {k : κ} {v : ν} {x : κ × ν} (h : x ∈ setL l k v) : x = (k, v) ∨ x ∈ l := by
  unfold setL at h
  split at h
  · rw [List.mem_map] at h
    obtain ⟨p, hp, rfl⟩ := h
    split
    · exact .inl rfl
    · exact .inr hp
  · rcases List.mem_append.1 h with h | h
    · exact .inr h
    · simp at h; exact .inl h

theorem setL_nodup {κ ν : Type} [DecidableEq κ] {l : List (κ × ν)} {k : κ} {v : ν} (h : (l.map Prod.fst).Nodup) : ((setL l k v).map Prod.fst).Nodup := by
  rw [setL_keys]
  split
  · exact h
  · rename_i hn
    rw [List.nodup_append]
    refine ⟨h, by simp, ?_⟩
    intro a ha b hb
    simp at hb
    subst hb
    obtain ⟨p, hp, rfl⟩ := List.mem_map.1 ha
    refine not_key ?_ p hp
    cases hl : getL l b with
    | none => rfl
    | some v => rw [hl] at hn; exact absurd rfl hn

theorem delL_sub {κ ν : Type} [DecidableEq κ] (l : List (κ × ν)) (k : κ) : (delL l k).Sublist l := List.filter_sublist

theorem ok_add {t : VT} (h : t.ok) (v p : Int) (b : Bool) : (t.add v p b).1.ok := by
  unfold add
  split
  · rename_i hr
    refine ⟨h.len, fun x hx => ?_, h.nat, setL_nodup h.nd⟩
    rcases setL_mem hx with rfl | hx
    · exact hr
    · exact h.key x hx
  · exact h
theorem ok_remove {t : VT} (h : t.ok) (v p : Int) : (t.remove v p).1.ok := by
  unfold remove
  split
  · split
    · exact ⟨h.len, fun x hx => h.key x ((delL_sub _ _).subset hx), h.nat, h.nd.sublist ((delL_sub _ _).map _)⟩
    · exact h
  · exact h
theorem ok_native {t : VT} (h : t.ok) (p v : Int) : (t.native p v).1.ok := by
  unfold native
  split
  · rename_i hr
    refine ⟨by simpa using h.len, fun x hx => ?_, fun n hn => ?_, h.nd⟩
    · have := h.key x hx
      unfold right port at this ⊢
      simpa using this
    · rcases List.mem_or_eq_of_mem_set hn with hn | rfl
      · exact h.nat n hn
      · exact ⟨hr.2.1, hr.2.2⟩
  · exact h
theorem is_right {t : VT} (h : t.ok) {v p : Int} (hi : t.is v p = true) : t.right v p := by
  obtain ⟨b, hb⟩ := Option.isSome_iff_exists.1 hi
  exact h.key _ (lookup_some_mem hb)

theorem tag_right {f : Frm} {n : Nat} (h : f.right n = true) {v : Int} (h1 : 1 ≤ v) (h2 : v ≤ 4094) : (f.tag v f.prio).right n = true := by
  unfold Frm.right Frm.tag at *
  simp only [Bool.and_eq_true, decide_eq_true_eq, if_true] at h ⊢
  obtain ⟨h3, h4⟩ := h
  refine ⟨h3, ?_⟩
  split at h4 <;> simp only [decide_eq_true_eq] at h4 <;> omega

/-! ### Where a key stands -/

theorem get_at {κ ν : Type} [DecidableEq κ] {l : List (κ × ν)} {k : κ} {v : ν} (h : getL l k = some v) : ∃ j : Nat, l[j]? = some (k, v) := by
  obtain ⟨j, hj⟩ := List.mem_iff_getElem?.1 (lookup_some_mem h)
  exact ⟨j, hj⟩

theorem nodup_at {κ ν : Type} {l : List (κ × ν)} (hn : (l.map Prod.fst).Nodup) {i j : Nat} {p q : κ × ν} (hi : l[i]? = some p) (hj : l[j]? = some q) (h : p.1 = q.1) : i = j := by
  have hi' := (List.getElem?_eq_some_iff.1 hi)
  have hj' := (List.getElem?_eq_some_iff.1 hj)
  obtain ⟨h1, h2⟩ := hi'
  obtain ⟨h3, h4⟩ := hj'
  have : (l.map Prod.fst)[i]'(by simpa using h1) = (l.map Prod.fst)[j]'(by simpa using h3) := by
    simp only [List.getElem_map]
    rw [h2, h4, h]
  exact (List.getElem_inj hn).1 this

theorem setL_at {κ ν : Type} [DecidableEq κ] {l : List (κ × ν)} (hn : (l.map Prod.fst).Nodup) {j : Nat} {k : κ} {u : ν} (hj : l[j]? = some (k, u)) (v : ν) : setL l k v = l.set j (k, v) := by
  unfold setL
  rw [if_pos (by rw [lookup_of_mem hn (List.mem_of_getElem? hj)]; rfl)]
  apply List.ext_getElem?
  intro i
  rw [List.getElem?_map, List.getElem?_set]
  have hlt := (List.getElem?_eq_some_iff.1 hj).1
  by_cases e : j = i
  · subst e
    rw [if_pos rfl, if_pos hlt, hj]
    simp
  · rw [if_neg e]
    cases hq : l[i]? with
    | none => rfl
    | some q =>
      rw [Option.map_some, if_neg]
      intro hqk
      exact e (nodup_at hn hj hq hqk.symm)

theorem setL_new {κ ν : Type} [DecidableEq κ] {l : List (κ × ν)} {k : κ} (h : getL l k = none) (v : ν) : setL l k v = l ++ [(k, v)] := by
  unfold setL
  rw [if_neg (by rw [h]; simp)]

theorem delL_at {κ ν : Type} [DecidableEq κ] {l : List (κ × ν)} (hn : (l.map Prod.fst).Nodup) {j : Nat} {k : κ} {u : ν} (hj : l[j]? = some (k, u)) : delL l k = l.take j ++ l.drop (j + 1) := by
  unfold delL
  induction l generalizing j with
  | nil => cases hj
  | cons q l ih =>
    rw [List.map_cons, List.nodup_cons] at hn
    cases j with
    | zero =>
      cases hj
      rw [List.filter_cons, if_neg (by simp), List.take_zero, List.nil_append, List.drop_succ_cons, List.drop_zero]
      apply List.filter_eq_self.2
      intro a ha
      simp only [decide_eq_true_eq]
      intro e
      exact hn.1 (List.mem_map.2 ⟨a, ha, e⟩)
    | succ j =>
      rw [List.getElem?_cons_succ] at hj
      have hne : q.1 ≠ k := fun e => hn.1 (by rw [e]; exact List.mem_map_of_mem (f := Prod.fst) (List.mem_of_getElem? hj))
      rw [List.filter_cons, if_pos (by simpa using hne), List.take_succ_cons, List.drop_succ_cons, List.cons_append, ih hn.2 hj]

theorem nodup_short : ∀ (n : Nat) (l : List Nat), l.Nodup → (∀ x ∈ l, x < n) → l.length ≤ n
  | 0, [], _, _ => Nat.le_refl _
  | 0, x :: l, _, h => by have := h x (List.mem_cons_self ..); omega
  | n + 1, l, hn, h => by
    have ih := nodup_short n (l.filter fun x => decide (x ≠ n)) (hn.filter _) (fun x hx => by
      have h1 := h x (List.mem_filter.1 hx).1
      have h2 : x ≠ n := by simpa using (List.mem_filter.1 hx).2
      omega)
    have key : ∀ l : List Nat, l.Nodup → l.length ≤ (l.filter fun x => decide (x ≠ n)).length + 1 := by
      intro l hn
      induction l with
      | nil => simp
      | cons a l ih =>
        rw [List.nodup_cons] at hn
        rw [List.filter_cons]
        by_cases e : a = n
        · subst e
          rw [if_neg (by simp)]
          have : l.filter (fun x => decide (x ≠ a)) = l := List.filter_eq_self.2 fun x hx => by
            simp only [decide_eq_true_eq]
            intro e
            exact hn.1 (e ▸ hx)
          rw [this]; simp
        · rw [if_pos (by simpa using e)]
          have := ih hn.2
          simp only [List.length_cons]; omega
    have := key l hn
    omega

theorem small {t : VT} (h : t.ok) : t.tab.length ≤ 262144 := by
  have h1 := h.len
  have := nodup_short (4095 * 64) ((t.tab.map Prod.fst).map fun k => k.1.toNat * 64 + k.2.toNat) (by
    refine List.Pairwise.map (R := fun a b : Int × Int => a.1.toNat * 64 + a.2.toNat ≠ b.1.toNat * 64 + b.2.toNat) _ ?_ (List.Pairwise.imp_of_mem ?_ h.nd)
    · exact fun a b (h : a.1.toNat * 64 + a.2.toNat ≠ b.1.toNat * 64 + b.2.toNat) => h
    · intro a b ha hb hab he
      obtain ⟨x, hx, rfl⟩ := List.mem_map.1 ha
      obtain ⟨y, hy, rfl⟩ := List.mem_map.1 hb
      have a1 := h.key x hx
      have a2 := h.key y hy
      unfold right port at a1 a2
      apply hab
      apply Prod.ext <;> omega) (by
    intro n hn
    obtain ⟨k, hk, rfl⟩ := List.mem_map.1 hn
    obtain ⟨x, hx, rfl⟩ := List.mem_map.1 hk
    have a1 := h.key x hx
    unfold right port at a1
    omega)
  simp at this
  omega

end VT
end Go.Gx
end

section
/- Loops with more values, slices of one cell an element. -/
namespace Go.Gx
open Go
variable {P : Program} {K : Value → World → Prop} {w : World}

theorem loop2 {B : (Value → Value → World → Prop) → Value → Value → World → Prop} (I : Nat → Value → Value → World → Prop) (h : ∀ n v u w X, I n v u w → (∀ m v' u' w', m < n → I m v' u' w' → X v' u' w') → B X v u w) (n : Nat) {v u : Value} (h0 : I n v u w) : loopJ 2 B v u w := by
  intro X hX
  have key : ∀ n v u w, (∃ m, m ≤ n ∧ I m v u w) → X v u w := by
    intro n
    induction n with
    | zero =>
      rintro v u w ⟨m, hm, hi⟩
      obtain rfl : m = 0 := by omega
      exact hX v u w (h 0 v u w X hi fun m v' u' w' hm _ => by omega)
    | succ n ih =>
      rintro v u w ⟨m, hm, hi⟩
      exact hX v u w (h m v u w X hi fun k v' u' w' hk hi' => ih v' u' w' ⟨k, by omega, hi'⟩)
  exact key n v u w ⟨n, Nat.le_refl _, h0⟩

theorem loop3 {B : (Value → Value → Value → World → Prop) → Value → Value → Value → World → Prop} (I : Nat → Value → Value → Value → World → Prop) (h : ∀ n v u x w X, I n v u x w → (∀ m v' u' x' w', m < n → I m v' u' x' w' → X v' u' x' w') → B X v u x w) (n : Nat) {v u x : Value} (h0 : I n v u x w) : loopJ 3 B v u x w := by
  intro X hX
  have key : ∀ n v u x w, (∃ m, m ≤ n ∧ I m v u x w) → X v u x w := by
    intro n
    induction n with
    | zero =>
      rintro v u x w ⟨m, hm, hi⟩
      obtain rfl : m = 0 := by omega
      exact hX v u x w (h 0 v u x w X hi fun m v' u' x' w' hm _ => by omega)
    | succ n ih =>
      rintro v u x w ⟨m, hm, hi⟩
      exact hX v u x w (h m v u x w X hi fun k v' u' x' w' hk hi' => ih v' u' x' w' ⟨k, by omega, hi'⟩)
  exact key n v u x w ⟨n, Nat.le_refl _, h0⟩

theorem jn2 {k : Value → Value → World → Prop} {m : (Value → Value → World → Prop) → World → Prop} (Q : Value → Value → World → Prop) (h1 : ∀ v u w', Q v u w' → k v u w') (h2 : ∀ j : Value → Value → World → Prop, (∀ v u w', Q v u w' → j v u w') → m j w) : jnJ 2 k m w := h2 k h1
theorem jn3 {k : Value → Value → Value → World → Prop} {m : (Value → Value → Value → World → Prop) → World → Prop} (Q : Value → Value → Value → World → Prop) (h1 : ∀ v u x w', Q v u x w' → k v u x w') (h2 : ∀ j : Value → Value → Value → World → Prop, (∀ v u x w', Q v u x w' → j v u x w') → m j w) : jnJ 3 k m w := h2 k h1

theorem s_bs1c {T E : TypeId} {ag : Bool} {z : Value} [hT : SlT P T E] [hs : Sz P E 1 ag] [hz : ZV P E z] {x : Value} (hx : S.oneCell x = true) (hzn : z.cells.size = 1)
    (h : ∀ v' w', OwnE E 1 w' v' [[x]] → Fr none_ w w' → New w v' → K v' w') : opS P (S.buildS T 1 [(0, x)]) K w := by
  have hc : x.cells = #[x] := by cases x <;> first | rfl | cases hx
  rw [opS_buildS1 (n := 1) _ (by rw [hc]; rfl) hzn (by decide) (by decide), hc]
  refine h _ _ ⟨.inr ⟨w.heap.size, 0, 1, #[x], rfl, heap_alloc_new _ _, by simp, by simp, by simp⟩, by simp⟩ (Fr.alloc _ _ rfl) fun b hb => ?_
  cases hb; exact Nat.le_refl _

/-- what is known of a world is all that counts -/
theorem at_w (Q : World → Prop) {G : World → Prop} {W : World} (hQ : Q W) (h : ∀ W, Q W → G W) : G W := h W hQ

/-- whole numbers as elements -/
def cellI (n : Int) : List Value := [i64 n]
theorem flat_cellI (l : List Int) : (l.map cellI).flatten = l.map i64 := by
  induction l with
  | nil => rfl
  | cons b bs ih => simp [cellI, ih]
theorem flat_cellI_one (l : List Int) : (l.map cellI).flatten.all S.oneCell = true := by
  rw [flat_cellI, List.all_map, List.all_eq_true]
  intro x _
  rfl

/-- the empty slice -/
theorem own_nil (E sz : Nat) (w : World) : OwnE E sz w (.slice none 0 0) [] := ⟨.inl ⟨rfl, rfl, rfl⟩, by simp⟩

/-- 'append(v, x)': x has one cell -/
theorem s_app1 {T T2 T3 E by_ : TypeId} {ag : Bool} {z : Value} [hT : SlT P T E] [hT2 : SlT P T2 E] [hT3 : SlT P T3 E] [hs : Sz P E 1 ag] [hb : By P E by_] [hz : ZV P E z] {ty : TypeId} {v : Value} {es : List (List Value)} {x : Value}
    (hx : S.oneCell x = true) (hzn : z.cells.size = 1) (hby : 0 < by_) (hv : OwnE E 1 w v es) (hroom : (2 * (es.length + 1) + 192) * by_ ≤ 2 ^ 48)
    (h : ∀ v' w', OwnE E 1 w' v' (es ++ [[x]]) → (blkS v' = blkS v ∨ New w v') → Fr (fun b => blkS v = some b) w w' → K v' w') :
    opS P (S.buildS T3 1 [(0, x)]) (fun y => opS P (S.bi .append #[T, T2] ty [v, y]) K) w := by
  refine s_bs1c hx hzn fun y w1 hy hF1 hN => ?_
  have hv1 := hv.fr hF1 (fun _ _ h => h)
  refine s_app hzn hby hv1 hy.rd (by simp [hx]) (by simpa using hroom) fun v' w' h1 h2 h3 => h v' w' h1 ?_ (Fr.trans (hF1.mono fun _ _ h => h.elim) h3)
  rcases h2 with h2 | h2
  · exact .inl h2
  · exact .inr fun b hb => Nat.le_trans hF1.size (h2 b hb)

theorem splice_get {l vs : List Value} {o : Nat} (h : o + vs.length ≤ l.length) (j : Nat) : (splice l o vs)[j]? = if j < o then l[j]? else if j < o + vs.length then vs[j - o]? else l[j]? := by
  unfold splice
  have ht : (l.take o).length = o := by rw [List.length_take]; omega
  by_cases h1 : j < o
  · rw [if_pos h1, List.append_assoc, List.getElem?_append_left (by omega), List.getElem?_take_of_lt h1]
  · rw [if_neg h1]
    by_cases h2 : j < o + vs.length
    · rw [if_pos h2, List.append_assoc, List.getElem?_append_right (by omega), ht, List.getElem?_append_left (by omega)]
    · rw [if_neg h2, List.getElem?_append_right (by rw [List.length_append]; omega), List.length_append, ht, List.getElem?_drop]
      congr 1
      omega

/-- one cell of an element -/
theorem splice_field {l e : List Value} {p f : Nat} {v : Value} (h : p + e.length ≤ l.length) (he : (l.drop p).take e.length = e) (hf : f < e.length) : splice l (p + f) [v] = splice l p (e.set f v) := by
  apply List.ext_getElem?
  intro j
  rw [splice_get (by simp; omega), splice_get (by simp; omega)]
  simp only [List.length_singleton, List.length_set]
  by_cases h1 : j < p
  · rw [if_pos (by omega), if_pos h1]
  · rw [if_neg h1]
    by_cases h2 : j < p + e.length
    · rw [if_pos h2, List.getElem?_set]
      have hj : l[j]? = e[j - p]? := by
        have : ((l.drop p).take e.length)[j - p]? = e[j - p]? := by rw [he]
        rw [List.getElem?_take_of_lt (by omega), List.getElem?_drop] at this
        rw [← this]; congr 1; omega
      by_cases h3 : j < p + f
      · rw [if_pos h3, if_neg (by omega), hj]
      · rw [if_neg h3]
        by_cases h4 : j = p + f
        · subst h4
          rw [if_pos (by omega), if_pos (by omega), if_pos hf]
          simp
        · rw [if_neg (by omega), if_neg (by omega), hj]
    · rw [if_neg (by omega), if_neg (by omega), if_neg h2]

/-- one cell of an element is written -/
theorem OwnE.putF {E sz : Nat} {b o c i f : Nat} {es : List (List Value)} (h : OwnE E sz w (.slice (some ⟨b, o, none⟩) es.length c) es) (hi : i < es.length) (hf : f < sz) (v : Value) :
    okAt w.heap[b]? (o + i * sz + f) 1 = true ∧ OwnE E sz (wr w b (o + i * sz + f) [v]) (.slice (some ⟨b, o, none⟩) es.length c) (es.set i (es[i].set f v)) := by
  have hlen := h.2 _ (List.getElem_mem hi)
  obtain ⟨h1, h2⟩ := h.put (i := i) (e := es[i].set f v) (by rw [List.length_set, hlen]) hi
  obtain ⟨g1, g2⟩ := h
  rcases g1 with ⟨g1, _⟩ | ⟨b', o', c', cs, hv, hb, hc, ho, hl⟩
  · cases g1
  · simp only [Value.slice.injEq, Option.some.injEq, Addr.mk.injEq] at hv
    obtain ⟨⟨rfl, rfl, _⟩, _, rfl⟩ := hv
    have hm : i * sz + sz ≤ es.length * sz := by rw [← Nat.succ_mul]; exact Nat.mul_le_mul_right _ hi
    have hm2 : es.length * sz ≤ c * sz := Nat.mul_le_mul_right _ hc
    have hel : (cs.toList.drop (o + i * sz)).take es[i].length = es[i] := by
      have := flatten_elem g2 hi 0 sz (by omega)
      rw [hl, Nat.add_zero, List.drop_zero, List.drop_take, List.drop_drop, List.take_take, Nat.min_eq_left (by omega)] at this
      rw [hlen, this, List.take_of_length_le (by omega)]
    refine ⟨?_, ?_⟩
    · rw [hb]
      show (decide (o + i * sz + f + 1 ≤ cs.size) && _) = true
      simp only [Bool.and_eq_true, decide_eq_true_eq, List.all_eq_true]
      exact ⟨by omega, fun x _ => by simp⟩
    · have hw : wr w b (o + i * sz + f) [v] = wr w b (o + i * sz) (es[i].set f v) := by
        unfold wr
        rw [hb]
        simp only []
        have hle : o + i * sz + es[i].length ≤ cs.toList.length := by have e2 : cs.toList.length = cs.size := Array.length_toList; omega
        rw [splice_field hle hel (by omega)]
      rw [hw]
      exact h2

end Go.Gx
end
