/- What the functions of this program ask. -/
import Derived.Test.YtclkdldkebjgpaaGxTypes
import Derived.Test.YtclkdldkebjgpaaProg
import Derived.KernelRfl
set_option linter.unusedVariables false
set_option maxRecDepth 100000
namespace Go.Gx.S
open Go Go.Gx Go.Proofs
instance sz2 : Sz Try.prog 2 1 false := ⟨Try.sizeOf2, Try.isAgg2⟩
instance by2 : By Try.prog 2 8 := ⟨_, Try.typeInfo2, rfl⟩
instance zv2 : ZV Try.prog 2 (.int .i64 0) := ⟨Try.zeroValue2⟩
instance sz3 : Sz Try.prog 3 1 false := ⟨Try.sizeOf3, Try.isAgg3⟩
instance by3 : By Try.prog 3 8 := ⟨_, Try.typeInfo3, rfl⟩
instance zv3 : ZV Try.prog 3 (.int .i64 0) := ⟨Try.zeroValue3⟩
instance sz4 : Sz Try.prog 4 1 false := ⟨Try.sizeOf4, Try.isAgg4⟩
instance by4 : By Try.prog 4 1 := ⟨_, Try.typeInfo4, rfl⟩
instance zv4 : ZV Try.prog 4 (.bool false) := ⟨Try.zeroValue4⟩
instance sz5 : Sz Try.prog 5 1 false := ⟨Try.sizeOf5, Try.isAgg5⟩
instance by5 : By Try.prog 5 1 := ⟨_, Try.typeInfo5, rfl⟩
instance zv5 : ZV Try.prog 5 (.int .u8 0) := ⟨Try.zeroValue5⟩
instance sz6 : Sz Try.prog 6 1 false := ⟨Try.sizeOf6, Try.isAgg6⟩
instance by6 : By Try.prog 6 1 := ⟨_, Try.typeInfo6, rfl⟩
instance zv6 : ZV Try.prog 6 (.int .u8 0) := ⟨Try.zeroValue6⟩
instance sz7 : Sz Try.prog 7 4 true := ⟨Try.sizeOf7, Try.isAgg7⟩
instance by7 : By Try.prog 7 24 := ⟨_, Try.typeInfo7, rfl⟩
instance zv7 : ZV Try.prog 7 (.agg #[.int .i64 0, .int .i64 0, .bool false, .int .u8 0]) := ⟨Try.zeroValue7⟩
instance eq7 : EqT Try.prog 7 := ⟨by kernel_rfl, Try.eqGuardType7, .inl ⟨_, Try.underlying7⟩⟩
theorem fa7_0 {K : Value → World → Prop} {w : World} (b o : Nat) : opS Try.prog (S.fa 7 (pt b o) 0) K w = K (pt b (o + 0)) w := opS_fa (T := 7) (hT := ⟨Try.underlying7⟩) (fd := ⟨_, 2, 0, _, _, _, _⟩) (n := 1) rfl (hs := sz2) (Nat.succ_ne_zero _) b o
attribute [push_cast] fa7_0
theorem fa7_1 {K : Value → World → Prop} {w : World} (b o : Nat) : opS Try.prog (S.fa 7 (pt b o) 1) K w = K (pt b (o + 1)) w := opS_fa (T := 7) (hT := ⟨Try.underlying7⟩) (fd := ⟨_, 3, 1, _, _, _, _⟩) (n := 1) rfl (hs := sz3) (Nat.succ_ne_zero _) b o
attribute [push_cast] fa7_1
theorem fa7_2 {K : Value → World → Prop} {w : World} (b o : Nat) : opS Try.prog (S.fa 7 (pt b o) 2) K w = K (pt b (o + 2)) w := opS_fa (T := 7) (hT := ⟨Try.underlying7⟩) (fd := ⟨_, 4, 2, _, _, _, _⟩) (n := 1) rfl (hs := sz4) (Nat.succ_ne_zero _) b o
attribute [push_cast] fa7_2
theorem fa7_3 {K : Value → World → Prop} {w : World} (b o : Nat) : opS Try.prog (S.fa 7 (pt b o) 3) K w = K (pt b (o + 3)) w := opS_fa (T := 7) (hT := ⟨Try.underlying7⟩) (fd := ⟨_, 6, 3, _, _, _, _⟩) (n := 1) rfl (hs := sz6) (Nat.succ_ne_zero _) b o
attribute [push_cast] fa7_3
instance bt7 : BT Try.prog 7 [[.int .i64 0], [.int .i64 0], [.bool false], [.int .u8 0]] := BT.ofStruct Try.underlying7 Try.zeroValue7 rfl (fun w => by kernel_rfl)
instance sz8 : Sz Try.prog 8 4 true := ⟨Try.sizeOf8, Try.isAgg8⟩
instance by8 : By Try.prog 8 24 := ⟨_, Try.typeInfo8, rfl⟩
instance zv8 : ZV Try.prog 8 (.agg #[.int .i64 0, .int .i64 0, .bool false, .int .u8 0]) := ⟨Try.zeroValue8⟩
theorem fa8_0 {K : Value → World → Prop} {w : World} (b o : Nat) : opS Try.prog (S.fa 8 (pt b o) 0) K w = K (pt b (o + 0)) w := opS_fa (T := 8) (hT := ⟨Try.underlying8⟩) (fd := ⟨_, 2, 0, _, _, _, _⟩) (n := 1) rfl (hs := sz2) (Nat.succ_ne_zero _) b o
attribute [push_cast] fa8_0
theorem fa8_1 {K : Value → World → Prop} {w : World} (b o : Nat) : opS Try.prog (S.fa 8 (pt b o) 1) K w = K (pt b (o + 1)) w := opS_fa (T := 8) (hT := ⟨Try.underlying8⟩) (fd := ⟨_, 3, 1, _, _, _, _⟩) (n := 1) rfl (hs := sz3) (Nat.succ_ne_zero _) b o
attribute [push_cast] fa8_1
theorem fa8_2 {K : Value → World → Prop} {w : World} (b o : Nat) : opS Try.prog (S.fa 8 (pt b o) 2) K w = K (pt b (o + 2)) w := opS_fa (T := 8) (hT := ⟨Try.underlying8⟩) (fd := ⟨_, 4, 2, _, _, _, _⟩) (n := 1) rfl (hs := sz4) (Nat.succ_ne_zero _) b o
attribute [push_cast] fa8_2
theorem fa8_3 {K : Value → World → Prop} {w : World} (b o : Nat) : opS Try.prog (S.fa 8 (pt b o) 3) K w = K (pt b (o + 3)) w := opS_fa (T := 8) (hT := ⟨Try.underlying8⟩) (fd := ⟨_, 6, 3, _, _, _, _⟩) (n := 1) rfl (hs := sz6) (Nat.succ_ne_zero _) b o
attribute [push_cast] fa8_3
instance bt8 : BT Try.prog 8 [[.int .i64 0], [.int .i64 0], [.bool false], [.int .u8 0]] := BT.ofStruct Try.underlying8 Try.zeroValue8 rfl (fun w => by kernel_rfl)
instance sz9 : Sz Try.prog 9 1 false := ⟨Try.sizeOf9, Try.isAgg9⟩
instance by9 : By Try.prog 9 16 := ⟨_, Try.typeInfo9, rfl⟩
instance zv9 : ZV Try.prog 9 (.string ⟨#[]⟩) := ⟨Try.zeroValue9⟩
instance sz10 : Sz Try.prog 10 1 false := ⟨Try.sizeOf10, Try.isAgg10⟩
instance by10 : By Try.prog 10 16 := ⟨_, Try.typeInfo10, rfl⟩
instance zv10 : ZV Try.prog 10 (.string ⟨#[]⟩) := ⟨Try.zeroValue10⟩
instance sz11 : Sz Try.prog 11 1 false := ⟨Try.sizeOf11, Try.isAgg11⟩
instance by11 : By Try.prog 11 16 := ⟨_, Try.typeInfo11, rfl⟩
instance zv11 : ZV Try.prog 11 (.string ⟨#[]⟩) := ⟨Try.zeroValue11⟩
instance sz12 : Sz Try.prog 12 1 false := ⟨Try.sizeOf12, Try.isAgg12⟩
instance by12 : By Try.prog 12 8 := ⟨_, Try.typeInfo12, rfl⟩
instance zv12 : ZV Try.prog 12 (.int .u64 0) := ⟨Try.zeroValue12⟩
instance sz13 : Sz Try.prog 13 2 true := ⟨Try.sizeOf13, Try.isAgg13⟩
instance by13 : By Try.prog 13 24 := ⟨_, Try.typeInfo13, rfl⟩
instance zv13 : ZV Try.prog 13 (.agg #[.string ⟨#[]⟩, .int .u64 0]) := ⟨Try.zeroValue13⟩
theorem fa13_0 {K : Value → World → Prop} {w : World} (b o : Nat) : opS Try.prog (S.fa 13 (pt b o) 0) K w = K (pt b (o + 0)) w := opS_fa (T := 13) (hT := ⟨Try.underlying13⟩) (fd := ⟨_, 9, 0, _, _, _, _⟩) (n := 1) rfl (hs := sz9) (Nat.succ_ne_zero _) b o
attribute [push_cast] fa13_0
theorem fa13_1 {K : Value → World → Prop} {w : World} (b o : Nat) : opS Try.prog (S.fa 13 (pt b o) 1) K w = K (pt b (o + 1)) w := opS_fa (T := 13) (hT := ⟨Try.underlying13⟩) (fd := ⟨_, 12, 1, _, _, _, _⟩) (n := 1) rfl (hs := sz12) (Nat.succ_ne_zero _) b o
attribute [push_cast] fa13_1
instance bt13 : BT Try.prog 13 [[.string ⟨#[]⟩], [.int .u64 0]] := BT.ofStruct Try.underlying13 Try.zeroValue13 rfl (fun w => by kernel_rfl)
instance sz14 : Sz Try.prog 14 2 true := ⟨Try.sizeOf14, Try.isAgg14⟩
instance by14 : By Try.prog 14 24 := ⟨_, Try.typeInfo14, rfl⟩
instance zv14 : ZV Try.prog 14 (.agg #[.string ⟨#[]⟩, .int .u64 0]) := ⟨Try.zeroValue14⟩
theorem fa14_0 {K : Value → World → Prop} {w : World} (b o : Nat) : opS Try.prog (S.fa 14 (pt b o) 0) K w = K (pt b (o + 0)) w := opS_fa (T := 14) (hT := ⟨Try.underlying14⟩) (fd := ⟨_, 9, 0, _, _, _, _⟩) (n := 1) rfl (hs := sz9) (Nat.succ_ne_zero _) b o
attribute [push_cast] fa14_0
theorem fa14_1 {K : Value → World → Prop} {w : World} (b o : Nat) : opS Try.prog (S.fa 14 (pt b o) 1) K w = K (pt b (o + 1)) w := opS_fa (T := 14) (hT := ⟨Try.underlying14⟩) (fd := ⟨_, 12, 1, _, _, _, _⟩) (n := 1) rfl (hs := sz12) (Nat.succ_ne_zero _) b o
attribute [push_cast] fa14_1
instance bt14 : BT Try.prog 14 [[.string ⟨#[]⟩], [.int .u64 0]] := BT.ofStruct Try.underlying14 Try.zeroValue14 rfl (fun w => by kernel_rfl)
instance sz15 : Sz Try.prog 15 1 false := ⟨Try.sizeOf15, Try.isAgg15⟩
instance by15 : By Try.prog 15 8 := ⟨_, Try.typeInfo15, rfl⟩
instance zv15 : ZV Try.prog 15 (.pointer none) := ⟨Try.zeroValue15⟩
instance sz16 : Sz Try.prog 16 1 false := ⟨Try.sizeOf16, Try.isAgg16⟩
instance by16 : By Try.prog 16 8 := ⟨_, Try.typeInfo16, rfl⟩
instance zv16 : ZV Try.prog 16 (.pointer none) := ⟨Try.zeroValue16⟩
instance sz17 : Sz Try.prog 17 1 false := ⟨Try.sizeOf17, Try.isAgg17⟩
instance by17 : By Try.prog 17 8 := ⟨_, Try.typeInfo17, rfl⟩
instance zv17 : ZV Try.prog 17 (.pointer none) := ⟨Try.zeroValue17⟩
instance sz18 : Sz Try.prog 18 1 true := ⟨Try.sizeOf18, Try.isAgg18⟩
instance by18 : By Try.prog 18 8 := ⟨_, Try.typeInfo18, rfl⟩
instance zv18 : ZV Try.prog 18 (.agg #[.pointer none]) := ⟨Try.zeroValue18⟩
theorem fa18_0 {K : Value → World → Prop} {w : World} (b o : Nat) : opS Try.prog (S.fa 18 (pt b o) 0) K w = K (pt b (o + 0)) w := opS_fa (T := 18) (hT := ⟨Try.underlying18⟩) (fd := ⟨_, 17, 0, _, _, _, _⟩) (n := 1) rfl (hs := sz17) (Nat.succ_ne_zero _) b o
attribute [push_cast] fa18_0
instance bt18 : BT Try.prog 18 [[.pointer none]] := BT.ofStruct Try.underlying18 Try.zeroValue18 rfl (fun w => by kernel_rfl)
instance sz19 : Sz Try.prog 19 1 true := ⟨Try.sizeOf19, Try.isAgg19⟩
instance by19 : By Try.prog 19 8 := ⟨_, Try.typeInfo19, rfl⟩
instance zv19 : ZV Try.prog 19 (.agg #[.pointer none]) := ⟨Try.zeroValue19⟩
theorem fa19_0 {K : Value → World → Prop} {w : World} (b o : Nat) : opS Try.prog (S.fa 19 (pt b o) 0) K w = K (pt b (o + 0)) w := opS_fa (T := 19) (hT := ⟨Try.underlying19⟩) (fd := ⟨_, 17, 0, _, _, _, _⟩) (n := 1) rfl (hs := sz17) (Nat.succ_ne_zero _) b o
attribute [push_cast] fa19_0
instance bt19 : BT Try.prog 19 [[.pointer none]] := BT.ofStruct Try.underlying19 Try.zeroValue19 rfl (fun w => by kernel_rfl)
instance sz21 : Sz Try.prog 21 1 false := ⟨Try.sizeOf21, Try.isAgg21⟩
instance by21 : By Try.prog 21 4 := ⟨_, Try.typeInfo21, rfl⟩
instance zv21 : ZV Try.prog 21 (.int .i32 0) := ⟨Try.zeroValue21⟩
instance sz22 : Sz Try.prog 22 1 false := ⟨Try.sizeOf22, Try.isAgg22⟩
instance by22 : By Try.prog 22 24 := ⟨_, Try.typeInfo22, rfl⟩
instance zv22 : ZV Try.prog 22 (.slice none 0 0) := ⟨Try.zeroValue22⟩
instance sl22 : SlT Try.prog 22 36 := ⟨Try.underlying22⟩
instance sz23 : Sz Try.prog 23 1 false := ⟨Try.sizeOf23, Try.isAgg23⟩
instance by23 : By Try.prog 23 8 := ⟨_, Try.typeInfo23, rfl⟩
instance zv23 : ZV Try.prog 23 (.pointer none) := ⟨Try.zeroValue23⟩
instance sz24 : Sz Try.prog 24 1 false := ⟨Try.sizeOf24, Try.isAgg24⟩
instance by24 : By Try.prog 24 8 := ⟨_, Try.typeInfo24, rfl⟩
instance zv24 : ZV Try.prog 24 (.int .i64 0) := ⟨Try.zeroValue24⟩
instance sz27 : Sz Try.prog 27 1 false := ⟨Try.sizeOf27, Try.isAgg27⟩
instance by27 : By Try.prog 27 8 := ⟨_, Try.typeInfo27, rfl⟩
instance zv27 : ZV Try.prog 27 (.pointer none) := ⟨Try.zeroValue27⟩
instance sz30 : Sz Try.prog 30 1 false := ⟨Try.sizeOf30, Try.isAgg30⟩
instance by30 : By Try.prog 30 24 := ⟨_, Try.typeInfo30, rfl⟩
instance zv30 : ZV Try.prog 30 (.slice none 0 0) := ⟨Try.zeroValue30⟩
instance sl30 : SlT Try.prog 30 40 := ⟨Try.underlying30⟩
instance sz33 : Sz Try.prog 33 6 true := ⟨Try.sizeOf33, Try.isAgg33⟩
instance by33 : By Try.prog 33 6 := ⟨_, Try.typeInfo33, rfl⟩
instance zv33 : ZV Try.prog 33 (.agg #[.int .u8 0, .int .u8 0, .int .u8 0, .int .u8 0, .int .u8 0, .int .u8 0]) := ⟨Try.zeroValue33⟩
instance eq33 : EqT Try.prog 33 := ⟨by kernel_rfl, Try.eqGuardType33, .inr ⟨_, _, Try.underlying33⟩⟩
instance ar33 : ArT Try.prog 33 6 5 := ⟨Try.underlying33⟩
instance bt33 : BT Try.prog 33 (List.replicate 6 [.int .u8 0]) := BT.ofArray Try.underlying33 Try.zeroValue33 rfl sz5 rfl
instance sz34 : Sz Try.prog 34 6 true := ⟨Try.sizeOf34, Try.isAgg34⟩
instance by34 : By Try.prog 34 6 := ⟨_, Try.typeInfo34, rfl⟩
instance zv34 : ZV Try.prog 34 (.agg #[.int .u8 0, .int .u8 0, .int .u8 0, .int .u8 0, .int .u8 0, .int .u8 0]) := ⟨Try.zeroValue34⟩
instance eq34 : EqT Try.prog 34 := ⟨by kernel_rfl, Try.eqGuardType34, .inr ⟨_, _, Try.underlying34⟩⟩
instance ar34 : ArT Try.prog 34 6 5 := ⟨Try.underlying34⟩
instance bt34 : BT Try.prog 34 (List.replicate 6 [.int .u8 0]) := BT.ofArray Try.underlying34 Try.zeroValue34 rfl sz5 rfl
instance sz35 : Sz Try.prog 35 11 true := ⟨Try.sizeOf35, Try.isAgg35⟩
instance by35 : By Try.prog 35 48 := ⟨_, Try.typeInfo35, rfl⟩
instance zv35 : ZV Try.prog 35 (.agg #[.int .i64 0, .int .i64 0, .int .u8 0, .int .u8 0, .int .u8 0, .int .u8 0, .int .u8 0, .int .u8 0, .int .i64 0, .int .i64 0, .int .i64 0]) := ⟨Try.zeroValue35⟩
instance eq35 : EqT Try.prog 35 := ⟨by kernel_rfl, Try.eqGuardType35, .inl ⟨_, Try.underlying35⟩⟩
theorem fa35_0 {K : Value → World → Prop} {w : World} (b o : Nat) : opS Try.prog (S.fa 35 (pt b o) 0) K w = K (pt b (o + 0)) w := opS_fa (T := 35) (hT := ⟨Try.underlying35⟩) (fd := ⟨_, 3, 0, _, _, _, _⟩) (n := 1) rfl (hs := sz3) (Nat.succ_ne_zero _) b o
attribute [push_cast] fa35_0
theorem fa35_1 {K : Value → World → Prop} {w : World} (b o : Nat) : opS Try.prog (S.fa 35 (pt b o) 1) K w = K (pt b (o + 1)) w := opS_fa (T := 35) (hT := ⟨Try.underlying35⟩) (fd := ⟨_, 3, 1, _, _, _, _⟩) (n := 1) rfl (hs := sz3) (Nat.succ_ne_zero _) b o
attribute [push_cast] fa35_1
theorem fa35_2 {K : Value → World → Prop} {w : World} (b o : Nat) : opS Try.prog (S.fa 35 (pt b o) 2) K w = K (pt b (o + 2)) w := opS_fa (T := 35) (hT := ⟨Try.underlying35⟩) (fd := ⟨_, 34, 2, _, _, _, _⟩) (n := 6) rfl (hs := sz34) (Nat.succ_ne_zero _) b o
attribute [push_cast] fa35_2
theorem fa35_3 {K : Value → World → Prop} {w : World} (b o : Nat) : opS Try.prog (S.fa 35 (pt b o) 3) K w = K (pt b (o + 8)) w := opS_fa (T := 35) (hT := ⟨Try.underlying35⟩) (fd := ⟨_, 3, 8, _, _, _, _⟩) (n := 1) rfl (hs := sz3) (Nat.succ_ne_zero _) b o
attribute [push_cast] fa35_3
theorem fa35_4 {K : Value → World → Prop} {w : World} (b o : Nat) : opS Try.prog (S.fa 35 (pt b o) 4) K w = K (pt b (o + 9)) w := opS_fa (T := 35) (hT := ⟨Try.underlying35⟩) (fd := ⟨_, 3, 9, _, _, _, _⟩) (n := 1) rfl (hs := sz3) (Nat.succ_ne_zero _) b o
attribute [push_cast] fa35_4
theorem fa35_5 {K : Value → World → Prop} {w : World} (b o : Nat) : opS Try.prog (S.fa 35 (pt b o) 5) K w = K (pt b (o + 10)) w := opS_fa (T := 35) (hT := ⟨Try.underlying35⟩) (fd := ⟨_, 3, 10, _, _, _, _⟩) (n := 1) rfl (hs := sz3) (Nat.succ_ne_zero _) b o
attribute [push_cast] fa35_5
instance bt35 : BT Try.prog 35 [[.int .i64 0], [.int .i64 0], [.int .u8 0, .int .u8 0, .int .u8 0, .int .u8 0, .int .u8 0, .int .u8 0], [.int .i64 0], [.int .i64 0], [.int .i64 0]] := BT.ofStruct Try.underlying35 Try.zeroValue35 rfl (fun w => by kernel_rfl)
instance sz36 : Sz Try.prog 36 11 true := ⟨Try.sizeOf36, Try.isAgg36⟩
instance by36 : By Try.prog 36 48 := ⟨_, Try.typeInfo36, rfl⟩
instance zv36 : ZV Try.prog 36 (.agg #[.int .i64 0, .int .i64 0, .int .u8 0, .int .u8 0, .int .u8 0, .int .u8 0, .int .u8 0, .int .u8 0, .int .i64 0, .int .i64 0, .int .i64 0]) := ⟨Try.zeroValue36⟩
instance eq36 : EqT Try.prog 36 := ⟨by kernel_rfl, Try.eqGuardType36, .inl ⟨_, Try.underlying36⟩⟩
theorem fa36_0 {K : Value → World → Prop} {w : World} (b o : Nat) : opS Try.prog (S.fa 36 (pt b o) 0) K w = K (pt b (o + 0)) w := opS_fa (T := 36) (hT := ⟨Try.underlying36⟩) (fd := ⟨_, 3, 0, _, _, _, _⟩) (n := 1) rfl (hs := sz3) (Nat.succ_ne_zero _) b o
attribute [push_cast] fa36_0
theorem fa36_1 {K : Value → World → Prop} {w : World} (b o : Nat) : opS Try.prog (S.fa 36 (pt b o) 1) K w = K (pt b (o + 1)) w := opS_fa (T := 36) (hT := ⟨Try.underlying36⟩) (fd := ⟨_, 3, 1, _, _, _, _⟩) (n := 1) rfl (hs := sz3) (Nat.succ_ne_zero _) b o
attribute [push_cast] fa36_1
theorem fa36_2 {K : Value → World → Prop} {w : World} (b o : Nat) : opS Try.prog (S.fa 36 (pt b o) 2) K w = K (pt b (o + 2)) w := opS_fa (T := 36) (hT := ⟨Try.underlying36⟩) (fd := ⟨_, 34, 2, _, _, _, _⟩) (n := 6) rfl (hs := sz34) (Nat.succ_ne_zero _) b o
attribute [push_cast] fa36_2
theorem fa36_3 {K : Value → World → Prop} {w : World} (b o : Nat) : opS Try.prog (S.fa 36 (pt b o) 3) K w = K (pt b (o + 8)) w := opS_fa (T := 36) (hT := ⟨Try.underlying36⟩) (fd := ⟨_, 3, 8, _, _, _, _⟩) (n := 1) rfl (hs := sz3) (Nat.succ_ne_zero _) b o
attribute [push_cast] fa36_3
theorem fa36_4 {K : Value → World → Prop} {w : World} (b o : Nat) : opS Try.prog (S.fa 36 (pt b o) 4) K w = K (pt b (o + 9)) w := opS_fa (T := 36) (hT := ⟨Try.underlying36⟩) (fd := ⟨_, 3, 9, _, _, _, _⟩) (n := 1) rfl (hs := sz3) (Nat.succ_ne_zero _) b o
attribute [push_cast] fa36_4
theorem fa36_5 {K : Value → World → Prop} {w : World} (b o : Nat) : opS Try.prog (S.fa 36 (pt b o) 5) K w = K (pt b (o + 10)) w := opS_fa (T := 36) (hT := ⟨Try.underlying36⟩) (fd := ⟨_, 3, 10, _, _, _, _⟩) (n := 1) rfl (hs := sz3) (Nat.succ_ne_zero _) b o
attribute [push_cast] fa36_5
instance bt36 : BT Try.prog 36 [[.int .i64 0], [.int .i64 0], [.int .u8 0, .int .u8 0, .int .u8 0, .int .u8 0, .int .u8 0, .int .u8 0], [.int .i64 0], [.int .i64 0], [.int .i64 0]] := BT.ofStruct Try.underlying36 Try.zeroValue36 rfl (fun w => by kernel_rfl)
instance sz39 : Sz Try.prog 39 10 true := ⟨Try.sizeOf39, Try.isAgg39⟩
instance by39 : By Try.prog 39 40 := ⟨_, Try.typeInfo39, rfl⟩
instance zv39 : ZV Try.prog 39 (.agg #[.int .i64 0, .int .u8 0, .int .u8 0, .int .u8 0, .int .u8 0, .int .u8 0, .int .u8 0, .int .i64 0, .int .i64 0, .bool false]) := ⟨Try.zeroValue39⟩
instance eq39 : EqT Try.prog 39 := ⟨by kernel_rfl, Try.eqGuardType39, .inl ⟨_, Try.underlying39⟩⟩
theorem fa39_0 {K : Value → World → Prop} {w : World} (b o : Nat) : opS Try.prog (S.fa 39 (pt b o) 0) K w = K (pt b (o + 0)) w := opS_fa (T := 39) (hT := ⟨Try.underlying39⟩) (fd := ⟨_, 3, 0, _, _, _, _⟩) (n := 1) rfl (hs := sz3) (Nat.succ_ne_zero _) b o
attribute [push_cast] fa39_0
theorem fa39_1 {K : Value → World → Prop} {w : World} (b o : Nat) : opS Try.prog (S.fa 39 (pt b o) 1) K w = K (pt b (o + 1)) w := opS_fa (T := 39) (hT := ⟨Try.underlying39⟩) (fd := ⟨_, 34, 1, _, _, _, _⟩) (n := 6) rfl (hs := sz34) (Nat.succ_ne_zero _) b o
attribute [push_cast] fa39_1
theorem fa39_2 {K : Value → World → Prop} {w : World} (b o : Nat) : opS Try.prog (S.fa 39 (pt b o) 2) K w = K (pt b (o + 7)) w := opS_fa (T := 39) (hT := ⟨Try.underlying39⟩) (fd := ⟨_, 3, 7, _, _, _, _⟩) (n := 1) rfl (hs := sz3) (Nat.succ_ne_zero _) b o
attribute [push_cast] fa39_2
theorem fa39_3 {K : Value → World → Prop} {w : World} (b o : Nat) : opS Try.prog (S.fa 39 (pt b o) 3) K w = K (pt b (o + 8)) w := opS_fa (T := 39) (hT := ⟨Try.underlying39⟩) (fd := ⟨_, 3, 8, _, _, _, _⟩) (n := 1) rfl (hs := sz3) (Nat.succ_ne_zero _) b o
attribute [push_cast] fa39_3
theorem fa39_4 {K : Value → World → Prop} {w : World} (b o : Nat) : opS Try.prog (S.fa 39 (pt b o) 4) K w = K (pt b (o + 9)) w := opS_fa (T := 39) (hT := ⟨Try.underlying39⟩) (fd := ⟨_, 4, 9, _, _, _, _⟩) (n := 1) rfl (hs := sz4) (Nat.succ_ne_zero _) b o
attribute [push_cast] fa39_4
instance bt39 : BT Try.prog 39 [[.int .i64 0], [.int .u8 0, .int .u8 0, .int .u8 0, .int .u8 0, .int .u8 0, .int .u8 0], [.int .i64 0], [.int .i64 0], [.bool false]] := BT.ofStruct Try.underlying39 Try.zeroValue39 rfl (fun w => by kernel_rfl)
instance sz40 : Sz Try.prog 40 10 true := ⟨Try.sizeOf40, Try.isAgg40⟩
instance by40 : By Try.prog 40 40 := ⟨_, Try.typeInfo40, rfl⟩
instance zv40 : ZV Try.prog 40 (.agg #[.int .i64 0, .int .u8 0, .int .u8 0, .int .u8 0, .int .u8 0, .int .u8 0, .int .u8 0, .int .i64 0, .int .i64 0, .bool false]) := ⟨Try.zeroValue40⟩
instance eq40 : EqT Try.prog 40 := ⟨by kernel_rfl, Try.eqGuardType40, .inl ⟨_, Try.underlying40⟩⟩
theorem fa40_0 {K : Value → World → Prop} {w : World} (b o : Nat) : opS Try.prog (S.fa 40 (pt b o) 0) K w = K (pt b (o + 0)) w := opS_fa (T := 40) (hT := ⟨Try.underlying40⟩) (fd := ⟨_, 3, 0, _, _, _, _⟩) (n := 1) rfl (hs := sz3) (Nat.succ_ne_zero _) b o
attribute [push_cast] fa40_0
theorem fa40_1 {K : Value → World → Prop} {w : World} (b o : Nat) : opS Try.prog (S.fa 40 (pt b o) 1) K w = K (pt b (o + 1)) w := opS_fa (T := 40) (hT := ⟨Try.underlying40⟩) (fd := ⟨_, 34, 1, _, _, _, _⟩) (n := 6) rfl (hs := sz34) (Nat.succ_ne_zero _) b o
attribute [push_cast] fa40_1
theorem fa40_2 {K : Value → World → Prop} {w : World} (b o : Nat) : opS Try.prog (S.fa 40 (pt b o) 2) K w = K (pt b (o + 7)) w := opS_fa (T := 40) (hT := ⟨Try.underlying40⟩) (fd := ⟨_, 3, 7, _, _, _, _⟩) (n := 1) rfl (hs := sz3) (Nat.succ_ne_zero _) b o
attribute [push_cast] fa40_2
theorem fa40_3 {K : Value → World → Prop} {w : World} (b o : Nat) : opS Try.prog (S.fa 40 (pt b o) 3) K w = K (pt b (o + 8)) w := opS_fa (T := 40) (hT := ⟨Try.underlying40⟩) (fd := ⟨_, 3, 8, _, _, _, _⟩) (n := 1) rfl (hs := sz3) (Nat.succ_ne_zero _) b o
attribute [push_cast] fa40_3
theorem fa40_4 {K : Value → World → Prop} {w : World} (b o : Nat) : opS Try.prog (S.fa 40 (pt b o) 4) K w = K (pt b (o + 9)) w := opS_fa (T := 40) (hT := ⟨Try.underlying40⟩) (fd := ⟨_, 4, 9, _, _, _, _⟩) (n := 1) rfl (hs := sz4) (Nat.succ_ne_zero _) b o
attribute [push_cast] fa40_4
instance bt40 : BT Try.prog 40 [[.int .i64 0], [.int .u8 0, .int .u8 0, .int .u8 0, .int .u8 0, .int .u8 0, .int .u8 0], [.int .i64 0], [.int .i64 0], [.bool false]] := BT.ofStruct Try.underlying40 Try.zeroValue40 rfl (fun w => by kernel_rfl)
instance sz47 : Sz Try.prog 47 1 false := ⟨Try.sizeOf47, Try.isAgg47⟩
instance by47 : By Try.prog 47 24 := ⟨_, Try.typeInfo47, rfl⟩
instance zv47 : ZV Try.prog 47 (.slice none 0 0) := ⟨Try.zeroValue47⟩
instance sl47 : SlT Try.prog 47 86 := ⟨Try.underlying47⟩
instance sz53 : Sz Try.prog 53 2 true := ⟨Try.sizeOf53, Try.isAgg53⟩
instance by53 : By Try.prog 53 16 := ⟨_, Try.typeInfo53, rfl⟩
instance zv53 : ZV Try.prog 53 (.agg #[.int .i64 0, .int .i64 0]) := ⟨Try.zeroValue53⟩
instance eq53 : EqT Try.prog 53 := ⟨by kernel_rfl, Try.eqGuardType53, .inr ⟨_, _, Try.underlying53⟩⟩
instance ar53 : ArT Try.prog 53 2 3 := ⟨Try.underlying53⟩
instance bt53 : BT Try.prog 53 (List.replicate 2 [.int .i64 0]) := BT.ofArray Try.underlying53 Try.zeroValue53 rfl sz3 rfl
instance sz54 : Sz Try.prog 54 1 false := ⟨Try.sizeOf54, Try.isAgg54⟩
instance by54 : By Try.prog 54 8 := ⟨_, Try.typeInfo54, rfl⟩
instance zv54 : ZV Try.prog 54 (.pointer none) := ⟨Try.zeroValue54⟩
instance sz57 : Sz Try.prog 57 7 true := ⟨Try.sizeOf57, Try.isAgg57⟩
instance by57 : By Try.prog 57 16 := ⟨_, Try.typeInfo57, rfl⟩
instance zv57 : ZV Try.prog 57 (.agg #[.int .i64 0, .int .u8 0, .int .u8 0, .int .u8 0, .int .u8 0, .int .u8 0, .int .u8 0]) := ⟨Try.zeroValue57⟩
instance eq57 : EqT Try.prog 57 := ⟨by kernel_rfl, Try.eqGuardType57, .inl ⟨_, Try.underlying57⟩⟩
theorem fa57_0 {K : Value → World → Prop} {w : World} (b o : Nat) : opS Try.prog (S.fa 57 (pt b o) 0) K w = K (pt b (o + 0)) w := opS_fa (T := 57) (hT := ⟨Try.underlying57⟩) (fd := ⟨_, 3, 0, _, _, _, _⟩) (n := 1) rfl (hs := sz3) (Nat.succ_ne_zero _) b o
attribute [push_cast] fa57_0
theorem fa57_1 {K : Value → World → Prop} {w : World} (b o : Nat) : opS Try.prog (S.fa 57 (pt b o) 1) K w = K (pt b (o + 1)) w := opS_fa (T := 57) (hT := ⟨Try.underlying57⟩) (fd := ⟨_, 34, 1, _, _, _, _⟩) (n := 6) rfl (hs := sz34) (Nat.succ_ne_zero _) b o
attribute [push_cast] fa57_1
instance bt57 : BT Try.prog 57 [[.int .i64 0], [.int .u8 0, .int .u8 0, .int .u8 0, .int .u8 0, .int .u8 0, .int .u8 0]] := BT.ofStruct Try.underlying57 Try.zeroValue57 rfl (fun w => by kernel_rfl)
instance sz58 : Sz Try.prog 58 7 true := ⟨Try.sizeOf58, Try.isAgg58⟩
instance by58 : By Try.prog 58 16 := ⟨_, Try.typeInfo58, rfl⟩
instance zv58 : ZV Try.prog 58 (.agg #[.int .i64 0, .int .u8 0, .int .u8 0, .int .u8 0, .int .u8 0, .int .u8 0, .int .u8 0]) := ⟨Try.zeroValue58⟩
instance eq58 : EqT Try.prog 58 := ⟨by kernel_rfl, Try.eqGuardType58, .inl ⟨_, Try.underlying58⟩⟩
theorem fa58_0 {K : Value → World → Prop} {w : World} (b o : Nat) : opS Try.prog (S.fa 58 (pt b o) 0) K w = K (pt b (o + 0)) w := opS_fa (T := 58) (hT := ⟨Try.underlying58⟩) (fd := ⟨_, 3, 0, _, _, _, _⟩) (n := 1) rfl (hs := sz3) (Nat.succ_ne_zero _) b o
attribute [push_cast] fa58_0
theorem fa58_1 {K : Value → World → Prop} {w : World} (b o : Nat) : opS Try.prog (S.fa 58 (pt b o) 1) K w = K (pt b (o + 1)) w := opS_fa (T := 58) (hT := ⟨Try.underlying58⟩) (fd := ⟨_, 34, 1, _, _, _, _⟩) (n := 6) rfl (hs := sz34) (Nat.succ_ne_zero _) b o
attribute [push_cast] fa58_1
instance bt58 : BT Try.prog 58 [[.int .i64 0], [.int .u8 0, .int .u8 0, .int .u8 0, .int .u8 0, .int .u8 0, .int .u8 0]] := BT.ofStruct Try.underlying58 Try.zeroValue58 rfl (fun w => by kernel_rfl)
instance sz59 : Sz Try.prog 59 1 false := ⟨Try.sizeOf59, Try.isAgg59⟩
instance by59 : By Try.prog 59 24 := ⟨_, Try.typeInfo59, rfl⟩
instance zv59 : ZV Try.prog 59 (.slice none 0 0) := ⟨Try.zeroValue59⟩
instance sl59 : SlT Try.prog 59 3 := ⟨Try.underlying59⟩
instance sz61 : Sz Try.prog 61 1 false := ⟨Try.sizeOf61, Try.isAgg61⟩
instance by61 : By Try.prog 61 24 := ⟨_, Try.typeInfo61, rfl⟩
instance zv61 : ZV Try.prog 61 (.slice none 0 0) := ⟨Try.zeroValue61⟩
instance sl61 : SlT Try.prog 61 125 := ⟨Try.underlying61⟩
instance sz68 : Sz Try.prog 68 2 true := ⟨Try.sizeOf68, Try.isAgg68⟩
instance by68 : By Try.prog 68 32 := ⟨_, Try.typeInfo68, rfl⟩
instance zv68 : ZV Try.prog 68 (.agg #[.slice none 0 0, .int .i64 0]) := ⟨Try.zeroValue68⟩
theorem fa68_0 {K : Value → World → Prop} {w : World} (b o : Nat) : opS Try.prog (S.fa 68 (pt b o) 0) K w = K (pt b (o + 0)) w := opS_fa (T := 68) (hT := ⟨Try.underlying68⟩) (fd := ⟨_, 30, 0, _, _, _, _⟩) (n := 1) rfl (hs := sz30) (Nat.succ_ne_zero _) b o
attribute [push_cast] fa68_0
theorem fa68_1 {K : Value → World → Prop} {w : World} (b o : Nat) : opS Try.prog (S.fa 68 (pt b o) 1) K w = K (pt b (o + 1)) w := opS_fa (T := 68) (hT := ⟨Try.underlying68⟩) (fd := ⟨_, 3, 1, _, _, _, _⟩) (n := 1) rfl (hs := sz3) (Nat.succ_ne_zero _) b o
attribute [push_cast] fa68_1
instance bt68 : BT Try.prog 68 [[.slice none 0 0], [.int .i64 0]] := BT.ofStruct Try.underlying68 Try.zeroValue68 rfl (fun w => by kernel_rfl)
instance sz69 : Sz Try.prog 69 2 true := ⟨Try.sizeOf69, Try.isAgg69⟩
instance by69 : By Try.prog 69 32 := ⟨_, Try.typeInfo69, rfl⟩
instance zv69 : ZV Try.prog 69 (.agg #[.slice none 0 0, .int .i64 0]) := ⟨Try.zeroValue69⟩
theorem fa69_0 {K : Value → World → Prop} {w : World} (b o : Nat) : opS Try.prog (S.fa 69 (pt b o) 0) K w = K (pt b (o + 0)) w := opS_fa (T := 69) (hT := ⟨Try.underlying69⟩) (fd := ⟨_, 30, 0, _, _, _, _⟩) (n := 1) rfl (hs := sz30) (Nat.succ_ne_zero _) b o
attribute [push_cast] fa69_0
theorem fa69_1 {K : Value → World → Prop} {w : World} (b o : Nat) : opS Try.prog (S.fa 69 (pt b o) 1) K w = K (pt b (o + 1)) w := opS_fa (T := 69) (hT := ⟨Try.underlying69⟩) (fd := ⟨_, 3, 1, _, _, _, _⟩) (n := 1) rfl (hs := sz3) (Nat.succ_ne_zero _) b o
attribute [push_cast] fa69_1
instance bt69 : BT Try.prog 69 [[.slice none 0 0], [.int .i64 0]] := BT.ofStruct Try.underlying69 Try.zeroValue69 rfl (fun w => by kernel_rfl)
instance sz70 : Sz Try.prog 70 2 true := ⟨Try.sizeOf70, Try.isAgg70⟩
instance by70 : By Try.prog 70 32 := ⟨_, Try.typeInfo70, rfl⟩
instance zv70 : ZV Try.prog 70 (.agg #[.slice none 0 0, .int .i64 0]) := ⟨Try.zeroValue70⟩
theorem fa70_0 {K : Value → World → Prop} {w : World} (b o : Nat) : opS Try.prog (S.fa 70 (pt b o) 0) K w = K (pt b (o + 0)) w := opS_fa (T := 70) (hT := ⟨Try.underlying70⟩) (fd := ⟨_, 47, 0, _, _, _, _⟩) (n := 1) rfl (hs := sz47) (Nat.succ_ne_zero _) b o
attribute [push_cast] fa70_0
theorem fa70_1 {K : Value → World → Prop} {w : World} (b o : Nat) : opS Try.prog (S.fa 70 (pt b o) 1) K w = K (pt b (o + 1)) w := opS_fa (T := 70) (hT := ⟨Try.underlying70⟩) (fd := ⟨_, 3, 1, _, _, _, _⟩) (n := 1) rfl (hs := sz3) (Nat.succ_ne_zero _) b o
attribute [push_cast] fa70_1
instance bt70 : BT Try.prog 70 [[.slice none 0 0], [.int .i64 0]] := BT.ofStruct Try.underlying70 Try.zeroValue70 rfl (fun w => by kernel_rfl)
instance sz71 : Sz Try.prog 71 2 true := ⟨Try.sizeOf71, Try.isAgg71⟩
instance by71 : By Try.prog 71 32 := ⟨_, Try.typeInfo71, rfl⟩
instance zv71 : ZV Try.prog 71 (.agg #[.slice none 0 0, .int .i64 0]) := ⟨Try.zeroValue71⟩
theorem fa71_0 {K : Value → World → Prop} {w : World} (b o : Nat) : opS Try.prog (S.fa 71 (pt b o) 0) K w = K (pt b (o + 0)) w := opS_fa (T := 71) (hT := ⟨Try.underlying71⟩) (fd := ⟨_, 47, 0, _, _, _, _⟩) (n := 1) rfl (hs := sz47) (Nat.succ_ne_zero _) b o
attribute [push_cast] fa71_0
theorem fa71_1 {K : Value → World → Prop} {w : World} (b o : Nat) : opS Try.prog (S.fa 71 (pt b o) 1) K w = K (pt b (o + 1)) w := opS_fa (T := 71) (hT := ⟨Try.underlying71⟩) (fd := ⟨_, 3, 1, _, _, _, _⟩) (n := 1) rfl (hs := sz3) (Nat.succ_ne_zero _) b o
attribute [push_cast] fa71_1
instance bt71 : BT Try.prog 71 [[.slice none 0 0], [.int .i64 0]] := BT.ofStruct Try.underlying71 Try.zeroValue71 rfl (fun w => by kernel_rfl)
instance sz85 : Sz Try.prog 85 12 true := ⟨Try.sizeOf85, Try.isAgg85⟩
instance by85 : By Try.prog 85 56 := ⟨_, Try.typeInfo85, rfl⟩
instance zv85 : ZV Try.prog 85 (.agg #[.int .i64 0, .int .i64 0, .int .u8 0, .int .u8 0, .int .u8 0, .int .u8 0, .int .u8 0, .int .u8 0, .int .i64 0, .int .i64 0, .bool false, .bool false]) := ⟨Try.zeroValue85⟩
instance eq85 : EqT Try.prog 85 := ⟨by kernel_rfl, Try.eqGuardType85, .inl ⟨_, Try.underlying85⟩⟩
theorem fa85_0 {K : Value → World → Prop} {w : World} (b o : Nat) : opS Try.prog (S.fa 85 (pt b o) 0) K w = K (pt b (o + 0)) w := opS_fa (T := 85) (hT := ⟨Try.underlying85⟩) (fd := ⟨_, 3, 0, _, _, _, _⟩) (n := 1) rfl (hs := sz3) (Nat.succ_ne_zero _) b o
attribute [push_cast] fa85_0
theorem fa85_1 {K : Value → World → Prop} {w : World} (b o : Nat) : opS Try.prog (S.fa 85 (pt b o) 1) K w = K (pt b (o + 1)) w := opS_fa (T := 85) (hT := ⟨Try.underlying85⟩) (fd := ⟨_, 40, 1, _, _, _, _⟩) (n := 10) rfl (hs := sz40) (Nat.succ_ne_zero _) b o
attribute [push_cast] fa85_1
theorem fa85_2 {K : Value → World → Prop} {w : World} (b o : Nat) : opS Try.prog (S.fa 85 (pt b o) 2) K w = K (pt b (o + 11)) w := opS_fa (T := 85) (hT := ⟨Try.underlying85⟩) (fd := ⟨_, 4, 11, _, _, _, _⟩) (n := 1) rfl (hs := sz4) (Nat.succ_ne_zero _) b o
attribute [push_cast] fa85_2
instance bt85 : BT Try.prog 85 [[.int .i64 0], [.int .i64 0, .int .u8 0, .int .u8 0, .int .u8 0, .int .u8 0, .int .u8 0, .int .u8 0, .int .i64 0, .int .i64 0, .bool false], [.bool false]] := BT.ofStruct Try.underlying85 Try.zeroValue85 rfl (fun w => by kernel_rfl)
instance sz86 : Sz Try.prog 86 12 true := ⟨Try.sizeOf86, Try.isAgg86⟩
instance by86 : By Try.prog 86 56 := ⟨_, Try.typeInfo86, rfl⟩
instance zv86 : ZV Try.prog 86 (.agg #[.int .i64 0, .int .i64 0, .int .u8 0, .int .u8 0, .int .u8 0, .int .u8 0, .int .u8 0, .int .u8 0, .int .i64 0, .int .i64 0, .bool false, .bool false]) := ⟨Try.zeroValue86⟩
instance eq86 : EqT Try.prog 86 := ⟨by kernel_rfl, Try.eqGuardType86, .inl ⟨_, Try.underlying86⟩⟩
theorem fa86_0 {K : Value → World → Prop} {w : World} (b o : Nat) : opS Try.prog (S.fa 86 (pt b o) 0) K w = K (pt b (o + 0)) w := opS_fa (T := 86) (hT := ⟨Try.underlying86⟩) (fd := ⟨_, 3, 0, _, _, _, _⟩) (n := 1) rfl (hs := sz3) (Nat.succ_ne_zero _) b o
attribute [push_cast] fa86_0
theorem fa86_1 {K : Value → World → Prop} {w : World} (b o : Nat) : opS Try.prog (S.fa 86 (pt b o) 1) K w = K (pt b (o + 1)) w := opS_fa (T := 86) (hT := ⟨Try.underlying86⟩) (fd := ⟨_, 40, 1, _, _, _, _⟩) (n := 10) rfl (hs := sz40) (Nat.succ_ne_zero _) b o
attribute [push_cast] fa86_1
theorem fa86_2 {K : Value → World → Prop} {w : World} (b o : Nat) : opS Try.prog (S.fa 86 (pt b o) 2) K w = K (pt b (o + 11)) w := opS_fa (T := 86) (hT := ⟨Try.underlying86⟩) (fd := ⟨_, 4, 11, _, _, _, _⟩) (n := 1) rfl (hs := sz4) (Nat.succ_ne_zero _) b o
attribute [push_cast] fa86_2
instance bt86 : BT Try.prog 86 [[.int .i64 0], [.int .i64 0, .int .u8 0, .int .u8 0, .int .u8 0, .int .u8 0, .int .u8 0, .int .u8 0, .int .i64 0, .int .i64 0, .bool false], [.bool false]] := BT.ofStruct Try.underlying86 Try.zeroValue86 rfl (fun w => by kernel_rfl)
instance sz92 : Sz Try.prog 92 1 false := ⟨Try.sizeOf92, Try.isAgg92⟩
instance by92 : By Try.prog 92 8 := ⟨_, Try.typeInfo92, rfl⟩
instance zv92 : ZV Try.prog 92 (.map none) := ⟨Try.zeroValue92⟩
instance mp92 : MpT Try.prog 92 94 40 := ⟨Try.underlying92⟩
instance sz93 : Sz Try.prog 93 7 true := ⟨Try.sizeOf93, Try.isAgg93⟩
instance by93 : By Try.prog 93 16 := ⟨_, Try.typeInfo93, rfl⟩
instance zv93 : ZV Try.prog 93 (.agg #[.int .i64 0, .int .u8 0, .int .u8 0, .int .u8 0, .int .u8 0, .int .u8 0, .int .u8 0]) := ⟨Try.zeroValue93⟩
instance eq93 : EqT Try.prog 93 := ⟨by kernel_rfl, Try.eqGuardType93, .inl ⟨_, Try.underlying93⟩⟩
theorem fa93_0 {K : Value → World → Prop} {w : World} (b o : Nat) : opS Try.prog (S.fa 93 (pt b o) 0) K w = K (pt b (o + 0)) w := opS_fa (T := 93) (hT := ⟨Try.underlying93⟩) (fd := ⟨_, 3, 0, _, _, _, _⟩) (n := 1) rfl (hs := sz3) (Nat.succ_ne_zero _) b o
attribute [push_cast] fa93_0
theorem fa93_1 {K : Value → World → Prop} {w : World} (b o : Nat) : opS Try.prog (S.fa 93 (pt b o) 1) K w = K (pt b (o + 1)) w := opS_fa (T := 93) (hT := ⟨Try.underlying93⟩) (fd := ⟨_, 34, 1, _, _, _, _⟩) (n := 6) rfl (hs := sz34) (Nat.succ_ne_zero _) b o
attribute [push_cast] fa93_1
instance bt93 : BT Try.prog 93 [[.int .i64 0], [.int .u8 0, .int .u8 0, .int .u8 0, .int .u8 0, .int .u8 0, .int .u8 0]] := BT.ofStruct Try.underlying93 Try.zeroValue93 rfl (fun w => by kernel_rfl)
instance sz94 : Sz Try.prog 94 7 true := ⟨Try.sizeOf94, Try.isAgg94⟩
instance by94 : By Try.prog 94 16 := ⟨_, Try.typeInfo94, rfl⟩
instance zv94 : ZV Try.prog 94 (.agg #[.int .i64 0, .int .u8 0, .int .u8 0, .int .u8 0, .int .u8 0, .int .u8 0, .int .u8 0]) := ⟨Try.zeroValue94⟩
instance eq94 : EqT Try.prog 94 := ⟨by kernel_rfl, Try.eqGuardType94, .inl ⟨_, Try.underlying94⟩⟩
theorem fa94_0 {K : Value → World → Prop} {w : World} (b o : Nat) : opS Try.prog (S.fa 94 (pt b o) 0) K w = K (pt b (o + 0)) w := opS_fa (T := 94) (hT := ⟨Try.underlying94⟩) (fd := ⟨_, 3, 0, _, _, _, _⟩) (n := 1) rfl (hs := sz3) (Nat.succ_ne_zero _) b o
attribute [push_cast] fa94_0
theorem fa94_1 {K : Value → World → Prop} {w : World} (b o : Nat) : opS Try.prog (S.fa 94 (pt b o) 1) K w = K (pt b (o + 1)) w := opS_fa (T := 94) (hT := ⟨Try.underlying94⟩) (fd := ⟨_, 34, 1, _, _, _, _⟩) (n := 6) rfl (hs := sz34) (Nat.succ_ne_zero _) b o
attribute [push_cast] fa94_1
instance bt94 : BT Try.prog 94 [[.int .i64 0], [.int .u8 0, .int .u8 0, .int .u8 0, .int .u8 0, .int .u8 0, .int .u8 0]] := BT.ofStruct Try.underlying94 Try.zeroValue94 rfl (fun w => by kernel_rfl)
instance sz100 : Sz Try.prog 100 1 false := ⟨Try.sizeOf100, Try.isAgg100⟩
instance by100 : By Try.prog 100 24 := ⟨_, Try.typeInfo100, rfl⟩
instance zv100 : ZV Try.prog 100 (.slice none 0 0) := ⟨Try.zeroValue100⟩
instance sl100 : SlT Try.prog 100 108 := ⟨Try.underlying100⟩
instance sz101 : Sz Try.prog 101 2 true := ⟨Try.sizeOf101, Try.isAgg101⟩
instance by101 : By Try.prog 101 32 := ⟨_, Try.typeInfo101, rfl⟩
instance zv101 : ZV Try.prog 101 (.agg #[.slice none 0 0, .int .i64 0]) := ⟨Try.zeroValue101⟩
theorem fa101_0 {K : Value → World → Prop} {w : World} (b o : Nat) : opS Try.prog (S.fa 101 (pt b o) 0) K w = K (pt b (o + 0)) w := opS_fa (T := 101) (hT := ⟨Try.underlying101⟩) (fd := ⟨_, 100, 0, _, _, _, _⟩) (n := 1) rfl (hs := sz100) (Nat.succ_ne_zero _) b o
attribute [push_cast] fa101_0
theorem fa101_1 {K : Value → World → Prop} {w : World} (b o : Nat) : opS Try.prog (S.fa 101 (pt b o) 1) K w = K (pt b (o + 1)) w := opS_fa (T := 101) (hT := ⟨Try.underlying101⟩) (fd := ⟨_, 3, 1, _, _, _, _⟩) (n := 1) rfl (hs := sz3) (Nat.succ_ne_zero _) b o
attribute [push_cast] fa101_1
instance bt101 : BT Try.prog 101 [[.slice none 0 0], [.int .i64 0]] := BT.ofStruct Try.underlying101 Try.zeroValue101 rfl (fun w => by kernel_rfl)
instance sz102 : Sz Try.prog 102 2 true := ⟨Try.sizeOf102, Try.isAgg102⟩
instance by102 : By Try.prog 102 32 := ⟨_, Try.typeInfo102, rfl⟩
instance zv102 : ZV Try.prog 102 (.agg #[.slice none 0 0, .int .i64 0]) := ⟨Try.zeroValue102⟩
theorem fa102_0 {K : Value → World → Prop} {w : World} (b o : Nat) : opS Try.prog (S.fa 102 (pt b o) 0) K w = K (pt b (o + 0)) w := opS_fa (T := 102) (hT := ⟨Try.underlying102⟩) (fd := ⟨_, 100, 0, _, _, _, _⟩) (n := 1) rfl (hs := sz100) (Nat.succ_ne_zero _) b o
attribute [push_cast] fa102_0
theorem fa102_1 {K : Value → World → Prop} {w : World} (b o : Nat) : opS Try.prog (S.fa 102 (pt b o) 1) K w = K (pt b (o + 1)) w := opS_fa (T := 102) (hT := ⟨Try.underlying102⟩) (fd := ⟨_, 3, 1, _, _, _, _⟩) (n := 1) rfl (hs := sz3) (Nat.succ_ne_zero _) b o
attribute [push_cast] fa102_1
instance bt102 : BT Try.prog 102 [[.slice none 0 0], [.int .i64 0]] := BT.ofStruct Try.underlying102 Try.zeroValue102 rfl (fun w => by kernel_rfl)
instance sz103 : Sz Try.prog 103 1 false := ⟨Try.sizeOf103, Try.isAgg103⟩
instance by103 : By Try.prog 103 8 := ⟨_, Try.typeInfo103, rfl⟩
instance zv103 : ZV Try.prog 103 (.pointer none) := ⟨Try.zeroValue103⟩
instance sz106 : Sz Try.prog 106 11 true := ⟨Try.sizeOf106, Try.isAgg106⟩
instance by106 : By Try.prog 106 48 := ⟨_, Try.typeInfo106, rfl⟩
instance zv106 : ZV Try.prog 106 (.agg #[.int .i64 0, .int .u8 0, .int .u8 0, .int .u8 0, .int .u8 0, .int .u8 0, .int .u8 0, .int .i64 0, .int .i64 0, .int .i64 0, .int .i64 0]) := ⟨Try.zeroValue106⟩
instance eq106 : EqT Try.prog 106 := ⟨by kernel_rfl, Try.eqGuardType106, .inl ⟨_, Try.underlying106⟩⟩
theorem fa106_0 {K : Value → World → Prop} {w : World} (b o : Nat) : opS Try.prog (S.fa 106 (pt b o) 0) K w = K (pt b (o + 0)) w := opS_fa (T := 106) (hT := ⟨Try.underlying106⟩) (fd := ⟨_, 3, 0, _, _, _, _⟩) (n := 1) rfl (hs := sz3) (Nat.succ_ne_zero _) b o
attribute [push_cast] fa106_0
theorem fa106_1 {K : Value → World → Prop} {w : World} (b o : Nat) : opS Try.prog (S.fa 106 (pt b o) 1) K w = K (pt b (o + 1)) w := opS_fa (T := 106) (hT := ⟨Try.underlying106⟩) (fd := ⟨_, 34, 1, _, _, _, _⟩) (n := 6) rfl (hs := sz34) (Nat.succ_ne_zero _) b o
attribute [push_cast] fa106_1
theorem fa106_2 {K : Value → World → Prop} {w : World} (b o : Nat) : opS Try.prog (S.fa 106 (pt b o) 2) K w = K (pt b (o + 7)) w := opS_fa (T := 106) (hT := ⟨Try.underlying106⟩) (fd := ⟨_, 3, 7, _, _, _, _⟩) (n := 1) rfl (hs := sz3) (Nat.succ_ne_zero _) b o
attribute [push_cast] fa106_2
theorem fa106_3 {K : Value → World → Prop} {w : World} (b o : Nat) : opS Try.prog (S.fa 106 (pt b o) 3) K w = K (pt b (o + 8)) w := opS_fa (T := 106) (hT := ⟨Try.underlying106⟩) (fd := ⟨_, 3, 8, _, _, _, _⟩) (n := 1) rfl (hs := sz3) (Nat.succ_ne_zero _) b o
attribute [push_cast] fa106_3
theorem fa106_4 {K : Value → World → Prop} {w : World} (b o : Nat) : opS Try.prog (S.fa 106 (pt b o) 4) K w = K (pt b (o + 9)) w := opS_fa (T := 106) (hT := ⟨Try.underlying106⟩) (fd := ⟨_, 3, 9, _, _, _, _⟩) (n := 1) rfl (hs := sz3) (Nat.succ_ne_zero _) b o
attribute [push_cast] fa106_4
theorem fa106_5 {K : Value → World → Prop} {w : World} (b o : Nat) : opS Try.prog (S.fa 106 (pt b o) 5) K w = K (pt b (o + 10)) w := opS_fa (T := 106) (hT := ⟨Try.underlying106⟩) (fd := ⟨_, 3, 10, _, _, _, _⟩) (n := 1) rfl (hs := sz3) (Nat.succ_ne_zero _) b o
attribute [push_cast] fa106_5
instance bt106 : BT Try.prog 106 [[.int .i64 0], [.int .u8 0, .int .u8 0, .int .u8 0, .int .u8 0, .int .u8 0, .int .u8 0], [.int .i64 0], [.int .i64 0], [.int .i64 0], [.int .i64 0]] := BT.ofStruct Try.underlying106 Try.zeroValue106 rfl (fun w => by kernel_rfl)
instance sz107 : Sz Try.prog 107 11 true := ⟨Try.sizeOf107, Try.isAgg107⟩
instance by107 : By Try.prog 107 48 := ⟨_, Try.typeInfo107, rfl⟩
instance zv107 : ZV Try.prog 107 (.agg #[.int .i64 0, .int .u8 0, .int .u8 0, .int .u8 0, .int .u8 0, .int .u8 0, .int .u8 0, .int .i64 0, .int .i64 0, .int .i64 0, .int .i64 0]) := ⟨Try.zeroValue107⟩
instance eq107 : EqT Try.prog 107 := ⟨by kernel_rfl, Try.eqGuardType107, .inl ⟨_, Try.underlying107⟩⟩
theorem fa107_0 {K : Value → World → Prop} {w : World} (b o : Nat) : opS Try.prog (S.fa 107 (pt b o) 0) K w = K (pt b (o + 0)) w := opS_fa (T := 107) (hT := ⟨Try.underlying107⟩) (fd := ⟨_, 3, 0, _, _, _, _⟩) (n := 1) rfl (hs := sz3) (Nat.succ_ne_zero _) b o
attribute [push_cast] fa107_0
theorem fa107_1 {K : Value → World → Prop} {w : World} (b o : Nat) : opS Try.prog (S.fa 107 (pt b o) 1) K w = K (pt b (o + 1)) w := opS_fa (T := 107) (hT := ⟨Try.underlying107⟩) (fd := ⟨_, 34, 1, _, _, _, _⟩) (n := 6) rfl (hs := sz34) (Nat.succ_ne_zero _) b o
attribute [push_cast] fa107_1
theorem fa107_2 {K : Value → World → Prop} {w : World} (b o : Nat) : opS Try.prog (S.fa 107 (pt b o) 2) K w = K (pt b (o + 7)) w := opS_fa (T := 107) (hT := ⟨Try.underlying107⟩) (fd := ⟨_, 3, 7, _, _, _, _⟩) (n := 1) rfl (hs := sz3) (Nat.succ_ne_zero _) b o
attribute [push_cast] fa107_2
theorem fa107_3 {K : Value → World → Prop} {w : World} (b o : Nat) : opS Try.prog (S.fa 107 (pt b o) 3) K w = K (pt b (o + 8)) w := opS_fa (T := 107) (hT := ⟨Try.underlying107⟩) (fd := ⟨_, 3, 8, _, _, _, _⟩) (n := 1) rfl (hs := sz3) (Nat.succ_ne_zero _) b o
attribute [push_cast] fa107_3
theorem fa107_4 {K : Value → World → Prop} {w : World} (b o : Nat) : opS Try.prog (S.fa 107 (pt b o) 4) K w = K (pt b (o + 9)) w := opS_fa (T := 107) (hT := ⟨Try.underlying107⟩) (fd := ⟨_, 3, 9, _, _, _, _⟩) (n := 1) rfl (hs := sz3) (Nat.succ_ne_zero _) b o
attribute [push_cast] fa107_4
theorem fa107_5 {K : Value → World → Prop} {w : World} (b o : Nat) : opS Try.prog (S.fa 107 (pt b o) 5) K w = K (pt b (o + 10)) w := opS_fa (T := 107) (hT := ⟨Try.underlying107⟩) (fd := ⟨_, 3, 10, _, _, _, _⟩) (n := 1) rfl (hs := sz3) (Nat.succ_ne_zero _) b o
attribute [push_cast] fa107_5
instance bt107 : BT Try.prog 107 [[.int .i64 0], [.int .u8 0, .int .u8 0, .int .u8 0, .int .u8 0, .int .u8 0, .int .u8 0], [.int .i64 0], [.int .i64 0], [.int .i64 0], [.int .i64 0]] := BT.ofStruct Try.underlying107 Try.zeroValue107 rfl (fun w => by kernel_rfl)
instance sz108 : Sz Try.prog 108 1 false := ⟨Try.sizeOf108, Try.isAgg108⟩
instance by108 : By Try.prog 108 8 := ⟨_, Try.typeInfo108, rfl⟩
instance zv108 : ZV Try.prog 108 (.pointer none) := ⟨Try.zeroValue108⟩
instance sz109 : Sz Try.prog 109 1 false := ⟨Try.sizeOf109, Try.isAgg109⟩
instance by109 : By Try.prog 109 8 := ⟨_, Try.typeInfo109, rfl⟩
instance zv109 : ZV Try.prog 109 (.pointer none) := ⟨Try.zeroValue109⟩
instance sz111 : Sz Try.prog 111 6 true := ⟨Try.sizeOf111, Try.isAgg111⟩
instance by111 : By Try.prog 111 40 := ⟨_, Try.typeInfo111, rfl⟩
instance zv111 : ZV Try.prog 111 (.agg #[.pointer none, .pointer none, .int .i64 0, .bool false, .bool false, .int .i64 0]) := ⟨Try.zeroValue111⟩
theorem fa111_0 {K : Value → World → Prop} {w : World} (b o : Nat) : opS Try.prog (S.fa 111 (pt b o) 0) K w = K (pt b (o + 0)) w := opS_fa (T := 111) (hT := ⟨Try.underlying111⟩) (fd := ⟨_, 103, 0, _, _, _, _⟩) (n := 1) rfl (hs := sz103) (Nat.succ_ne_zero _) b o
attribute [push_cast] fa111_0
theorem fa111_1 {K : Value → World → Prop} {w : World} (b o : Nat) : opS Try.prog (S.fa 111 (pt b o) 1) K w = K (pt b (o + 1)) w := opS_fa (T := 111) (hT := ⟨Try.underlying111⟩) (fd := ⟨_, 109, 1, _, _, _, _⟩) (n := 1) rfl (hs := sz109) (Nat.succ_ne_zero _) b o
attribute [push_cast] fa111_1
theorem fa111_2 {K : Value → World → Prop} {w : World} (b o : Nat) : opS Try.prog (S.fa 111 (pt b o) 2) K w = K (pt b (o + 2)) w := opS_fa (T := 111) (hT := ⟨Try.underlying111⟩) (fd := ⟨_, 3, 2, _, _, _, _⟩) (n := 1) rfl (hs := sz3) (Nat.succ_ne_zero _) b o
attribute [push_cast] fa111_2
theorem fa111_3 {K : Value → World → Prop} {w : World} (b o : Nat) : opS Try.prog (S.fa 111 (pt b o) 3) K w = K (pt b (o + 3)) w := opS_fa (T := 111) (hT := ⟨Try.underlying111⟩) (fd := ⟨_, 4, 3, _, _, _, _⟩) (n := 1) rfl (hs := sz4) (Nat.succ_ne_zero _) b o
attribute [push_cast] fa111_3
theorem fa111_4 {K : Value → World → Prop} {w : World} (b o : Nat) : opS Try.prog (S.fa 111 (pt b o) 4) K w = K (pt b (o + 4)) w := opS_fa (T := 111) (hT := ⟨Try.underlying111⟩) (fd := ⟨_, 4, 4, _, _, _, _⟩) (n := 1) rfl (hs := sz4) (Nat.succ_ne_zero _) b o
attribute [push_cast] fa111_4
theorem fa111_5 {K : Value → World → Prop} {w : World} (b o : Nat) : opS Try.prog (S.fa 111 (pt b o) 5) K w = K (pt b (o + 5)) w := opS_fa (T := 111) (hT := ⟨Try.underlying111⟩) (fd := ⟨_, 3, 5, _, _, _, _⟩) (n := 1) rfl (hs := sz3) (Nat.succ_ne_zero _) b o
attribute [push_cast] fa111_5
instance bt111 : BT Try.prog 111 [[.pointer none], [.pointer none], [.int .i64 0], [.bool false], [.bool false], [.int .i64 0]] := BT.ofStruct Try.underlying111 Try.zeroValue111 rfl (fun w => by kernel_rfl)
instance sz112 : Sz Try.prog 112 6 true := ⟨Try.sizeOf112, Try.isAgg112⟩
instance by112 : By Try.prog 112 40 := ⟨_, Try.typeInfo112, rfl⟩
instance zv112 : ZV Try.prog 112 (.agg #[.pointer none, .pointer none, .int .i64 0, .bool false, .bool false, .int .i64 0]) := ⟨Try.zeroValue112⟩
theorem fa112_0 {K : Value → World → Prop} {w : World} (b o : Nat) : opS Try.prog (S.fa 112 (pt b o) 0) K w = K (pt b (o + 0)) w := opS_fa (T := 112) (hT := ⟨Try.underlying112⟩) (fd := ⟨_, 103, 0, _, _, _, _⟩) (n := 1) rfl (hs := sz103) (Nat.succ_ne_zero _) b o
attribute [push_cast] fa112_0
theorem fa112_1 {K : Value → World → Prop} {w : World} (b o : Nat) : opS Try.prog (S.fa 112 (pt b o) 1) K w = K (pt b (o + 1)) w := opS_fa (T := 112) (hT := ⟨Try.underlying112⟩) (fd := ⟨_, 109, 1, _, _, _, _⟩) (n := 1) rfl (hs := sz109) (Nat.succ_ne_zero _) b o
attribute [push_cast] fa112_1
theorem fa112_2 {K : Value → World → Prop} {w : World} (b o : Nat) : opS Try.prog (S.fa 112 (pt b o) 2) K w = K (pt b (o + 2)) w := opS_fa (T := 112) (hT := ⟨Try.underlying112⟩) (fd := ⟨_, 3, 2, _, _, _, _⟩) (n := 1) rfl (hs := sz3) (Nat.succ_ne_zero _) b o
attribute [push_cast] fa112_2
theorem fa112_3 {K : Value → World → Prop} {w : World} (b o : Nat) : opS Try.prog (S.fa 112 (pt b o) 3) K w = K (pt b (o + 3)) w := opS_fa (T := 112) (hT := ⟨Try.underlying112⟩) (fd := ⟨_, 4, 3, _, _, _, _⟩) (n := 1) rfl (hs := sz4) (Nat.succ_ne_zero _) b o
attribute [push_cast] fa112_3
theorem fa112_4 {K : Value → World → Prop} {w : World} (b o : Nat) : opS Try.prog (S.fa 112 (pt b o) 4) K w = K (pt b (o + 4)) w := opS_fa (T := 112) (hT := ⟨Try.underlying112⟩) (fd := ⟨_, 4, 4, _, _, _, _⟩) (n := 1) rfl (hs := sz4) (Nat.succ_ne_zero _) b o
attribute [push_cast] fa112_4
theorem fa112_5 {K : Value → World → Prop} {w : World} (b o : Nat) : opS Try.prog (S.fa 112 (pt b o) 5) K w = K (pt b (o + 5)) w := opS_fa (T := 112) (hT := ⟨Try.underlying112⟩) (fd := ⟨_, 3, 5, _, _, _, _⟩) (n := 1) rfl (hs := sz3) (Nat.succ_ne_zero _) b o
attribute [push_cast] fa112_5
instance bt112 : BT Try.prog 112 [[.pointer none], [.pointer none], [.int .i64 0], [.bool false], [.bool false], [.int .i64 0]] := BT.ofStruct Try.underlying112 Try.zeroValue112 rfl (fun w => by kernel_rfl)
instance sz122 : Sz Try.prog 122 23 true := ⟨Try.sizeOf122, Try.isAgg122⟩
instance by122 : By Try.prog 122 104 := ⟨_, Try.typeInfo122, rfl⟩
instance zv122 : ZV Try.prog 122 (.agg #[.int .i64 0, .int .u8 0, .int .u8 0, .int .u8 0, .int .u8 0, .int .u8 0, .int .u8 0, .int .i64 0, .int .i64 0, .int .i64 0, .int .i64 0, .int .i64 0, .int .u8 0, .int .u8 0, .int .u8 0, .int .u8 0, .int .u8 0, .int .u8 0, .int .i64 0, .int .i64 0, .int .i64 0, .int .i64 0, .int .i64 0]) := ⟨Try.zeroValue122⟩
instance eq122 : EqT Try.prog 122 := ⟨by kernel_rfl, Try.eqGuardType122, .inl ⟨_, Try.underlying122⟩⟩
theorem fa122_0 {K : Value → World → Prop} {w : World} (b o : Nat) : opS Try.prog (S.fa 122 (pt b o) 0) K w = K (pt b (o + 0)) w := opS_fa (T := 122) (hT := ⟨Try.underlying122⟩) (fd := ⟨_, 107, 0, _, _, _, _⟩) (n := 11) rfl (hs := sz107) (Nat.succ_ne_zero _) b o
attribute [push_cast] fa122_0
theorem fa122_1 {K : Value → World → Prop} {w : World} (b o : Nat) : opS Try.prog (S.fa 122 (pt b o) 1) K w = K (pt b (o + 11)) w := opS_fa (T := 122) (hT := ⟨Try.underlying122⟩) (fd := ⟨_, 107, 11, _, _, _, _⟩) (n := 11) rfl (hs := sz107) (Nat.succ_ne_zero _) b o
attribute [push_cast] fa122_1
theorem fa122_2 {K : Value → World → Prop} {w : World} (b o : Nat) : opS Try.prog (S.fa 122 (pt b o) 2) K w = K (pt b (o + 22)) w := opS_fa (T := 122) (hT := ⟨Try.underlying122⟩) (fd := ⟨_, 3, 22, _, _, _, _⟩) (n := 1) rfl (hs := sz3) (Nat.succ_ne_zero _) b o
attribute [push_cast] fa122_2
instance bt122 : BT Try.prog 122 [[.int .i64 0, .int .u8 0, .int .u8 0, .int .u8 0, .int .u8 0, .int .u8 0, .int .u8 0, .int .i64 0, .int .i64 0, .int .i64 0, .int .i64 0], [.int .i64 0, .int .u8 0, .int .u8 0, .int .u8 0, .int .u8 0, .int .u8 0, .int .u8 0, .int .i64 0, .int .i64 0, .int .i64 0, .int .i64 0], [.int .i64 0]] := BT.ofStruct Try.underlying122 Try.zeroValue122 rfl (fun w => by kernel_rfl)
instance sz123 : Sz Try.prog 123 23 true := ⟨Try.sizeOf123, Try.isAgg123⟩
instance by123 : By Try.prog 123 104 := ⟨_, Try.typeInfo123, rfl⟩
instance zv123 : ZV Try.prog 123 (.agg #[.int .i64 0, .int .u8 0, .int .u8 0, .int .u8 0, .int .u8 0, .int .u8 0, .int .u8 0, .int .i64 0, .int .i64 0, .int .i64 0, .int .i64 0, .int .i64 0, .int .u8 0, .int .u8 0, .int .u8 0, .int .u8 0, .int .u8 0, .int .u8 0, .int .i64 0, .int .i64 0, .int .i64 0, .int .i64 0, .int .i64 0]) := ⟨Try.zeroValue123⟩
instance eq123 : EqT Try.prog 123 := ⟨by kernel_rfl, Try.eqGuardType123, .inl ⟨_, Try.underlying123⟩⟩
theorem fa123_0 {K : Value → World → Prop} {w : World} (b o : Nat) : opS Try.prog (S.fa 123 (pt b o) 0) K w = K (pt b (o + 0)) w := opS_fa (T := 123) (hT := ⟨Try.underlying123⟩) (fd := ⟨_, 107, 0, _, _, _, _⟩) (n := 11) rfl (hs := sz107) (Nat.succ_ne_zero _) b o
attribute [push_cast] fa123_0
theorem fa123_1 {K : Value → World → Prop} {w : World} (b o : Nat) : opS Try.prog (S.fa 123 (pt b o) 1) K w = K (pt b (o + 11)) w := opS_fa (T := 123) (hT := ⟨Try.underlying123⟩) (fd := ⟨_, 107, 11, _, _, _, _⟩) (n := 11) rfl (hs := sz107) (Nat.succ_ne_zero _) b o
attribute [push_cast] fa123_1
theorem fa123_2 {K : Value → World → Prop} {w : World} (b o : Nat) : opS Try.prog (S.fa 123 (pt b o) 2) K w = K (pt b (o + 22)) w := opS_fa (T := 123) (hT := ⟨Try.underlying123⟩) (fd := ⟨_, 3, 22, _, _, _, _⟩) (n := 1) rfl (hs := sz3) (Nat.succ_ne_zero _) b o
attribute [push_cast] fa123_2
instance bt123 : BT Try.prog 123 [[.int .i64 0, .int .u8 0, .int .u8 0, .int .u8 0, .int .u8 0, .int .u8 0, .int .u8 0, .int .i64 0, .int .i64 0, .int .i64 0, .int .i64 0], [.int .i64 0, .int .u8 0, .int .u8 0, .int .u8 0, .int .u8 0, .int .u8 0, .int .u8 0, .int .i64 0, .int .i64 0, .int .i64 0, .int .i64 0], [.int .i64 0]] := BT.ofStruct Try.underlying123 Try.zeroValue123 rfl (fun w => by kernel_rfl)
instance sz124 : Sz Try.prog 124 24 true := ⟨Try.sizeOf124, Try.isAgg124⟩
instance by124 : By Try.prog 124 112 := ⟨_, Try.typeInfo124, rfl⟩
instance zv124 : ZV Try.prog 124 (.agg #[.int .i64 0, .int .i64 0, .int .u8 0, .int .u8 0, .int .u8 0, .int .u8 0, .int .u8 0, .int .u8 0, .int .i64 0, .int .i64 0, .int .i64 0, .int .i64 0, .int .i64 0, .int .u8 0, .int .u8 0, .int .u8 0, .int .u8 0, .int .u8 0, .int .u8 0, .int .i64 0, .int .i64 0, .int .i64 0, .int .i64 0, .int .i64 0]) := ⟨Try.zeroValue124⟩
instance eq124 : EqT Try.prog 124 := ⟨by kernel_rfl, Try.eqGuardType124, .inl ⟨_, Try.underlying124⟩⟩
theorem fa124_0 {K : Value → World → Prop} {w : World} (b o : Nat) : opS Try.prog (S.fa 124 (pt b o) 0) K w = K (pt b (o + 0)) w := opS_fa (T := 124) (hT := ⟨Try.underlying124⟩) (fd := ⟨_, 3, 0, _, _, _, _⟩) (n := 1) rfl (hs := sz3) (Nat.succ_ne_zero _) b o
attribute [push_cast] fa124_0
theorem fa124_1 {K : Value → World → Prop} {w : World} (b o : Nat) : opS Try.prog (S.fa 124 (pt b o) 1) K w = K (pt b (o + 1)) w := opS_fa (T := 124) (hT := ⟨Try.underlying124⟩) (fd := ⟨_, 123, 1, _, _, _, _⟩) (n := 23) rfl (hs := sz123) (Nat.succ_ne_zero _) b o
attribute [push_cast] fa124_1
instance bt124 : BT Try.prog 124 [[.int .i64 0], [.int .i64 0, .int .u8 0, .int .u8 0, .int .u8 0, .int .u8 0, .int .u8 0, .int .u8 0, .int .i64 0, .int .i64 0, .int .i64 0, .int .i64 0, .int .i64 0, .int .u8 0, .int .u8 0, .int .u8 0, .int .u8 0, .int .u8 0, .int .u8 0, .int .i64 0, .int .i64 0, .int .i64 0, .int .i64 0, .int .i64 0]] := BT.ofStruct Try.underlying124 Try.zeroValue124 rfl (fun w => by kernel_rfl)
instance sz125 : Sz Try.prog 125 24 true := ⟨Try.sizeOf125, Try.isAgg125⟩
instance by125 : By Try.prog 125 112 := ⟨_, Try.typeInfo125, rfl⟩
instance zv125 : ZV Try.prog 125 (.agg #[.int .i64 0, .int .i64 0, .int .u8 0, .int .u8 0, .int .u8 0, .int .u8 0, .int .u8 0, .int .u8 0, .int .i64 0, .int .i64 0, .int .i64 0, .int .i64 0, .int .i64 0, .int .u8 0, .int .u8 0, .int .u8 0, .int .u8 0, .int .u8 0, .int .u8 0, .int .i64 0, .int .i64 0, .int .i64 0, .int .i64 0, .int .i64 0]) := ⟨Try.zeroValue125⟩
instance eq125 : EqT Try.prog 125 := ⟨by kernel_rfl, Try.eqGuardType125, .inl ⟨_, Try.underlying125⟩⟩
theorem fa125_0 {K : Value → World → Prop} {w : World} (b o : Nat) : opS Try.prog (S.fa 125 (pt b o) 0) K w = K (pt b (o + 0)) w := opS_fa (T := 125) (hT := ⟨Try.underlying125⟩) (fd := ⟨_, 3, 0, _, _, _, _⟩) (n := 1) rfl (hs := sz3) (Nat.succ_ne_zero _) b o
attribute [push_cast] fa125_0
theorem fa125_1 {K : Value → World → Prop} {w : World} (b o : Nat) : opS Try.prog (S.fa 125 (pt b o) 1) K w = K (pt b (o + 1)) w := opS_fa (T := 125) (hT := ⟨Try.underlying125⟩) (fd := ⟨_, 123, 1, _, _, _, _⟩) (n := 23) rfl (hs := sz123) (Nat.succ_ne_zero _) b o
attribute [push_cast] fa125_1
instance bt125 : BT Try.prog 125 [[.int .i64 0], [.int .i64 0, .int .u8 0, .int .u8 0, .int .u8 0, .int .u8 0, .int .u8 0, .int .u8 0, .int .i64 0, .int .i64 0, .int .i64 0, .int .i64 0, .int .i64 0, .int .u8 0, .int .u8 0, .int .u8 0, .int .u8 0, .int .u8 0, .int .u8 0, .int .i64 0, .int .i64 0, .int .i64 0, .int .i64 0, .int .i64 0]] := BT.ofStruct Try.underlying125 Try.zeroValue125 rfl (fun w => by kernel_rfl)
instance sz126 : Sz Try.prog 126 1 false := ⟨Try.sizeOf126, Try.isAgg126⟩
instance by126 : By Try.prog 126 24 := ⟨_, Try.typeInfo126, rfl⟩
instance zv126 : ZV Try.prog 126 (.slice none 0 0) := ⟨Try.zeroValue126⟩
instance sl126 : SlT Try.prog 126 5 := ⟨Try.underlying126⟩
instance sz140 : Sz Try.prog 140 1 false := ⟨Try.sizeOf140, Try.isAgg140⟩
instance by140 : By Try.prog 140 8 := ⟨_, Try.typeInfo140, rfl⟩
instance zv140 : ZV Try.prog 140 (.int .u64 0) := ⟨Try.zeroValue140⟩
instance sz148 : Sz Try.prog 148 25 true := ⟨Try.sizeOf148, Try.isAgg148⟩
instance by148 : By Try.prog 148 120 := ⟨_, Try.typeInfo148, rfl⟩
instance zv148 : ZV Try.prog 148 (.agg #[.int .i64 0, .int .u8 0, .int .u8 0, .int .u8 0, .int .u8 0, .int .u8 0, .int .u8 0, .int .i64 0, .int .i64 0, .int .i64 0, .int .i64 0, .int .i64 0, .int .u8 0, .int .u8 0, .int .u8 0, .int .u8 0, .int .u8 0, .int .u8 0, .int .i64 0, .int .i64 0, .int .i64 0, .int .i64 0, .int .i64 0, .int .i64 0, .int .i64 0]) := ⟨Try.zeroValue148⟩
instance eq148 : EqT Try.prog 148 := ⟨by kernel_rfl, Try.eqGuardType148, .inl ⟨_, Try.underlying148⟩⟩
theorem fa148_0 {K : Value → World → Prop} {w : World} (b o : Nat) : opS Try.prog (S.fa 148 (pt b o) 0) K w = K (pt b (o + 0)) w := opS_fa (T := 148) (hT := ⟨Try.underlying148⟩) (fd := ⟨_, 107, 0, _, _, _, _⟩) (n := 11) rfl (hs := sz107) (Nat.succ_ne_zero _) b o
attribute [push_cast] fa148_0
theorem fa148_1 {K : Value → World → Prop} {w : World} (b o : Nat) : opS Try.prog (S.fa 148 (pt b o) 1) K w = K (pt b (o + 11)) w := opS_fa (T := 148) (hT := ⟨Try.underlying148⟩) (fd := ⟨_, 107, 11, _, _, _, _⟩) (n := 11) rfl (hs := sz107) (Nat.succ_ne_zero _) b o
attribute [push_cast] fa148_1
theorem fa148_2 {K : Value → World → Prop} {w : World} (b o : Nat) : opS Try.prog (S.fa 148 (pt b o) 2) K w = K (pt b (o + 22)) w := opS_fa (T := 148) (hT := ⟨Try.underlying148⟩) (fd := ⟨_, 3, 22, _, _, _, _⟩) (n := 1) rfl (hs := sz3) (Nat.succ_ne_zero _) b o
attribute [push_cast] fa148_2
theorem fa148_3 {K : Value → World → Prop} {w : World} (b o : Nat) : opS Try.prog (S.fa 148 (pt b o) 3) K w = K (pt b (o + 23)) w := opS_fa (T := 148) (hT := ⟨Try.underlying148⟩) (fd := ⟨_, 3, 23, _, _, _, _⟩) (n := 1) rfl (hs := sz3) (Nat.succ_ne_zero _) b o
attribute [push_cast] fa148_3
theorem fa148_4 {K : Value → World → Prop} {w : World} (b o : Nat) : opS Try.prog (S.fa 148 (pt b o) 4) K w = K (pt b (o + 24)) w := opS_fa (T := 148) (hT := ⟨Try.underlying148⟩) (fd := ⟨_, 3, 24, _, _, _, _⟩) (n := 1) rfl (hs := sz3) (Nat.succ_ne_zero _) b o
attribute [push_cast] fa148_4
instance bt148 : BT Try.prog 148 [[.int .i64 0, .int .u8 0, .int .u8 0, .int .u8 0, .int .u8 0, .int .u8 0, .int .u8 0, .int .i64 0, .int .i64 0, .int .i64 0, .int .i64 0], [.int .i64 0, .int .u8 0, .int .u8 0, .int .u8 0, .int .u8 0, .int .u8 0, .int .u8 0, .int .i64 0, .int .i64 0, .int .i64 0, .int .i64 0], [.int .i64 0], [.int .i64 0], [.int .i64 0]] := BT.ofStruct Try.underlying148 Try.zeroValue148 rfl (fun w => by kernel_rfl)
instance sz149 : Sz Try.prog 149 25 true := ⟨Try.sizeOf149, Try.isAgg149⟩
instance by149 : By Try.prog 149 120 := ⟨_, Try.typeInfo149, rfl⟩
instance zv149 : ZV Try.prog 149 (.agg #[.int .i64 0, .int .u8 0, .int .u8 0, .int .u8 0, .int .u8 0, .int .u8 0, .int .u8 0, .int .i64 0, .int .i64 0, .int .i64 0, .int .i64 0, .int .i64 0, .int .u8 0, .int .u8 0, .int .u8 0, .int .u8 0, .int .u8 0, .int .u8 0, .int .i64 0, .int .i64 0, .int .i64 0, .int .i64 0, .int .i64 0, .int .i64 0, .int .i64 0]) := ⟨Try.zeroValue149⟩
instance eq149 : EqT Try.prog 149 := ⟨by kernel_rfl, Try.eqGuardType149, .inl ⟨_, Try.underlying149⟩⟩
theorem fa149_0 {K : Value → World → Prop} {w : World} (b o : Nat) : opS Try.prog (S.fa 149 (pt b o) 0) K w = K (pt b (o + 0)) w := opS_fa (T := 149) (hT := ⟨Try.underlying149⟩) (fd := ⟨_, 107, 0, _, _, _, _⟩) (n := 11) rfl (hs := sz107) (Nat.succ_ne_zero _) b o
attribute [push_cast] fa149_0
theorem fa149_1 {K : Value → World → Prop} {w : World} (b o : Nat) : opS Try.prog (S.fa 149 (pt b o) 1) K w = K (pt b (o + 11)) w := opS_fa (T := 149) (hT := ⟨Try.underlying149⟩) (fd := ⟨_, 107, 11, _, _, _, _⟩) (n := 11) rfl (hs := sz107) (Nat.succ_ne_zero _) b o
attribute [push_cast] fa149_1
theorem fa149_2 {K : Value → World → Prop} {w : World} (b o : Nat) : opS Try.prog (S.fa 149 (pt b o) 2) K w = K (pt b (o + 22)) w := opS_fa (T := 149) (hT := ⟨Try.underlying149⟩) (fd := ⟨_, 3, 22, _, _, _, _⟩) (n := 1) rfl (hs := sz3) (Nat.succ_ne_zero _) b o
attribute [push_cast] fa149_2
theorem fa149_3 {K : Value → World → Prop} {w : World} (b o : Nat) : opS Try.prog (S.fa 149 (pt b o) 3) K w = K (pt b (o + 23)) w := opS_fa (T := 149) (hT := ⟨Try.underlying149⟩) (fd := ⟨_, 3, 23, _, _, _, _⟩) (n := 1) rfl (hs := sz3) (Nat.succ_ne_zero _) b o
attribute [push_cast] fa149_3
theorem fa149_4 {K : Value → World → Prop} {w : World} (b o : Nat) : opS Try.prog (S.fa 149 (pt b o) 4) K w = K (pt b (o + 24)) w := opS_fa (T := 149) (hT := ⟨Try.underlying149⟩) (fd := ⟨_, 3, 24, _, _, _, _⟩) (n := 1) rfl (hs := sz3) (Nat.succ_ne_zero _) b o
attribute [push_cast] fa149_4
instance bt149 : BT Try.prog 149 [[.int .i64 0, .int .u8 0, .int .u8 0, .int .u8 0, .int .u8 0, .int .u8 0, .int .u8 0, .int .i64 0, .int .i64 0, .int .i64 0, .int .i64 0], [.int .i64 0, .int .u8 0, .int .u8 0, .int .u8 0, .int .u8 0, .int .u8 0, .int .u8 0, .int .i64 0, .int .i64 0, .int .i64 0, .int .i64 0], [.int .i64 0], [.int .i64 0], [.int .i64 0]] := BT.ofStruct Try.underlying149 Try.zeroValue149 rfl (fun w => by kernel_rfl)
instance sz150 : Sz Try.prog 150 2 true := ⟨Try.sizeOf150, Try.isAgg150⟩
instance by150 : By Try.prog 150 16 := ⟨_, Try.typeInfo150, rfl⟩
instance zv150 : ZV Try.prog 150 (.agg #[.int .i64 0, .int .i64 0]) := ⟨Try.zeroValue150⟩
instance eq150 : EqT Try.prog 150 := ⟨by kernel_rfl, Try.eqGuardType150, .inl ⟨_, Try.underlying150⟩⟩
theorem fa150_0 {K : Value → World → Prop} {w : World} (b o : Nat) : opS Try.prog (S.fa 150 (pt b o) 0) K w = K (pt b (o + 0)) w := opS_fa (T := 150) (hT := ⟨Try.underlying150⟩) (fd := ⟨_, 3, 0, _, _, _, _⟩) (n := 1) rfl (hs := sz3) (Nat.succ_ne_zero _) b o
attribute [push_cast] fa150_0
theorem fa150_1 {K : Value → World → Prop} {w : World} (b o : Nat) : opS Try.prog (S.fa 150 (pt b o) 1) K w = K (pt b (o + 1)) w := opS_fa (T := 150) (hT := ⟨Try.underlying150⟩) (fd := ⟨_, 3, 1, _, _, _, _⟩) (n := 1) rfl (hs := sz3) (Nat.succ_ne_zero _) b o
attribute [push_cast] fa150_1
instance bt150 : BT Try.prog 150 [[.int .i64 0], [.int .i64 0]] := BT.ofStruct Try.underlying150 Try.zeroValue150 rfl (fun w => by kernel_rfl)
instance sz151 : Sz Try.prog 151 2 true := ⟨Try.sizeOf151, Try.isAgg151⟩
instance by151 : By Try.prog 151 16 := ⟨_, Try.typeInfo151, rfl⟩
instance zv151 : ZV Try.prog 151 (.agg #[.int .i64 0, .int .i64 0]) := ⟨Try.zeroValue151⟩
instance eq151 : EqT Try.prog 151 := ⟨by kernel_rfl, Try.eqGuardType151, .inl ⟨_, Try.underlying151⟩⟩
theorem fa151_0 {K : Value → World → Prop} {w : World} (b o : Nat) : opS Try.prog (S.fa 151 (pt b o) 0) K w = K (pt b (o + 0)) w := opS_fa (T := 151) (hT := ⟨Try.underlying151⟩) (fd := ⟨_, 3, 0, _, _, _, _⟩) (n := 1) rfl (hs := sz3) (Nat.succ_ne_zero _) b o
attribute [push_cast] fa151_0
theorem fa151_1 {K : Value → World → Prop} {w : World} (b o : Nat) : opS Try.prog (S.fa 151 (pt b o) 1) K w = K (pt b (o + 1)) w := opS_fa (T := 151) (hT := ⟨Try.underlying151⟩) (fd := ⟨_, 3, 1, _, _, _, _⟩) (n := 1) rfl (hs := sz3) (Nat.succ_ne_zero _) b o
attribute [push_cast] fa151_1
instance bt151 : BT Try.prog 151 [[.int .i64 0], [.int .i64 0]] := BT.ofStruct Try.underlying151 Try.zeroValue151 rfl (fun w => by kernel_rfl)
instance sz160 : Sz Try.prog 160 1 false := ⟨Try.sizeOf160, Try.isAgg160⟩
instance by160 : By Try.prog 160 24 := ⟨_, Try.typeInfo160, rfl⟩
instance zv160 : ZV Try.prog 160 (.slice none 0 0) := ⟨Try.zeroValue160⟩
instance sl160 : SlT Try.prog 160 5 := ⟨Try.underlying160⟩
instance sz166 : Sz Try.prog 166 1 false := ⟨Try.sizeOf166, Try.isAgg166⟩
instance by166 : By Try.prog 166 8 := ⟨_, Try.typeInfo166, rfl⟩
instance zv166 : ZV Try.prog 166 (.int .i64 0) := ⟨Try.zeroValue166⟩
instance sz173 : Sz Try.prog 173 1 false := ⟨Try.sizeOf173, Try.isAgg173⟩
instance by173 : By Try.prog 173 4 := ⟨_, Try.typeInfo173, rfl⟩
instance zv173 : ZV Try.prog 173 (.int .u32 0) := ⟨Try.zeroValue173⟩
instance sz175 : Sz Try.prog 175 1 false := ⟨Try.sizeOf175, Try.isAgg175⟩
instance by175 : By Try.prog 175 8 := ⟨_, Try.typeInfo175, rfl⟩
instance zv175 : ZV Try.prog 175 (.int .u64 0) := ⟨Try.zeroValue175⟩
instance sz185 : Sz Try.prog 185 1 false := ⟨Try.sizeOf185, Try.isAgg185⟩
instance by185 : By Try.prog 185 24 := ⟨_, Try.typeInfo185, rfl⟩
instance zv185 : ZV Try.prog 185 (.slice none 0 0) := ⟨Try.zeroValue185⟩
instance sl185 : SlT Try.prog 185 188 := ⟨Try.underlying185⟩
instance sz187 : Sz Try.prog 187 2 true := ⟨Try.sizeOf187, Try.isAgg187⟩
instance by187 : By Try.prog 187 16 := ⟨_, Try.typeInfo187, rfl⟩
instance zv187 : ZV Try.prog 187 (.agg #[.bool false, .int .i64 0]) := ⟨Try.zeroValue187⟩
instance eq187 : EqT Try.prog 187 := ⟨by kernel_rfl, Try.eqGuardType187, .inl ⟨_, Try.underlying187⟩⟩
theorem fa187_0 {K : Value → World → Prop} {w : World} (b o : Nat) : opS Try.prog (S.fa 187 (pt b o) 0) K w = K (pt b (o + 0)) w := opS_fa (T := 187) (hT := ⟨Try.underlying187⟩) (fd := ⟨_, 4, 0, _, _, _, _⟩) (n := 1) rfl (hs := sz4) (Nat.succ_ne_zero _) b o
attribute [push_cast] fa187_0
theorem fa187_1 {K : Value → World → Prop} {w : World} (b o : Nat) : opS Try.prog (S.fa 187 (pt b o) 1) K w = K (pt b (o + 1)) w := opS_fa (T := 187) (hT := ⟨Try.underlying187⟩) (fd := ⟨_, 3, 1, _, _, _, _⟩) (n := 1) rfl (hs := sz3) (Nat.succ_ne_zero _) b o
attribute [push_cast] fa187_1
instance bt187 : BT Try.prog 187 [[.bool false], [.int .i64 0]] := BT.ofStruct Try.underlying187 Try.zeroValue187 rfl (fun w => by kernel_rfl)
instance sz188 : Sz Try.prog 188 2 true := ⟨Try.sizeOf188, Try.isAgg188⟩
instance by188 : By Try.prog 188 16 := ⟨_, Try.typeInfo188, rfl⟩
instance zv188 : ZV Try.prog 188 (.agg #[.bool false, .int .i64 0]) := ⟨Try.zeroValue188⟩
instance eq188 : EqT Try.prog 188 := ⟨by kernel_rfl, Try.eqGuardType188, .inl ⟨_, Try.underlying188⟩⟩
theorem fa188_0 {K : Value → World → Prop} {w : World} (b o : Nat) : opS Try.prog (S.fa 188 (pt b o) 0) K w = K (pt b (o + 0)) w := opS_fa (T := 188) (hT := ⟨Try.underlying188⟩) (fd := ⟨_, 4, 0, _, _, _, _⟩) (n := 1) rfl (hs := sz4) (Nat.succ_ne_zero _) b o
attribute [push_cast] fa188_0
theorem fa188_1 {K : Value → World → Prop} {w : World} (b o : Nat) : opS Try.prog (S.fa 188 (pt b o) 1) K w = K (pt b (o + 1)) w := opS_fa (T := 188) (hT := ⟨Try.underlying188⟩) (fd := ⟨_, 3, 1, _, _, _, _⟩) (n := 1) rfl (hs := sz3) (Nat.succ_ne_zero _) b o
attribute [push_cast] fa188_1
instance bt188 : BT Try.prog 188 [[.bool false], [.int .i64 0]] := BT.ofStruct Try.underlying188 Try.zeroValue188 rfl (fun w => by kernel_rfl)
instance sz189 : Sz Try.prog 189 0 true := ⟨Try.sizeOf189, Try.isAgg189⟩
instance by189 : By Try.prog 189 0 := ⟨_, Try.typeInfo189, rfl⟩
instance zv189 : ZV Try.prog 189 (.agg #[]) := ⟨Try.zeroValue189⟩
instance eq189 : EqT Try.prog 189 := ⟨by kernel_rfl, Try.eqGuardType189, .inl ⟨_, Try.underlying189⟩⟩
instance bt189 : BT Try.prog 189 [] := BT.ofStruct Try.underlying189 Try.zeroValue189 rfl (fun w => by kernel_rfl)
instance sz190 : Sz Try.prog 190 0 true := ⟨Try.sizeOf190, Try.isAgg190⟩
instance by190 : By Try.prog 190 0 := ⟨_, Try.typeInfo190, rfl⟩
instance zv190 : ZV Try.prog 190 (.agg #[]) := ⟨Try.zeroValue190⟩
instance eq190 : EqT Try.prog 190 := ⟨by kernel_rfl, Try.eqGuardType190, .inl ⟨_, Try.underlying190⟩⟩
instance bt190 : BT Try.prog 190 [] := BT.ofStruct Try.underlying190 Try.zeroValue190 rfl (fun w => by kernel_rfl)
instance sz192 : Sz Try.prog 192 1 false := ⟨Try.sizeOf192, Try.isAgg192⟩
instance by192 : By Try.prog 192 8 := ⟨_, Try.typeInfo192, rfl⟩
instance zv192 : ZV Try.prog 192 (.pointer none) := ⟨Try.zeroValue192⟩
instance sz195 : Sz Try.prog 195 1 false := ⟨Try.sizeOf195, Try.isAgg195⟩
instance by195 : By Try.prog 195 8 := ⟨_, Try.typeInfo195, rfl⟩
instance zv195 : ZV Try.prog 195 (.int .u64 0) := ⟨Try.zeroValue195⟩
instance sz199 : Sz Try.prog 199 1 false := ⟨Try.sizeOf199, Try.isAgg199⟩
instance by199 : By Try.prog 199 8 := ⟨_, Try.typeInfo199, rfl⟩
instance zv199 : ZV Try.prog 199 (.pointer none) := ⟨Try.zeroValue199⟩
instance sz203 : Sz Try.prog 203 1 false := ⟨Try.sizeOf203, Try.isAgg203⟩
instance by203 : By Try.prog 203 8 := ⟨_, Try.typeInfo203, rfl⟩
instance zv203 : ZV Try.prog 203 (.pointer none) := ⟨Try.zeroValue203⟩
instance sz208 : Sz Try.prog 208 4 true := ⟨Try.sizeOf208, Try.isAgg208⟩
instance by208 : By Try.prog 208 40 := ⟨_, Try.typeInfo208, rfl⟩
instance zv208 : ZV Try.prog 208 (.agg #[.pointer none, .pointer none, .pointer none, .string ⟨#[]⟩]) := ⟨Try.zeroValue208⟩
theorem fa208_0 {K : Value → World → Prop} {w : World} (b o : Nat) : opS Try.prog (S.fa 208 (pt b o) 0) K w = K (pt b (o + 0)) w := opS_fa (T := 208) (hT := ⟨Try.underlying208⟩) (fd := ⟨_, 17, 0, _, _, _, _⟩) (n := 1) rfl (hs := sz17) (Nat.succ_ne_zero _) b o
attribute [push_cast] fa208_0
theorem fa208_1 {K : Value → World → Prop} {w : World} (b o : Nat) : opS Try.prog (S.fa 208 (pt b o) 1) K w = K (pt b (o + 1)) w := opS_fa (T := 208) (hT := ⟨Try.underlying208⟩) (fd := ⟨_, 17, 1, _, _, _, _⟩) (n := 1) rfl (hs := sz17) (Nat.succ_ne_zero _) b o
attribute [push_cast] fa208_1
theorem fa208_2 {K : Value → World → Prop} {w : World} (b o : Nat) : opS Try.prog (S.fa 208 (pt b o) 2) K w = K (pt b (o + 2)) w := opS_fa (T := 208) (hT := ⟨Try.underlying208⟩) (fd := ⟨_, 17, 2, _, _, _, _⟩) (n := 1) rfl (hs := sz17) (Nat.succ_ne_zero _) b o
attribute [push_cast] fa208_2
theorem fa208_3 {K : Value → World → Prop} {w : World} (b o : Nat) : opS Try.prog (S.fa 208 (pt b o) 3) K w = K (pt b (o + 3)) w := opS_fa (T := 208) (hT := ⟨Try.underlying208⟩) (fd := ⟨_, 9, 3, _, _, _, _⟩) (n := 1) rfl (hs := sz9) (Nat.succ_ne_zero _) b o
attribute [push_cast] fa208_3
instance bt208 : BT Try.prog 208 [[.pointer none], [.pointer none], [.pointer none], [.string ⟨#[]⟩]] := BT.ofStruct Try.underlying208 Try.zeroValue208 rfl (fun w => by kernel_rfl)
instance sz209 : Sz Try.prog 209 4 true := ⟨Try.sizeOf209, Try.isAgg209⟩
instance by209 : By Try.prog 209 40 := ⟨_, Try.typeInfo209, rfl⟩
instance zv209 : ZV Try.prog 209 (.agg #[.pointer none, .pointer none, .pointer none, .string ⟨#[]⟩]) := ⟨Try.zeroValue209⟩
theorem fa209_0 {K : Value → World → Prop} {w : World} (b o : Nat) : opS Try.prog (S.fa 209 (pt b o) 0) K w = K (pt b (o + 0)) w := opS_fa (T := 209) (hT := ⟨Try.underlying209⟩) (fd := ⟨_, 17, 0, _, _, _, _⟩) (n := 1) rfl (hs := sz17) (Nat.succ_ne_zero _) b o
attribute [push_cast] fa209_0
theorem fa209_1 {K : Value → World → Prop} {w : World} (b o : Nat) : opS Try.prog (S.fa 209 (pt b o) 1) K w = K (pt b (o + 1)) w := opS_fa (T := 209) (hT := ⟨Try.underlying209⟩) (fd := ⟨_, 17, 1, _, _, _, _⟩) (n := 1) rfl (hs := sz17) (Nat.succ_ne_zero _) b o
attribute [push_cast] fa209_1
theorem fa209_2 {K : Value → World → Prop} {w : World} (b o : Nat) : opS Try.prog (S.fa 209 (pt b o) 2) K w = K (pt b (o + 2)) w := opS_fa (T := 209) (hT := ⟨Try.underlying209⟩) (fd := ⟨_, 17, 2, _, _, _, _⟩) (n := 1) rfl (hs := sz17) (Nat.succ_ne_zero _) b o
attribute [push_cast] fa209_2
theorem fa209_3 {K : Value → World → Prop} {w : World} (b o : Nat) : opS Try.prog (S.fa 209 (pt b o) 3) K w = K (pt b (o + 3)) w := opS_fa (T := 209) (hT := ⟨Try.underlying209⟩) (fd := ⟨_, 9, 3, _, _, _, _⟩) (n := 1) rfl (hs := sz9) (Nat.succ_ne_zero _) b o
attribute [push_cast] fa209_3
instance bt209 : BT Try.prog 209 [[.pointer none], [.pointer none], [.pointer none], [.string ⟨#[]⟩]] := BT.ofStruct Try.underlying209 Try.zeroValue209 rfl (fun w => by kernel_rfl)
instance sz210 : Sz Try.prog 210 0 true := ⟨Try.sizeOf210, Try.isAgg210⟩
instance by210 : By Try.prog 210 0 := ⟨_, Try.typeInfo210, rfl⟩
instance zv210 : ZV Try.prog 210 (.agg #[]) := ⟨Try.zeroValue210⟩
instance ar210 : ArT Try.prog 210 0 16 := ⟨Try.underlying210⟩
instance bt210 : BT Try.prog 210 (List.replicate 0 [.pointer none]) := BT.ofArray Try.underlying210 Try.zeroValue210 rfl sz16 rfl
instance sz211 : Sz Try.prog 211 0 true := ⟨Try.sizeOf211, Try.isAgg211⟩
instance by211 : By Try.prog 211 0 := ⟨_, Try.typeInfo211, rfl⟩
instance zv211 : ZV Try.prog 211 (.agg #[]) := ⟨Try.zeroValue211⟩
instance sz212 : Sz Try.prog 212 0 true := ⟨Try.sizeOf212, Try.isAgg212⟩
instance by212 : By Try.prog 212 0 := ⟨_, Try.typeInfo212, rfl⟩
instance zv212 : ZV Try.prog 212 (.agg #[]) := ⟨Try.zeroValue212⟩
instance sz213 : Sz Try.prog 213 1 false := ⟨Try.sizeOf213, Try.isAgg213⟩
instance by213 : By Try.prog 213 1 := ⟨_, Try.typeInfo213, rfl⟩
instance zv213 : ZV Try.prog 213 (.int .u8 0) := ⟨Try.zeroValue213⟩
instance sz214 : Sz Try.prog 214 1 false := ⟨Try.sizeOf214, Try.isAgg214⟩
instance by214 : By Try.prog 214 1 := ⟨_, Try.typeInfo214, rfl⟩
instance zv214 : ZV Try.prog 214 (.int .u8 0) := ⟨Try.zeroValue214⟩
instance sz216 : Sz Try.prog 216 1 false := ⟨Try.sizeOf216, Try.isAgg216⟩
instance by216 : By Try.prog 216 8 := ⟨_, Try.typeInfo216, rfl⟩
instance zv216 : ZV Try.prog 216 (.pointer none) := ⟨Try.zeroValue216⟩
instance sz217 : Sz Try.prog 217 1 false := ⟨Try.sizeOf217, Try.isAgg217⟩
instance by217 : By Try.prog 217 4 := ⟨_, Try.typeInfo217, rfl⟩
instance zv217 : ZV Try.prog 217 (.int .i32 0) := ⟨Try.zeroValue217⟩
instance sz218 : Sz Try.prog 218 1 false := ⟨Try.sizeOf218, Try.isAgg218⟩
instance by218 : By Try.prog 218 4 := ⟨_, Try.typeInfo218, rfl⟩
instance zv218 : ZV Try.prog 218 (.int .i32 0) := ⟨Try.zeroValue218⟩
instance sz219 : Sz Try.prog 219 11 true := ⟨Try.sizeOf219, Try.isAgg219⟩
instance by219 : By Try.prog 219 48 := ⟨_, Try.typeInfo219, rfl⟩
instance zv219 : ZV Try.prog 219 (.agg #[.int .u64 0, .int .u64 0, .int .u32 0, .int .u8 0, .int .u8 0, .int .u8 0, .int .u8 0, .nilFunc, .pointer none, .int .i32 0, .int .i32 0]) := ⟨Try.zeroValue219⟩
instance sz220 : Sz Try.prog 220 11 true := ⟨Try.sizeOf220, Try.isAgg220⟩
instance by220 : By Try.prog 220 48 := ⟨_, Try.typeInfo220, rfl⟩
instance zv220 : ZV Try.prog 220 (.agg #[.int .u64 0, .int .u64 0, .int .u32 0, .int .u8 0, .int .u8 0, .int .u8 0, .int .u8 0, .nilFunc, .pointer none, .int .i32 0, .int .i32 0]) := ⟨Try.zeroValue220⟩
theorem mixed : Try.prog.follows .mixedOrders = true := by kernel_rfl
end Go.Gx.S
