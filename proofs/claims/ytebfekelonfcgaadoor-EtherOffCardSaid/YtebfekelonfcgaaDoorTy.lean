/- What the functions of this program ask. -/
import Derived.Test.YtebfekelonfcgaaDoorGxTypes
import Derived.Test.YtebfekelonfcgaaDoorProg
import Derived.KernelRfl
set_option linter.unusedVariables false
set_option maxRecDepth 100000
namespace Go.Gx.S
open Go Go.Gx Go.Proofs
instance sz2 : Sz Tryd.prog 2 1 false := ⟨Tryd.sizeOf2, Tryd.isAgg2⟩
instance by2 : By Tryd.prog 2 8 := ⟨_, Tryd.typeInfo2, rfl⟩
instance zv2 : ZV Tryd.prog 2 (.int .i64 0) := ⟨Tryd.zeroValue2⟩
instance sz3 : Sz Tryd.prog 3 1 false := ⟨Tryd.sizeOf3, Tryd.isAgg3⟩
instance by3 : By Tryd.prog 3 8 := ⟨_, Tryd.typeInfo3, rfl⟩
instance zv3 : ZV Tryd.prog 3 (.int .i64 0) := ⟨Tryd.zeroValue3⟩
instance sz4 : Sz Tryd.prog 4 1 false := ⟨Tryd.sizeOf4, Tryd.isAgg4⟩
instance by4 : By Tryd.prog 4 1 := ⟨_, Tryd.typeInfo4, rfl⟩
instance zv4 : ZV Tryd.prog 4 (.bool false) := ⟨Tryd.zeroValue4⟩
instance sz5 : Sz Tryd.prog 5 1 false := ⟨Tryd.sizeOf5, Tryd.isAgg5⟩
instance by5 : By Tryd.prog 5 1 := ⟨_, Tryd.typeInfo5, rfl⟩
instance zv5 : ZV Tryd.prog 5 (.int .u8 0) := ⟨Tryd.zeroValue5⟩
instance sz6 : Sz Tryd.prog 6 1 false := ⟨Tryd.sizeOf6, Tryd.isAgg6⟩
instance by6 : By Tryd.prog 6 1 := ⟨_, Tryd.typeInfo6, rfl⟩
instance zv6 : ZV Tryd.prog 6 (.int .u8 0) := ⟨Tryd.zeroValue6⟩
instance sz7 : Sz Tryd.prog 7 4 true := ⟨Tryd.sizeOf7, Tryd.isAgg7⟩
instance by7 : By Tryd.prog 7 24 := ⟨_, Tryd.typeInfo7, rfl⟩
instance zv7 : ZV Tryd.prog 7 (.agg #[.int .i64 0, .int .i64 0, .bool false, .int .u8 0]) := ⟨Tryd.zeroValue7⟩
instance eq7 : EqT Tryd.prog 7 := ⟨by kernel_rfl, Tryd.eqGuardType7, .inl ⟨_, Tryd.underlying7⟩⟩
theorem fa7_0 {K : Value → World → Prop} {w : World} (b o : Nat) : opS Tryd.prog (S.fa 7 (pt b o) 0) K w = K (pt b (o + 0)) w := opS_fa (T := 7) (hT := ⟨Tryd.underlying7⟩) (fd := ⟨_, 2, 0, _, _, _, _⟩) (n := 1) rfl (hs := sz2) (Nat.succ_ne_zero _) b o
attribute [push_cast] fa7_0
theorem fa7_1 {K : Value → World → Prop} {w : World} (b o : Nat) : opS Tryd.prog (S.fa 7 (pt b o) 1) K w = K (pt b (o + 1)) w := opS_fa (T := 7) (hT := ⟨Tryd.underlying7⟩) (fd := ⟨_, 3, 1, _, _, _, _⟩) (n := 1) rfl (hs := sz3) (Nat.succ_ne_zero _) b o
attribute [push_cast] fa7_1
theorem fa7_2 {K : Value → World → Prop} {w : World} (b o : Nat) : opS Tryd.prog (S.fa 7 (pt b o) 2) K w = K (pt b (o + 2)) w := opS_fa (T := 7) (hT := ⟨Tryd.underlying7⟩) (fd := ⟨_, 4, 2, _, _, _, _⟩) (n := 1) rfl (hs := sz4) (Nat.succ_ne_zero _) b o
attribute [push_cast] fa7_2
theorem fa7_3 {K : Value → World → Prop} {w : World} (b o : Nat) : opS Tryd.prog (S.fa 7 (pt b o) 3) K w = K (pt b (o + 3)) w := opS_fa (T := 7) (hT := ⟨Tryd.underlying7⟩) (fd := ⟨_, 6, 3, _, _, _, _⟩) (n := 1) rfl (hs := sz6) (Nat.succ_ne_zero _) b o
attribute [push_cast] fa7_3
instance bt7 : BT Tryd.prog 7 [[.int .i64 0], [.int .i64 0], [.bool false], [.int .u8 0]] := BT.ofStruct Tryd.underlying7 Tryd.zeroValue7 rfl (fun w => by kernel_rfl)
instance sz8 : Sz Tryd.prog 8 4 true := ⟨Tryd.sizeOf8, Tryd.isAgg8⟩
instance by8 : By Tryd.prog 8 24 := ⟨_, Tryd.typeInfo8, rfl⟩
instance zv8 : ZV Tryd.prog 8 (.agg #[.int .i64 0, .int .i64 0, .bool false, .int .u8 0]) := ⟨Tryd.zeroValue8⟩
theorem fa8_0 {K : Value → World → Prop} {w : World} (b o : Nat) : opS Tryd.prog (S.fa 8 (pt b o) 0) K w = K (pt b (o + 0)) w := opS_fa (T := 8) (hT := ⟨Tryd.underlying8⟩) (fd := ⟨_, 2, 0, _, _, _, _⟩) (n := 1) rfl (hs := sz2) (Nat.succ_ne_zero _) b o
attribute [push_cast] fa8_0
theorem fa8_1 {K : Value → World → Prop} {w : World} (b o : Nat) : opS Tryd.prog (S.fa 8 (pt b o) 1) K w = K (pt b (o + 1)) w := opS_fa (T := 8) (hT := ⟨Tryd.underlying8⟩) (fd := ⟨_, 3, 1, _, _, _, _⟩) (n := 1) rfl (hs := sz3) (Nat.succ_ne_zero _) b o
attribute [push_cast] fa8_1
theorem fa8_2 {K : Value → World → Prop} {w : World} (b o : Nat) : opS Tryd.prog (S.fa 8 (pt b o) 2) K w = K (pt b (o + 2)) w := opS_fa (T := 8) (hT := ⟨Tryd.underlying8⟩) (fd := ⟨_, 4, 2, _, _, _, _⟩) (n := 1) rfl (hs := sz4) (Nat.succ_ne_zero _) b o
attribute [push_cast] fa8_2
theorem fa8_3 {K : Value → World → Prop} {w : World} (b o : Nat) : opS Tryd.prog (S.fa 8 (pt b o) 3) K w = K (pt b (o + 3)) w := opS_fa (T := 8) (hT := ⟨Tryd.underlying8⟩) (fd := ⟨_, 6, 3, _, _, _, _⟩) (n := 1) rfl (hs := sz6) (Nat.succ_ne_zero _) b o
attribute [push_cast] fa8_3
instance bt8 : BT Tryd.prog 8 [[.int .i64 0], [.int .i64 0], [.bool false], [.int .u8 0]] := BT.ofStruct Tryd.underlying8 Tryd.zeroValue8 rfl (fun w => by kernel_rfl)
instance sz9 : Sz Tryd.prog 9 1 false := ⟨Tryd.sizeOf9, Tryd.isAgg9⟩
instance by9 : By Tryd.prog 9 16 := ⟨_, Tryd.typeInfo9, rfl⟩
instance zv9 : ZV Tryd.prog 9 (.string ⟨#[]⟩) := ⟨Tryd.zeroValue9⟩
instance sz10 : Sz Tryd.prog 10 1 false := ⟨Tryd.sizeOf10, Tryd.isAgg10⟩
instance by10 : By Tryd.prog 10 16 := ⟨_, Tryd.typeInfo10, rfl⟩
instance zv10 : ZV Tryd.prog 10 (.string ⟨#[]⟩) := ⟨Tryd.zeroValue10⟩
instance sz11 : Sz Tryd.prog 11 1 false := ⟨Tryd.sizeOf11, Tryd.isAgg11⟩
instance by11 : By Tryd.prog 11 16 := ⟨_, Tryd.typeInfo11, rfl⟩
instance zv11 : ZV Tryd.prog 11 (.string ⟨#[]⟩) := ⟨Tryd.zeroValue11⟩
instance sz12 : Sz Tryd.prog 12 1 false := ⟨Tryd.sizeOf12, Tryd.isAgg12⟩
instance by12 : By Tryd.prog 12 8 := ⟨_, Tryd.typeInfo12, rfl⟩
instance zv12 : ZV Tryd.prog 12 (.int .u64 0) := ⟨Tryd.zeroValue12⟩
instance sz13 : Sz Tryd.prog 13 2 true := ⟨Tryd.sizeOf13, Tryd.isAgg13⟩
instance by13 : By Tryd.prog 13 24 := ⟨_, Tryd.typeInfo13, rfl⟩
instance zv13 : ZV Tryd.prog 13 (.agg #[.string ⟨#[]⟩, .int .u64 0]) := ⟨Tryd.zeroValue13⟩
theorem fa13_0 {K : Value → World → Prop} {w : World} (b o : Nat) : opS Tryd.prog (S.fa 13 (pt b o) 0) K w = K (pt b (o + 0)) w := opS_fa (T := 13) (hT := ⟨Tryd.underlying13⟩) (fd := ⟨_, 9, 0, _, _, _, _⟩) (n := 1) rfl (hs := sz9) (Nat.succ_ne_zero _) b o
attribute [push_cast] fa13_0
theorem fa13_1 {K : Value → World → Prop} {w : World} (b o : Nat) : opS Tryd.prog (S.fa 13 (pt b o) 1) K w = K (pt b (o + 1)) w := opS_fa (T := 13) (hT := ⟨Tryd.underlying13⟩) (fd := ⟨_, 12, 1, _, _, _, _⟩) (n := 1) rfl (hs := sz12) (Nat.succ_ne_zero _) b o
attribute [push_cast] fa13_1
instance bt13 : BT Tryd.prog 13 [[.string ⟨#[]⟩], [.int .u64 0]] := BT.ofStruct Tryd.underlying13 Tryd.zeroValue13 rfl (fun w => by kernel_rfl)
instance sz14 : Sz Tryd.prog 14 2 true := ⟨Tryd.sizeOf14, Tryd.isAgg14⟩
instance by14 : By Tryd.prog 14 24 := ⟨_, Tryd.typeInfo14, rfl⟩
instance zv14 : ZV Tryd.prog 14 (.agg #[.string ⟨#[]⟩, .int .u64 0]) := ⟨Tryd.zeroValue14⟩
theorem fa14_0 {K : Value → World → Prop} {w : World} (b o : Nat) : opS Tryd.prog (S.fa 14 (pt b o) 0) K w = K (pt b (o + 0)) w := opS_fa (T := 14) (hT := ⟨Tryd.underlying14⟩) (fd := ⟨_, 9, 0, _, _, _, _⟩) (n := 1) rfl (hs := sz9) (Nat.succ_ne_zero _) b o
attribute [push_cast] fa14_0
theorem fa14_1 {K : Value → World → Prop} {w : World} (b o : Nat) : opS Tryd.prog (S.fa 14 (pt b o) 1) K w = K (pt b (o + 1)) w := opS_fa (T := 14) (hT := ⟨Tryd.underlying14⟩) (fd := ⟨_, 12, 1, _, _, _, _⟩) (n := 1) rfl (hs := sz12) (Nat.succ_ne_zero _) b o
attribute [push_cast] fa14_1
instance bt14 : BT Tryd.prog 14 [[.string ⟨#[]⟩], [.int .u64 0]] := BT.ofStruct Tryd.underlying14 Tryd.zeroValue14 rfl (fun w => by kernel_rfl)
instance sz15 : Sz Tryd.prog 15 1 false := ⟨Tryd.sizeOf15, Tryd.isAgg15⟩
instance by15 : By Tryd.prog 15 8 := ⟨_, Tryd.typeInfo15, rfl⟩
instance zv15 : ZV Tryd.prog 15 (.pointer none) := ⟨Tryd.zeroValue15⟩
instance sz16 : Sz Tryd.prog 16 1 false := ⟨Tryd.sizeOf16, Tryd.isAgg16⟩
instance by16 : By Tryd.prog 16 8 := ⟨_, Tryd.typeInfo16, rfl⟩
instance zv16 : ZV Tryd.prog 16 (.pointer none) := ⟨Tryd.zeroValue16⟩
instance sz17 : Sz Tryd.prog 17 1 false := ⟨Tryd.sizeOf17, Tryd.isAgg17⟩
instance by17 : By Tryd.prog 17 8 := ⟨_, Tryd.typeInfo17, rfl⟩
instance zv17 : ZV Tryd.prog 17 (.pointer none) := ⟨Tryd.zeroValue17⟩
instance sz18 : Sz Tryd.prog 18 1 true := ⟨Tryd.sizeOf18, Tryd.isAgg18⟩
instance by18 : By Tryd.prog 18 8 := ⟨_, Tryd.typeInfo18, rfl⟩
instance zv18 : ZV Tryd.prog 18 (.agg #[.pointer none]) := ⟨Tryd.zeroValue18⟩
theorem fa18_0 {K : Value → World → Prop} {w : World} (b o : Nat) : opS Tryd.prog (S.fa 18 (pt b o) 0) K w = K (pt b (o + 0)) w := opS_fa (T := 18) (hT := ⟨Tryd.underlying18⟩) (fd := ⟨_, 17, 0, _, _, _, _⟩) (n := 1) rfl (hs := sz17) (Nat.succ_ne_zero _) b o
attribute [push_cast] fa18_0
instance bt18 : BT Tryd.prog 18 [[.pointer none]] := BT.ofStruct Tryd.underlying18 Tryd.zeroValue18 rfl (fun w => by kernel_rfl)
instance sz19 : Sz Tryd.prog 19 1 true := ⟨Tryd.sizeOf19, Tryd.isAgg19⟩
instance by19 : By Tryd.prog 19 8 := ⟨_, Tryd.typeInfo19, rfl⟩
instance zv19 : ZV Tryd.prog 19 (.agg #[.pointer none]) := ⟨Tryd.zeroValue19⟩
theorem fa19_0 {K : Value → World → Prop} {w : World} (b o : Nat) : opS Tryd.prog (S.fa 19 (pt b o) 0) K w = K (pt b (o + 0)) w := opS_fa (T := 19) (hT := ⟨Tryd.underlying19⟩) (fd := ⟨_, 17, 0, _, _, _, _⟩) (n := 1) rfl (hs := sz17) (Nat.succ_ne_zero _) b o
attribute [push_cast] fa19_0
instance bt19 : BT Tryd.prog 19 [[.pointer none]] := BT.ofStruct Tryd.underlying19 Tryd.zeroValue19 rfl (fun w => by kernel_rfl)
instance sz21 : Sz Tryd.prog 21 1 false := ⟨Tryd.sizeOf21, Tryd.isAgg21⟩
instance by21 : By Tryd.prog 21 4 := ⟨_, Tryd.typeInfo21, rfl⟩
instance zv21 : ZV Tryd.prog 21 (.int .i32 0) := ⟨Tryd.zeroValue21⟩
instance sz22 : Sz Tryd.prog 22 6 true := ⟨Tryd.sizeOf22, Tryd.isAgg22⟩
instance by22 : By Tryd.prog 22 6 := ⟨_, Tryd.typeInfo22, rfl⟩
instance zv22 : ZV Tryd.prog 22 (.agg #[.int .u8 0, .int .u8 0, .int .u8 0, .int .u8 0, .int .u8 0, .int .u8 0]) := ⟨Tryd.zeroValue22⟩
instance eq22 : EqT Tryd.prog 22 := ⟨by kernel_rfl, Tryd.eqGuardType22, .inr ⟨_, _, Tryd.underlying22⟩⟩
instance ar22 : ArT Tryd.prog 22 6 5 := ⟨Tryd.underlying22⟩
instance bt22 : BT Tryd.prog 22 (List.replicate 6 [.int .u8 0]) := BT.ofArray Tryd.underlying22 Tryd.zeroValue22 rfl sz5 rfl
instance sz23 : Sz Tryd.prog 23 6 true := ⟨Tryd.sizeOf23, Tryd.isAgg23⟩
instance by23 : By Tryd.prog 23 6 := ⟨_, Tryd.typeInfo23, rfl⟩
instance zv23 : ZV Tryd.prog 23 (.agg #[.int .u8 0, .int .u8 0, .int .u8 0, .int .u8 0, .int .u8 0, .int .u8 0]) := ⟨Tryd.zeroValue23⟩
instance eq23 : EqT Tryd.prog 23 := ⟨by kernel_rfl, Tryd.eqGuardType23, .inr ⟨_, _, Tryd.underlying23⟩⟩
instance ar23 : ArT Tryd.prog 23 6 5 := ⟨Tryd.underlying23⟩
instance bt23 : BT Tryd.prog 23 (List.replicate 6 [.int .u8 0]) := BT.ofArray Tryd.underlying23 Tryd.zeroValue23 rfl sz5 rfl
instance sz24 : Sz Tryd.prog 24 1 false := ⟨Tryd.sizeOf24, Tryd.isAgg24⟩
instance by24 : By Tryd.prog 24 24 := ⟨_, Tryd.typeInfo24, rfl⟩
instance zv24 : ZV Tryd.prog 24 (.slice none 0 0) := ⟨Tryd.zeroValue24⟩
instance sl24 : SlT Tryd.prog 24 5 := ⟨Tryd.underlying24⟩
instance sz25 : Sz Tryd.prog 25 17 true := ⟨Tryd.sizeOf25, Tryd.isAgg25⟩
instance by25 : By Tryd.prog 25 64 := ⟨_, Tryd.typeInfo25, rfl⟩
instance zv25 : ZV Tryd.prog 25 (.agg #[.int .u8 0, .int .u8 0, .int .u8 0, .int .u8 0, .int .u8 0, .int .u8 0, .int .u8 0, .int .u8 0, .int .u8 0, .int .u8 0, .int .u8 0, .int .u8 0, .bool false, .int .i64 0, .int .i64 0, .int .i64 0, .slice none 0 0]) := ⟨Tryd.zeroValue25⟩
theorem fa25_0 {K : Value → World → Prop} {w : World} (b o : Nat) : opS Tryd.prog (S.fa 25 (pt b o) 0) K w = K (pt b (o + 0)) w := opS_fa (T := 25) (hT := ⟨Tryd.underlying25⟩) (fd := ⟨_, 23, 0, _, _, _, _⟩) (n := 6) rfl (hs := sz23) (Nat.succ_ne_zero _) b o
attribute [push_cast] fa25_0
theorem fa25_1 {K : Value → World → Prop} {w : World} (b o : Nat) : opS Tryd.prog (S.fa 25 (pt b o) 1) K w = K (pt b (o + 6)) w := opS_fa (T := 25) (hT := ⟨Tryd.underlying25⟩) (fd := ⟨_, 23, 6, _, _, _, _⟩) (n := 6) rfl (hs := sz23) (Nat.succ_ne_zero _) b o
attribute [push_cast] fa25_1
theorem fa25_2 {K : Value → World → Prop} {w : World} (b o : Nat) : opS Tryd.prog (S.fa 25 (pt b o) 2) K w = K (pt b (o + 12)) w := opS_fa (T := 25) (hT := ⟨Tryd.underlying25⟩) (fd := ⟨_, 4, 12, _, _, _, _⟩) (n := 1) rfl (hs := sz4) (Nat.succ_ne_zero _) b o
attribute [push_cast] fa25_2
theorem fa25_3 {K : Value → World → Prop} {w : World} (b o : Nat) : opS Tryd.prog (S.fa 25 (pt b o) 3) K w = K (pt b (o + 13)) w := opS_fa (T := 25) (hT := ⟨Tryd.underlying25⟩) (fd := ⟨_, 3, 13, _, _, _, _⟩) (n := 1) rfl (hs := sz3) (Nat.succ_ne_zero _) b o
attribute [push_cast] fa25_3
theorem fa25_4 {K : Value → World → Prop} {w : World} (b o : Nat) : opS Tryd.prog (S.fa 25 (pt b o) 4) K w = K (pt b (o + 14)) w := opS_fa (T := 25) (hT := ⟨Tryd.underlying25⟩) (fd := ⟨_, 3, 14, _, _, _, _⟩) (n := 1) rfl (hs := sz3) (Nat.succ_ne_zero _) b o
attribute [push_cast] fa25_4
theorem fa25_5 {K : Value → World → Prop} {w : World} (b o : Nat) : opS Tryd.prog (S.fa 25 (pt b o) 5) K w = K (pt b (o + 15)) w := opS_fa (T := 25) (hT := ⟨Tryd.underlying25⟩) (fd := ⟨_, 3, 15, _, _, _, _⟩) (n := 1) rfl (hs := sz3) (Nat.succ_ne_zero _) b o
attribute [push_cast] fa25_5
theorem fa25_6 {K : Value → World → Prop} {w : World} (b o : Nat) : opS Tryd.prog (S.fa 25 (pt b o) 6) K w = K (pt b (o + 16)) w := opS_fa (T := 25) (hT := ⟨Tryd.underlying25⟩) (fd := ⟨_, 24, 16, _, _, _, _⟩) (n := 1) rfl (hs := sz24) (Nat.succ_ne_zero _) b o
attribute [push_cast] fa25_6
instance bt25 : BT Tryd.prog 25 [[.int .u8 0, .int .u8 0, .int .u8 0, .int .u8 0, .int .u8 0, .int .u8 0], [.int .u8 0, .int .u8 0, .int .u8 0, .int .u8 0, .int .u8 0, .int .u8 0], [.bool false], [.int .i64 0], [.int .i64 0], [.int .i64 0], [.slice none 0 0]] := BT.ofStruct Tryd.underlying25 Tryd.zeroValue25 rfl (fun w => by kernel_rfl)
instance sz26 : Sz Tryd.prog 26 17 true := ⟨Tryd.sizeOf26, Tryd.isAgg26⟩
instance by26 : By Tryd.prog 26 64 := ⟨_, Tryd.typeInfo26, rfl⟩
instance zv26 : ZV Tryd.prog 26 (.agg #[.int .u8 0, .int .u8 0, .int .u8 0, .int .u8 0, .int .u8 0, .int .u8 0, .int .u8 0, .int .u8 0, .int .u8 0, .int .u8 0, .int .u8 0, .int .u8 0, .bool false, .int .i64 0, .int .i64 0, .int .i64 0, .slice none 0 0]) := ⟨Tryd.zeroValue26⟩
theorem fa26_0 {K : Value → World → Prop} {w : World} (b o : Nat) : opS Tryd.prog (S.fa 26 (pt b o) 0) K w = K (pt b (o + 0)) w := opS_fa (T := 26) (hT := ⟨Tryd.underlying26⟩) (fd := ⟨_, 23, 0, _, _, _, _⟩) (n := 6) rfl (hs := sz23) (Nat.succ_ne_zero _) b o
attribute [push_cast] fa26_0
theorem fa26_1 {K : Value → World → Prop} {w : World} (b o : Nat) : opS Tryd.prog (S.fa 26 (pt b o) 1) K w = K (pt b (o + 6)) w := opS_fa (T := 26) (hT := ⟨Tryd.underlying26⟩) (fd := ⟨_, 23, 6, _, _, _, _⟩) (n := 6) rfl (hs := sz23) (Nat.succ_ne_zero _) b o
attribute [push_cast] fa26_1
theorem fa26_2 {K : Value → World → Prop} {w : World} (b o : Nat) : opS Tryd.prog (S.fa 26 (pt b o) 2) K w = K (pt b (o + 12)) w := opS_fa (T := 26) (hT := ⟨Tryd.underlying26⟩) (fd := ⟨_, 4, 12, _, _, _, _⟩) (n := 1) rfl (hs := sz4) (Nat.succ_ne_zero _) b o
attribute [push_cast] fa26_2
theorem fa26_3 {K : Value → World → Prop} {w : World} (b o : Nat) : opS Tryd.prog (S.fa 26 (pt b o) 3) K w = K (pt b (o + 13)) w := opS_fa (T := 26) (hT := ⟨Tryd.underlying26⟩) (fd := ⟨_, 3, 13, _, _, _, _⟩) (n := 1) rfl (hs := sz3) (Nat.succ_ne_zero _) b o
attribute [push_cast] fa26_3
theorem fa26_4 {K : Value → World → Prop} {w : World} (b o : Nat) : opS Tryd.prog (S.fa 26 (pt b o) 4) K w = K (pt b (o + 14)) w := opS_fa (T := 26) (hT := ⟨Tryd.underlying26⟩) (fd := ⟨_, 3, 14, _, _, _, _⟩) (n := 1) rfl (hs := sz3) (Nat.succ_ne_zero _) b o
attribute [push_cast] fa26_4
theorem fa26_5 {K : Value → World → Prop} {w : World} (b o : Nat) : opS Tryd.prog (S.fa 26 (pt b o) 5) K w = K (pt b (o + 15)) w := opS_fa (T := 26) (hT := ⟨Tryd.underlying26⟩) (fd := ⟨_, 3, 15, _, _, _, _⟩) (n := 1) rfl (hs := sz3) (Nat.succ_ne_zero _) b o
attribute [push_cast] fa26_5
theorem fa26_6 {K : Value → World → Prop} {w : World} (b o : Nat) : opS Tryd.prog (S.fa 26 (pt b o) 6) K w = K (pt b (o + 16)) w := opS_fa (T := 26) (hT := ⟨Tryd.underlying26⟩) (fd := ⟨_, 24, 16, _, _, _, _⟩) (n := 1) rfl (hs := sz24) (Nat.succ_ne_zero _) b o
attribute [push_cast] fa26_6
instance bt26 : BT Tryd.prog 26 [[.int .u8 0, .int .u8 0, .int .u8 0, .int .u8 0, .int .u8 0, .int .u8 0], [.int .u8 0, .int .u8 0, .int .u8 0, .int .u8 0, .int .u8 0, .int .u8 0], [.bool false], [.int .i64 0], [.int .i64 0], [.int .i64 0], [.slice none 0 0]] := BT.ofStruct Tryd.underlying26 Tryd.zeroValue26 rfl (fun w => by kernel_rfl)
instance sz28 : Sz Tryd.prog 28 1 false := ⟨Tryd.sizeOf28, Tryd.isAgg28⟩
instance by28 : By Tryd.prog 28 8 := ⟨_, Tryd.typeInfo28, rfl⟩
instance zv28 : ZV Tryd.prog 28 (.int .i64 0) := ⟨Tryd.zeroValue28⟩
instance sz40 : Sz Tryd.prog 40 1 false := ⟨Tryd.sizeOf40, Tryd.isAgg40⟩
instance by40 : By Tryd.prog 40 1 := ⟨_, Tryd.typeInfo40, rfl⟩
instance zv40 : ZV Tryd.prog 40 (.int .i8 0) := ⟨Tryd.zeroValue40⟩
instance sz41 : Sz Tryd.prog 41 1 false := ⟨Tryd.sizeOf41, Tryd.isAgg41⟩
instance by41 : By Tryd.prog 41 1 := ⟨_, Tryd.typeInfo41, rfl⟩
instance zv41 : ZV Tryd.prog 41 (.int .i8 0) := ⟨Tryd.zeroValue41⟩
instance sz42 : Sz Tryd.prog 42 3 true := ⟨Tryd.sizeOf42, Tryd.isAgg42⟩
instance by42 : By Tryd.prog 42 40 := ⟨_, Tryd.typeInfo42, rfl⟩
instance zv42 : ZV Tryd.prog 42 (.agg #[.slice none 0 0, .int .i64 0, .int .i8 0]) := ⟨Tryd.zeroValue42⟩
theorem fa42_0 {K : Value → World → Prop} {w : World} (b o : Nat) : opS Tryd.prog (S.fa 42 (pt b o) 0) K w = K (pt b (o + 0)) w := opS_fa (T := 42) (hT := ⟨Tryd.underlying42⟩) (fd := ⟨_, 24, 0, _, _, _, _⟩) (n := 1) rfl (hs := sz24) (Nat.succ_ne_zero _) b o
attribute [push_cast] fa42_0
theorem fa42_1 {K : Value → World → Prop} {w : World} (b o : Nat) : opS Tryd.prog (S.fa 42 (pt b o) 1) K w = K (pt b (o + 1)) w := opS_fa (T := 42) (hT := ⟨Tryd.underlying42⟩) (fd := ⟨_, 3, 1, _, _, _, _⟩) (n := 1) rfl (hs := sz3) (Nat.succ_ne_zero _) b o
attribute [push_cast] fa42_1
theorem fa42_2 {K : Value → World → Prop} {w : World} (b o : Nat) : opS Tryd.prog (S.fa 42 (pt b o) 2) K w = K (pt b (o + 2)) w := opS_fa (T := 42) (hT := ⟨Tryd.underlying42⟩) (fd := ⟨_, 41, 2, _, _, _, _⟩) (n := 1) rfl (hs := sz41) (Nat.succ_ne_zero _) b o
attribute [push_cast] fa42_2
instance bt42 : BT Tryd.prog 42 [[.slice none 0 0], [.int .i64 0], [.int .i8 0]] := BT.ofStruct Tryd.underlying42 Tryd.zeroValue42 rfl (fun w => by kernel_rfl)
instance sz43 : Sz Tryd.prog 43 3 true := ⟨Tryd.sizeOf43, Tryd.isAgg43⟩
instance by43 : By Tryd.prog 43 40 := ⟨_, Tryd.typeInfo43, rfl⟩
instance zv43 : ZV Tryd.prog 43 (.agg #[.slice none 0 0, .int .i64 0, .int .i8 0]) := ⟨Tryd.zeroValue43⟩
theorem fa43_0 {K : Value → World → Prop} {w : World} (b o : Nat) : opS Tryd.prog (S.fa 43 (pt b o) 0) K w = K (pt b (o + 0)) w := opS_fa (T := 43) (hT := ⟨Tryd.underlying43⟩) (fd := ⟨_, 24, 0, _, _, _, _⟩) (n := 1) rfl (hs := sz24) (Nat.succ_ne_zero _) b o
attribute [push_cast] fa43_0
theorem fa43_1 {K : Value → World → Prop} {w : World} (b o : Nat) : opS Tryd.prog (S.fa 43 (pt b o) 1) K w = K (pt b (o + 1)) w := opS_fa (T := 43) (hT := ⟨Tryd.underlying43⟩) (fd := ⟨_, 3, 1, _, _, _, _⟩) (n := 1) rfl (hs := sz3) (Nat.succ_ne_zero _) b o
attribute [push_cast] fa43_1
theorem fa43_2 {K : Value → World → Prop} {w : World} (b o : Nat) : opS Tryd.prog (S.fa 43 (pt b o) 2) K w = K (pt b (o + 2)) w := opS_fa (T := 43) (hT := ⟨Tryd.underlying43⟩) (fd := ⟨_, 41, 2, _, _, _, _⟩) (n := 1) rfl (hs := sz41) (Nat.succ_ne_zero _) b o
attribute [push_cast] fa43_2
instance bt43 : BT Tryd.prog 43 [[.slice none 0 0], [.int .i64 0], [.int .i8 0]] := BT.ofStruct Tryd.underlying43 Tryd.zeroValue43 rfl (fun w => by kernel_rfl)
instance sz48 : Sz Tryd.prog 48 1 false := ⟨Tryd.sizeOf48, Tryd.isAgg48⟩
instance by48 : By Tryd.prog 48 8 := ⟨_, Tryd.typeInfo48, rfl⟩
instance zv48 : ZV Tryd.prog 48 (.int .u64 0) := ⟨Tryd.zeroValue48⟩
instance sz54 : Sz Tryd.prog 54 1 false := ⟨Tryd.sizeOf54, Tryd.isAgg54⟩
instance by54 : By Tryd.prog 54 8 := ⟨_, Tryd.typeInfo54, rfl⟩
instance zv54 : ZV Tryd.prog 54 (.pointer none) := ⟨Tryd.zeroValue54⟩
instance sz58 : Sz Tryd.prog 58 0 true := ⟨Tryd.sizeOf58, Tryd.isAgg58⟩
instance by58 : By Tryd.prog 58 0 := ⟨_, Tryd.typeInfo58, rfl⟩
instance zv58 : ZV Tryd.prog 58 (.agg #[]) := ⟨Tryd.zeroValue58⟩
instance eq58 : EqT Tryd.prog 58 := ⟨by kernel_rfl, Tryd.eqGuardType58, .inl ⟨_, Tryd.underlying58⟩⟩
instance bt58 : BT Tryd.prog 58 [] := BT.ofStruct Tryd.underlying58 Tryd.zeroValue58 rfl (fun w => by kernel_rfl)
instance sz59 : Sz Tryd.prog 59 0 true := ⟨Tryd.sizeOf59, Tryd.isAgg59⟩
instance by59 : By Tryd.prog 59 0 := ⟨_, Tryd.typeInfo59, rfl⟩
instance zv59 : ZV Tryd.prog 59 (.agg #[]) := ⟨Tryd.zeroValue59⟩
instance eq59 : EqT Tryd.prog 59 := ⟨by kernel_rfl, Tryd.eqGuardType59, .inl ⟨_, Tryd.underlying59⟩⟩
instance bt59 : BT Tryd.prog 59 [] := BT.ofStruct Tryd.underlying59 Tryd.zeroValue59 rfl (fun w => by kernel_rfl)
instance sz61 : Sz Tryd.prog 61 1 false := ⟨Tryd.sizeOf61, Tryd.isAgg61⟩
instance by61 : By Tryd.prog 61 24 := ⟨_, Tryd.typeInfo61, rfl⟩
instance zv61 : ZV Tryd.prog 61 (.slice none 0 0) := ⟨Tryd.zeroValue61⟩
instance sl61 : SlT Tryd.prog 61 5 := ⟨Tryd.underlying61⟩
instance sz65 : Sz Tryd.prog 65 1 false := ⟨Tryd.sizeOf65, Tryd.isAgg65⟩
instance by65 : By Tryd.prog 65 8 := ⟨_, Tryd.typeInfo65, rfl⟩
instance zv65 : ZV Tryd.prog 65 (.pointer none) := ⟨Tryd.zeroValue65⟩
instance sz66 : Sz Tryd.prog 66 1 false := ⟨Tryd.sizeOf66, Tryd.isAgg66⟩
instance by66 : By Tryd.prog 66 8 := ⟨_, Tryd.typeInfo66, rfl⟩
instance zv66 : ZV Tryd.prog 66 (.pointer none) := ⟨Tryd.zeroValue66⟩
instance sz68 : Sz Tryd.prog 68 4 true := ⟨Tryd.sizeOf68, Tryd.isAgg68⟩
instance by68 : By Tryd.prog 68 40 := ⟨_, Tryd.typeInfo68, rfl⟩
instance zv68 : ZV Tryd.prog 68 (.agg #[.pointer none, .pointer none, .pointer none, .string ⟨#[]⟩]) := ⟨Tryd.zeroValue68⟩
theorem fa68_0 {K : Value → World → Prop} {w : World} (b o : Nat) : opS Tryd.prog (S.fa 68 (pt b o) 0) K w = K (pt b (o + 0)) w := opS_fa (T := 68) (hT := ⟨Tryd.underlying68⟩) (fd := ⟨_, 17, 0, _, _, _, _⟩) (n := 1) rfl (hs := sz17) (Nat.succ_ne_zero _) b o
attribute [push_cast] fa68_0
theorem fa68_1 {K : Value → World → Prop} {w : World} (b o : Nat) : opS Tryd.prog (S.fa 68 (pt b o) 1) K w = K (pt b (o + 1)) w := opS_fa (T := 68) (hT := ⟨Tryd.underlying68⟩) (fd := ⟨_, 17, 1, _, _, _, _⟩) (n := 1) rfl (hs := sz17) (Nat.succ_ne_zero _) b o
attribute [push_cast] fa68_1
theorem fa68_2 {K : Value → World → Prop} {w : World} (b o : Nat) : opS Tryd.prog (S.fa 68 (pt b o) 2) K w = K (pt b (o + 2)) w := opS_fa (T := 68) (hT := ⟨Tryd.underlying68⟩) (fd := ⟨_, 17, 2, _, _, _, _⟩) (n := 1) rfl (hs := sz17) (Nat.succ_ne_zero _) b o
attribute [push_cast] fa68_2
theorem fa68_3 {K : Value → World → Prop} {w : World} (b o : Nat) : opS Tryd.prog (S.fa 68 (pt b o) 3) K w = K (pt b (o + 3)) w := opS_fa (T := 68) (hT := ⟨Tryd.underlying68⟩) (fd := ⟨_, 9, 3, _, _, _, _⟩) (n := 1) rfl (hs := sz9) (Nat.succ_ne_zero _) b o
attribute [push_cast] fa68_3
instance bt68 : BT Tryd.prog 68 [[.pointer none], [.pointer none], [.pointer none], [.string ⟨#[]⟩]] := BT.ofStruct Tryd.underlying68 Tryd.zeroValue68 rfl (fun w => by kernel_rfl)
instance sz69 : Sz Tryd.prog 69 4 true := ⟨Tryd.sizeOf69, Tryd.isAgg69⟩
instance by69 : By Tryd.prog 69 40 := ⟨_, Tryd.typeInfo69, rfl⟩
instance zv69 : ZV Tryd.prog 69 (.agg #[.pointer none, .pointer none, .pointer none, .string ⟨#[]⟩]) := ⟨Tryd.zeroValue69⟩
theorem fa69_0 {K : Value → World → Prop} {w : World} (b o : Nat) : opS Tryd.prog (S.fa 69 (pt b o) 0) K w = K (pt b (o + 0)) w := opS_fa (T := 69) (hT := ⟨Tryd.underlying69⟩) (fd := ⟨_, 17, 0, _, _, _, _⟩) (n := 1) rfl (hs := sz17) (Nat.succ_ne_zero _) b o
attribute [push_cast] fa69_0
theorem fa69_1 {K : Value → World → Prop} {w : World} (b o : Nat) : opS Tryd.prog (S.fa 69 (pt b o) 1) K w = K (pt b (o + 1)) w := opS_fa (T := 69) (hT := ⟨Tryd.underlying69⟩) (fd := ⟨_, 17, 1, _, _, _, _⟩) (n := 1) rfl (hs := sz17) (Nat.succ_ne_zero _) b o
attribute [push_cast] fa69_1
theorem fa69_2 {K : Value → World → Prop} {w : World} (b o : Nat) : opS Tryd.prog (S.fa 69 (pt b o) 2) K w = K (pt b (o + 2)) w := opS_fa (T := 69) (hT := ⟨Tryd.underlying69⟩) (fd := ⟨_, 17, 2, _, _, _, _⟩) (n := 1) rfl (hs := sz17) (Nat.succ_ne_zero _) b o
attribute [push_cast] fa69_2
theorem fa69_3 {K : Value → World → Prop} {w : World} (b o : Nat) : opS Tryd.prog (S.fa 69 (pt b o) 3) K w = K (pt b (o + 3)) w := opS_fa (T := 69) (hT := ⟨Tryd.underlying69⟩) (fd := ⟨_, 9, 3, _, _, _, _⟩) (n := 1) rfl (hs := sz9) (Nat.succ_ne_zero _) b o
attribute [push_cast] fa69_3
instance bt69 : BT Tryd.prog 69 [[.pointer none], [.pointer none], [.pointer none], [.string ⟨#[]⟩]] := BT.ofStruct Tryd.underlying69 Tryd.zeroValue69 rfl (fun w => by kernel_rfl)
instance sz70 : Sz Tryd.prog 70 0 true := ⟨Tryd.sizeOf70, Tryd.isAgg70⟩
instance by70 : By Tryd.prog 70 0 := ⟨_, Tryd.typeInfo70, rfl⟩
instance zv70 : ZV Tryd.prog 70 (.agg #[]) := ⟨Tryd.zeroValue70⟩
instance ar70 : ArT Tryd.prog 70 0 16 := ⟨Tryd.underlying70⟩
instance bt70 : BT Tryd.prog 70 (List.replicate 0 [.pointer none]) := BT.ofArray Tryd.underlying70 Tryd.zeroValue70 rfl sz16 rfl
instance sz71 : Sz Tryd.prog 71 0 true := ⟨Tryd.sizeOf71, Tryd.isAgg71⟩
instance by71 : By Tryd.prog 71 0 := ⟨_, Tryd.typeInfo71, rfl⟩
instance zv71 : ZV Tryd.prog 71 (.agg #[]) := ⟨Tryd.zeroValue71⟩
instance sz72 : Sz Tryd.prog 72 0 true := ⟨Tryd.sizeOf72, Tryd.isAgg72⟩
instance by72 : By Tryd.prog 72 0 := ⟨_, Tryd.typeInfo72, rfl⟩
instance zv72 : ZV Tryd.prog 72 (.agg #[]) := ⟨Tryd.zeroValue72⟩
instance sz73 : Sz Tryd.prog 73 1 false := ⟨Tryd.sizeOf73, Tryd.isAgg73⟩
instance by73 : By Tryd.prog 73 4 := ⟨_, Tryd.typeInfo73, rfl⟩
instance zv73 : ZV Tryd.prog 73 (.int .u32 0) := ⟨Tryd.zeroValue73⟩
instance sz74 : Sz Tryd.prog 74 1 false := ⟨Tryd.sizeOf74, Tryd.isAgg74⟩
instance by74 : By Tryd.prog 74 1 := ⟨_, Tryd.typeInfo74, rfl⟩
instance zv74 : ZV Tryd.prog 74 (.int .u8 0) := ⟨Tryd.zeroValue74⟩
instance sz75 : Sz Tryd.prog 75 1 false := ⟨Tryd.sizeOf75, Tryd.isAgg75⟩
instance by75 : By Tryd.prog 75 1 := ⟨_, Tryd.typeInfo75, rfl⟩
instance zv75 : ZV Tryd.prog 75 (.int .u8 0) := ⟨Tryd.zeroValue75⟩
instance sz77 : Sz Tryd.prog 77 1 false := ⟨Tryd.sizeOf77, Tryd.isAgg77⟩
instance by77 : By Tryd.prog 77 8 := ⟨_, Tryd.typeInfo77, rfl⟩
instance zv77 : ZV Tryd.prog 77 (.pointer none) := ⟨Tryd.zeroValue77⟩
instance sz78 : Sz Tryd.prog 78 1 false := ⟨Tryd.sizeOf78, Tryd.isAgg78⟩
instance by78 : By Tryd.prog 78 4 := ⟨_, Tryd.typeInfo78, rfl⟩
instance zv78 : ZV Tryd.prog 78 (.int .i32 0) := ⟨Tryd.zeroValue78⟩
instance sz79 : Sz Tryd.prog 79 1 false := ⟨Tryd.sizeOf79, Tryd.isAgg79⟩
instance by79 : By Tryd.prog 79 4 := ⟨_, Tryd.typeInfo79, rfl⟩
instance zv79 : ZV Tryd.prog 79 (.int .i32 0) := ⟨Tryd.zeroValue79⟩
instance sz80 : Sz Tryd.prog 80 11 true := ⟨Tryd.sizeOf80, Tryd.isAgg80⟩
instance by80 : By Tryd.prog 80 48 := ⟨_, Tryd.typeInfo80, rfl⟩
instance zv80 : ZV Tryd.prog 80 (.agg #[.int .u64 0, .int .u64 0, .int .u32 0, .int .u8 0, .int .u8 0, .int .u8 0, .int .u8 0, .nilFunc, .pointer none, .int .i32 0, .int .i32 0]) := ⟨Tryd.zeroValue80⟩
instance sz81 : Sz Tryd.prog 81 11 true := ⟨Tryd.sizeOf81, Tryd.isAgg81⟩
instance by81 : By Tryd.prog 81 48 := ⟨_, Tryd.typeInfo81, rfl⟩
instance zv81 : ZV Tryd.prog 81 (.agg #[.int .u64 0, .int .u64 0, .int .u32 0, .int .u8 0, .int .u8 0, .int .u8 0, .int .u8 0, .nilFunc, .pointer none, .int .i32 0, .int .i32 0]) := ⟨Tryd.zeroValue81⟩
instance sz82 : Sz Tryd.prog 82 1 true := ⟨Tryd.sizeOf82, Tryd.isAgg82⟩
instance by82 : By Tryd.prog 82 16 := ⟨_, Tryd.typeInfo82, rfl⟩
instance zv82 : ZV Tryd.prog 82 (.agg #[.string ⟨#[]⟩]) := ⟨Tryd.zeroValue82⟩
instance eq82 : EqT Tryd.prog 82 := ⟨by kernel_rfl, Tryd.eqGuardType82, .inl ⟨_, Tryd.underlying82⟩⟩
theorem fa82_0 {K : Value → World → Prop} {w : World} (b o : Nat) : opS Tryd.prog (S.fa 82 (pt b o) 0) K w = K (pt b (o + 0)) w := opS_fa (T := 82) (hT := ⟨Tryd.underlying82⟩) (fd := ⟨_, 9, 0, _, _, _, _⟩) (n := 1) rfl (hs := sz9) (Nat.succ_ne_zero _) b o
attribute [push_cast] fa82_0
instance bt82 : BT Tryd.prog 82 [[.string ⟨#[]⟩]] := BT.ofStruct Tryd.underlying82 Tryd.zeroValue82 rfl (fun w => by kernel_rfl)
instance sz83 : Sz Tryd.prog 83 1 true := ⟨Tryd.sizeOf83, Tryd.isAgg83⟩
instance by83 : By Tryd.prog 83 16 := ⟨_, Tryd.typeInfo83, rfl⟩
instance zv83 : ZV Tryd.prog 83 (.agg #[.string ⟨#[]⟩]) := ⟨Tryd.zeroValue83⟩
instance eq83 : EqT Tryd.prog 83 := ⟨by kernel_rfl, Tryd.eqGuardType83, .inl ⟨_, Tryd.underlying83⟩⟩
theorem fa83_0 {K : Value → World → Prop} {w : World} (b o : Nat) : opS Tryd.prog (S.fa 83 (pt b o) 0) K w = K (pt b (o + 0)) w := opS_fa (T := 83) (hT := ⟨Tryd.underlying83⟩) (fd := ⟨_, 9, 0, _, _, _, _⟩) (n := 1) rfl (hs := sz9) (Nat.succ_ne_zero _) b o
attribute [push_cast] fa83_0
instance bt83 : BT Tryd.prog 83 [[.string ⟨#[]⟩]] := BT.ofStruct Tryd.underlying83 Tryd.zeroValue83 rfl (fun w => by kernel_rfl)
theorem mixed : Tryd.prog.follows .mixedOrders = true := by kernel_rfl
end Go.Gx.S
