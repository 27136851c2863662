/- What the functions of this program ask. -/
import Derived.Test.YtdmkkbgjidpmkaaGxTypes
import Derived.Test.YtdmkkbgjidpmkaaProg
import Derived.KernelRfl
set_option linter.unusedVariables false
set_option maxRecDepth 100000
namespace Go.Gx.S
open Go Go.Gx Go.Proofs
instance sz2 : Sz Try.prog 2 1 false := ⟨Try.sizeOf2, Try.isAgg2⟩
instance by2 : By Try.prog 2 8 := ⟨_, Try.typeInfo2, rfl⟩
instance zv2 : ZV Try.prog 2 (.int .i64 0) := ⟨Try.zeroValue2⟩
instance sz3 : Sz Try.prog 3 1 false := ⟨Try.sizeOf3, Try.isAgg3⟩
instance by3 : By Try.prog 3 8 := ⟨_, Try.typeInfo3, rfl⟩
instance zv3 : ZV Try.prog 3 (.int .i64 0) := ⟨Try.zeroValue3⟩
instance sz4 : Sz Try.prog 4 1 false := ⟨Try.sizeOf4, Try.isAgg4⟩
instance by4 : By Try.prog 4 1 := ⟨_, Try.typeInfo4, rfl⟩
instance zv4 : ZV Try.prog 4 (.bool false) := ⟨Try.zeroValue4⟩
instance sz5 : Sz Try.prog 5 1 false := ⟨Try.sizeOf5, Try.isAgg5⟩
instance by5 : By Try.prog 5 1 := ⟨_, Try.typeInfo5, rfl⟩
instance zv5 : ZV Try.prog 5 (.int .u8 0) := ⟨Try.zeroValue5⟩
instance sz6 : Sz Try.prog 6 1 false := ⟨Try.sizeOf6, Try.isAgg6⟩
instance by6 : By Try.prog 6 1 := ⟨_, Try.typeInfo6, rfl⟩
instance zv6 : ZV Try.prog 6 (.int .u8 0) := ⟨Try.zeroValue6⟩
instance sz7 : Sz Try.prog 7 4 true := ⟨Try.sizeOf7, Try.isAgg7⟩
instance by7 : By Try.prog 7 24 := ⟨_, Try.typeInfo7, rfl⟩
instance zv7 : ZV Try.prog 7 (.agg #[.int .i64 0, .int .i64 0, .bool false, .int .u8 0]) := ⟨Try.zeroValue7⟩
instance eq7 : EqT Try.prog 7 := ⟨by kernel_rfl, Try.eqGuardType7, .inl ⟨_, Try.underlying7⟩⟩
theorem fa7_0 {K : Value → World → Prop} {w : World} (b o : Nat) : opS Try.prog (S.fa 7 (pt b o) 0) K w = K (pt b (o + 0)) w := opS_fa (T := 7) (hT := ⟨Try.underlying7⟩) (fd := ⟨_, 2, 0, _, _, _, _⟩) (n := 1) rfl (hs := sz2) (Nat.succ_ne_zero _) b o
attribute [push_cast] fa7_0
theorem fa7_1 {K : Value → World → Prop} {w : World} (b o : Nat) : opS Try.prog (S.fa 7 (pt b o) 1) K w = K (pt b (o + 1)) w := opS_fa (T := 7) (hT := ⟨Try.underlying7⟩) (fd := ⟨_, 3, 1, _, _, _, _⟩) (n := 1) rfl (hs := sz3) (Nat.succ_ne_zero _) b o
attribute [push_cast] fa7_1
theorem fa7_2 {K : Value → World → Prop} {w : World} (b o : Nat) : opS Try.prog (S.fa 7 (pt b o) 2) K w = K (pt b (o + 2)) w := opS_fa (T := 7) (hT := ⟨Try.underlying7⟩) (fd := ⟨_, 4, 2, _, _, _, _⟩) (n := 1) rfl (hs := sz4) (Nat.succ_ne_zero _) b o
attribute [push_cast] fa7_2
theorem fa7_3 {K : Value → World → Prop} {w : World} (b o : Nat) : opS Try.prog (S.fa 7 (pt b o) 3) K w = K (pt b (o + 3)) w := opS_fa (T := 7) (hT := ⟨Try.underlying7⟩) (fd := ⟨_, 6, 3, _, _, _, _⟩) (n := 1) rfl (hs := sz6) (Nat.succ_ne_zero _) b o
attribute [push_cast] fa7_3
instance bt7 : BT Try.prog 7 [[.int .i64 0], [.int .i64 0], [.bool false], [.int .u8 0]] := BT.ofStruct Try.underlying7 Try.zeroValue7 rfl (fun w => by kernel_rfl)
instance sz8 : Sz Try.prog 8 4 true := ⟨Try.sizeOf8, Try.isAgg8⟩
instance by8 : By Try.prog 8 24 := ⟨_, Try.typeInfo8, rfl⟩
instance zv8 : ZV Try.prog 8 (.agg #[.int .i64 0, .int .i64 0, .bool false, .int .u8 0]) := ⟨Try.zeroValue8⟩
theorem fa8_0 {K : Value → World → Prop} {w : World} (b o : Nat) : opS Try.prog (S.fa 8 (pt b o) 0) K w = K (pt b (o + 0)) w := opS_fa (T := 8) (hT := ⟨Try.underlying8⟩) (fd := ⟨_, 2, 0, _, _, _, _⟩) (n := 1) rfl (hs := sz2) (Nat.succ_ne_zero _) b o
attribute [push_cast] fa8_0
theorem fa8_1 {K : Value → World → Prop} {w : World} (b o : Nat) : opS Try.prog (S.fa 8 (pt b o) 1) K w = K (pt b (o + 1)) w := opS_fa (T := 8) (hT := ⟨Try.underlying8⟩) (fd := ⟨_, 3, 1, _, _, _, _⟩) (n := 1) rfl (hs := sz3) (Nat.succ_ne_zero _) b o
attribute [push_cast] fa8_1
theorem fa8_2 {K : Value → World → Prop} {w : World} (b o : Nat) : opS Try.prog (S.fa 8 (pt b o) 2) K w = K (pt b (o + 2)) w := opS_fa (T := 8) (hT := ⟨Try.underlying8⟩) (fd := ⟨_, 4, 2, _, _, _, _⟩) (n := 1) rfl (hs := sz4) (Nat.succ_ne_zero _) b o
attribute [push_cast] fa8_2
theorem fa8_3 {K : Value → World → Prop} {w : World} (b o : Nat) : opS Try.prog (S.fa 8 (pt b o) 3) K w = K (pt b (o + 3)) w := opS_fa (T := 8) (hT := ⟨Try.underlying8⟩) (fd := ⟨_, 6, 3, _, _, _, _⟩) (n := 1) rfl (hs := sz6) (Nat.succ_ne_zero _) b o
attribute [push_cast] fa8_3
instance bt8 : BT Try.prog 8 [[.int .i64 0], [.int .i64 0], [.bool false], [.int .u8 0]] := BT.ofStruct Try.underlying8 Try.zeroValue8 rfl (fun w => by kernel_rfl)
instance sz9 : Sz Try.prog 9 1 false := ⟨Try.sizeOf9, Try.isAgg9⟩
instance by9 : By Try.prog 9 16 := ⟨_, Try.typeInfo9, rfl⟩
instance zv9 : ZV Try.prog 9 (.string ⟨#[]⟩) := ⟨Try.zeroValue9⟩
instance sz10 : Sz Try.prog 10 1 false := ⟨Try.sizeOf10, Try.isAgg10⟩
instance by10 : By Try.prog 10 16 := ⟨_, Try.typeInfo10, rfl⟩
instance zv10 : ZV Try.prog 10 (.string ⟨#[]⟩) := ⟨Try.zeroValue10⟩
instance sz11 : Sz Try.prog 11 1 false := ⟨Try.sizeOf11, Try.isAgg11⟩
instance by11 : By Try.prog 11 16 := ⟨_, Try.typeInfo11, rfl⟩
instance zv11 : ZV Try.prog 11 (.string ⟨#[]⟩) := ⟨Try.zeroValue11⟩
instance sz12 : Sz Try.prog 12 1 false := ⟨Try.sizeOf12, Try.isAgg12⟩
instance by12 : By Try.prog 12 8 := ⟨_, Try.typeInfo12, rfl⟩
instance zv12 : ZV Try.prog 12 (.int .u64 0) := ⟨Try.zeroValue12⟩
instance sz13 : Sz Try.prog 13 2 true := ⟨Try.sizeOf13, Try.isAgg13⟩
instance by13 : By Try.prog 13 24 := ⟨_, Try.typeInfo13, rfl⟩
instance zv13 : ZV Try.prog 13 (.agg #[.string ⟨#[]⟩, .int .u64 0]) := ⟨Try.zeroValue13⟩
theorem fa13_0 {K : Value → World → Prop} {w : World} (b o : Nat) : opS Try.prog (S.fa 13 (pt b o) 0) K w = K (pt b (o + 0)) w := opS_fa (T := 13) (hT := ⟨Try.underlying13⟩) (fd := ⟨_, 9, 0, _, _, _, _⟩) (n := 1) rfl (hs := sz9) (Nat.succ_ne_zero _) b o
attribute [push_cast] fa13_0
theorem fa13_1 {K : Value → World → Prop} {w : World} (b o : Nat) : opS Try.prog (S.fa 13 (pt b o) 1) K w = K (pt b (o + 1)) w := opS_fa (T := 13) (hT := ⟨Try.underlying13⟩) (fd := ⟨_, 12, 1, _, _, _, _⟩) (n := 1) rfl (hs := sz12) (Nat.succ_ne_zero _) b o
attribute [push_cast] fa13_1
instance bt13 : BT Try.prog 13 [[.string ⟨#[]⟩], [.int .u64 0]] := BT.ofStruct Try.underlying13 Try.zeroValue13 rfl (fun w => by kernel_rfl)
instance sz14 : Sz Try.prog 14 2 true := ⟨Try.sizeOf14, Try.isAgg14⟩
instance by14 : By Try.prog 14 24 := ⟨_, Try.typeInfo14, rfl⟩
instance zv14 : ZV Try.prog 14 (.agg #[.string ⟨#[]⟩, .int .u64 0]) := ⟨Try.zeroValue14⟩
theorem fa14_0 {K : Value → World → Prop} {w : World} (b o : Nat) : opS Try.prog (S.fa 14 (pt b o) 0) K w = K (pt b (o + 0)) w := opS_fa (T := 14) (hT := ⟨Try.underlying14⟩) (fd := ⟨_, 9, 0, _, _, _, _⟩) (n := 1) rfl (hs := sz9) (Nat.succ_ne_zero _) b o
attribute [push_cast] fa14_0
theorem fa14_1 {K : Value → World → Prop} {w : World} (b o : Nat) : opS Try.prog (S.fa 14 (pt b o) 1) K w = K (pt b (o + 1)) w := opS_fa (T := 14) (hT := ⟨Try.underlying14⟩) (fd := ⟨_, 12, 1, _, _, _, _⟩) (n := 1) rfl (hs := sz12) (Nat.succ_ne_zero _) b o
attribute [push_cast] fa14_1
instance bt14 : BT Try.prog 14 [[.string ⟨#[]⟩], [.int .u64 0]] := BT.ofStruct Try.underlying14 Try.zeroValue14 rfl (fun w => by kernel_rfl)
instance sz15 : Sz Try.prog 15 1 false := ⟨Try.sizeOf15, Try.isAgg15⟩
instance by15 : By Try.prog 15 8 := ⟨_, Try.typeInfo15, rfl⟩
instance zv15 : ZV Try.prog 15 (.pointer none) := ⟨Try.zeroValue15⟩
instance sz16 : Sz Try.prog 16 1 false := ⟨Try.sizeOf16, Try.isAgg16⟩
instance by16 : By Try.prog 16 8 := ⟨_, Try.typeInfo16, rfl⟩
instance zv16 : ZV Try.prog 16 (.pointer none) := ⟨Try.zeroValue16⟩
instance sz17 : Sz Try.prog 17 1 false := ⟨Try.sizeOf17, Try.isAgg17⟩
instance by17 : By Try.prog 17 8 := ⟨_, Try.typeInfo17, rfl⟩
instance zv17 : ZV Try.prog 17 (.pointer none) := ⟨Try.zeroValue17⟩
instance sz18 : Sz Try.prog 18 1 true := ⟨Try.sizeOf18, Try.isAgg18⟩
instance by18 : By Try.prog 18 8 := ⟨_, Try.typeInfo18, rfl⟩
instance zv18 : ZV Try.prog 18 (.agg #[.pointer none]) := ⟨Try.zeroValue18⟩
theorem fa18_0 {K : Value → World → Prop} {w : World} (b o : Nat) : opS Try.prog (S.fa 18 (pt b o) 0) K w = K (pt b (o + 0)) w := opS_fa (T := 18) (hT := ⟨Try.underlying18⟩) (fd := ⟨_, 17, 0, _, _, _, _⟩) (n := 1) rfl (hs := sz17) (Nat.succ_ne_zero _) b o
attribute [push_cast] fa18_0
instance bt18 : BT Try.prog 18 [[.pointer none]] := BT.ofStruct Try.underlying18 Try.zeroValue18 rfl (fun w => by kernel_rfl)
instance sz19 : Sz Try.prog 19 1 true := ⟨Try.sizeOf19, Try.isAgg19⟩
instance by19 : By Try.prog 19 8 := ⟨_, Try.typeInfo19, rfl⟩
instance zv19 : ZV Try.prog 19 (.agg #[.pointer none]) := ⟨Try.zeroValue19⟩
theorem fa19_0 {K : Value → World → Prop} {w : World} (b o : Nat) : opS Try.prog (S.fa 19 (pt b o) 0) K w = K (pt b (o + 0)) w := opS_fa (T := 19) (hT := ⟨Try.underlying19⟩) (fd := ⟨_, 17, 0, _, _, _, _⟩) (n := 1) rfl (hs := sz17) (Nat.succ_ne_zero _) b o
attribute [push_cast] fa19_0
instance bt19 : BT Try.prog 19 [[.pointer none]] := BT.ofStruct Try.underlying19 Try.zeroValue19 rfl (fun w => by kernel_rfl)
instance sz21 : Sz Try.prog 21 1 false := ⟨Try.sizeOf21, Try.isAgg21⟩
instance by21 : By Try.prog 21 4 := ⟨_, Try.typeInfo21, rfl⟩
instance zv21 : ZV Try.prog 21 (.int .i32 0) := ⟨Try.zeroValue21⟩
instance sz22 : Sz Try.prog 22 1 false := ⟨Try.sizeOf22, Try.isAgg22⟩
instance by22 : By Try.prog 22 24 := ⟨_, Try.typeInfo22, rfl⟩
instance zv22 : ZV Try.prog 22 (.slice none 0 0) := ⟨Try.zeroValue22⟩
instance sl22 : SlT Try.prog 22 26 := ⟨Try.underlying22⟩
instance sz23 : Sz Try.prog 23 6 true := ⟨Try.sizeOf23, Try.isAgg23⟩
instance by23 : By Try.prog 23 6 := ⟨_, Try.typeInfo23, rfl⟩
instance zv23 : ZV Try.prog 23 (.agg #[.int .u8 0, .int .u8 0, .int .u8 0, .int .u8 0, .int .u8 0, .int .u8 0]) := ⟨Try.zeroValue23⟩
instance eq23 : EqT Try.prog 23 := ⟨by kernel_rfl, Try.eqGuardType23, .inr ⟨_, _, Try.underlying23⟩⟩
instance ar23 : ArT Try.prog 23 6 5 := ⟨Try.underlying23⟩
instance bt23 : BT Try.prog 23 (List.replicate 6 [.int .u8 0]) := BT.ofArray Try.underlying23 Try.zeroValue23 rfl sz5 rfl
instance sz24 : Sz Try.prog 24 6 true := ⟨Try.sizeOf24, Try.isAgg24⟩
instance by24 : By Try.prog 24 6 := ⟨_, Try.typeInfo24, rfl⟩
instance zv24 : ZV Try.prog 24 (.agg #[.int .u8 0, .int .u8 0, .int .u8 0, .int .u8 0, .int .u8 0, .int .u8 0]) := ⟨Try.zeroValue24⟩
instance eq24 : EqT Try.prog 24 := ⟨by kernel_rfl, Try.eqGuardType24, .inr ⟨_, _, Try.underlying24⟩⟩
instance ar24 : ArT Try.prog 24 6 5 := ⟨Try.underlying24⟩
instance bt24 : BT Try.prog 24 (List.replicate 6 [.int .u8 0]) := BT.ofArray Try.underlying24 Try.zeroValue24 rfl sz5 rfl
instance sz25 : Sz Try.prog 25 11 true := ⟨Try.sizeOf25, Try.isAgg25⟩
instance by25 : By Try.prog 25 48 := ⟨_, Try.typeInfo25, rfl⟩
instance zv25 : ZV Try.prog 25 (.agg #[.int .i64 0, .int .i64 0, .int .u8 0, .int .u8 0, .int .u8 0, .int .u8 0, .int .u8 0, .int .u8 0, .int .i64 0, .int .i64 0, .int .i64 0]) := ⟨Try.zeroValue25⟩
instance eq25 : EqT Try.prog 25 := ⟨by kernel_rfl, Try.eqGuardType25, .inl ⟨_, Try.underlying25⟩⟩
theorem fa25_0 {K : Value → World → Prop} {w : World} (b o : Nat) : opS Try.prog (S.fa 25 (pt b o) 0) K w = K (pt b (o + 0)) w := opS_fa (T := 25) (hT := ⟨Try.underlying25⟩) (fd := ⟨_, 3, 0, _, _, _, _⟩) (n := 1) rfl (hs := sz3) (Nat.succ_ne_zero _) b o
attribute [push_cast] fa25_0
theorem fa25_1 {K : Value → World → Prop} {w : World} (b o : Nat) : opS Try.prog (S.fa 25 (pt b o) 1) K w = K (pt b (o + 1)) w := opS_fa (T := 25) (hT := ⟨Try.underlying25⟩) (fd := ⟨_, 3, 1, _, _, _, _⟩) (n := 1) rfl (hs := sz3) (Nat.succ_ne_zero _) b o
attribute [push_cast] fa25_1
theorem fa25_2 {K : Value → World → Prop} {w : World} (b o : Nat) : opS Try.prog (S.fa 25 (pt b o) 2) K w = K (pt b (o + 2)) w := opS_fa (T := 25) (hT := ⟨Try.underlying25⟩) (fd := ⟨_, 24, 2, _, _, _, _⟩) (n := 6) rfl (hs := sz24) (Nat.succ_ne_zero _) b o
attribute [push_cast] fa25_2
theorem fa25_3 {K : Value → World → Prop} {w : World} (b o : Nat) : opS Try.prog (S.fa 25 (pt b o) 3) K w = K (pt b (o + 8)) w := opS_fa (T := 25) (hT := ⟨Try.underlying25⟩) (fd := ⟨_, 3, 8, _, _, _, _⟩) (n := 1) rfl (hs := sz3) (Nat.succ_ne_zero _) b o
attribute [push_cast] fa25_3
theorem fa25_4 {K : Value → World → Prop} {w : World} (b o : Nat) : opS Try.prog (S.fa 25 (pt b o) 4) K w = K (pt b (o + 9)) w := opS_fa (T := 25) (hT := ⟨Try.underlying25⟩) (fd := ⟨_, 3, 9, _, _, _, _⟩) (n := 1) rfl (hs := sz3) (Nat.succ_ne_zero _) b o
attribute [push_cast] fa25_4
theorem fa25_5 {K : Value → World → Prop} {w : World} (b o : Nat) : opS Try.prog (S.fa 25 (pt b o) 5) K w = K (pt b (o + 10)) w := opS_fa (T := 25) (hT := ⟨Try.underlying25⟩) (fd := ⟨_, 3, 10, _, _, _, _⟩) (n := 1) rfl (hs := sz3) (Nat.succ_ne_zero _) b o
attribute [push_cast] fa25_5
instance bt25 : BT Try.prog 25 [[.int .i64 0], [.int .i64 0], [.int .u8 0, .int .u8 0, .int .u8 0, .int .u8 0, .int .u8 0, .int .u8 0], [.int .i64 0], [.int .i64 0], [.int .i64 0]] := BT.ofStruct Try.underlying25 Try.zeroValue25 rfl (fun w => by kernel_rfl)
instance sz26 : Sz Try.prog 26 11 true := ⟨Try.sizeOf26, Try.isAgg26⟩
instance by26 : By Try.prog 26 48 := ⟨_, Try.typeInfo26, rfl⟩
instance zv26 : ZV Try.prog 26 (.agg #[.int .i64 0, .int .i64 0, .int .u8 0, .int .u8 0, .int .u8 0, .int .u8 0, .int .u8 0, .int .u8 0, .int .i64 0, .int .i64 0, .int .i64 0]) := ⟨Try.zeroValue26⟩
instance eq26 : EqT Try.prog 26 := ⟨by kernel_rfl, Try.eqGuardType26, .inl ⟨_, Try.underlying26⟩⟩
theorem fa26_0 {K : Value → World → Prop} {w : World} (b o : Nat) : opS Try.prog (S.fa 26 (pt b o) 0) K w = K (pt b (o + 0)) w := opS_fa (T := 26) (hT := ⟨Try.underlying26⟩) (fd := ⟨_, 3, 0, _, _, _, _⟩) (n := 1) rfl (hs := sz3) (Nat.succ_ne_zero _) b o
attribute [push_cast] fa26_0
theorem fa26_1 {K : Value → World → Prop} {w : World} (b o : Nat) : opS Try.prog (S.fa 26 (pt b o) 1) K w = K (pt b (o + 1)) w := opS_fa (T := 26) (hT := ⟨Try.underlying26⟩) (fd := ⟨_, 3, 1, _, _, _, _⟩) (n := 1) rfl (hs := sz3) (Nat.succ_ne_zero _) b o
attribute [push_cast] fa26_1
theorem fa26_2 {K : Value → World → Prop} {w : World} (b o : Nat) : opS Try.prog (S.fa 26 (pt b o) 2) K w = K (pt b (o + 2)) w := opS_fa (T := 26) (hT := ⟨Try.underlying26⟩) (fd := ⟨_, 24, 2, _, _, _, _⟩) (n := 6) rfl (hs := sz24) (Nat.succ_ne_zero _) b o
attribute [push_cast] fa26_2
theorem fa26_3 {K : Value → World → Prop} {w : World} (b o : Nat) : opS Try.prog (S.fa 26 (pt b o) 3) K w = K (pt b (o + 8)) w := opS_fa (T := 26) (hT := ⟨Try.underlying26⟩) (fd := ⟨_, 3, 8, _, _, _, _⟩) (n := 1) rfl (hs := sz3) (Nat.succ_ne_zero _) b o
attribute [push_cast] fa26_3
theorem fa26_4 {K : Value → World → Prop} {w : World} (b o : Nat) : opS Try.prog (S.fa 26 (pt b o) 4) K w = K (pt b (o + 9)) w := opS_fa (T := 26) (hT := ⟨Try.underlying26⟩) (fd := ⟨_, 3, 9, _, _, _, _⟩) (n := 1) rfl (hs := sz3) (Nat.succ_ne_zero _) b o
attribute [push_cast] fa26_4
theorem fa26_5 {K : Value → World → Prop} {w : World} (b o : Nat) : opS Try.prog (S.fa 26 (pt b o) 5) K w = K (pt b (o + 10)) w := opS_fa (T := 26) (hT := ⟨Try.underlying26⟩) (fd := ⟨_, 3, 10, _, _, _, _⟩) (n := 1) rfl (hs := sz3) (Nat.succ_ne_zero _) b o
attribute [push_cast] fa26_5
instance bt26 : BT Try.prog 26 [[.int .i64 0], [.int .i64 0], [.int .u8 0, .int .u8 0, .int .u8 0, .int .u8 0, .int .u8 0, .int .u8 0], [.int .i64 0], [.int .i64 0], [.int .i64 0]] := BT.ofStruct Try.underlying26 Try.zeroValue26 rfl (fun w => by kernel_rfl)
instance sz28 : Sz Try.prog 28 1 false := ⟨Try.sizeOf28, Try.isAgg28⟩
instance by28 : By Try.prog 28 8 := ⟨_, Try.typeInfo28, rfl⟩
instance zv28 : ZV Try.prog 28 (.pointer none) := ⟨Try.zeroValue28⟩
instance sz29 : Sz Try.prog 29 1 false := ⟨Try.sizeOf29, Try.isAgg29⟩
instance by29 : By Try.prog 29 8 := ⟨_, Try.typeInfo29, rfl⟩
instance zv29 : ZV Try.prog 29 (.pointer none) := ⟨Try.zeroValue29⟩
instance sz32 : Sz Try.prog 32 10 true := ⟨Try.sizeOf32, Try.isAgg32⟩
instance by32 : By Try.prog 32 40 := ⟨_, Try.typeInfo32, rfl⟩
instance zv32 : ZV Try.prog 32 (.agg #[.int .i64 0, .int .u8 0, .int .u8 0, .int .u8 0, .int .u8 0, .int .u8 0, .int .u8 0, .int .i64 0, .int .i64 0, .bool false]) := ⟨Try.zeroValue32⟩
instance eq32 : EqT Try.prog 32 := ⟨by kernel_rfl, Try.eqGuardType32, .inl ⟨_, Try.underlying32⟩⟩
theorem fa32_0 {K : Value → World → Prop} {w : World} (b o : Nat) : opS Try.prog (S.fa 32 (pt b o) 0) K w = K (pt b (o + 0)) w := opS_fa (T := 32) (hT := ⟨Try.underlying32⟩) (fd := ⟨_, 3, 0, _, _, _, _⟩) (n := 1) rfl (hs := sz3) (Nat.succ_ne_zero _) b o
attribute [push_cast] fa32_0
theorem fa32_1 {K : Value → World → Prop} {w : World} (b o : Nat) : opS Try.prog (S.fa 32 (pt b o) 1) K w = K (pt b (o + 1)) w := opS_fa (T := 32) (hT := ⟨Try.underlying32⟩) (fd := ⟨_, 24, 1, _, _, _, _⟩) (n := 6) rfl (hs := sz24) (Nat.succ_ne_zero _) b o
attribute [push_cast] fa32_1
theorem fa32_2 {K : Value → World → Prop} {w : World} (b o : Nat) : opS Try.prog (S.fa 32 (pt b o) 2) K w = K (pt b (o + 7)) w := opS_fa (T := 32) (hT := ⟨Try.underlying32⟩) (fd := ⟨_, 3, 7, _, _, _, _⟩) (n := 1) rfl (hs := sz3) (Nat.succ_ne_zero _) b o
attribute [push_cast] fa32_2
theorem fa32_3 {K : Value → World → Prop} {w : World} (b o : Nat) : opS Try.prog (S.fa 32 (pt b o) 3) K w = K (pt b (o + 8)) w := opS_fa (T := 32) (hT := ⟨Try.underlying32⟩) (fd := ⟨_, 3, 8, _, _, _, _⟩) (n := 1) rfl (hs := sz3) (Nat.succ_ne_zero _) b o
attribute [push_cast] fa32_3
theorem fa32_4 {K : Value → World → Prop} {w : World} (b o : Nat) : opS Try.prog (S.fa 32 (pt b o) 4) K w = K (pt b (o + 9)) w := opS_fa (T := 32) (hT := ⟨Try.underlying32⟩) (fd := ⟨_, 4, 9, _, _, _, _⟩) (n := 1) rfl (hs := sz4) (Nat.succ_ne_zero _) b o
attribute [push_cast] fa32_4
instance bt32 : BT Try.prog 32 [[.int .i64 0], [.int .u8 0, .int .u8 0, .int .u8 0, .int .u8 0, .int .u8 0, .int .u8 0], [.int .i64 0], [.int .i64 0], [.bool false]] := BT.ofStruct Try.underlying32 Try.zeroValue32 rfl (fun w => by kernel_rfl)
instance sz33 : Sz Try.prog 33 10 true := ⟨Try.sizeOf33, Try.isAgg33⟩
instance by33 : By Try.prog 33 40 := ⟨_, Try.typeInfo33, rfl⟩
instance zv33 : ZV Try.prog 33 (.agg #[.int .i64 0, .int .u8 0, .int .u8 0, .int .u8 0, .int .u8 0, .int .u8 0, .int .u8 0, .int .i64 0, .int .i64 0, .bool false]) := ⟨Try.zeroValue33⟩
instance eq33 : EqT Try.prog 33 := ⟨by kernel_rfl, Try.eqGuardType33, .inl ⟨_, Try.underlying33⟩⟩
theorem fa33_0 {K : Value → World → Prop} {w : World} (b o : Nat) : opS Try.prog (S.fa 33 (pt b o) 0) K w = K (pt b (o + 0)) w := opS_fa (T := 33) (hT := ⟨Try.underlying33⟩) (fd := ⟨_, 3, 0, _, _, _, _⟩) (n := 1) rfl (hs := sz3) (Nat.succ_ne_zero _) b o
attribute [push_cast] fa33_0
theorem fa33_1 {K : Value → World → Prop} {w : World} (b o : Nat) : opS Try.prog (S.fa 33 (pt b o) 1) K w = K (pt b (o + 1)) w := opS_fa (T := 33) (hT := ⟨Try.underlying33⟩) (fd := ⟨_, 24, 1, _, _, _, _⟩) (n := 6) rfl (hs := sz24) (Nat.succ_ne_zero _) b o
attribute [push_cast] fa33_1
theorem fa33_2 {K : Value → World → Prop} {w : World} (b o : Nat) : opS Try.prog (S.fa 33 (pt b o) 2) K w = K (pt b (o + 7)) w := opS_fa (T := 33) (hT := ⟨Try.underlying33⟩) (fd := ⟨_, 3, 7, _, _, _, _⟩) (n := 1) rfl (hs := sz3) (Nat.succ_ne_zero _) b o
attribute [push_cast] fa33_2
theorem fa33_3 {K : Value → World → Prop} {w : World} (b o : Nat) : opS Try.prog (S.fa 33 (pt b o) 3) K w = K (pt b (o + 8)) w := opS_fa (T := 33) (hT := ⟨Try.underlying33⟩) (fd := ⟨_, 3, 8, _, _, _, _⟩) (n := 1) rfl (hs := sz3) (Nat.succ_ne_zero _) b o
attribute [push_cast] fa33_3
theorem fa33_4 {K : Value → World → Prop} {w : World} (b o : Nat) : opS Try.prog (S.fa 33 (pt b o) 4) K w = K (pt b (o + 9)) w := opS_fa (T := 33) (hT := ⟨Try.underlying33⟩) (fd := ⟨_, 4, 9, _, _, _, _⟩) (n := 1) rfl (hs := sz4) (Nat.succ_ne_zero _) b o
attribute [push_cast] fa33_4
instance bt33 : BT Try.prog 33 [[.int .i64 0], [.int .u8 0, .int .u8 0, .int .u8 0, .int .u8 0, .int .u8 0, .int .u8 0], [.int .i64 0], [.int .i64 0], [.bool false]] := BT.ofStruct Try.underlying33 Try.zeroValue33 rfl (fun w => by kernel_rfl)
instance sz37 : Sz Try.prog 37 1 false := ⟨Try.sizeOf37, Try.isAgg37⟩
instance by37 : By Try.prog 37 24 := ⟨_, Try.typeInfo37, rfl⟩
instance zv37 : ZV Try.prog 37 (.slice none 0 0) := ⟨Try.zeroValue37⟩
instance sl37 : SlT Try.prog 37 33 := ⟨Try.underlying37⟩
instance sz39 : Sz Try.prog 39 2 true := ⟨Try.sizeOf39, Try.isAgg39⟩
instance by39 : By Try.prog 39 32 := ⟨_, Try.typeInfo39, rfl⟩
instance zv39 : ZV Try.prog 39 (.agg #[.int .i64 0, .slice none 0 0]) := ⟨Try.zeroValue39⟩
theorem fa39_0 {K : Value → World → Prop} {w : World} (b o : Nat) : opS Try.prog (S.fa 39 (pt b o) 0) K w = K (pt b (o + 0)) w := opS_fa (T := 39) (hT := ⟨Try.underlying39⟩) (fd := ⟨_, 3, 0, _, _, _, _⟩) (n := 1) rfl (hs := sz3) (Nat.succ_ne_zero _) b o
attribute [push_cast] fa39_0
theorem fa39_1 {K : Value → World → Prop} {w : World} (b o : Nat) : opS Try.prog (S.fa 39 (pt b o) 1) K w = K (pt b (o + 1)) w := opS_fa (T := 39) (hT := ⟨Try.underlying39⟩) (fd := ⟨_, 37, 1, _, _, _, _⟩) (n := 1) rfl (hs := sz37) (Nat.succ_ne_zero _) b o
attribute [push_cast] fa39_1
instance bt39 : BT Try.prog 39 [[.int .i64 0], [.slice none 0 0]] := BT.ofStruct Try.underlying39 Try.zeroValue39 rfl (fun w => by kernel_rfl)
instance sz40 : Sz Try.prog 40 2 true := ⟨Try.sizeOf40, Try.isAgg40⟩
instance by40 : By Try.prog 40 32 := ⟨_, Try.typeInfo40, rfl⟩
instance zv40 : ZV Try.prog 40 (.agg #[.int .i64 0, .slice none 0 0]) := ⟨Try.zeroValue40⟩
theorem fa40_0 {K : Value → World → Prop} {w : World} (b o : Nat) : opS Try.prog (S.fa 40 (pt b o) 0) K w = K (pt b (o + 0)) w := opS_fa (T := 40) (hT := ⟨Try.underlying40⟩) (fd := ⟨_, 3, 0, _, _, _, _⟩) (n := 1) rfl (hs := sz3) (Nat.succ_ne_zero _) b o
attribute [push_cast] fa40_0
theorem fa40_1 {K : Value → World → Prop} {w : World} (b o : Nat) : opS Try.prog (S.fa 40 (pt b o) 1) K w = K (pt b (o + 1)) w := opS_fa (T := 40) (hT := ⟨Try.underlying40⟩) (fd := ⟨_, 37, 1, _, _, _, _⟩) (n := 1) rfl (hs := sz37) (Nat.succ_ne_zero _) b o
attribute [push_cast] fa40_1
instance bt40 : BT Try.prog 40 [[.int .i64 0], [.slice none 0 0]] := BT.ofStruct Try.underlying40 Try.zeroValue40 rfl (fun w => by kernel_rfl)
instance sz43 : Sz Try.prog 43 1 false := ⟨Try.sizeOf43, Try.isAgg43⟩
instance by43 : By Try.prog 43 8 := ⟨_, Try.typeInfo43, rfl⟩
instance zv43 : ZV Try.prog 43 (.int .i64 0) := ⟨Try.zeroValue43⟩
instance sz61 : Sz Try.prog 61 2 true := ⟨Try.sizeOf61, Try.isAgg61⟩
instance by61 : By Try.prog 61 32 := ⟨_, Try.typeInfo61, rfl⟩
instance zv61 : ZV Try.prog 61 (.agg #[.slice none 0 0, .int .i64 0]) := ⟨Try.zeroValue61⟩
theorem fa61_0 {K : Value → World → Prop} {w : World} (b o : Nat) : opS Try.prog (S.fa 61 (pt b o) 0) K w = K (pt b (o + 0)) w := opS_fa (T := 61) (hT := ⟨Try.underlying61⟩) (fd := ⟨_, 37, 0, _, _, _, _⟩) (n := 1) rfl (hs := sz37) (Nat.succ_ne_zero _) b o
attribute [push_cast] fa61_0
theorem fa61_1 {K : Value → World → Prop} {w : World} (b o : Nat) : opS Try.prog (S.fa 61 (pt b o) 1) K w = K (pt b (o + 1)) w := opS_fa (T := 61) (hT := ⟨Try.underlying61⟩) (fd := ⟨_, 3, 1, _, _, _, _⟩) (n := 1) rfl (hs := sz3) (Nat.succ_ne_zero _) b o
attribute [push_cast] fa61_1
instance bt61 : BT Try.prog 61 [[.slice none 0 0], [.int .i64 0]] := BT.ofStruct Try.underlying61 Try.zeroValue61 rfl (fun w => by kernel_rfl)
instance sz62 : Sz Try.prog 62 2 true := ⟨Try.sizeOf62, Try.isAgg62⟩
instance by62 : By Try.prog 62 32 := ⟨_, Try.typeInfo62, rfl⟩
instance zv62 : ZV Try.prog 62 (.agg #[.slice none 0 0, .int .i64 0]) := ⟨Try.zeroValue62⟩
theorem fa62_0 {K : Value → World → Prop} {w : World} (b o : Nat) : opS Try.prog (S.fa 62 (pt b o) 0) K w = K (pt b (o + 0)) w := opS_fa (T := 62) (hT := ⟨Try.underlying62⟩) (fd := ⟨_, 37, 0, _, _, _, _⟩) (n := 1) rfl (hs := sz37) (Nat.succ_ne_zero _) b o
attribute [push_cast] fa62_0
theorem fa62_1 {K : Value → World → Prop} {w : World} (b o : Nat) : opS Try.prog (S.fa 62 (pt b o) 1) K w = K (pt b (o + 1)) w := opS_fa (T := 62) (hT := ⟨Try.underlying62⟩) (fd := ⟨_, 3, 1, _, _, _, _⟩) (n := 1) rfl (hs := sz3) (Nat.succ_ne_zero _) b o
attribute [push_cast] fa62_1
instance bt62 : BT Try.prog 62 [[.slice none 0 0], [.int .i64 0]] := BT.ofStruct Try.underlying62 Try.zeroValue62 rfl (fun w => by kernel_rfl)
instance sz74 : Sz Try.prog 74 1 false := ⟨Try.sizeOf74, Try.isAgg74⟩
instance by74 : By Try.prog 74 8 := ⟨_, Try.typeInfo74, rfl⟩
instance zv74 : ZV Try.prog 74 (.int .u64 0) := ⟨Try.zeroValue74⟩
instance sz81 : Sz Try.prog 81 1 false := ⟨Try.sizeOf81, Try.isAgg81⟩
instance by81 : By Try.prog 81 8 := ⟨_, Try.typeInfo81, rfl⟩
instance zv81 : ZV Try.prog 81 (.int .u64 0) := ⟨Try.zeroValue81⟩
instance sz82 : Sz Try.prog 82 1 false := ⟨Try.sizeOf82, Try.isAgg82⟩
instance by82 : By Try.prog 82 24 := ⟨_, Try.typeInfo82, rfl⟩
instance zv82 : ZV Try.prog 82 (.slice none 0 0) := ⟨Try.zeroValue82⟩
instance sl82 : SlT Try.prog 82 3 := ⟨Try.underlying82⟩
instance sz84 : Sz Try.prog 84 1 false := ⟨Try.sizeOf84, Try.isAgg84⟩
instance by84 : By Try.prog 84 24 := ⟨_, Try.typeInfo84, rfl⟩
instance zv84 : ZV Try.prog 84 (.slice none 0 0) := ⟨Try.zeroValue84⟩
instance sl84 : SlT Try.prog 84 5 := ⟨Try.underlying84⟩
instance sz89 : Sz Try.prog 89 1 false := ⟨Try.sizeOf89, Try.isAgg89⟩
instance by89 : By Try.prog 89 8 := ⟨_, Try.typeInfo89, rfl⟩
instance zv89 : ZV Try.prog 89 (.int .i64 0) := ⟨Try.zeroValue89⟩
instance sz96 : Sz Try.prog 96 1 false := ⟨Try.sizeOf96, Try.isAgg96⟩
instance by96 : By Try.prog 96 4 := ⟨_, Try.typeInfo96, rfl⟩
instance zv96 : ZV Try.prog 96 (.int .u32 0) := ⟨Try.zeroValue96⟩
instance sz98 : Sz Try.prog 98 1 false := ⟨Try.sizeOf98, Try.isAgg98⟩
instance by98 : By Try.prog 98 8 := ⟨_, Try.typeInfo98, rfl⟩
instance zv98 : ZV Try.prog 98 (.int .u64 0) := ⟨Try.zeroValue98⟩
instance sz102 : Sz Try.prog 102 1 false := ⟨Try.sizeOf102, Try.isAgg102⟩
instance by102 : By Try.prog 102 8 := ⟨_, Try.typeInfo102, rfl⟩
instance zv102 : ZV Try.prog 102 (.pointer none) := ⟨Try.zeroValue102⟩
instance sz104 : Sz Try.prog 104 1 false := ⟨Try.sizeOf104, Try.isAgg104⟩
instance by104 : By Try.prog 104 8 := ⟨_, Try.typeInfo104, rfl⟩
instance zv104 : ZV Try.prog 104 (.pointer none) := ⟨Try.zeroValue104⟩
instance sz108 : Sz Try.prog 108 4 true := ⟨Try.sizeOf108, Try.isAgg108⟩
instance by108 : By Try.prog 108 40 := ⟨_, Try.typeInfo108, rfl⟩
instance zv108 : ZV Try.prog 108 (.agg #[.pointer none, .pointer none, .pointer none, .string ⟨#[]⟩]) := ⟨Try.zeroValue108⟩
theorem fa108_0 {K : Value → World → Prop} {w : World} (b o : Nat) : opS Try.prog (S.fa 108 (pt b o) 0) K w = K (pt b (o + 0)) w := opS_fa (T := 108) (hT := ⟨Try.underlying108⟩) (fd := ⟨_, 17, 0, _, _, _, _⟩) (n := 1) rfl (hs := sz17) (Nat.succ_ne_zero _) b o
attribute [push_cast] fa108_0
theorem fa108_1 {K : Value → World → Prop} {w : World} (b o : Nat) : opS Try.prog (S.fa 108 (pt b o) 1) K w = K (pt b (o + 1)) w := opS_fa (T := 108) (hT := ⟨Try.underlying108⟩) (fd := ⟨_, 17, 1, _, _, _, _⟩) (n := 1) rfl (hs := sz17) (Nat.succ_ne_zero _) b o
attribute [push_cast] fa108_1
theorem fa108_2 {K : Value → World → Prop} {w : World} (b o : Nat) : opS Try.prog (S.fa 108 (pt b o) 2) K w = K (pt b (o + 2)) w := opS_fa (T := 108) (hT := ⟨Try.underlying108⟩) (fd := ⟨_, 17, 2, _, _, _, _⟩) (n := 1) rfl (hs := sz17) (Nat.succ_ne_zero _) b o
attribute [push_cast] fa108_2
theorem fa108_3 {K : Value → World → Prop} {w : World} (b o : Nat) : opS Try.prog (S.fa 108 (pt b o) 3) K w = K (pt b (o + 3)) w := opS_fa (T := 108) (hT := ⟨Try.underlying108⟩) (fd := ⟨_, 9, 3, _, _, _, _⟩) (n := 1) rfl (hs := sz9) (Nat.succ_ne_zero _) b o
attribute [push_cast] fa108_3
instance bt108 : BT Try.prog 108 [[.pointer none], [.pointer none], [.pointer none], [.string ⟨#[]⟩]] := BT.ofStruct Try.underlying108 Try.zeroValue108 rfl (fun w => by kernel_rfl)
instance sz109 : Sz Try.prog 109 4 true := ⟨Try.sizeOf109, Try.isAgg109⟩
instance by109 : By Try.prog 109 40 := ⟨_, Try.typeInfo109, rfl⟩
instance zv109 : ZV Try.prog 109 (.agg #[.pointer none, .pointer none, .pointer none, .string ⟨#[]⟩]) := ⟨Try.zeroValue109⟩
theorem fa109_0 {K : Value → World → Prop} {w : World} (b o : Nat) : opS Try.prog (S.fa 109 (pt b o) 0) K w = K (pt b (o + 0)) w := opS_fa (T := 109) (hT := ⟨Try.underlying109⟩) (fd := ⟨_, 17, 0, _, _, _, _⟩) (n := 1) rfl (hs := sz17) (Nat.succ_ne_zero _) b o
attribute [push_cast] fa109_0
theorem fa109_1 {K : Value → World → Prop} {w : World} (b o : Nat) : opS Try.prog (S.fa 109 (pt b o) 1) K w = K (pt b (o + 1)) w := opS_fa (T := 109) (hT := ⟨Try.underlying109⟩) (fd := ⟨_, 17, 1, _, _, _, _⟩) (n := 1) rfl (hs := sz17) (Nat.succ_ne_zero _) b o
attribute [push_cast] fa109_1
theorem fa109_2 {K : Value → World → Prop} {w : World} (b o : Nat) : opS Try.prog (S.fa 109 (pt b o) 2) K w = K (pt b (o + 2)) w := opS_fa (T := 109) (hT := ⟨Try.underlying109⟩) (fd := ⟨_, 17, 2, _, _, _, _⟩) (n := 1) rfl (hs := sz17) (Nat.succ_ne_zero _) b o
attribute [push_cast] fa109_2
theorem fa109_3 {K : Value → World → Prop} {w : World} (b o : Nat) : opS Try.prog (S.fa 109 (pt b o) 3) K w = K (pt b (o + 3)) w := opS_fa (T := 109) (hT := ⟨Try.underlying109⟩) (fd := ⟨_, 9, 3, _, _, _, _⟩) (n := 1) rfl (hs := sz9) (Nat.succ_ne_zero _) b o
attribute [push_cast] fa109_3
instance bt109 : BT Try.prog 109 [[.pointer none], [.pointer none], [.pointer none], [.string ⟨#[]⟩]] := BT.ofStruct Try.underlying109 Try.zeroValue109 rfl (fun w => by kernel_rfl)
instance sz110 : Sz Try.prog 110 0 true := ⟨Try.sizeOf110, Try.isAgg110⟩
instance by110 : By Try.prog 110 0 := ⟨_, Try.typeInfo110, rfl⟩
instance zv110 : ZV Try.prog 110 (.agg #[]) := ⟨Try.zeroValue110⟩
instance ar110 : ArT Try.prog 110 0 16 := ⟨Try.underlying110⟩
instance bt110 : BT Try.prog 110 (List.replicate 0 [.pointer none]) := BT.ofArray Try.underlying110 Try.zeroValue110 rfl sz16 rfl
instance sz111 : Sz Try.prog 111 0 true := ⟨Try.sizeOf111, Try.isAgg111⟩
instance by111 : By Try.prog 111 0 := ⟨_, Try.typeInfo111, rfl⟩
instance zv111 : ZV Try.prog 111 (.agg #[]) := ⟨Try.zeroValue111⟩
instance sz112 : Sz Try.prog 112 0 true := ⟨Try.sizeOf112, Try.isAgg112⟩
instance by112 : By Try.prog 112 0 := ⟨_, Try.typeInfo112, rfl⟩
instance zv112 : ZV Try.prog 112 (.agg #[]) := ⟨Try.zeroValue112⟩
instance sz113 : Sz Try.prog 113 1 false := ⟨Try.sizeOf113, Try.isAgg113⟩
instance by113 : By Try.prog 113 1 := ⟨_, Try.typeInfo113, rfl⟩
instance zv113 : ZV Try.prog 113 (.int .u8 0) := ⟨Try.zeroValue113⟩
instance sz114 : Sz Try.prog 114 1 false := ⟨Try.sizeOf114, Try.isAgg114⟩
instance by114 : By Try.prog 114 1 := ⟨_, Try.typeInfo114, rfl⟩
instance zv114 : ZV Try.prog 114 (.int .u8 0) := ⟨Try.zeroValue114⟩
instance sz116 : Sz Try.prog 116 1 false := ⟨Try.sizeOf116, Try.isAgg116⟩
instance by116 : By Try.prog 116 8 := ⟨_, Try.typeInfo116, rfl⟩
instance zv116 : ZV Try.prog 116 (.pointer none) := ⟨Try.zeroValue116⟩
instance sz117 : Sz Try.prog 117 1 false := ⟨Try.sizeOf117, Try.isAgg117⟩
instance by117 : By Try.prog 117 4 := ⟨_, Try.typeInfo117, rfl⟩
instance zv117 : ZV Try.prog 117 (.int .i32 0) := ⟨Try.zeroValue117⟩
instance sz118 : Sz Try.prog 118 1 false := ⟨Try.sizeOf118, Try.isAgg118⟩
instance by118 : By Try.prog 118 4 := ⟨_, Try.typeInfo118, rfl⟩
instance zv118 : ZV Try.prog 118 (.int .i32 0) := ⟨Try.zeroValue118⟩
instance sz119 : Sz Try.prog 119 11 true := ⟨Try.sizeOf119, Try.isAgg119⟩
instance by119 : By Try.prog 119 48 := ⟨_, Try.typeInfo119, rfl⟩
instance zv119 : ZV Try.prog 119 (.agg #[.int .u64 0, .int .u64 0, .int .u32 0, .int .u8 0, .int .u8 0, .int .u8 0, .int .u8 0, .nilFunc, .pointer none, .int .i32 0, .int .i32 0]) := ⟨Try.zeroValue119⟩
instance sz120 : Sz Try.prog 120 11 true := ⟨Try.sizeOf120, Try.isAgg120⟩
instance by120 : By Try.prog 120 48 := ⟨_, Try.typeInfo120, rfl⟩
instance zv120 : ZV Try.prog 120 (.agg #[.int .u64 0, .int .u64 0, .int .u32 0, .int .u8 0, .int .u8 0, .int .u8 0, .int .u8 0, .nilFunc, .pointer none, .int .i32 0, .int .i32 0]) := ⟨Try.zeroValue120⟩
theorem mixed : Try.prog.follows .mixedOrders = true := by kernel_rfl
end Go.Gx.S
