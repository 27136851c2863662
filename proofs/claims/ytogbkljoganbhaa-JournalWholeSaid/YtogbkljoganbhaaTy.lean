/- What the functions of this program ask. -/
import Derived.Test.YtogbkljoganbhaaGxTypes
import Derived.Test.YtogbkljoganbhaaProg
import Derived.KernelRfl
set_option linter.unusedVariables false
set_option maxRecDepth 100000
namespace Go.Gx.S
open Go Go.Gx Go.Proofs
instance sz2 : Sz Try.prog 2 1 false := ⟨Try.sizeOf2, Try.isAgg2⟩
instance by2 : By Try.prog 2 8 := ⟨_, Try.typeInfo2, rfl⟩
instance zv2 : ZV Try.prog 2 (.int .i64 0) := ⟨Try.zeroValue2⟩
instance sz3 : Sz Try.prog 3 1 false := ⟨Try.sizeOf3, Try.isAgg3⟩
instance by3 : By Try.prog 3 8 := ⟨_, Try.typeInfo3, rfl⟩
instance zv3 : ZV Try.prog 3 (.int .i64 0) := ⟨Try.zeroValue3⟩
instance sz4 : Sz Try.prog 4 1 false := ⟨Try.sizeOf4, Try.isAgg4⟩
instance by4 : By Try.prog 4 1 := ⟨_, Try.typeInfo4, rfl⟩
instance zv4 : ZV Try.prog 4 (.bool false) := ⟨Try.zeroValue4⟩
instance sz5 : Sz Try.prog 5 1 false := ⟨Try.sizeOf5, Try.isAgg5⟩
instance by5 : By Try.prog 5 1 := ⟨_, Try.typeInfo5, rfl⟩
instance zv5 : ZV Try.prog 5 (.int .u8 0) := ⟨Try.zeroValue5⟩
instance sz6 : Sz Try.prog 6 1 false := ⟨Try.sizeOf6, Try.isAgg6⟩
instance by6 : By Try.prog 6 1 := ⟨_, Try.typeInfo6, rfl⟩
instance zv6 : ZV Try.prog 6 (.int .u8 0) := ⟨Try.zeroValue6⟩
instance sz7 : Sz Try.prog 7 4 true := ⟨Try.sizeOf7, Try.isAgg7⟩
instance by7 : By Try.prog 7 24 := ⟨_, Try.typeInfo7, rfl⟩
instance zv7 : ZV Try.prog 7 (.agg #[.int .i64 0, .int .i64 0, .bool false, .int .u8 0]) := ⟨Try.zeroValue7⟩
instance eq7 : EqT Try.prog 7 := ⟨by kernel_rfl, Try.eqGuardType7, .inl ⟨_, Try.underlying7⟩⟩
theorem fa7_0 {K : Value → World → Prop} {w : World} (b o : Nat) : opS Try.prog (S.fa 7 (pt b o) 0) K w = K (pt b (o + 0)) w := opS_fa (T := 7) (hT := ⟨Try.underlying7⟩) (fd := ⟨_, 2, 0, _, _, _, _⟩) (n := 1) rfl (hs := sz2) (Nat.succ_ne_zero _) b o
attribute [push_cast] fa7_0
theorem fa7_1 {K : Value → World → Prop} {w : World} (b o : Nat) : opS Try.prog (S.fa 7 (pt b o) 1) K w = K (pt b (o + 1)) w := opS_fa (T := 7) (hT := ⟨Try.underlying7⟩) (fd := ⟨_, 3, 1, _, _, _, _⟩) (n := 1) rfl (hs := sz3) (Nat.succ_ne_zero _) b o
attribute [push_cast] fa7_1
theorem fa7_2 {K : Value → World → Prop} {w : World} (b o : Nat) : opS Try.prog (S.fa 7 (pt b o) 2) K w = K (pt b (o + 2)) w := opS_fa (T := 7) (hT := ⟨Try.underlying7⟩) (fd := ⟨_, 4, 2, _, _, _, _⟩) (n := 1) rfl (hs := sz4) (Nat.succ_ne_zero _) b o
attribute [push_cast] fa7_2
theorem fa7_3 {K : Value → World → Prop} {w : World} (b o : Nat) : opS Try.prog (S.fa 7 (pt b o) 3) K w = K (pt b (o + 3)) w := opS_fa (T := 7) (hT := ⟨Try.underlying7⟩) (fd := ⟨_, 6, 3, _, _, _, _⟩) (n := 1) rfl (hs := sz6) (Nat.succ_ne_zero _) b o
attribute [push_cast] fa7_3
instance bt7 : BT Try.prog 7 [[.int .i64 0], [.int .i64 0], [.bool false], [.int .u8 0]] := BT.ofStruct Try.underlying7 Try.zeroValue7 rfl (fun w => by kernel_rfl)
instance sz8 : Sz Try.prog 8 4 true := ⟨Try.sizeOf8, Try.isAgg8⟩
instance by8 : By Try.prog 8 24 := ⟨_, Try.typeInfo8, rfl⟩
instance zv8 : ZV Try.prog 8 (.agg #[.int .i64 0, .int .i64 0, .bool false, .int .u8 0]) := ⟨Try.zeroValue8⟩
theorem fa8_0 {K : Value → World → Prop} {w : World} (b o : Nat) : opS Try.prog (S.fa 8 (pt b o) 0) K w = K (pt b (o + 0)) w := opS_fa (T := 8) (hT := ⟨Try.underlying8⟩) (fd := ⟨_, 2, 0, _, _, _, _⟩) (n := 1) rfl (hs := sz2) (Nat.succ_ne_zero _) b o
attribute [push_cast] fa8_0
theorem fa8_1 {K : Value → World → Prop} {w : World} (b o : Nat) : opS Try.prog (S.fa 8 (pt b o) 1) K w = K (pt b (o + 1)) w := opS_fa (T := 8) (hT := ⟨Try.underlying8⟩) (fd := ⟨_, 3, 1, _, _, _, _⟩) (n := 1) rfl (hs := sz3) (Nat.succ_ne_zero _) b o
attribute [push_cast] fa8_1
theorem fa8_2 {K : Value → World → Prop} {w : World} (b o : Nat) : opS Try.prog (S.fa 8 (pt b o) 2) K w = K (pt b (o + 2)) w := opS_fa (T := 8) (hT := ⟨Try.underlying8⟩) (fd := ⟨_, 4, 2, _, _, _, _⟩) (n := 1) rfl (hs := sz4) (Nat.succ_ne_zero _) b o
attribute [push_cast] fa8_2
theorem fa8_3 {K : Value → World → Prop} {w : World} (b o : Nat) : opS Try.prog (S.fa 8 (pt b o) 3) K w = K (pt b (o + 3)) w := opS_fa (T := 8) (hT := ⟨Try.underlying8⟩) (fd := ⟨_, 6, 3, _, _, _, _⟩) (n := 1) rfl (hs := sz6) (Nat.succ_ne_zero _) b o
attribute [push_cast] fa8_3
instance bt8 : BT Try.prog 8 [[.int .i64 0], [.int .i64 0], [.bool false], [.int .u8 0]] := BT.ofStruct Try.underlying8 Try.zeroValue8 rfl (fun w => by kernel_rfl)
instance sz9 : Sz Try.prog 9 1 false := ⟨Try.sizeOf9, Try.isAgg9⟩
instance by9 : By Try.prog 9 16 := ⟨_, Try.typeInfo9, rfl⟩
instance zv9 : ZV Try.prog 9 (.string ⟨#[]⟩) := ⟨Try.zeroValue9⟩
instance sz10 : Sz Try.prog 10 1 false := ⟨Try.sizeOf10, Try.isAgg10⟩
instance by10 : By Try.prog 10 16 := ⟨_, Try.typeInfo10, rfl⟩
instance zv10 : ZV Try.prog 10 (.string ⟨#[]⟩) := ⟨Try.zeroValue10⟩
instance sz11 : Sz Try.prog 11 1 false := ⟨Try.sizeOf11, Try.isAgg11⟩
instance by11 : By Try.prog 11 16 := ⟨_, Try.typeInfo11, rfl⟩
instance zv11 : ZV Try.prog 11 (.string ⟨#[]⟩) := ⟨Try.zeroValue11⟩
instance sz12 : Sz Try.prog 12 1 false := ⟨Try.sizeOf12, Try.isAgg12⟩
instance by12 : By Try.prog 12 8 := ⟨_, Try.typeInfo12, rfl⟩
instance zv12 : ZV Try.prog 12 (.int .u64 0) := ⟨Try.zeroValue12⟩
instance sz13 : Sz Try.prog 13 2 true := ⟨Try.sizeOf13, Try.isAgg13⟩
instance by13 : By Try.prog 13 24 := ⟨_, Try.typeInfo13, rfl⟩
instance zv13 : ZV Try.prog 13 (.agg #[.string ⟨#[]⟩, .int .u64 0]) := ⟨Try.zeroValue13⟩
theorem fa13_0 {K : Value → World → Prop} {w : World} (b o : Nat) : opS Try.prog (S.fa 13 (pt b o) 0) K w = K (pt b (o + 0)) w := opS_fa (T := 13) (hT := ⟨Try.underlying13⟩) (fd := ⟨_, 9, 0, _, _, _, _⟩) (n := 1) rfl (hs := sz9) (Nat.succ_ne_zero _) b o
attribute [push_cast] fa13_0
theorem fa13_1 {K : Value → World → Prop} {w : World} (b o : Nat) : opS Try.prog (S.fa 13 (pt b o) 1) K w = K (pt b (o + 1)) w := opS_fa (T := 13) (hT := ⟨Try.underlying13⟩) (fd := ⟨_, 12, 1, _, _, _, _⟩) (n := 1) rfl (hs := sz12) (Nat.succ_ne_zero _) b o
attribute [push_cast] fa13_1
instance bt13 : BT Try.prog 13 [[.string ⟨#[]⟩], [.int .u64 0]] := BT.ofStruct Try.underlying13 Try.zeroValue13 rfl (fun w => by kernel_rfl)
instance sz14 : Sz Try.prog 14 2 true := ⟨Try.sizeOf14, Try.isAgg14⟩
instance by14 : By Try.prog 14 24 := ⟨_, Try.typeInfo14, rfl⟩
instance zv14 : ZV Try.prog 14 (.agg #[.string ⟨#[]⟩, .int .u64 0]) := ⟨Try.zeroValue14⟩
theorem fa14_0 {K : Value → World → Prop} {w : World} (b o : Nat) : opS Try.prog (S.fa 14 (pt b o) 0) K w = K (pt b (o + 0)) w := opS_fa (T := 14) (hT := ⟨Try.underlying14⟩) (fd := ⟨_, 9, 0, _, _, _, _⟩) (n := 1) rfl (hs := sz9) (Nat.succ_ne_zero _) b o
attribute [push_cast] fa14_0
theorem fa14_1 {K : Value → World → Prop} {w : World} (b o : Nat) : opS Try.prog (S.fa 14 (pt b o) 1) K w = K (pt b (o + 1)) w := opS_fa (T := 14) (hT := ⟨Try.underlying14⟩) (fd := ⟨_, 12, 1, _, _, _, _⟩) (n := 1) rfl (hs := sz12) (Nat.succ_ne_zero _) b o
attribute [push_cast] fa14_1
instance bt14 : BT Try.prog 14 [[.string ⟨#[]⟩], [.int .u64 0]] := BT.ofStruct Try.underlying14 Try.zeroValue14 rfl (fun w => by kernel_rfl)
instance sz15 : Sz Try.prog 15 1 false := ⟨Try.sizeOf15, Try.isAgg15⟩
instance by15 : By Try.prog 15 8 := ⟨_, Try.typeInfo15, rfl⟩
instance zv15 : ZV Try.prog 15 (.pointer none) := ⟨Try.zeroValue15⟩
instance sz16 : Sz Try.prog 16 1 false := ⟨Try.sizeOf16, Try.isAgg16⟩
instance by16 : By Try.prog 16 8 := ⟨_, Try.typeInfo16, rfl⟩
instance zv16 : ZV Try.prog 16 (.pointer none) := ⟨Try.zeroValue16⟩
instance sz17 : Sz Try.prog 17 1 false := ⟨Try.sizeOf17, Try.isAgg17⟩
instance by17 : By Try.prog 17 8 := ⟨_, Try.typeInfo17, rfl⟩
instance zv17 : ZV Try.prog 17 (.pointer none) := ⟨Try.zeroValue17⟩
instance sz18 : Sz Try.prog 18 1 true := ⟨Try.sizeOf18, Try.isAgg18⟩
instance by18 : By Try.prog 18 8 := ⟨_, Try.typeInfo18, rfl⟩
instance zv18 : ZV Try.prog 18 (.agg #[.pointer none]) := ⟨Try.zeroValue18⟩
theorem fa18_0 {K : Value → World → Prop} {w : World} (b o : Nat) : opS Try.prog (S.fa 18 (pt b o) 0) K w = K (pt b (o + 0)) w := opS_fa (T := 18) (hT := ⟨Try.underlying18⟩) (fd := ⟨_, 17, 0, _, _, _, _⟩) (n := 1) rfl (hs := sz17) (Nat.succ_ne_zero _) b o
attribute [push_cast] fa18_0
instance bt18 : BT Try.prog 18 [[.pointer none]] := BT.ofStruct Try.underlying18 Try.zeroValue18 rfl (fun w => by kernel_rfl)
instance sz19 : Sz Try.prog 19 1 true := ⟨Try.sizeOf19, Try.isAgg19⟩
instance by19 : By Try.prog 19 8 := ⟨_, Try.typeInfo19, rfl⟩
instance zv19 : ZV Try.prog 19 (.agg #[.pointer none]) := ⟨Try.zeroValue19⟩
theorem fa19_0 {K : Value → World → Prop} {w : World} (b o : Nat) : opS Try.prog (S.fa 19 (pt b o) 0) K w = K (pt b (o + 0)) w := opS_fa (T := 19) (hT := ⟨Try.underlying19⟩) (fd := ⟨_, 17, 0, _, _, _, _⟩) (n := 1) rfl (hs := sz17) (Nat.succ_ne_zero _) b o
attribute [push_cast] fa19_0
instance bt19 : BT Try.prog 19 [[.pointer none]] := BT.ofStruct Try.underlying19 Try.zeroValue19 rfl (fun w => by kernel_rfl)
instance sz21 : Sz Try.prog 21 1 false := ⟨Try.sizeOf21, Try.isAgg21⟩
instance by21 : By Try.prog 21 4 := ⟨_, Try.typeInfo21, rfl⟩
instance zv21 : ZV Try.prog 21 (.int .i32 0) := ⟨Try.zeroValue21⟩
instance sz22 : Sz Try.prog 22 1 false := ⟨Try.sizeOf22, Try.isAgg22⟩
instance by22 : By Try.prog 22 24 := ⟨_, Try.typeInfo22, rfl⟩
instance zv22 : ZV Try.prog 22 (.slice none 0 0) := ⟨Try.zeroValue22⟩
instance sl22 : SlT Try.prog 22 38 := ⟨Try.underlying22⟩
instance sz24 : Sz Try.prog 24 1 false := ⟨Try.sizeOf24, Try.isAgg24⟩
instance by24 : By Try.prog 24 8 := ⟨_, Try.typeInfo24, rfl⟩
instance zv24 : ZV Try.prog 24 (.pointer none) := ⟨Try.zeroValue24⟩
instance sz25 : Sz Try.prog 25 1 false := ⟨Try.sizeOf25, Try.isAgg25⟩
instance by25 : By Try.prog 25 8 := ⟨_, Try.typeInfo25, rfl⟩
instance zv25 : ZV Try.prog 25 (.int .i64 0) := ⟨Try.zeroValue25⟩
instance sz28 : Sz Try.prog 28 1 false := ⟨Try.sizeOf28, Try.isAgg28⟩
instance by28 : By Try.prog 28 8 := ⟨_, Try.typeInfo28, rfl⟩
instance zv28 : ZV Try.prog 28 (.pointer none) := ⟨Try.zeroValue28⟩
instance sz33 : Sz Try.prog 33 6 true := ⟨Try.sizeOf33, Try.isAgg33⟩
instance by33 : By Try.prog 33 6 := ⟨_, Try.typeInfo33, rfl⟩
instance zv33 : ZV Try.prog 33 (.agg #[.int .u8 0, .int .u8 0, .int .u8 0, .int .u8 0, .int .u8 0, .int .u8 0]) := ⟨Try.zeroValue33⟩
instance eq33 : EqT Try.prog 33 := ⟨by kernel_rfl, Try.eqGuardType33, .inr ⟨_, _, Try.underlying33⟩⟩
instance ar33 : ArT Try.prog 33 6 5 := ⟨Try.underlying33⟩
instance bt33 : BT Try.prog 33 (List.replicate 6 [.int .u8 0]) := BT.ofArray Try.underlying33 Try.zeroValue33 rfl sz5 rfl
instance sz34 : Sz Try.prog 34 6 true := ⟨Try.sizeOf34, Try.isAgg34⟩
instance by34 : By Try.prog 34 6 := ⟨_, Try.typeInfo34, rfl⟩
instance zv34 : ZV Try.prog 34 (.agg #[.int .u8 0, .int .u8 0, .int .u8 0, .int .u8 0, .int .u8 0, .int .u8 0]) := ⟨Try.zeroValue34⟩
instance eq34 : EqT Try.prog 34 := ⟨by kernel_rfl, Try.eqGuardType34, .inr ⟨_, _, Try.underlying34⟩⟩
instance ar34 : ArT Try.prog 34 6 5 := ⟨Try.underlying34⟩
instance bt34 : BT Try.prog 34 (List.replicate 6 [.int .u8 0]) := BT.ofArray Try.underlying34 Try.zeroValue34 rfl sz5 rfl
instance sz35 : Sz Try.prog 35 10 true := ⟨Try.sizeOf35, Try.isAgg35⟩
instance by35 : By Try.prog 35 40 := ⟨_, Try.typeInfo35, rfl⟩
instance zv35 : ZV Try.prog 35 (.agg #[.int .i64 0, .int .u8 0, .int .u8 0, .int .u8 0, .int .u8 0, .int .u8 0, .int .u8 0, .int .i64 0, .int .i64 0, .bool false]) := ⟨Try.zeroValue35⟩
instance eq35 : EqT Try.prog 35 := ⟨by kernel_rfl, Try.eqGuardType35, .inl ⟨_, Try.underlying35⟩⟩
theorem fa35_0 {K : Value → World → Prop} {w : World} (b o : Nat) : opS Try.prog (S.fa 35 (pt b o) 0) K w = K (pt b (o + 0)) w := opS_fa (T := 35) (hT := ⟨Try.underlying35⟩) (fd := ⟨_, 3, 0, _, _, _, _⟩) (n := 1) rfl (hs := sz3) (Nat.succ_ne_zero _) b o
attribute [push_cast] fa35_0
theorem fa35_1 {K : Value → World → Prop} {w : World} (b o : Nat) : opS Try.prog (S.fa 35 (pt b o) 1) K w = K (pt b (o + 1)) w := opS_fa (T := 35) (hT := ⟨Try.underlying35⟩) (fd := ⟨_, 34, 1, _, _, _, _⟩) (n := 6) rfl (hs := sz34) (Nat.succ_ne_zero _) b o
attribute [push_cast] fa35_1
theorem fa35_2 {K : Value → World → Prop} {w : World} (b o : Nat) : opS Try.prog (S.fa 35 (pt b o) 2) K w = K (pt b (o + 7)) w := opS_fa (T := 35) (hT := ⟨Try.underlying35⟩) (fd := ⟨_, 3, 7, _, _, _, _⟩) (n := 1) rfl (hs := sz3) (Nat.succ_ne_zero _) b o
attribute [push_cast] fa35_2
theorem fa35_3 {K : Value → World → Prop} {w : World} (b o : Nat) : opS Try.prog (S.fa 35 (pt b o) 3) K w = K (pt b (o + 8)) w := opS_fa (T := 35) (hT := ⟨Try.underlying35⟩) (fd := ⟨_, 3, 8, _, _, _, _⟩) (n := 1) rfl (hs := sz3) (Nat.succ_ne_zero _) b o
attribute [push_cast] fa35_3
theorem fa35_4 {K : Value → World → Prop} {w : World} (b o : Nat) : opS Try.prog (S.fa 35 (pt b o) 4) K w = K (pt b (o + 9)) w := opS_fa (T := 35) (hT := ⟨Try.underlying35⟩) (fd := ⟨_, 4, 9, _, _, _, _⟩) (n := 1) rfl (hs := sz4) (Nat.succ_ne_zero _) b o
attribute [push_cast] fa35_4
instance bt35 : BT Try.prog 35 [[.int .i64 0], [.int .u8 0, .int .u8 0, .int .u8 0, .int .u8 0, .int .u8 0, .int .u8 0], [.int .i64 0], [.int .i64 0], [.bool false]] := BT.ofStruct Try.underlying35 Try.zeroValue35 rfl (fun w => by kernel_rfl)
instance sz36 : Sz Try.prog 36 10 true := ⟨Try.sizeOf36, Try.isAgg36⟩
instance by36 : By Try.prog 36 40 := ⟨_, Try.typeInfo36, rfl⟩
instance zv36 : ZV Try.prog 36 (.agg #[.int .i64 0, .int .u8 0, .int .u8 0, .int .u8 0, .int .u8 0, .int .u8 0, .int .u8 0, .int .i64 0, .int .i64 0, .bool false]) := ⟨Try.zeroValue36⟩
instance eq36 : EqT Try.prog 36 := ⟨by kernel_rfl, Try.eqGuardType36, .inl ⟨_, Try.underlying36⟩⟩
theorem fa36_0 {K : Value → World → Prop} {w : World} (b o : Nat) : opS Try.prog (S.fa 36 (pt b o) 0) K w = K (pt b (o + 0)) w := opS_fa (T := 36) (hT := ⟨Try.underlying36⟩) (fd := ⟨_, 3, 0, _, _, _, _⟩) (n := 1) rfl (hs := sz3) (Nat.succ_ne_zero _) b o
attribute [push_cast] fa36_0
theorem fa36_1 {K : Value → World → Prop} {w : World} (b o : Nat) : opS Try.prog (S.fa 36 (pt b o) 1) K w = K (pt b (o + 1)) w := opS_fa (T := 36) (hT := ⟨Try.underlying36⟩) (fd := ⟨_, 34, 1, _, _, _, _⟩) (n := 6) rfl (hs := sz34) (Nat.succ_ne_zero _) b o
attribute [push_cast] fa36_1
theorem fa36_2 {K : Value → World → Prop} {w : World} (b o : Nat) : opS Try.prog (S.fa 36 (pt b o) 2) K w = K (pt b (o + 7)) w := opS_fa (T := 36) (hT := ⟨Try.underlying36⟩) (fd := ⟨_, 3, 7, _, _, _, _⟩) (n := 1) rfl (hs := sz3) (Nat.succ_ne_zero _) b o
attribute [push_cast] fa36_2
theorem fa36_3 {K : Value → World → Prop} {w : World} (b o : Nat) : opS Try.prog (S.fa 36 (pt b o) 3) K w = K (pt b (o + 8)) w := opS_fa (T := 36) (hT := ⟨Try.underlying36⟩) (fd := ⟨_, 3, 8, _, _, _, _⟩) (n := 1) rfl (hs := sz3) (Nat.succ_ne_zero _) b o
attribute [push_cast] fa36_3
theorem fa36_4 {K : Value → World → Prop} {w : World} (b o : Nat) : opS Try.prog (S.fa 36 (pt b o) 4) K w = K (pt b (o + 9)) w := opS_fa (T := 36) (hT := ⟨Try.underlying36⟩) (fd := ⟨_, 4, 9, _, _, _, _⟩) (n := 1) rfl (hs := sz4) (Nat.succ_ne_zero _) b o
attribute [push_cast] fa36_4
instance bt36 : BT Try.prog 36 [[.int .i64 0], [.int .u8 0, .int .u8 0, .int .u8 0, .int .u8 0, .int .u8 0, .int .u8 0], [.int .i64 0], [.int .i64 0], [.bool false]] := BT.ofStruct Try.underlying36 Try.zeroValue36 rfl (fun w => by kernel_rfl)
instance sz37 : Sz Try.prog 37 11 true := ⟨Try.sizeOf37, Try.isAgg37⟩
instance by37 : By Try.prog 37 48 := ⟨_, Try.typeInfo37, rfl⟩
instance zv37 : ZV Try.prog 37 (.agg #[.int .i64 0, .int .u8 0, .int .u8 0, .int .u8 0, .int .u8 0, .int .u8 0, .int .u8 0, .int .i64 0, .int .i64 0, .bool false, .bool false]) := ⟨Try.zeroValue37⟩
instance eq37 : EqT Try.prog 37 := ⟨by kernel_rfl, Try.eqGuardType37, .inl ⟨_, Try.underlying37⟩⟩
theorem fa37_0 {K : Value → World → Prop} {w : World} (b o : Nat) : opS Try.prog (S.fa 37 (pt b o) 0) K w = K (pt b (o + 0)) w := opS_fa (T := 37) (hT := ⟨Try.underlying37⟩) (fd := ⟨_, 36, 0, _, _, _, _⟩) (n := 10) rfl (hs := sz36) (Nat.succ_ne_zero _) b o
attribute [push_cast] fa37_0
theorem fa37_1 {K : Value → World → Prop} {w : World} (b o : Nat) : opS Try.prog (S.fa 37 (pt b o) 1) K w = K (pt b (o + 10)) w := opS_fa (T := 37) (hT := ⟨Try.underlying37⟩) (fd := ⟨_, 4, 10, _, _, _, _⟩) (n := 1) rfl (hs := sz4) (Nat.succ_ne_zero _) b o
attribute [push_cast] fa37_1
instance bt37 : BT Try.prog 37 [[.int .i64 0, .int .u8 0, .int .u8 0, .int .u8 0, .int .u8 0, .int .u8 0, .int .u8 0, .int .i64 0, .int .i64 0, .bool false], [.bool false]] := BT.ofStruct Try.underlying37 Try.zeroValue37 rfl (fun w => by kernel_rfl)
instance sz38 : Sz Try.prog 38 11 true := ⟨Try.sizeOf38, Try.isAgg38⟩
instance by38 : By Try.prog 38 48 := ⟨_, Try.typeInfo38, rfl⟩
instance zv38 : ZV Try.prog 38 (.agg #[.int .i64 0, .int .u8 0, .int .u8 0, .int .u8 0, .int .u8 0, .int .u8 0, .int .u8 0, .int .i64 0, .int .i64 0, .bool false, .bool false]) := ⟨Try.zeroValue38⟩
instance eq38 : EqT Try.prog 38 := ⟨by kernel_rfl, Try.eqGuardType38, .inl ⟨_, Try.underlying38⟩⟩
theorem fa38_0 {K : Value → World → Prop} {w : World} (b o : Nat) : opS Try.prog (S.fa 38 (pt b o) 0) K w = K (pt b (o + 0)) w := opS_fa (T := 38) (hT := ⟨Try.underlying38⟩) (fd := ⟨_, 36, 0, _, _, _, _⟩) (n := 10) rfl (hs := sz36) (Nat.succ_ne_zero _) b o
attribute [push_cast] fa38_0
theorem fa38_1 {K : Value → World → Prop} {w : World} (b o : Nat) : opS Try.prog (S.fa 38 (pt b o) 1) K w = K (pt b (o + 10)) w := opS_fa (T := 38) (hT := ⟨Try.underlying38⟩) (fd := ⟨_, 4, 10, _, _, _, _⟩) (n := 1) rfl (hs := sz4) (Nat.succ_ne_zero _) b o
attribute [push_cast] fa38_1
instance bt38 : BT Try.prog 38 [[.int .i64 0, .int .u8 0, .int .u8 0, .int .u8 0, .int .u8 0, .int .u8 0, .int .u8 0, .int .i64 0, .int .i64 0, .bool false], [.bool false]] := BT.ofStruct Try.underlying38 Try.zeroValue38 rfl (fun w => by kernel_rfl)
instance sz40 : Sz Try.prog 40 1 false := ⟨Try.sizeOf40, Try.isAgg40⟩
instance by40 : By Try.prog 40 24 := ⟨_, Try.typeInfo40, rfl⟩
instance zv40 : ZV Try.prog 40 (.slice none 0 0) := ⟨Try.zeroValue40⟩
instance sl40 : SlT Try.prog 40 48 := ⟨Try.underlying40⟩
instance sz41 : Sz Try.prog 41 3 true := ⟨Try.sizeOf41, Try.isAgg41⟩
instance by41 : By Try.prog 41 40 := ⟨_, Try.typeInfo41, rfl⟩
instance zv41 : ZV Try.prog 41 (.agg #[.int .i64 0, .int .i64 0, .slice none 0 0]) := ⟨Try.zeroValue41⟩
theorem fa41_0 {K : Value → World → Prop} {w : World} (b o : Nat) : opS Try.prog (S.fa 41 (pt b o) 0) K w = K (pt b (o + 0)) w := opS_fa (T := 41) (hT := ⟨Try.underlying41⟩) (fd := ⟨_, 3, 0, _, _, _, _⟩) (n := 1) rfl (hs := sz3) (Nat.succ_ne_zero _) b o
attribute [push_cast] fa41_0
theorem fa41_1 {K : Value → World → Prop} {w : World} (b o : Nat) : opS Try.prog (S.fa 41 (pt b o) 1) K w = K (pt b (o + 1)) w := opS_fa (T := 41) (hT := ⟨Try.underlying41⟩) (fd := ⟨_, 3, 1, _, _, _, _⟩) (n := 1) rfl (hs := sz3) (Nat.succ_ne_zero _) b o
attribute [push_cast] fa41_1
theorem fa41_2 {K : Value → World → Prop} {w : World} (b o : Nat) : opS Try.prog (S.fa 41 (pt b o) 2) K w = K (pt b (o + 2)) w := opS_fa (T := 41) (hT := ⟨Try.underlying41⟩) (fd := ⟨_, 40, 2, _, _, _, _⟩) (n := 1) rfl (hs := sz40) (Nat.succ_ne_zero _) b o
attribute [push_cast] fa41_2
instance bt41 : BT Try.prog 41 [[.int .i64 0], [.int .i64 0], [.slice none 0 0]] := BT.ofStruct Try.underlying41 Try.zeroValue41 rfl (fun w => by kernel_rfl)
instance sz42 : Sz Try.prog 42 3 true := ⟨Try.sizeOf42, Try.isAgg42⟩
instance by42 : By Try.prog 42 40 := ⟨_, Try.typeInfo42, rfl⟩
instance zv42 : ZV Try.prog 42 (.agg #[.int .i64 0, .int .i64 0, .slice none 0 0]) := ⟨Try.zeroValue42⟩
theorem fa42_0 {K : Value → World → Prop} {w : World} (b o : Nat) : opS Try.prog (S.fa 42 (pt b o) 0) K w = K (pt b (o + 0)) w := opS_fa (T := 42) (hT := ⟨Try.underlying42⟩) (fd := ⟨_, 3, 0, _, _, _, _⟩) (n := 1) rfl (hs := sz3) (Nat.succ_ne_zero _) b o
attribute [push_cast] fa42_0
theorem fa42_1 {K : Value → World → Prop} {w : World} (b o : Nat) : opS Try.prog (S.fa 42 (pt b o) 1) K w = K (pt b (o + 1)) w := opS_fa (T := 42) (hT := ⟨Try.underlying42⟩) (fd := ⟨_, 3, 1, _, _, _, _⟩) (n := 1) rfl (hs := sz3) (Nat.succ_ne_zero _) b o
attribute [push_cast] fa42_1
theorem fa42_2 {K : Value → World → Prop} {w : World} (b o : Nat) : opS Try.prog (S.fa 42 (pt b o) 2) K w = K (pt b (o + 2)) w := opS_fa (T := 42) (hT := ⟨Try.underlying42⟩) (fd := ⟨_, 40, 2, _, _, _, _⟩) (n := 1) rfl (hs := sz40) (Nat.succ_ne_zero _) b o
attribute [push_cast] fa42_2
instance bt42 : BT Try.prog 42 [[.int .i64 0], [.int .i64 0], [.slice none 0 0]] := BT.ofStruct Try.underlying42 Try.zeroValue42 rfl (fun w => by kernel_rfl)
instance sz47 : Sz Try.prog 47 12 true := ⟨Try.sizeOf47, Try.isAgg47⟩
instance by47 : By Try.prog 47 56 := ⟨_, Try.typeInfo47, rfl⟩
instance zv47 : ZV Try.prog 47 (.agg #[.int .i64 0, .int .i64 0, .int .u8 0, .int .u8 0, .int .u8 0, .int .u8 0, .int .u8 0, .int .u8 0, .int .i64 0, .int .i64 0, .bool false, .bool false]) := ⟨Try.zeroValue47⟩
instance eq47 : EqT Try.prog 47 := ⟨by kernel_rfl, Try.eqGuardType47, .inl ⟨_, Try.underlying47⟩⟩
theorem fa47_0 {K : Value → World → Prop} {w : World} (b o : Nat) : opS Try.prog (S.fa 47 (pt b o) 0) K w = K (pt b (o + 0)) w := opS_fa (T := 47) (hT := ⟨Try.underlying47⟩) (fd := ⟨_, 3, 0, _, _, _, _⟩) (n := 1) rfl (hs := sz3) (Nat.succ_ne_zero _) b o
attribute [push_cast] fa47_0
theorem fa47_1 {K : Value → World → Prop} {w : World} (b o : Nat) : opS Try.prog (S.fa 47 (pt b o) 1) K w = K (pt b (o + 1)) w := opS_fa (T := 47) (hT := ⟨Try.underlying47⟩) (fd := ⟨_, 36, 1, _, _, _, _⟩) (n := 10) rfl (hs := sz36) (Nat.succ_ne_zero _) b o
attribute [push_cast] fa47_1
theorem fa47_2 {K : Value → World → Prop} {w : World} (b o : Nat) : opS Try.prog (S.fa 47 (pt b o) 2) K w = K (pt b (o + 11)) w := opS_fa (T := 47) (hT := ⟨Try.underlying47⟩) (fd := ⟨_, 4, 11, _, _, _, _⟩) (n := 1) rfl (hs := sz4) (Nat.succ_ne_zero _) b o
attribute [push_cast] fa47_2
instance bt47 : BT Try.prog 47 [[.int .i64 0], [.int .i64 0, .int .u8 0, .int .u8 0, .int .u8 0, .int .u8 0, .int .u8 0, .int .u8 0, .int .i64 0, .int .i64 0, .bool false], [.bool false]] := BT.ofStruct Try.underlying47 Try.zeroValue47 rfl (fun w => by kernel_rfl)
instance sz48 : Sz Try.prog 48 12 true := ⟨Try.sizeOf48, Try.isAgg48⟩
instance by48 : By Try.prog 48 56 := ⟨_, Try.typeInfo48, rfl⟩
instance zv48 : ZV Try.prog 48 (.agg #[.int .i64 0, .int .i64 0, .int .u8 0, .int .u8 0, .int .u8 0, .int .u8 0, .int .u8 0, .int .u8 0, .int .i64 0, .int .i64 0, .bool false, .bool false]) := ⟨Try.zeroValue48⟩
instance eq48 : EqT Try.prog 48 := ⟨by kernel_rfl, Try.eqGuardType48, .inl ⟨_, Try.underlying48⟩⟩
theorem fa48_0 {K : Value → World → Prop} {w : World} (b o : Nat) : opS Try.prog (S.fa 48 (pt b o) 0) K w = K (pt b (o + 0)) w := opS_fa (T := 48) (hT := ⟨Try.underlying48⟩) (fd := ⟨_, 3, 0, _, _, _, _⟩) (n := 1) rfl (hs := sz3) (Nat.succ_ne_zero _) b o
attribute [push_cast] fa48_0
theorem fa48_1 {K : Value → World → Prop} {w : World} (b o : Nat) : opS Try.prog (S.fa 48 (pt b o) 1) K w = K (pt b (o + 1)) w := opS_fa (T := 48) (hT := ⟨Try.underlying48⟩) (fd := ⟨_, 36, 1, _, _, _, _⟩) (n := 10) rfl (hs := sz36) (Nat.succ_ne_zero _) b o
attribute [push_cast] fa48_1
theorem fa48_2 {K : Value → World → Prop} {w : World} (b o : Nat) : opS Try.prog (S.fa 48 (pt b o) 2) K w = K (pt b (o + 11)) w := opS_fa (T := 48) (hT := ⟨Try.underlying48⟩) (fd := ⟨_, 4, 11, _, _, _, _⟩) (n := 1) rfl (hs := sz4) (Nat.succ_ne_zero _) b o
attribute [push_cast] fa48_2
instance bt48 : BT Try.prog 48 [[.int .i64 0], [.int .i64 0, .int .u8 0, .int .u8 0, .int .u8 0, .int .u8 0, .int .u8 0, .int .u8 0, .int .i64 0, .int .i64 0, .bool false], [.bool false]] := BT.ofStruct Try.underlying48 Try.zeroValue48 rfl (fun w => by kernel_rfl)
instance sz49 : Sz Try.prog 49 1 false := ⟨Try.sizeOf49, Try.isAgg49⟩
instance by49 : By Try.prog 49 24 := ⟨_, Try.typeInfo49, rfl⟩
instance zv49 : ZV Try.prog 49 (.slice none 0 0) := ⟨Try.zeroValue49⟩
instance sl49 : SlT Try.prog 49 36 := ⟨Try.underlying49⟩
instance sz54 : Sz Try.prog 54 2 true := ⟨Try.sizeOf54, Try.isAgg54⟩
instance by54 : By Try.prog 54 16 := ⟨_, Try.typeInfo54, rfl⟩
instance zv54 : ZV Try.prog 54 (.agg #[.int .i64 0, .int .i64 0]) := ⟨Try.zeroValue54⟩
instance eq54 : EqT Try.prog 54 := ⟨by kernel_rfl, Try.eqGuardType54, .inr ⟨_, _, Try.underlying54⟩⟩
instance ar54 : ArT Try.prog 54 2 3 := ⟨Try.underlying54⟩
instance bt54 : BT Try.prog 54 (List.replicate 2 [.int .i64 0]) := BT.ofArray Try.underlying54 Try.zeroValue54 rfl sz3 rfl
instance sz60 : Sz Try.prog 60 2 true := ⟨Try.sizeOf60, Try.isAgg60⟩
instance by60 : By Try.prog 60 32 := ⟨_, Try.typeInfo60, rfl⟩
instance zv60 : ZV Try.prog 60 (.agg #[.slice none 0 0, .int .i64 0]) := ⟨Try.zeroValue60⟩
theorem fa60_0 {K : Value → World → Prop} {w : World} (b o : Nat) : opS Try.prog (S.fa 60 (pt b o) 0) K w = K (pt b (o + 0)) w := opS_fa (T := 60) (hT := ⟨Try.underlying60⟩) (fd := ⟨_, 40, 0, _, _, _, _⟩) (n := 1) rfl (hs := sz40) (Nat.succ_ne_zero _) b o
attribute [push_cast] fa60_0
theorem fa60_1 {K : Value → World → Prop} {w : World} (b o : Nat) : opS Try.prog (S.fa 60 (pt b o) 1) K w = K (pt b (o + 1)) w := opS_fa (T := 60) (hT := ⟨Try.underlying60⟩) (fd := ⟨_, 3, 1, _, _, _, _⟩) (n := 1) rfl (hs := sz3) (Nat.succ_ne_zero _) b o
attribute [push_cast] fa60_1
instance bt60 : BT Try.prog 60 [[.slice none 0 0], [.int .i64 0]] := BT.ofStruct Try.underlying60 Try.zeroValue60 rfl (fun w => by kernel_rfl)
instance sz61 : Sz Try.prog 61 2 true := ⟨Try.sizeOf61, Try.isAgg61⟩
instance by61 : By Try.prog 61 32 := ⟨_, Try.typeInfo61, rfl⟩
instance zv61 : ZV Try.prog 61 (.agg #[.slice none 0 0, .int .i64 0]) := ⟨Try.zeroValue61⟩
theorem fa61_0 {K : Value → World → Prop} {w : World} (b o : Nat) : opS Try.prog (S.fa 61 (pt b o) 0) K w = K (pt b (o + 0)) w := opS_fa (T := 61) (hT := ⟨Try.underlying61⟩) (fd := ⟨_, 40, 0, _, _, _, _⟩) (n := 1) rfl (hs := sz40) (Nat.succ_ne_zero _) b o
attribute [push_cast] fa61_0
theorem fa61_1 {K : Value → World → Prop} {w : World} (b o : Nat) : opS Try.prog (S.fa 61 (pt b o) 1) K w = K (pt b (o + 1)) w := opS_fa (T := 61) (hT := ⟨Try.underlying61⟩) (fd := ⟨_, 3, 1, _, _, _, _⟩) (n := 1) rfl (hs := sz3) (Nat.succ_ne_zero _) b o
attribute [push_cast] fa61_1
instance bt61 : BT Try.prog 61 [[.slice none 0 0], [.int .i64 0]] := BT.ofStruct Try.underlying61 Try.zeroValue61 rfl (fun w => by kernel_rfl)
instance sz65 : Sz Try.prog 65 1 false := ⟨Try.sizeOf65, Try.isAgg65⟩
instance by65 : By Try.prog 65 8 := ⟨_, Try.typeInfo65, rfl⟩
instance zv65 : ZV Try.prog 65 (.map none) := ⟨Try.zeroValue65⟩
instance mp65 : MpT Try.prog 65 67 36 := ⟨Try.underlying65⟩
instance sz66 : Sz Try.prog 66 7 true := ⟨Try.sizeOf66, Try.isAgg66⟩
instance by66 : By Try.prog 66 16 := ⟨_, Try.typeInfo66, rfl⟩
instance zv66 : ZV Try.prog 66 (.agg #[.int .i64 0, .int .u8 0, .int .u8 0, .int .u8 0, .int .u8 0, .int .u8 0, .int .u8 0]) := ⟨Try.zeroValue66⟩
instance eq66 : EqT Try.prog 66 := ⟨by kernel_rfl, Try.eqGuardType66, .inl ⟨_, Try.underlying66⟩⟩
theorem fa66_0 {K : Value → World → Prop} {w : World} (b o : Nat) : opS Try.prog (S.fa 66 (pt b o) 0) K w = K (pt b (o + 0)) w := opS_fa (T := 66) (hT := ⟨Try.underlying66⟩) (fd := ⟨_, 3, 0, _, _, _, _⟩) (n := 1) rfl (hs := sz3) (Nat.succ_ne_zero _) b o
attribute [push_cast] fa66_0
theorem fa66_1 {K : Value → World → Prop} {w : World} (b o : Nat) : opS Try.prog (S.fa 66 (pt b o) 1) K w = K (pt b (o + 1)) w := opS_fa (T := 66) (hT := ⟨Try.underlying66⟩) (fd := ⟨_, 34, 1, _, _, _, _⟩) (n := 6) rfl (hs := sz34) (Nat.succ_ne_zero _) b o
attribute [push_cast] fa66_1
instance bt66 : BT Try.prog 66 [[.int .i64 0], [.int .u8 0, .int .u8 0, .int .u8 0, .int .u8 0, .int .u8 0, .int .u8 0]] := BT.ofStruct Try.underlying66 Try.zeroValue66 rfl (fun w => by kernel_rfl)
instance sz67 : Sz Try.prog 67 7 true := ⟨Try.sizeOf67, Try.isAgg67⟩
instance by67 : By Try.prog 67 16 := ⟨_, Try.typeInfo67, rfl⟩
instance zv67 : ZV Try.prog 67 (.agg #[.int .i64 0, .int .u8 0, .int .u8 0, .int .u8 0, .int .u8 0, .int .u8 0, .int .u8 0]) := ⟨Try.zeroValue67⟩
instance eq67 : EqT Try.prog 67 := ⟨by kernel_rfl, Try.eqGuardType67, .inl ⟨_, Try.underlying67⟩⟩
theorem fa67_0 {K : Value → World → Prop} {w : World} (b o : Nat) : opS Try.prog (S.fa 67 (pt b o) 0) K w = K (pt b (o + 0)) w := opS_fa (T := 67) (hT := ⟨Try.underlying67⟩) (fd := ⟨_, 3, 0, _, _, _, _⟩) (n := 1) rfl (hs := sz3) (Nat.succ_ne_zero _) b o
attribute [push_cast] fa67_0
theorem fa67_1 {K : Value → World → Prop} {w : World} (b o : Nat) : opS Try.prog (S.fa 67 (pt b o) 1) K w = K (pt b (o + 1)) w := opS_fa (T := 67) (hT := ⟨Try.underlying67⟩) (fd := ⟨_, 34, 1, _, _, _, _⟩) (n := 6) rfl (hs := sz34) (Nat.succ_ne_zero _) b o
attribute [push_cast] fa67_1
instance bt67 : BT Try.prog 67 [[.int .i64 0], [.int .u8 0, .int .u8 0, .int .u8 0, .int .u8 0, .int .u8 0, .int .u8 0]] := BT.ofStruct Try.underlying67 Try.zeroValue67 rfl (fun w => by kernel_rfl)
instance sz81 : Sz Try.prog 81 1 false := ⟨Try.sizeOf81, Try.isAgg81⟩
instance by81 : By Try.prog 81 24 := ⟨_, Try.typeInfo81, rfl⟩
instance zv81 : ZV Try.prog 81 (.slice none 0 0) := ⟨Try.zeroValue81⟩
instance sl81 : SlT Try.prog 81 3 := ⟨Try.underlying81⟩
instance sz84 : Sz Try.prog 84 1 false := ⟨Try.sizeOf84, Try.isAgg84⟩
instance by84 : By Try.prog 84 24 := ⟨_, Try.typeInfo84, rfl⟩
instance zv84 : ZV Try.prog 84 (.slice none 0 0) := ⟨Try.zeroValue84⟩
instance sl84 : SlT Try.prog 84 5 := ⟨Try.underlying84⟩
instance sz88 : Sz Try.prog 88 1 false := ⟨Try.sizeOf88, Try.isAgg88⟩
instance by88 : By Try.prog 88 8 := ⟨_, Try.typeInfo88, rfl⟩
instance zv88 : ZV Try.prog 88 (.int .u64 0) := ⟨Try.zeroValue88⟩
instance sz89 : Sz Try.prog 89 1 false := ⟨Try.sizeOf89, Try.isAgg89⟩
instance by89 : By Try.prog 89 8 := ⟨_, Try.typeInfo89, rfl⟩
instance zv89 : ZV Try.prog 89 (.int .u64 0) := ⟨Try.zeroValue89⟩
instance sz92 : Sz Try.prog 92 1 false := ⟨Try.sizeOf92, Try.isAgg92⟩
instance by92 : By Try.prog 92 8 := ⟨_, Try.typeInfo92, rfl⟩
instance zv92 : ZV Try.prog 92 (.int .i64 0) := ⟨Try.zeroValue92⟩
instance sz100 : Sz Try.prog 100 1 false := ⟨Try.sizeOf100, Try.isAgg100⟩
instance by100 : By Try.prog 100 4 := ⟨_, Try.typeInfo100, rfl⟩
instance zv100 : ZV Try.prog 100 (.int .u32 0) := ⟨Try.zeroValue100⟩
instance sz102 : Sz Try.prog 102 1 false := ⟨Try.sizeOf102, Try.isAgg102⟩
instance by102 : By Try.prog 102 8 := ⟨_, Try.typeInfo102, rfl⟩
instance zv102 : ZV Try.prog 102 (.int .u64 0) := ⟨Try.zeroValue102⟩
instance sz106 : Sz Try.prog 106 1 false := ⟨Try.sizeOf106, Try.isAgg106⟩
instance by106 : By Try.prog 106 8 := ⟨_, Try.typeInfo106, rfl⟩
instance zv106 : ZV Try.prog 106 (.pointer none) := ⟨Try.zeroValue106⟩
instance sz108 : Sz Try.prog 108 1 false := ⟨Try.sizeOf108, Try.isAgg108⟩
instance by108 : By Try.prog 108 8 := ⟨_, Try.typeInfo108, rfl⟩
instance zv108 : ZV Try.prog 108 (.pointer none) := ⟨Try.zeroValue108⟩
instance sz112 : Sz Try.prog 112 4 true := ⟨Try.sizeOf112, Try.isAgg112⟩
instance by112 : By Try.prog 112 40 := ⟨_, Try.typeInfo112, rfl⟩
instance zv112 : ZV Try.prog 112 (.agg #[.pointer none, .pointer none, .pointer none, .string ⟨#[]⟩]) := ⟨Try.zeroValue112⟩
theorem fa112_0 {K : Value → World → Prop} {w : World} (b o : Nat) : opS Try.prog (S.fa 112 (pt b o) 0) K w = K (pt b (o + 0)) w := opS_fa (T := 112) (hT := ⟨Try.underlying112⟩) (fd := ⟨_, 17, 0, _, _, _, _⟩) (n := 1) rfl (hs := sz17) (Nat.succ_ne_zero _) b o
attribute [push_cast] fa112_0
theorem fa112_1 {K : Value → World → Prop} {w : World} (b o : Nat) : opS Try.prog (S.fa 112 (pt b o) 1) K w = K (pt b (o + 1)) w := opS_fa (T := 112) (hT := ⟨Try.underlying112⟩) (fd := ⟨_, 17, 1, _, _, _, _⟩) (n := 1) rfl (hs := sz17) (Nat.succ_ne_zero _) b o
attribute [push_cast] fa112_1
theorem fa112_2 {K : Value → World → Prop} {w : World} (b o : Nat) : opS Try.prog (S.fa 112 (pt b o) 2) K w = K (pt b (o + 2)) w := opS_fa (T := 112) (hT := ⟨Try.underlying112⟩) (fd := ⟨_, 17, 2, _, _, _, _⟩) (n := 1) rfl (hs := sz17) (Nat.succ_ne_zero _) b o
attribute [push_cast] fa112_2
theorem fa112_3 {K : Value → World → Prop} {w : World} (b o : Nat) : opS Try.prog (S.fa 112 (pt b o) 3) K w = K (pt b (o + 3)) w := opS_fa (T := 112) (hT := ⟨Try.underlying112⟩) (fd := ⟨_, 9, 3, _, _, _, _⟩) (n := 1) rfl (hs := sz9) (Nat.succ_ne_zero _) b o
attribute [push_cast] fa112_3
instance bt112 : BT Try.prog 112 [[.pointer none], [.pointer none], [.pointer none], [.string ⟨#[]⟩]] := BT.ofStruct Try.underlying112 Try.zeroValue112 rfl (fun w => by kernel_rfl)
instance sz113 : Sz Try.prog 113 4 true := ⟨Try.sizeOf113, Try.isAgg113⟩
instance by113 : By Try.prog 113 40 := ⟨_, Try.typeInfo113, rfl⟩
instance zv113 : ZV Try.prog 113 (.agg #[.pointer none, .pointer none, .pointer none, .string ⟨#[]⟩]) := ⟨Try.zeroValue113⟩
theorem fa113_0 {K : Value → World → Prop} {w : World} (b o : Nat) : opS Try.prog (S.fa 113 (pt b o) 0) K w = K (pt b (o + 0)) w := opS_fa (T := 113) (hT := ⟨Try.underlying113⟩) (fd := ⟨_, 17, 0, _, _, _, _⟩) (n := 1) rfl (hs := sz17) (Nat.succ_ne_zero _) b o
attribute [push_cast] fa113_0
theorem fa113_1 {K : Value → World → Prop} {w : World} (b o : Nat) : opS Try.prog (S.fa 113 (pt b o) 1) K w = K (pt b (o + 1)) w := opS_fa (T := 113) (hT := ⟨Try.underlying113⟩) (fd := ⟨_, 17, 1, _, _, _, _⟩) (n := 1) rfl (hs := sz17) (Nat.succ_ne_zero _) b o
attribute [push_cast] fa113_1
theorem fa113_2 {K : Value → World → Prop} {w : World} (b o : Nat) : opS Try.prog (S.fa 113 (pt b o) 2) K w = K (pt b (o + 2)) w := opS_fa (T := 113) (hT := ⟨Try.underlying113⟩) (fd := ⟨_, 17, 2, _, _, _, _⟩) (n := 1) rfl (hs := sz17) (Nat.succ_ne_zero _) b o
attribute [push_cast] fa113_2
theorem fa113_3 {K : Value → World → Prop} {w : World} (b o : Nat) : opS Try.prog (S.fa 113 (pt b o) 3) K w = K (pt b (o + 3)) w := opS_fa (T := 113) (hT := ⟨Try.underlying113⟩) (fd := ⟨_, 9, 3, _, _, _, _⟩) (n := 1) rfl (hs := sz9) (Nat.succ_ne_zero _) b o
attribute [push_cast] fa113_3
instance bt113 : BT Try.prog 113 [[.pointer none], [.pointer none], [.pointer none], [.string ⟨#[]⟩]] := BT.ofStruct Try.underlying113 Try.zeroValue113 rfl (fun w => by kernel_rfl)
instance sz114 : Sz Try.prog 114 0 true := ⟨Try.sizeOf114, Try.isAgg114⟩
instance by114 : By Try.prog 114 0 := ⟨_, Try.typeInfo114, rfl⟩
instance zv114 : ZV Try.prog 114 (.agg #[]) := ⟨Try.zeroValue114⟩
instance ar114 : ArT Try.prog 114 0 16 := ⟨Try.underlying114⟩
instance bt114 : BT Try.prog 114 (List.replicate 0 [.pointer none]) := BT.ofArray Try.underlying114 Try.zeroValue114 rfl sz16 rfl
instance sz115 : Sz Try.prog 115 0 true := ⟨Try.sizeOf115, Try.isAgg115⟩
instance by115 : By Try.prog 115 0 := ⟨_, Try.typeInfo115, rfl⟩
instance zv115 : ZV Try.prog 115 (.agg #[]) := ⟨Try.zeroValue115⟩
instance sz116 : Sz Try.prog 116 0 true := ⟨Try.sizeOf116, Try.isAgg116⟩
instance by116 : By Try.prog 116 0 := ⟨_, Try.typeInfo116, rfl⟩
instance zv116 : ZV Try.prog 116 (.agg #[]) := ⟨Try.zeroValue116⟩
instance sz117 : Sz Try.prog 117 1 false := ⟨Try.sizeOf117, Try.isAgg117⟩
instance by117 : By Try.prog 117 1 := ⟨_, Try.typeInfo117, rfl⟩
instance zv117 : ZV Try.prog 117 (.int .u8 0) := ⟨Try.zeroValue117⟩
instance sz118 : Sz Try.prog 118 1 false := ⟨Try.sizeOf118, Try.isAgg118⟩
instance by118 : By Try.prog 118 1 := ⟨_, Try.typeInfo118, rfl⟩
instance zv118 : ZV Try.prog 118 (.int .u8 0) := ⟨Try.zeroValue118⟩
instance sz120 : Sz Try.prog 120 1 false := ⟨Try.sizeOf120, Try.isAgg120⟩
instance by120 : By Try.prog 120 8 := ⟨_, Try.typeInfo120, rfl⟩
instance zv120 : ZV Try.prog 120 (.pointer none) := ⟨Try.zeroValue120⟩
instance sz121 : Sz Try.prog 121 1 false := ⟨Try.sizeOf121, Try.isAgg121⟩
instance by121 : By Try.prog 121 4 := ⟨_, Try.typeInfo121, rfl⟩
instance zv121 : ZV Try.prog 121 (.int .i32 0) := ⟨Try.zeroValue121⟩
instance sz122 : Sz Try.prog 122 1 false := ⟨Try.sizeOf122, Try.isAgg122⟩
instance by122 : By Try.prog 122 4 := ⟨_, Try.typeInfo122, rfl⟩
instance zv122 : ZV Try.prog 122 (.int .i32 0) := ⟨Try.zeroValue122⟩
instance sz123 : Sz Try.prog 123 11 true := ⟨Try.sizeOf123, Try.isAgg123⟩
instance by123 : By Try.prog 123 48 := ⟨_, Try.typeInfo123, rfl⟩
instance zv123 : ZV Try.prog 123 (.agg #[.int .u64 0, .int .u64 0, .int .u32 0, .int .u8 0, .int .u8 0, .int .u8 0, .int .u8 0, .nilFunc, .pointer none, .int .i32 0, .int .i32 0]) := ⟨Try.zeroValue123⟩
instance sz124 : Sz Try.prog 124 11 true := ⟨Try.sizeOf124, Try.isAgg124⟩
instance by124 : By Try.prog 124 48 := ⟨_, Try.typeInfo124, rfl⟩
instance zv124 : ZV Try.prog 124 (.agg #[.int .u64 0, .int .u64 0, .int .u32 0, .int .u8 0, .int .u8 0, .int .u8 0, .int .u8 0, .nilFunc, .pointer none, .int .i32 0, .int .i32 0]) := ⟨Try.zeroValue124⟩
theorem mixed : Try.prog.follows .mixedOrders = true := by kernel_rfl
end Go.Gx.S
