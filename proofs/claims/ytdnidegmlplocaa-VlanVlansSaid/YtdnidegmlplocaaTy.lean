/- What the functions of this program ask. -/
import Derived.Test.YtdnidegmlplocaaGxTypes
import Derived.Test.YtdnidegmlplocaaProg
import Derived.KernelRfl
set_option linter.unusedVariables false
set_option maxRecDepth 100000
namespace Go.Gx.S
open Go Go.Gx Go.Proofs
instance sz2 : Sz Try.prog 2 1 false := ⟨Try.sizeOf2, Try.isAgg2⟩
instance by2 : By Try.prog 2 8 := ⟨_, Try.typeInfo2, rfl⟩
instance zv2 : ZV Try.prog 2 (.int .i64 0) := ⟨Try.zeroValue2⟩
instance sz3 : Sz Try.prog 3 1 false := ⟨Try.sizeOf3, Try.isAgg3⟩
instance by3 : By Try.prog 3 8 := ⟨_, Try.typeInfo3, rfl⟩
instance zv3 : ZV Try.prog 3 (.int .i64 0) := ⟨Try.zeroValue3⟩
instance sz4 : Sz Try.prog 4 1 false := ⟨Try.sizeOf4, Try.isAgg4⟩
instance by4 : By Try.prog 4 1 := ⟨_, Try.typeInfo4, rfl⟩
instance zv4 : ZV Try.prog 4 (.bool false) := ⟨Try.zeroValue4⟩
instance sz5 : Sz Try.prog 5 1 false := ⟨Try.sizeOf5, Try.isAgg5⟩
instance by5 : By Try.prog 5 1 := ⟨_, Try.typeInfo5, rfl⟩
instance zv5 : ZV Try.prog 5 (.int .u8 0) := ⟨Try.zeroValue5⟩
instance sz6 : Sz Try.prog 6 1 false := ⟨Try.sizeOf6, Try.isAgg6⟩
instance by6 : By Try.prog 6 1 := ⟨_, Try.typeInfo6, rfl⟩
instance zv6 : ZV Try.prog 6 (.int .u8 0) := ⟨Try.zeroValue6⟩
instance sz7 : Sz Try.prog 7 4 true := ⟨Try.sizeOf7, Try.isAgg7⟩
instance by7 : By Try.prog 7 24 := ⟨_, Try.typeInfo7, rfl⟩
instance zv7 : ZV Try.prog 7 (.agg #[.int .i64 0, .int .i64 0, .bool false, .int .u8 0]) := ⟨Try.zeroValue7⟩
instance eq7 : EqT Try.prog 7 := ⟨by kernel_rfl, Try.eqGuardType7, .inl ⟨_, Try.underlying7⟩⟩
theorem fa7_0 {K : Value → World → Prop} {w : World} (b o : Nat) : opS Try.prog (S.fa 7 (pt b o) 0) K w = K (pt b (o + 0)) w := opS_fa (T := 7) (hT := ⟨Try.underlying7⟩) (fd := ⟨_, 2, 0, _, _, _, _⟩) (n := 1) rfl (hs := sz2) (Nat.succ_ne_zero _) b o
attribute [push_cast] fa7_0
theorem fa7_1 {K : Value → World → Prop} {w : World} (b o : Nat) : opS Try.prog (S.fa 7 (pt b o) 1) K w = K (pt b (o + 1)) w := opS_fa (T := 7) (hT := ⟨Try.underlying7⟩) (fd := ⟨_, 3, 1, _, _, _, _⟩) (n := 1) rfl (hs := sz3) (Nat.succ_ne_zero _) b o
attribute [push_cast] fa7_1
theorem fa7_2 {K : Value → World → Prop} {w : World} (b o : Nat) : opS Try.prog (S.fa 7 (pt b o) 2) K w = K (pt b (o + 2)) w := opS_fa (T := 7) (hT := ⟨Try.underlying7⟩) (fd := ⟨_, 4, 2, _, _, _, _⟩) (n := 1) rfl (hs := sz4) (Nat.succ_ne_zero _) b o
attribute [push_cast] fa7_2
theorem fa7_3 {K : Value → World → Prop} {w : World} (b o : Nat) : opS Try.prog (S.fa 7 (pt b o) 3) K w = K (pt b (o + 3)) w := opS_fa (T := 7) (hT := ⟨Try.underlying7⟩) (fd := ⟨_, 6, 3, _, _, _, _⟩) (n := 1) rfl (hs := sz6) (Nat.succ_ne_zero _) b o
attribute [push_cast] fa7_3
instance bt7 : BT Try.prog 7 [[.int .i64 0], [.int .i64 0], [.bool false], [.int .u8 0]] := BT.ofStruct Try.underlying7 Try.zeroValue7 rfl (fun w => by kernel_rfl)
instance sz8 : Sz Try.prog 8 4 true := ⟨Try.sizeOf8, Try.isAgg8⟩
instance by8 : By Try.prog 8 24 := ⟨_, Try.typeInfo8, rfl⟩
instance zv8 : ZV Try.prog 8 (.agg #[.int .i64 0, .int .i64 0, .bool false, .int .u8 0]) := ⟨Try.zeroValue8⟩
theorem fa8_0 {K : Value → World → Prop} {w : World} (b o : Nat) : opS Try.prog (S.fa 8 (pt b o) 0) K w = K (pt b (o + 0)) w := opS_fa (T := 8) (hT := ⟨Try.underlying8⟩) (fd := ⟨_, 2, 0, _, _, _, _⟩) (n := 1) rfl (hs := sz2) (Nat.succ_ne_zero _) b o
attribute [push_cast] fa8_0
theorem fa8_1 {K : Value → World → Prop} {w : World} (b o : Nat) : opS Try.prog (S.fa 8 (pt b o) 1) K w = K (pt b (o + 1)) w := opS_fa (T := 8) (hT := ⟨Try.underlying8⟩) (fd := ⟨_, 3, 1, _, _, _, _⟩) (n := 1) rfl (hs := sz3) (Nat.succ_ne_zero _) b o
attribute [push_cast] fa8_1
theorem fa8_2 {K : Value → World → Prop} {w : World} (b o : Nat) : opS Try.prog (S.fa 8 (pt b o) 2) K w = K (pt b (o + 2)) w := opS_fa (T := 8) (hT := ⟨Try.underlying8⟩) (fd := ⟨_, 4, 2, _, _, _, _⟩) (n := 1) rfl (hs := sz4) (Nat.succ_ne_zero _) b o
attribute [push_cast] fa8_2
theorem fa8_3 {K : Value → World → Prop} {w : World} (b o : Nat) : opS Try.prog (S.fa 8 (pt b o) 3) K w = K (pt b (o + 3)) w := opS_fa (T := 8) (hT := ⟨Try.underlying8⟩) (fd := ⟨_, 6, 3, _, _, _, _⟩) (n := 1) rfl (hs := sz6) (Nat.succ_ne_zero _) b o
attribute [push_cast] fa8_3
instance bt8 : BT Try.prog 8 [[.int .i64 0], [.int .i64 0], [.bool false], [.int .u8 0]] := BT.ofStruct Try.underlying8 Try.zeroValue8 rfl (fun w => by kernel_rfl)
instance sz9 : Sz Try.prog 9 1 false := ⟨Try.sizeOf9, Try.isAgg9⟩
instance by9 : By Try.prog 9 16 := ⟨_, Try.typeInfo9, rfl⟩
instance zv9 : ZV Try.prog 9 (.string ⟨#[]⟩) := ⟨Try.zeroValue9⟩
instance sz10 : Sz Try.prog 10 1 false := ⟨Try.sizeOf10, Try.isAgg10⟩
instance by10 : By Try.prog 10 16 := ⟨_, Try.typeInfo10, rfl⟩
instance zv10 : ZV Try.prog 10 (.string ⟨#[]⟩) := ⟨Try.zeroValue10⟩
instance sz11 : Sz Try.prog 11 1 false := ⟨Try.sizeOf11, Try.isAgg11⟩
instance by11 : By Try.prog 11 16 := ⟨_, Try.typeInfo11, rfl⟩
instance zv11 : ZV Try.prog 11 (.string ⟨#[]⟩) := ⟨Try.zeroValue11⟩
instance sz12 : Sz Try.prog 12 1 false := ⟨Try.sizeOf12, Try.isAgg12⟩
instance by12 : By Try.prog 12 8 := ⟨_, Try.typeInfo12, rfl⟩
instance zv12 : ZV Try.prog 12 (.int .u64 0) := ⟨Try.zeroValue12⟩
instance sz13 : Sz Try.prog 13 2 true := ⟨Try.sizeOf13, Try.isAgg13⟩
instance by13 : By Try.prog 13 24 := ⟨_, Try.typeInfo13, rfl⟩
instance zv13 : ZV Try.prog 13 (.agg #[.string ⟨#[]⟩, .int .u64 0]) := ⟨Try.zeroValue13⟩
theorem fa13_0 {K : Value → World → Prop} {w : World} (b o : Nat) : opS Try.prog (S.fa 13 (pt b o) 0) K w = K (pt b (o + 0)) w := opS_fa (T := 13) (hT := ⟨Try.underlying13⟩) (fd := ⟨_, 9, 0, _, _, _, _⟩) (n := 1) rfl (hs := sz9) (Nat.succ_ne_zero _) b o
attribute [push_cast] fa13_0
theorem fa13_1 {K : Value → World → Prop} {w : World} (b o : Nat) : opS Try.prog (S.fa 13 (pt b o) 1) K w = K (pt b (o + 1)) w := opS_fa (T := 13) (hT := ⟨Try.underlying13⟩) (fd := ⟨_, 12, 1, _, _, _, _⟩) (n := 1) rfl (hs := sz12) (Nat.succ_ne_zero _) b o
attribute [push_cast] fa13_1
instance bt13 : BT Try.prog 13 [[.string ⟨#[]⟩], [.int .u64 0]] := BT.ofStruct Try.underlying13 Try.zeroValue13 rfl (fun w => by kernel_rfl)
instance sz14 : Sz Try.prog 14 2 true := ⟨Try.sizeOf14, Try.isAgg14⟩
instance by14 : By Try.prog 14 24 := ⟨_, Try.typeInfo14, rfl⟩
instance zv14 : ZV Try.prog 14 (.agg #[.string ⟨#[]⟩, .int .u64 0]) := ⟨Try.zeroValue14⟩
theorem fa14_0 {K : Value → World → Prop} {w : World} (b o : Nat) : opS Try.prog (S.fa 14 (pt b o) 0) K w = K (pt b (o + 0)) w := opS_fa (T := 14) (hT := ⟨Try.underlying14⟩) (fd := ⟨_, 9, 0, _, _, _, _⟩) (n := 1) rfl (hs := sz9) (Nat.succ_ne_zero _) b o
attribute [push_cast] fa14_0
theorem fa14_1 {K : Value → World → Prop} {w : World} (b o : Nat) : opS Try.prog (S.fa 14 (pt b o) 1) K w = K (pt b (o + 1)) w := opS_fa (T := 14) (hT := ⟨Try.underlying14⟩) (fd := ⟨_, 12, 1, _, _, _, _⟩) (n := 1) rfl (hs := sz12) (Nat.succ_ne_zero _) b o
attribute [push_cast] fa14_1
instance bt14 : BT Try.prog 14 [[.string ⟨#[]⟩], [.int .u64 0]] := BT.ofStruct Try.underlying14 Try.zeroValue14 rfl (fun w => by kernel_rfl)
instance sz15 : Sz Try.prog 15 1 false := ⟨Try.sizeOf15, Try.isAgg15⟩
instance by15 : By Try.prog 15 8 := ⟨_, Try.typeInfo15, rfl⟩
instance zv15 : ZV Try.prog 15 (.pointer none) := ⟨Try.zeroValue15⟩
instance sz16 : Sz Try.prog 16 1 false := ⟨Try.sizeOf16, Try.isAgg16⟩
instance by16 : By Try.prog 16 8 := ⟨_, Try.typeInfo16, rfl⟩
instance zv16 : ZV Try.prog 16 (.pointer none) := ⟨Try.zeroValue16⟩
instance sz17 : Sz Try.prog 17 1 false := ⟨Try.sizeOf17, Try.isAgg17⟩
instance by17 : By Try.prog 17 8 := ⟨_, Try.typeInfo17, rfl⟩
instance zv17 : ZV Try.prog 17 (.pointer none) := ⟨Try.zeroValue17⟩
instance sz18 : Sz Try.prog 18 1 true := ⟨Try.sizeOf18, Try.isAgg18⟩
instance by18 : By Try.prog 18 8 := ⟨_, Try.typeInfo18, rfl⟩
instance zv18 : ZV Try.prog 18 (.agg #[.pointer none]) := ⟨Try.zeroValue18⟩
theorem fa18_0 {K : Value → World → Prop} {w : World} (b o : Nat) : opS Try.prog (S.fa 18 (pt b o) 0) K w = K (pt b (o + 0)) w := opS_fa (T := 18) (hT := ⟨Try.underlying18⟩) (fd := ⟨_, 17, 0, _, _, _, _⟩) (n := 1) rfl (hs := sz17) (Nat.succ_ne_zero _) b o
attribute [push_cast] fa18_0
instance bt18 : BT Try.prog 18 [[.pointer none]] := BT.ofStruct Try.underlying18 Try.zeroValue18 rfl (fun w => by kernel_rfl)
instance sz19 : Sz Try.prog 19 1 true := ⟨Try.sizeOf19, Try.isAgg19⟩
instance by19 : By Try.prog 19 8 := ⟨_, Try.typeInfo19, rfl⟩
instance zv19 : ZV Try.prog 19 (.agg #[.pointer none]) := ⟨Try.zeroValue19⟩
theorem fa19_0 {K : Value → World → Prop} {w : World} (b o : Nat) : opS Try.prog (S.fa 19 (pt b o) 0) K w = K (pt b (o + 0)) w := opS_fa (T := 19) (hT := ⟨Try.underlying19⟩) (fd := ⟨_, 17, 0, _, _, _, _⟩) (n := 1) rfl (hs := sz17) (Nat.succ_ne_zero _) b o
attribute [push_cast] fa19_0
instance bt19 : BT Try.prog 19 [[.pointer none]] := BT.ofStruct Try.underlying19 Try.zeroValue19 rfl (fun w => by kernel_rfl)
instance sz21 : Sz Try.prog 21 1 false := ⟨Try.sizeOf21, Try.isAgg21⟩
instance by21 : By Try.prog 21 4 := ⟨_, Try.typeInfo21, rfl⟩
instance zv21 : ZV Try.prog 21 (.int .i32 0) := ⟨Try.zeroValue21⟩
instance sz22 : Sz Try.prog 22 1 false := ⟨Try.sizeOf22, Try.isAgg22⟩
instance by22 : By Try.prog 22 24 := ⟨_, Try.typeInfo22, rfl⟩
instance zv22 : ZV Try.prog 22 (.slice none 0 0) := ⟨Try.zeroValue22⟩
instance sl22 : SlT Try.prog 22 46 := ⟨Try.underlying22⟩
instance sz23 : Sz Try.prog 23 6 true := ⟨Try.sizeOf23, Try.isAgg23⟩
instance by23 : By Try.prog 23 6 := ⟨_, Try.typeInfo23, rfl⟩
instance zv23 : ZV Try.prog 23 (.agg #[.int .u8 0, .int .u8 0, .int .u8 0, .int .u8 0, .int .u8 0, .int .u8 0]) := ⟨Try.zeroValue23⟩
instance eq23 : EqT Try.prog 23 := ⟨by kernel_rfl, Try.eqGuardType23, .inr ⟨_, _, Try.underlying23⟩⟩
instance ar23 : ArT Try.prog 23 6 5 := ⟨Try.underlying23⟩
instance bt23 : BT Try.prog 23 (List.replicate 6 [.int .u8 0]) := BT.ofArray Try.underlying23 Try.zeroValue23 rfl sz5 rfl
instance sz24 : Sz Try.prog 24 6 true := ⟨Try.sizeOf24, Try.isAgg24⟩
instance by24 : By Try.prog 24 6 := ⟨_, Try.typeInfo24, rfl⟩
instance zv24 : ZV Try.prog 24 (.agg #[.int .u8 0, .int .u8 0, .int .u8 0, .int .u8 0, .int .u8 0, .int .u8 0]) := ⟨Try.zeroValue24⟩
instance eq24 : EqT Try.prog 24 := ⟨by kernel_rfl, Try.eqGuardType24, .inr ⟨_, _, Try.underlying24⟩⟩
instance ar24 : ArT Try.prog 24 6 5 := ⟨Try.underlying24⟩
instance bt24 : BT Try.prog 24 (List.replicate 6 [.int .u8 0]) := BT.ofArray Try.underlying24 Try.zeroValue24 rfl sz5 rfl
instance sz25 : Sz Try.prog 25 1 false := ⟨Try.sizeOf25, Try.isAgg25⟩
instance by25 : By Try.prog 25 24 := ⟨_, Try.typeInfo25, rfl⟩
instance zv25 : ZV Try.prog 25 (.slice none 0 0) := ⟨Try.zeroValue25⟩
instance sl25 : SlT Try.prog 25 5 := ⟨Try.underlying25⟩
instance sz26 : Sz Try.prog 26 17 true := ⟨Try.sizeOf26, Try.isAgg26⟩
instance by26 : By Try.prog 26 64 := ⟨_, Try.typeInfo26, rfl⟩
instance zv26 : ZV Try.prog 26 (.agg #[.int .u8 0, .int .u8 0, .int .u8 0, .int .u8 0, .int .u8 0, .int .u8 0, .int .u8 0, .int .u8 0, .int .u8 0, .int .u8 0, .int .u8 0, .int .u8 0, .bool false, .int .i64 0, .int .i64 0, .int .i64 0, .slice none 0 0]) := ⟨Try.zeroValue26⟩
theorem fa26_0 {K : Value → World → Prop} {w : World} (b o : Nat) : opS Try.prog (S.fa 26 (pt b o) 0) K w = K (pt b (o + 0)) w := opS_fa (T := 26) (hT := ⟨Try.underlying26⟩) (fd := ⟨_, 24, 0, _, _, _, _⟩) (n := 6) rfl (hs := sz24) (Nat.succ_ne_zero _) b o
attribute [push_cast] fa26_0
theorem fa26_1 {K : Value → World → Prop} {w : World} (b o : Nat) : opS Try.prog (S.fa 26 (pt b o) 1) K w = K (pt b (o + 6)) w := opS_fa (T := 26) (hT := ⟨Try.underlying26⟩) (fd := ⟨_, 24, 6, _, _, _, _⟩) (n := 6) rfl (hs := sz24) (Nat.succ_ne_zero _) b o
attribute [push_cast] fa26_1
theorem fa26_2 {K : Value → World → Prop} {w : World} (b o : Nat) : opS Try.prog (S.fa 26 (pt b o) 2) K w = K (pt b (o + 12)) w := opS_fa (T := 26) (hT := ⟨Try.underlying26⟩) (fd := ⟨_, 4, 12, _, _, _, _⟩) (n := 1) rfl (hs := sz4) (Nat.succ_ne_zero _) b o
attribute [push_cast] fa26_2
theorem fa26_3 {K : Value → World → Prop} {w : World} (b o : Nat) : opS Try.prog (S.fa 26 (pt b o) 3) K w = K (pt b (o + 13)) w := opS_fa (T := 26) (hT := ⟨Try.underlying26⟩) (fd := ⟨_, 3, 13, _, _, _, _⟩) (n := 1) rfl (hs := sz3) (Nat.succ_ne_zero _) b o
attribute [push_cast] fa26_3
theorem fa26_4 {K : Value → World → Prop} {w : World} (b o : Nat) : opS Try.prog (S.fa 26 (pt b o) 4) K w = K (pt b (o + 14)) w := opS_fa (T := 26) (hT := ⟨Try.underlying26⟩) (fd := ⟨_, 3, 14, _, _, _, _⟩) (n := 1) rfl (hs := sz3) (Nat.succ_ne_zero _) b o
attribute [push_cast] fa26_4
theorem fa26_5 {K : Value → World → Prop} {w : World} (b o : Nat) : opS Try.prog (S.fa 26 (pt b o) 5) K w = K (pt b (o + 15)) w := opS_fa (T := 26) (hT := ⟨Try.underlying26⟩) (fd := ⟨_, 3, 15, _, _, _, _⟩) (n := 1) rfl (hs := sz3) (Nat.succ_ne_zero _) b o
attribute [push_cast] fa26_5
theorem fa26_6 {K : Value → World → Prop} {w : World} (b o : Nat) : opS Try.prog (S.fa 26 (pt b o) 6) K w = K (pt b (o + 16)) w := opS_fa (T := 26) (hT := ⟨Try.underlying26⟩) (fd := ⟨_, 25, 16, _, _, _, _⟩) (n := 1) rfl (hs := sz25) (Nat.succ_ne_zero _) b o
attribute [push_cast] fa26_6
instance bt26 : BT Try.prog 26 [[.int .u8 0, .int .u8 0, .int .u8 0, .int .u8 0, .int .u8 0, .int .u8 0], [.int .u8 0, .int .u8 0, .int .u8 0, .int .u8 0, .int .u8 0, .int .u8 0], [.bool false], [.int .i64 0], [.int .i64 0], [.int .i64 0], [.slice none 0 0]] := BT.ofStruct Try.underlying26 Try.zeroValue26 rfl (fun w => by kernel_rfl)
instance sz27 : Sz Try.prog 27 17 true := ⟨Try.sizeOf27, Try.isAgg27⟩
instance by27 : By Try.prog 27 64 := ⟨_, Try.typeInfo27, rfl⟩
instance zv27 : ZV Try.prog 27 (.agg #[.int .u8 0, .int .u8 0, .int .u8 0, .int .u8 0, .int .u8 0, .int .u8 0, .int .u8 0, .int .u8 0, .int .u8 0, .int .u8 0, .int .u8 0, .int .u8 0, .bool false, .int .i64 0, .int .i64 0, .int .i64 0, .slice none 0 0]) := ⟨Try.zeroValue27⟩
theorem fa27_0 {K : Value → World → Prop} {w : World} (b o : Nat) : opS Try.prog (S.fa 27 (pt b o) 0) K w = K (pt b (o + 0)) w := opS_fa (T := 27) (hT := ⟨Try.underlying27⟩) (fd := ⟨_, 24, 0, _, _, _, _⟩) (n := 6) rfl (hs := sz24) (Nat.succ_ne_zero _) b o
attribute [push_cast] fa27_0
theorem fa27_1 {K : Value → World → Prop} {w : World} (b o : Nat) : opS Try.prog (S.fa 27 (pt b o) 1) K w = K (pt b (o + 6)) w := opS_fa (T := 27) (hT := ⟨Try.underlying27⟩) (fd := ⟨_, 24, 6, _, _, _, _⟩) (n := 6) rfl (hs := sz24) (Nat.succ_ne_zero _) b o
attribute [push_cast] fa27_1
theorem fa27_2 {K : Value → World → Prop} {w : World} (b o : Nat) : opS Try.prog (S.fa 27 (pt b o) 2) K w = K (pt b (o + 12)) w := opS_fa (T := 27) (hT := ⟨Try.underlying27⟩) (fd := ⟨_, 4, 12, _, _, _, _⟩) (n := 1) rfl (hs := sz4) (Nat.succ_ne_zero _) b o
attribute [push_cast] fa27_2
theorem fa27_3 {K : Value → World → Prop} {w : World} (b o : Nat) : opS Try.prog (S.fa 27 (pt b o) 3) K w = K (pt b (o + 13)) w := opS_fa (T := 27) (hT := ⟨Try.underlying27⟩) (fd := ⟨_, 3, 13, _, _, _, _⟩) (n := 1) rfl (hs := sz3) (Nat.succ_ne_zero _) b o
attribute [push_cast] fa27_3
theorem fa27_4 {K : Value → World → Prop} {w : World} (b o : Nat) : opS Try.prog (S.fa 27 (pt b o) 4) K w = K (pt b (o + 14)) w := opS_fa (T := 27) (hT := ⟨Try.underlying27⟩) (fd := ⟨_, 3, 14, _, _, _, _⟩) (n := 1) rfl (hs := sz3) (Nat.succ_ne_zero _) b o
attribute [push_cast] fa27_4
theorem fa27_5 {K : Value → World → Prop} {w : World} (b o : Nat) : opS Try.prog (S.fa 27 (pt b o) 5) K w = K (pt b (o + 15)) w := opS_fa (T := 27) (hT := ⟨Try.underlying27⟩) (fd := ⟨_, 3, 15, _, _, _, _⟩) (n := 1) rfl (hs := sz3) (Nat.succ_ne_zero _) b o
attribute [push_cast] fa27_5
theorem fa27_6 {K : Value → World → Prop} {w : World} (b o : Nat) : opS Try.prog (S.fa 27 (pt b o) 6) K w = K (pt b (o + 16)) w := opS_fa (T := 27) (hT := ⟨Try.underlying27⟩) (fd := ⟨_, 25, 16, _, _, _, _⟩) (n := 1) rfl (hs := sz25) (Nat.succ_ne_zero _) b o
attribute [push_cast] fa27_6
instance bt27 : BT Try.prog 27 [[.int .u8 0, .int .u8 0, .int .u8 0, .int .u8 0, .int .u8 0, .int .u8 0], [.int .u8 0, .int .u8 0, .int .u8 0, .int .u8 0, .int .u8 0, .int .u8 0], [.bool false], [.int .i64 0], [.int .i64 0], [.int .i64 0], [.slice none 0 0]] := BT.ofStruct Try.underlying27 Try.zeroValue27 rfl (fun w => by kernel_rfl)
instance sz28 : Sz Try.prog 28 2 true := ⟨Try.sizeOf28, Try.isAgg28⟩
instance by28 : By Try.prog 28 16 := ⟨_, Try.typeInfo28, rfl⟩
instance zv28 : ZV Try.prog 28 (.agg #[.int .i64 0, .int .i64 0]) := ⟨Try.zeroValue28⟩
instance eq28 : EqT Try.prog 28 := ⟨by kernel_rfl, Try.eqGuardType28, .inr ⟨_, _, Try.underlying28⟩⟩
instance ar28 : ArT Try.prog 28 2 3 := ⟨Try.underlying28⟩
instance bt28 : BT Try.prog 28 (List.replicate 2 [.int .i64 0]) := BT.ofArray Try.underlying28 Try.zeroValue28 rfl sz3 rfl
instance sz30 : Sz Try.prog 30 1 false := ⟨Try.sizeOf30, Try.isAgg30⟩
instance by30 : By Try.prog 30 8 := ⟨_, Try.typeInfo30, rfl⟩
instance zv30 : ZV Try.prog 30 (.pointer none) := ⟨Try.zeroValue30⟩
instance sz31 : Sz Try.prog 31 1 false := ⟨Try.sizeOf31, Try.isAgg31⟩
instance by31 : By Try.prog 31 8 := ⟨_, Try.typeInfo31, rfl⟩
instance zv31 : ZV Try.prog 31 (.pointer none) := ⟨Try.zeroValue31⟩
instance sz34 : Sz Try.prog 34 1 false := ⟨Try.sizeOf34, Try.isAgg34⟩
instance by34 : By Try.prog 34 8 := ⟨_, Try.typeInfo34, rfl⟩
instance zv34 : ZV Try.prog 34 (.int .i64 0) := ⟨Try.zeroValue34⟩
instance sz43 : Sz Try.prog 43 1 false := ⟨Try.sizeOf43, Try.isAgg43⟩
instance by43 : By Try.prog 43 24 := ⟨_, Try.typeInfo43, rfl⟩
instance zv43 : ZV Try.prog 43 (.slice none 0 0) := ⟨Try.zeroValue43⟩
instance sl43 : SlT Try.prog 43 3 := ⟨Try.underlying43⟩
instance sz45 : Sz Try.prog 45 4 true := ⟨Try.sizeOf45, Try.isAgg45⟩
instance by45 : By Try.prog 45 32 := ⟨_, Try.typeInfo45, rfl⟩
instance zv45 : ZV Try.prog 45 (.agg #[.int .i64 0, .int .i64 0, .int .i64 0, .bool false]) := ⟨Try.zeroValue45⟩
instance eq45 : EqT Try.prog 45 := ⟨by kernel_rfl, Try.eqGuardType45, .inl ⟨_, Try.underlying45⟩⟩
theorem fa45_0 {K : Value → World → Prop} {w : World} (b o : Nat) : opS Try.prog (S.fa 45 (pt b o) 0) K w = K (pt b (o + 0)) w := opS_fa (T := 45) (hT := ⟨Try.underlying45⟩) (fd := ⟨_, 3, 0, _, _, _, _⟩) (n := 1) rfl (hs := sz3) (Nat.succ_ne_zero _) b o
attribute [push_cast] fa45_0
theorem fa45_1 {K : Value → World → Prop} {w : World} (b o : Nat) : opS Try.prog (S.fa 45 (pt b o) 1) K w = K (pt b (o + 1)) w := opS_fa (T := 45) (hT := ⟨Try.underlying45⟩) (fd := ⟨_, 3, 1, _, _, _, _⟩) (n := 1) rfl (hs := sz3) (Nat.succ_ne_zero _) b o
attribute [push_cast] fa45_1
theorem fa45_2 {K : Value → World → Prop} {w : World} (b o : Nat) : opS Try.prog (S.fa 45 (pt b o) 2) K w = K (pt b (o + 2)) w := opS_fa (T := 45) (hT := ⟨Try.underlying45⟩) (fd := ⟨_, 3, 2, _, _, _, _⟩) (n := 1) rfl (hs := sz3) (Nat.succ_ne_zero _) b o
attribute [push_cast] fa45_2
theorem fa45_3 {K : Value → World → Prop} {w : World} (b o : Nat) : opS Try.prog (S.fa 45 (pt b o) 3) K w = K (pt b (o + 3)) w := opS_fa (T := 45) (hT := ⟨Try.underlying45⟩) (fd := ⟨_, 4, 3, _, _, _, _⟩) (n := 1) rfl (hs := sz4) (Nat.succ_ne_zero _) b o
attribute [push_cast] fa45_3
instance bt45 : BT Try.prog 45 [[.int .i64 0], [.int .i64 0], [.int .i64 0], [.bool false]] := BT.ofStruct Try.underlying45 Try.zeroValue45 rfl (fun w => by kernel_rfl)
instance sz46 : Sz Try.prog 46 4 true := ⟨Try.sizeOf46, Try.isAgg46⟩
instance by46 : By Try.prog 46 32 := ⟨_, Try.typeInfo46, rfl⟩
instance zv46 : ZV Try.prog 46 (.agg #[.int .i64 0, .int .i64 0, .int .i64 0, .bool false]) := ⟨Try.zeroValue46⟩
instance eq46 : EqT Try.prog 46 := ⟨by kernel_rfl, Try.eqGuardType46, .inl ⟨_, Try.underlying46⟩⟩
theorem fa46_0 {K : Value → World → Prop} {w : World} (b o : Nat) : opS Try.prog (S.fa 46 (pt b o) 0) K w = K (pt b (o + 0)) w := opS_fa (T := 46) (hT := ⟨Try.underlying46⟩) (fd := ⟨_, 3, 0, _, _, _, _⟩) (n := 1) rfl (hs := sz3) (Nat.succ_ne_zero _) b o
attribute [push_cast] fa46_0
theorem fa46_1 {K : Value → World → Prop} {w : World} (b o : Nat) : opS Try.prog (S.fa 46 (pt b o) 1) K w = K (pt b (o + 1)) w := opS_fa (T := 46) (hT := ⟨Try.underlying46⟩) (fd := ⟨_, 3, 1, _, _, _, _⟩) (n := 1) rfl (hs := sz3) (Nat.succ_ne_zero _) b o
attribute [push_cast] fa46_1
theorem fa46_2 {K : Value → World → Prop} {w : World} (b o : Nat) : opS Try.prog (S.fa 46 (pt b o) 2) K w = K (pt b (o + 2)) w := opS_fa (T := 46) (hT := ⟨Try.underlying46⟩) (fd := ⟨_, 3, 2, _, _, _, _⟩) (n := 1) rfl (hs := sz3) (Nat.succ_ne_zero _) b o
attribute [push_cast] fa46_2
theorem fa46_3 {K : Value → World → Prop} {w : World} (b o : Nat) : opS Try.prog (S.fa 46 (pt b o) 3) K w = K (pt b (o + 3)) w := opS_fa (T := 46) (hT := ⟨Try.underlying46⟩) (fd := ⟨_, 4, 3, _, _, _, _⟩) (n := 1) rfl (hs := sz4) (Nat.succ_ne_zero _) b o
attribute [push_cast] fa46_3
instance bt46 : BT Try.prog 46 [[.int .i64 0], [.int .i64 0], [.int .i64 0], [.bool false]] := BT.ofStruct Try.underlying46 Try.zeroValue46 rfl (fun w => by kernel_rfl)
instance sz61 : Sz Try.prog 61 1 false := ⟨Try.sizeOf61, Try.isAgg61⟩
instance by61 : By Try.prog 61 8 := ⟨_, Try.typeInfo61, rfl⟩
instance zv61 : ZV Try.prog 61 (.map none) := ⟨Try.zeroValue61⟩
instance mp61 : MpT Try.prog 61 66 4 := ⟨Try.underlying61⟩
instance sz62 : Sz Try.prog 62 2 true := ⟨Try.sizeOf62, Try.isAgg62⟩
instance by62 : By Try.prog 62 32 := ⟨_, Try.typeInfo62, rfl⟩
instance zv62 : ZV Try.prog 62 (.agg #[.map none, .slice none 0 0]) := ⟨Try.zeroValue62⟩
theorem fa62_0 {K : Value → World → Prop} {w : World} (b o : Nat) : opS Try.prog (S.fa 62 (pt b o) 0) K w = K (pt b (o + 0)) w := opS_fa (T := 62) (hT := ⟨Try.underlying62⟩) (fd := ⟨_, 61, 0, _, _, _, _⟩) (n := 1) rfl (hs := sz61) (Nat.succ_ne_zero _) b o
attribute [push_cast] fa62_0
theorem fa62_1 {K : Value → World → Prop} {w : World} (b o : Nat) : opS Try.prog (S.fa 62 (pt b o) 1) K w = K (pt b (o + 1)) w := opS_fa (T := 62) (hT := ⟨Try.underlying62⟩) (fd := ⟨_, 43, 1, _, _, _, _⟩) (n := 1) rfl (hs := sz43) (Nat.succ_ne_zero _) b o
attribute [push_cast] fa62_1
instance bt62 : BT Try.prog 62 [[.map none], [.slice none 0 0]] := BT.ofStruct Try.underlying62 Try.zeroValue62 rfl (fun w => by kernel_rfl)
instance sz63 : Sz Try.prog 63 2 true := ⟨Try.sizeOf63, Try.isAgg63⟩
instance by63 : By Try.prog 63 32 := ⟨_, Try.typeInfo63, rfl⟩
instance zv63 : ZV Try.prog 63 (.agg #[.map none, .slice none 0 0]) := ⟨Try.zeroValue63⟩
theorem fa63_0 {K : Value → World → Prop} {w : World} (b o : Nat) : opS Try.prog (S.fa 63 (pt b o) 0) K w = K (pt b (o + 0)) w := opS_fa (T := 63) (hT := ⟨Try.underlying63⟩) (fd := ⟨_, 61, 0, _, _, _, _⟩) (n := 1) rfl (hs := sz61) (Nat.succ_ne_zero _) b o
attribute [push_cast] fa63_0
theorem fa63_1 {K : Value → World → Prop} {w : World} (b o : Nat) : opS Try.prog (S.fa 63 (pt b o) 1) K w = K (pt b (o + 1)) w := opS_fa (T := 63) (hT := ⟨Try.underlying63⟩) (fd := ⟨_, 43, 1, _, _, _, _⟩) (n := 1) rfl (hs := sz43) (Nat.succ_ne_zero _) b o
attribute [push_cast] fa63_1
instance bt63 : BT Try.prog 63 [[.map none], [.slice none 0 0]] := BT.ofStruct Try.underlying63 Try.zeroValue63 rfl (fun w => by kernel_rfl)
instance sz65 : Sz Try.prog 65 2 true := ⟨Try.sizeOf65, Try.isAgg65⟩
instance by65 : By Try.prog 65 16 := ⟨_, Try.typeInfo65, rfl⟩
instance zv65 : ZV Try.prog 65 (.agg #[.int .i64 0, .int .i64 0]) := ⟨Try.zeroValue65⟩
instance eq65 : EqT Try.prog 65 := ⟨by kernel_rfl, Try.eqGuardType65, .inl ⟨_, Try.underlying65⟩⟩
theorem fa65_0 {K : Value → World → Prop} {w : World} (b o : Nat) : opS Try.prog (S.fa 65 (pt b o) 0) K w = K (pt b (o + 0)) w := opS_fa (T := 65) (hT := ⟨Try.underlying65⟩) (fd := ⟨_, 3, 0, _, _, _, _⟩) (n := 1) rfl (hs := sz3) (Nat.succ_ne_zero _) b o
attribute [push_cast] fa65_0
theorem fa65_1 {K : Value → World → Prop} {w : World} (b o : Nat) : opS Try.prog (S.fa 65 (pt b o) 1) K w = K (pt b (o + 1)) w := opS_fa (T := 65) (hT := ⟨Try.underlying65⟩) (fd := ⟨_, 3, 1, _, _, _, _⟩) (n := 1) rfl (hs := sz3) (Nat.succ_ne_zero _) b o
attribute [push_cast] fa65_1
instance bt65 : BT Try.prog 65 [[.int .i64 0], [.int .i64 0]] := BT.ofStruct Try.underlying65 Try.zeroValue65 rfl (fun w => by kernel_rfl)
instance sz66 : Sz Try.prog 66 2 true := ⟨Try.sizeOf66, Try.isAgg66⟩
instance by66 : By Try.prog 66 16 := ⟨_, Try.typeInfo66, rfl⟩
instance zv66 : ZV Try.prog 66 (.agg #[.int .i64 0, .int .i64 0]) := ⟨Try.zeroValue66⟩
instance eq66 : EqT Try.prog 66 := ⟨by kernel_rfl, Try.eqGuardType66, .inl ⟨_, Try.underlying66⟩⟩
theorem fa66_0 {K : Value → World → Prop} {w : World} (b o : Nat) : opS Try.prog (S.fa 66 (pt b o) 0) K w = K (pt b (o + 0)) w := opS_fa (T := 66) (hT := ⟨Try.underlying66⟩) (fd := ⟨_, 3, 0, _, _, _, _⟩) (n := 1) rfl (hs := sz3) (Nat.succ_ne_zero _) b o
attribute [push_cast] fa66_0
theorem fa66_1 {K : Value → World → Prop} {w : World} (b o : Nat) : opS Try.prog (S.fa 66 (pt b o) 1) K w = K (pt b (o + 1)) w := opS_fa (T := 66) (hT := ⟨Try.underlying66⟩) (fd := ⟨_, 3, 1, _, _, _, _⟩) (n := 1) rfl (hs := sz3) (Nat.succ_ne_zero _) b o
attribute [push_cast] fa66_1
instance bt66 : BT Try.prog 66 [[.int .i64 0], [.int .i64 0]] := BT.ofStruct Try.underlying66 Try.zeroValue66 rfl (fun w => by kernel_rfl)
instance sz67 : Sz Try.prog 67 1 false := ⟨Try.sizeOf67, Try.isAgg67⟩
instance by67 : By Try.prog 67 24 := ⟨_, Try.typeInfo67, rfl⟩
instance zv67 : ZV Try.prog 67 (.slice none 0 0) := ⟨Try.zeroValue67⟩
instance sl67 : SlT Try.prog 67 75 := ⟨Try.underlying67⟩
instance sz68 : Sz Try.prog 68 3 true := ⟨Try.sizeOf68, Try.isAgg68⟩
instance by68 : By Try.prog 68 56 := ⟨_, Try.typeInfo68, rfl⟩
instance zv68 : ZV Try.prog 68 (.agg #[.int .i64 0, .slice none 0 0, .slice none 0 0]) := ⟨Try.zeroValue68⟩
theorem fa68_0 {K : Value → World → Prop} {w : World} (b o : Nat) : opS Try.prog (S.fa 68 (pt b o) 0) K w = K (pt b (o + 0)) w := opS_fa (T := 68) (hT := ⟨Try.underlying68⟩) (fd := ⟨_, 3, 0, _, _, _, _⟩) (n := 1) rfl (hs := sz3) (Nat.succ_ne_zero _) b o
attribute [push_cast] fa68_0
theorem fa68_1 {K : Value → World → Prop} {w : World} (b o : Nat) : opS Try.prog (S.fa 68 (pt b o) 1) K w = K (pt b (o + 1)) w := opS_fa (T := 68) (hT := ⟨Try.underlying68⟩) (fd := ⟨_, 67, 1, _, _, _, _⟩) (n := 1) rfl (hs := sz67) (Nat.succ_ne_zero _) b o
attribute [push_cast] fa68_1
theorem fa68_2 {K : Value → World → Prop} {w : World} (b o : Nat) : opS Try.prog (S.fa 68 (pt b o) 2) K w = K (pt b (o + 2)) w := opS_fa (T := 68) (hT := ⟨Try.underlying68⟩) (fd := ⟨_, 43, 2, _, _, _, _⟩) (n := 1) rfl (hs := sz43) (Nat.succ_ne_zero _) b o
attribute [push_cast] fa68_2
instance bt68 : BT Try.prog 68 [[.int .i64 0], [.slice none 0 0], [.slice none 0 0]] := BT.ofStruct Try.underlying68 Try.zeroValue68 rfl (fun w => by kernel_rfl)
instance sz69 : Sz Try.prog 69 3 true := ⟨Try.sizeOf69, Try.isAgg69⟩
instance by69 : By Try.prog 69 56 := ⟨_, Try.typeInfo69, rfl⟩
instance zv69 : ZV Try.prog 69 (.agg #[.int .i64 0, .slice none 0 0, .slice none 0 0]) := ⟨Try.zeroValue69⟩
theorem fa69_0 {K : Value → World → Prop} {w : World} (b o : Nat) : opS Try.prog (S.fa 69 (pt b o) 0) K w = K (pt b (o + 0)) w := opS_fa (T := 69) (hT := ⟨Try.underlying69⟩) (fd := ⟨_, 3, 0, _, _, _, _⟩) (n := 1) rfl (hs := sz3) (Nat.succ_ne_zero _) b o
attribute [push_cast] fa69_0
theorem fa69_1 {K : Value → World → Prop} {w : World} (b o : Nat) : opS Try.prog (S.fa 69 (pt b o) 1) K w = K (pt b (o + 1)) w := opS_fa (T := 69) (hT := ⟨Try.underlying69⟩) (fd := ⟨_, 67, 1, _, _, _, _⟩) (n := 1) rfl (hs := sz67) (Nat.succ_ne_zero _) b o
attribute [push_cast] fa69_1
theorem fa69_2 {K : Value → World → Prop} {w : World} (b o : Nat) : opS Try.prog (S.fa 69 (pt b o) 2) K w = K (pt b (o + 2)) w := opS_fa (T := 69) (hT := ⟨Try.underlying69⟩) (fd := ⟨_, 43, 2, _, _, _, _⟩) (n := 1) rfl (hs := sz43) (Nat.succ_ne_zero _) b o
attribute [push_cast] fa69_2
instance bt69 : BT Try.prog 69 [[.int .i64 0], [.slice none 0 0], [.slice none 0 0]] := BT.ofStruct Try.underlying69 Try.zeroValue69 rfl (fun w => by kernel_rfl)
instance sz74 : Sz Try.prog 74 3 true := ⟨Try.sizeOf74, Try.isAgg74⟩
instance by74 : By Try.prog 74 24 := ⟨_, Try.typeInfo74, rfl⟩
instance zv74 : ZV Try.prog 74 (.agg #[.int .i64 0, .int .i64 0, .bool false]) := ⟨Try.zeroValue74⟩
instance eq74 : EqT Try.prog 74 := ⟨by kernel_rfl, Try.eqGuardType74, .inl ⟨_, Try.underlying74⟩⟩
theorem fa74_0 {K : Value → World → Prop} {w : World} (b o : Nat) : opS Try.prog (S.fa 74 (pt b o) 0) K w = K (pt b (o + 0)) w := opS_fa (T := 74) (hT := ⟨Try.underlying74⟩) (fd := ⟨_, 3, 0, _, _, _, _⟩) (n := 1) rfl (hs := sz3) (Nat.succ_ne_zero _) b o
attribute [push_cast] fa74_0
theorem fa74_1 {K : Value → World → Prop} {w : World} (b o : Nat) : opS Try.prog (S.fa 74 (pt b o) 1) K w = K (pt b (o + 1)) w := opS_fa (T := 74) (hT := ⟨Try.underlying74⟩) (fd := ⟨_, 3, 1, _, _, _, _⟩) (n := 1) rfl (hs := sz3) (Nat.succ_ne_zero _) b o
attribute [push_cast] fa74_1
theorem fa74_2 {K : Value → World → Prop} {w : World} (b o : Nat) : opS Try.prog (S.fa 74 (pt b o) 2) K w = K (pt b (o + 2)) w := opS_fa (T := 74) (hT := ⟨Try.underlying74⟩) (fd := ⟨_, 4, 2, _, _, _, _⟩) (n := 1) rfl (hs := sz4) (Nat.succ_ne_zero _) b o
attribute [push_cast] fa74_2
instance bt74 : BT Try.prog 74 [[.int .i64 0], [.int .i64 0], [.bool false]] := BT.ofStruct Try.underlying74 Try.zeroValue74 rfl (fun w => by kernel_rfl)
instance sz75 : Sz Try.prog 75 3 true := ⟨Try.sizeOf75, Try.isAgg75⟩
instance by75 : By Try.prog 75 24 := ⟨_, Try.typeInfo75, rfl⟩
instance zv75 : ZV Try.prog 75 (.agg #[.int .i64 0, .int .i64 0, .bool false]) := ⟨Try.zeroValue75⟩
instance eq75 : EqT Try.prog 75 := ⟨by kernel_rfl, Try.eqGuardType75, .inl ⟨_, Try.underlying75⟩⟩
theorem fa75_0 {K : Value → World → Prop} {w : World} (b o : Nat) : opS Try.prog (S.fa 75 (pt b o) 0) K w = K (pt b (o + 0)) w := opS_fa (T := 75) (hT := ⟨Try.underlying75⟩) (fd := ⟨_, 3, 0, _, _, _, _⟩) (n := 1) rfl (hs := sz3) (Nat.succ_ne_zero _) b o
attribute [push_cast] fa75_0
theorem fa75_1 {K : Value → World → Prop} {w : World} (b o : Nat) : opS Try.prog (S.fa 75 (pt b o) 1) K w = K (pt b (o + 1)) w := opS_fa (T := 75) (hT := ⟨Try.underlying75⟩) (fd := ⟨_, 3, 1, _, _, _, _⟩) (n := 1) rfl (hs := sz3) (Nat.succ_ne_zero _) b o
attribute [push_cast] fa75_1
theorem fa75_2 {K : Value → World → Prop} {w : World} (b o : Nat) : opS Try.prog (S.fa 75 (pt b o) 2) K w = K (pt b (o + 2)) w := opS_fa (T := 75) (hT := ⟨Try.underlying75⟩) (fd := ⟨_, 4, 2, _, _, _, _⟩) (n := 1) rfl (hs := sz4) (Nat.succ_ne_zero _) b o
attribute [push_cast] fa75_2
instance bt75 : BT Try.prog 75 [[.int .i64 0], [.int .i64 0], [.bool false]] := BT.ofStruct Try.underlying75 Try.zeroValue75 rfl (fun w => by kernel_rfl)
instance sz83 : Sz Try.prog 83 1 false := ⟨Try.sizeOf83, Try.isAgg83⟩
instance by83 : By Try.prog 83 8 := ⟨_, Try.typeInfo83, rfl⟩
instance zv83 : ZV Try.prog 83 (.int .u64 0) := ⟨Try.zeroValue83⟩
instance sz85 : Sz Try.prog 85 1 false := ⟨Try.sizeOf85, Try.isAgg85⟩
instance by85 : By Try.prog 85 8 := ⟨_, Try.typeInfo85, rfl⟩
instance zv85 : ZV Try.prog 85 (.int .i64 0) := ⟨Try.zeroValue85⟩
instance sz93 : Sz Try.prog 93 1 false := ⟨Try.sizeOf93, Try.isAgg93⟩
instance by93 : By Try.prog 93 4 := ⟨_, Try.typeInfo93, rfl⟩
instance zv93 : ZV Try.prog 93 (.int .u32 0) := ⟨Try.zeroValue93⟩
instance sz95 : Sz Try.prog 95 1 false := ⟨Try.sizeOf95, Try.isAgg95⟩
instance by95 : By Try.prog 95 8 := ⟨_, Try.typeInfo95, rfl⟩
instance zv95 : ZV Try.prog 95 (.int .u64 0) := ⟨Try.zeroValue95⟩
instance sz96 : Sz Try.prog 96 1 false := ⟨Try.sizeOf96, Try.isAgg96⟩
instance by96 : By Try.prog 96 8 := ⟨_, Try.typeInfo96, rfl⟩
instance zv96 : ZV Try.prog 96 (.int .u64 0) := ⟨Try.zeroValue96⟩
instance sz100 : Sz Try.prog 100 1 false := ⟨Try.sizeOf100, Try.isAgg100⟩
instance by100 : By Try.prog 100 8 := ⟨_, Try.typeInfo100, rfl⟩
instance zv100 : ZV Try.prog 100 (.pointer none) := ⟨Try.zeroValue100⟩
instance sz102 : Sz Try.prog 102 1 false := ⟨Try.sizeOf102, Try.isAgg102⟩
instance by102 : By Try.prog 102 8 := ⟨_, Try.typeInfo102, rfl⟩
instance zv102 : ZV Try.prog 102 (.pointer none) := ⟨Try.zeroValue102⟩
instance sz106 : Sz Try.prog 106 4 true := ⟨Try.sizeOf106, Try.isAgg106⟩
instance by106 : By Try.prog 106 40 := ⟨_, Try.typeInfo106, rfl⟩
instance zv106 : ZV Try.prog 106 (.agg #[.pointer none, .pointer none, .pointer none, .string ⟨#[]⟩]) := ⟨Try.zeroValue106⟩
theorem fa106_0 {K : Value → World → Prop} {w : World} (b o : Nat) : opS Try.prog (S.fa 106 (pt b o) 0) K w = K (pt b (o + 0)) w := opS_fa (T := 106) (hT := ⟨Try.underlying106⟩) (fd := ⟨_, 17, 0, _, _, _, _⟩) (n := 1) rfl (hs := sz17) (Nat.succ_ne_zero _) b o
attribute [push_cast] fa106_0
theorem fa106_1 {K : Value → World → Prop} {w : World} (b o : Nat) : opS Try.prog (S.fa 106 (pt b o) 1) K w = K (pt b (o + 1)) w := opS_fa (T := 106) (hT := ⟨Try.underlying106⟩) (fd := ⟨_, 17, 1, _, _, _, _⟩) (n := 1) rfl (hs := sz17) (Nat.succ_ne_zero _) b o
attribute [push_cast] fa106_1
theorem fa106_2 {K : Value → World → Prop} {w : World} (b o : Nat) : opS Try.prog (S.fa 106 (pt b o) 2) K w = K (pt b (o + 2)) w := opS_fa (T := 106) (hT := ⟨Try.underlying106⟩) (fd := ⟨_, 17, 2, _, _, _, _⟩) (n := 1) rfl (hs := sz17) (Nat.succ_ne_zero _) b o
attribute [push_cast] fa106_2
theorem fa106_3 {K : Value → World → Prop} {w : World} (b o : Nat) : opS Try.prog (S.fa 106 (pt b o) 3) K w = K (pt b (o + 3)) w := opS_fa (T := 106) (hT := ⟨Try.underlying106⟩) (fd := ⟨_, 9, 3, _, _, _, _⟩) (n := 1) rfl (hs := sz9) (Nat.succ_ne_zero _) b o
attribute [push_cast] fa106_3
instance bt106 : BT Try.prog 106 [[.pointer none], [.pointer none], [.pointer none], [.string ⟨#[]⟩]] := BT.ofStruct Try.underlying106 Try.zeroValue106 rfl (fun w => by kernel_rfl)
instance sz107 : Sz Try.prog 107 4 true := ⟨Try.sizeOf107, Try.isAgg107⟩
instance by107 : By Try.prog 107 40 := ⟨_, Try.typeInfo107, rfl⟩
instance zv107 : ZV Try.prog 107 (.agg #[.pointer none, .pointer none, .pointer none, .string ⟨#[]⟩]) := ⟨Try.zeroValue107⟩
theorem fa107_0 {K : Value → World → Prop} {w : World} (b o : Nat) : opS Try.prog (S.fa 107 (pt b o) 0) K w = K (pt b (o + 0)) w := opS_fa (T := 107) (hT := ⟨Try.underlying107⟩) (fd := ⟨_, 17, 0, _, _, _, _⟩) (n := 1) rfl (hs := sz17) (Nat.succ_ne_zero _) b o
attribute [push_cast] fa107_0
theorem fa107_1 {K : Value → World → Prop} {w : World} (b o : Nat) : opS Try.prog (S.fa 107 (pt b o) 1) K w = K (pt b (o + 1)) w := opS_fa (T := 107) (hT := ⟨Try.underlying107⟩) (fd := ⟨_, 17, 1, _, _, _, _⟩) (n := 1) rfl (hs := sz17) (Nat.succ_ne_zero _) b o
attribute [push_cast] fa107_1
theorem fa107_2 {K : Value → World → Prop} {w : World} (b o : Nat) : opS Try.prog (S.fa 107 (pt b o) 2) K w = K (pt b (o + 2)) w := opS_fa (T := 107) (hT := ⟨Try.underlying107⟩) (fd := ⟨_, 17, 2, _, _, _, _⟩) (n := 1) rfl (hs := sz17) (Nat.succ_ne_zero _) b o
attribute [push_cast] fa107_2
theorem fa107_3 {K : Value → World → Prop} {w : World} (b o : Nat) : opS Try.prog (S.fa 107 (pt b o) 3) K w = K (pt b (o + 3)) w := opS_fa (T := 107) (hT := ⟨Try.underlying107⟩) (fd := ⟨_, 9, 3, _, _, _, _⟩) (n := 1) rfl (hs := sz9) (Nat.succ_ne_zero _) b o
attribute [push_cast] fa107_3
instance bt107 : BT Try.prog 107 [[.pointer none], [.pointer none], [.pointer none], [.string ⟨#[]⟩]] := BT.ofStruct Try.underlying107 Try.zeroValue107 rfl (fun w => by kernel_rfl)
instance sz108 : Sz Try.prog 108 0 true := ⟨Try.sizeOf108, Try.isAgg108⟩
instance by108 : By Try.prog 108 0 := ⟨_, Try.typeInfo108, rfl⟩
instance zv108 : ZV Try.prog 108 (.agg #[]) := ⟨Try.zeroValue108⟩
instance ar108 : ArT Try.prog 108 0 16 := ⟨Try.underlying108⟩
instance bt108 : BT Try.prog 108 (List.replicate 0 [.pointer none]) := BT.ofArray Try.underlying108 Try.zeroValue108 rfl sz16 rfl
instance sz109 : Sz Try.prog 109 0 true := ⟨Try.sizeOf109, Try.isAgg109⟩
instance by109 : By Try.prog 109 0 := ⟨_, Try.typeInfo109, rfl⟩
instance zv109 : ZV Try.prog 109 (.agg #[]) := ⟨Try.zeroValue109⟩
instance sz110 : Sz Try.prog 110 0 true := ⟨Try.sizeOf110, Try.isAgg110⟩
instance by110 : By Try.prog 110 0 := ⟨_, Try.typeInfo110, rfl⟩
instance zv110 : ZV Try.prog 110 (.agg #[]) := ⟨Try.zeroValue110⟩
instance sz112 : Sz Try.prog 112 1 false := ⟨Try.sizeOf112, Try.isAgg112⟩
instance by112 : By Try.prog 112 1 := ⟨_, Try.typeInfo112, rfl⟩
instance zv112 : ZV Try.prog 112 (.int .u8 0) := ⟨Try.zeroValue112⟩
instance sz113 : Sz Try.prog 113 1 false := ⟨Try.sizeOf113, Try.isAgg113⟩
instance by113 : By Try.prog 113 1 := ⟨_, Try.typeInfo113, rfl⟩
instance zv113 : ZV Try.prog 113 (.int .u8 0) := ⟨Try.zeroValue113⟩
instance sz115 : Sz Try.prog 115 1 false := ⟨Try.sizeOf115, Try.isAgg115⟩
instance by115 : By Try.prog 115 8 := ⟨_, Try.typeInfo115, rfl⟩
instance zv115 : ZV Try.prog 115 (.pointer none) := ⟨Try.zeroValue115⟩
instance sz116 : Sz Try.prog 116 1 false := ⟨Try.sizeOf116, Try.isAgg116⟩
instance by116 : By Try.prog 116 4 := ⟨_, Try.typeInfo116, rfl⟩
instance zv116 : ZV Try.prog 116 (.int .i32 0) := ⟨Try.zeroValue116⟩
instance sz117 : Sz Try.prog 117 1 false := ⟨Try.sizeOf117, Try.isAgg117⟩
instance by117 : By Try.prog 117 4 := ⟨_, Try.typeInfo117, rfl⟩
instance zv117 : ZV Try.prog 117 (.int .i32 0) := ⟨Try.zeroValue117⟩
instance sz118 : Sz Try.prog 118 11 true := ⟨Try.sizeOf118, Try.isAgg118⟩
instance by118 : By Try.prog 118 48 := ⟨_, Try.typeInfo118, rfl⟩
instance zv118 : ZV Try.prog 118 (.agg #[.int .u64 0, .int .u64 0, .int .u32 0, .int .u8 0, .int .u8 0, .int .u8 0, .int .u8 0, .nilFunc, .pointer none, .int .i32 0, .int .i32 0]) := ⟨Try.zeroValue118⟩
instance sz119 : Sz Try.prog 119 11 true := ⟨Try.sizeOf119, Try.isAgg119⟩
instance by119 : By Try.prog 119 48 := ⟨_, Try.typeInfo119, rfl⟩
instance zv119 : ZV Try.prog 119 (.agg #[.int .u64 0, .int .u64 0, .int .u32 0, .int .u8 0, .int .u8 0, .int .u8 0, .int .u8 0, .nilFunc, .pointer none, .int .i32 0, .int .i32 0]) := ⟨Try.zeroValue119⟩
theorem mixed : Try.prog.follows .mixedOrders = true := by kernel_rfl
end Go.Gx.S
