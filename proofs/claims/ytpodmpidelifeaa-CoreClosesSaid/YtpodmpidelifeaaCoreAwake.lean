/-
  The chapter's examples: awake answers true.
-/
import Derived.Test.YtpodmpidelifeaaCoreRef2
import Derived.Test.YtpodmpidelifeaaCoreChain
import Derived.Test.YtpodmpidelifeaaCoreSmall
import Derived.Test.YtpodmpidelifeaaSySp
namespace Go.Proofs.Ytpodmpidelifeaa
open Go.RowKit
set_option maxRecDepth 100000
set_option maxHeartbeats 4000000
theorem judge_as (w : World) (c : Ctl) (s : Seg) (hs : s.dn ≤ 140737488351232) {v : Vd} (e : judgeF c s = v) : Calls Try.prog 10 #[.agg c.cs.toArray, .agg s.cs.toArray] w fun e w' => e = .returned (.agg v.cs.toArray) ∧ Only (fun _ => False) w w' := e ▸ judge_any w c s hs
theorem ts3 : TySc Try.prog 3 (iw 0) := ⟨⟨_, Try.underlying3, rfl⟩, by kernel_rfl, rfl⟩
theorem ts4 : TySc Try.prog 4 (bo false) := ⟨⟨_, Try.underlying4, rfl⟩, by kernel_rfl, rfl⟩
theorem ts22 : TySc Try.prog 22 (uw 0) := ⟨⟨_, Try.underlying22, rfl⟩, by kernel_rfl, rfl⟩
theorem ts25 : TySc Try.prog 25 (Value.slice none 0 0) := ⟨⟨_, Try.underlying25, rfl⟩, by kernel_rfl, rfl⟩
theorem ts26 : TySc Try.prog 26 (Value.slice none 0 0) := ⟨⟨_, Try.underlying26, rfl⟩, by kernel_rfl, rfl⟩
theorem ts31 : TySc Try.prog 31 (iw 0) := ⟨⟨_, Try.underlying31, rfl⟩, by kernel_rfl, rfl⟩
theorem ta24 : TyAg Try.prog 24 [iw 0, uw 0, uw 0, uw 0, bo false, iw 0, uw 0, uw 0, uw 0, uw 0, uw 0] := ⟨⟨_, Try.underlying24, rfl⟩, by kernel_rfl, rfl⟩
theorem ta28 : TyAg Try.prog 28 [iw 0, iw 0, uw 0, uw 0, iw 0, iw 0, iw 0, bo false, Value.slice none 0 0, Value.slice none 0 0] := ⟨⟨_, Try.underlying28, rfl⟩, by kernel_rfl, rfl⟩
theorem ta33 : TyAg Try.prog 33 [iw 0, uw 0, uw 0, uw 0, bo false, iw 0, uw 0, uw 0, uw 0, uw 0, uw 0, iw 0, iw 0, bo false, bo false, iw 0, iw 0, bo false] := ⟨⟨_, Try.underlying33, rfl⟩, by kernel_rfl, rfl⟩
theorem fd24_0 : FldIs Try.prog 24 0 0 := ⟨_, _, Try.underlying24, rfl, rfl, by kernel_rfl⟩
theorem fd24_1 : FldIs Try.prog 24 1 1 := ⟨_, _, Try.underlying24, rfl, rfl, by kernel_rfl⟩
theorem fd24_2 : FldIs Try.prog 24 2 2 := ⟨_, _, Try.underlying24, rfl, rfl, by kernel_rfl⟩
theorem fd24_3 : FldIs Try.prog 24 3 3 := ⟨_, _, Try.underlying24, rfl, rfl, by kernel_rfl⟩
theorem fd24_4 : FldIs Try.prog 24 4 4 := ⟨_, _, Try.underlying24, rfl, rfl, by kernel_rfl⟩
theorem fd24_5 : FldIs Try.prog 24 5 5 := ⟨_, _, Try.underlying24, rfl, rfl, by kernel_rfl⟩
theorem fd24_6 : FldIs Try.prog 24 6 6 := ⟨_, _, Try.underlying24, rfl, rfl, by kernel_rfl⟩
theorem fd24_7 : FldIs Try.prog 24 7 7 := ⟨_, _, Try.underlying24, rfl, rfl, by kernel_rfl⟩
theorem fd24_8 : FldIs Try.prog 24 8 8 := ⟨_, _, Try.underlying24, rfl, rfl, by kernel_rfl⟩
theorem fd24_9 : FldIs Try.prog 24 9 9 := ⟨_, _, Try.underlying24, rfl, rfl, by kernel_rfl⟩
theorem fd24_10 : FldIs Try.prog 24 10 10 := ⟨_, _, Try.underlying24, rfl, rfl, by kernel_rfl⟩
theorem fd28_0 : FldIs Try.prog 28 0 0 := ⟨_, _, Try.underlying28, rfl, rfl, by kernel_rfl⟩
theorem fd28_1 : FldIs Try.prog 28 1 1 := ⟨_, _, Try.underlying28, rfl, rfl, by kernel_rfl⟩
theorem fd28_2 : FldIs Try.prog 28 2 2 := ⟨_, _, Try.underlying28, rfl, rfl, by kernel_rfl⟩
theorem fd28_3 : FldIs Try.prog 28 3 3 := ⟨_, _, Try.underlying28, rfl, rfl, by kernel_rfl⟩
theorem fd28_4 : FldIs Try.prog 28 4 4 := ⟨_, _, Try.underlying28, rfl, rfl, by kernel_rfl⟩
theorem fd28_5 : FldIs Try.prog 28 5 5 := ⟨_, _, Try.underlying28, rfl, rfl, by kernel_rfl⟩
theorem fd28_6 : FldIs Try.prog 28 6 6 := ⟨_, _, Try.underlying28, rfl, rfl, by kernel_rfl⟩
theorem fd28_7 : FldIs Try.prog 28 7 7 := ⟨_, _, Try.underlying28, rfl, rfl, by kernel_rfl⟩
theorem fd28_8 : FldIs Try.prog 28 8 8 := ⟨_, _, Try.underlying28, rfl, rfl, by kernel_rfl⟩
theorem fd28_9 : FldIs Try.prog 28 9 9 := ⟨_, _, Try.underlying28, rfl, rfl, by kernel_rfl⟩
theorem fd33_0 : FldIs Try.prog 33 0 0 := ⟨_, _, Try.underlying33, rfl, rfl, by kernel_rfl⟩
theorem fd33_1 : FldIs Try.prog 33 1 11 := ⟨_, _, Try.underlying33, rfl, rfl, by kernel_rfl⟩
theorem fd33_2 : FldIs Try.prog 33 2 12 := ⟨_, _, Try.underlying33, rfl, rfl, by kernel_rfl⟩
theorem fd33_3 : FldIs Try.prog 33 3 13 := ⟨_, _, Try.underlying33, rfl, rfl, by kernel_rfl⟩
theorem fd33_4 : FldIs Try.prog 33 4 14 := ⟨_, _, Try.underlying33, rfl, rfl, by kernel_rfl⟩
theorem fd33_5 : FldIs Try.prog 33 5 15 := ⟨_, _, Try.underlying33, rfl, rfl, by kernel_rfl⟩
theorem fd33_6 : FldIs Try.prog 33 6 16 := ⟨_, _, Try.underlying33, rfl, rfl, by kernel_rfl⟩
theorem fd33_7 : FldIs Try.prog 33 7 17 := ⟨_, _, Try.underlying33, rfl, rfl, by kernel_rfl⟩
theorem co8 : CallOk Try.prog 8 := ⟨_, Try.func8, rfl, rfl⟩
theorem co9 : CallOk Try.prog 9 := ⟨_, Try.func9, rfl, rfl⟩
theorem co10 : CallOk Try.prog 10 := ⟨_, Try.func10, rfl, rfl⟩
theorem co11 : CallOk Try.prog 11 := ⟨_, Try.func11, rfl, rfl⟩
theorem co12 : CallOk Try.prog 12 := ⟨_, Try.func12, rfl, rfl⟩
theorem co13 : CallOk Try.prog 13 := ⟨_, Try.func13, rfl, rfl⟩
theorem co14 : CallOk Try.prog 14 := ⟨_, Try.func14, rfl, rfl⟩
theorem co15 : CallOk Try.prog 15 := ⟨_, Try.func15, rfl, rfl⟩
theorem co16 : CallOk Try.prog 16 := ⟨_, Try.func16, rfl, rfl⟩
theorem co17 : CallOk Try.prog 17 := ⟨_, Try.func17, rfl, rfl⟩
theorem co18 : CallOk Try.prog 18 := ⟨_, Try.func18, rfl, rfl⟩
theorem co19 : CallOk Try.prog 19 := ⟨_, Try.func19, rfl, rfl⟩
theorem co20 : CallOk Try.prog 20 := ⟨_, Try.func20, rfl, rfl⟩
theorem co21 : CallOk Try.prog 21 := ⟨_, Try.func21, rfl, rfl⟩
def ctlEq (c d : Ctl) : Bool := (c.st == d.st && (c.iss == d.iss && (c.una == d.una && (c.nxt == d.nxt && (c.fs == d.fs && (c.wnd == d.wnd && (c.wl1 == d.wl1 && (c.wl2 == d.wl2 && (c.irs == d.irs && (c.rcv == d.rcv && (c.adv == d.adv && true)))))))))))
theorem stood24 : Try.prog.stoodInHeld 24 = false := by kernel_rfl
theorem fields24 : Try.prog.fieldsOf 24 = Try.prog.fieldsOf 24 := rfl
theorem eq24 (w : World) (c d : Ctl) : (binOp .eql 24 (.agg c.cs.toArray) (.agg d.cs.toArray)).run Try.prog w = .ok (.bool ((ctlEq c d))) w := by
  obtain ⟨n, hn⟩ : ∃ n, (10000 : Nat) = n + 1 + 1 := ⟨9998, rfl⟩
  rw [run_eql_struct, hn, run_equalIn_agg w (n + 1) 24 _ _ (by simp only [Program.fieldsOf, Try.underlying24]) stood24]
  simp [Program.fieldsOf, Try.underlying24, Op.eqFields, part, isAgg, run_underlying, Try.underlying3, Try.underlying4, Try.underlying22, run_equalIn_int _ _ _ _ _ _ _ Try.underlying3, run_equalIn_int _ _ _ _ _ _ _ Try.underlying22, run_equalIn_bool' _ _ _ _ _ Try.underlying4]
  (repeat' split) <;> simp_all [ctlEq]
theorem ne24 (w : World) (c d : Ctl) : (binOp .neq 24 (.agg c.cs.toArray) (.agg d.cs.toArray)).run Try.prog w = .ok (.bool (!(ctlEq c d))) w := by
  obtain ⟨n, hn⟩ : ∃ n, (10000 : Nat) = n + 1 + 1 := ⟨9998, rfl⟩
  rw [run_neq_struct, hn, run_equalIn_agg w (n + 1) 24 _ _ (by simp only [Program.fieldsOf, Try.underlying24]) stood24]
  simp [Program.fieldsOf, Try.underlying24, Op.eqFields, part, isAgg, run_underlying, Try.underlying3, Try.underlying4, Try.underlying22, run_equalIn_int _ _ _ _ _ _ _ Try.underlying3, run_equalIn_int _ _ _ _ _ _ _ Try.underlying22, run_equalIn_bool' _ _ _ _ _ Try.underlying4]
  (repeat' split) <;> simp_all [ctlEq]
theorem awake_any (w : World) : Calls Try.prog 8 #[] w fun e w' => e = .returned (.bool true) ∧ Only (fun _ => False) w w' := by
  refine calls_sc (l0 := []) (args := []) (fun _ => False) Try.func8 rfl 78 Try.ntmps8 (Nat.zero_le _) ⟨⟨by simp, List.Pairwise.nil⟩, Only.refl _ _⟩ ?_
  show SC _ _ _ _ [] []
  refine SC.seq ?_
  refine SC.region ?_
  refine SL.ru rfl rfl (lt_b rfl) (ru_assign rfl rfl) ?_
  refine SL.nil ?_
  refine SC.of_SE ?_
  refine SC.norm [(0, bo false)] [] ⟨rfl, trivial⟩ rfl ?_
  refine SC.seq ?_
  refine SC.region ?_
  refine SL.callv (Value.agg #[iw 1, uw 0, uw 0, uw 1, bo false, iw 0, uw 0, uw 0, uw 0, uw 0, uw 0]) rfl rfl co13 rfl rfl rfl (lt_b rfl) (fun w hI => H_only hI (active_any w 0)) ?_
  refine SL.alloca rfl rfl (lt_b rfl) ta24 rfl fun b1 hb1 => ?_
  refine SL.storea (i := 0) (vs := [iw 1, uw 0, uw 0, uw 1, bo false, iw 0, uw 0, uw 0, uw 0, uw 0, uw 0]) (c' := [iw 1, uw 0, uw 0, uw 1, bo false, iw 0, uw 0, uw 0, uw 0, uw 0, uw 0]) rfl rfl ta24 rfl rfl rfl rfl rfl rfl (le_b rfl) (.inr hb1) rfl ?_
  refine SL.nil ?_
  refine SC.of_SE ?_
  refine SC.norm [(0, bo false), (1, pt b1 0)] [rBlk b1 [iw 1, uw 0, uw 0, uw 1, bo false, iw 0, uw 0, uw 0, uw 0, uw 0, uw 0] 24] ⟨rfl, rfl, trivial⟩ rfl ?_
  refine SC.seq ?_
  refine SC.region ?_
  refine SL.ru rfl rfl (lt_b rfl) (ru_loada (i := 0) (vs := [iw 1, uw 0, uw 0, uw 1, bo false, iw 0, uw 0, uw 0, uw 0, uw 0, uw 0]) ta24 rfl rfl rfl rfl (le_b rfl)) ?_
  refine SL.ru rfl rfl (lt_b rfl) (ru_build (vals := [(2, uw 9), (3, uw 1), (4, iw 18), (5, iw 7)]) (cells := [iw 0, iw 0, uw 9, uw 1, iw 18, iw 7, iw 0, bo false, Value.slice none 0 0, Value.slice none 0 0]) rfl rfl (by kernel_rfl)) ?_
  refine SL.callv (Value.agg #[iw 3, uw 0, uw 1, uw 1, bo false, iw 7, uw 9, uw 1, uw 9, uw 10, uw 10, iw 1, iw 0, bo true, bo false, iw 0, iw 0, bo false]) rfl rfl co10 rfl rfl rfl (lt_b rfl) (fun w hI => H_only hI (judge_as w (⟨1, 0, 0, 1, false, 0, 0, 0, 0, 0, 0⟩ : Ctl) (⟨0, 0, 9, 1, 18, 7, 0, false, none, 0, 0, none, 0, 0⟩ : Seg) (v := (⟨(⟨3, 0, 1, 1, false, 7, 9, 1, 9, 10, 10⟩ : Ctl), 1, 0, true, false, 0, 0, false⟩ : Vd)) (Nat.le_of_ble_eq_true rfl) (by kernel_rfl))) ?_
  refine SL.alloca rfl rfl (lt_b rfl) ta33 rfl fun b2 hb2 => ?_
  refine SL.storea (i := 1) (vs := [iw 3, uw 0, uw 1, uw 1, bo false, iw 7, uw 9, uw 1, uw 9, uw 10, uw 10, iw 1, iw 0, bo true, bo false, iw 0, iw 0, bo false]) (c' := [iw 3, uw 0, uw 1, uw 1, bo false, iw 7, uw 9, uw 1, uw 9, uw 10, uw 10, iw 1, iw 0, bo true, bo false, iw 0, iw 0, bo false]) rfl rfl ta33 rfl rfl rfl rfl rfl rfl (le_b rfl) (.inr hb2) rfl ?_
  refine SL.nil ?_
  refine SC.of_SE ?_
  refine SC.norm [(0, bo false), (1, pt b1 0), (2, pt b2 0)] [rBlk b1 [iw 1, uw 0, uw 0, uw 1, bo false, iw 0, uw 0, uw 0, uw 0, uw 0, uw 0] 24, rBlk b2 [iw 3, uw 0, uw 1, uw 1, bo false, iw 7, uw 9, uw 1, uw 9, uw 10, uw 10, iw 1, iw 0, bo true, bo false, iw 0, iw 0, bo false] 33] ⟨rfl, rfl, rfl, trivial⟩ rfl ?_
  refine SC.seq ?_
  refine SC.region ?_
  refine SL.ru rfl rfl (lt_b rfl) (ru_loada (i := 0) (vs := [iw 1, uw 0, uw 0, uw 1, bo false, iw 0, uw 0, uw 0, uw 0, uw 0, uw 0]) ta24 rfl rfl rfl rfl (le_b rfl)) ?_
  refine SL.ru rfl rfl (lt_b rfl) (ru_build (vals := [(3, uw 5), (4, iw 16)]) (cells := [iw 0, iw 0, uw 0, uw 5, iw 16, iw 0, iw 0, bo false, Value.slice none 0 0, Value.slice none 0 0]) rfl rfl (by kernel_rfl)) ?_
  refine SL.callv (Value.agg #[iw 1, uw 0, uw 0, uw 1, bo false, iw 0, uw 0, uw 0, uw 0, uw 0, uw 0, iw 2, iw 0, bo false, bo false, iw 0, iw 0, bo false]) rfl rfl co10 rfl rfl rfl (lt_b rfl) (fun w hI => H_only hI (judge_as w (⟨1, 0, 0, 1, false, 0, 0, 0, 0, 0, 0⟩ : Ctl) (⟨0, 0, 0, 5, 16, 0, 0, false, none, 0, 0, none, 0, 0⟩ : Seg) (v := (⟨(⟨1, 0, 0, 1, false, 0, 0, 0, 0, 0, 0⟩ : Ctl), 2, 0, false, false, 0, 0, false⟩ : Vd)) (Nat.le_of_ble_eq_true rfl) (by kernel_rfl))) ?_
  refine SL.alloca rfl rfl (lt_b rfl) ta33 rfl fun b3 hb3 => ?_
  refine SL.storea (i := 2) (vs := [iw 1, uw 0, uw 0, uw 1, bo false, iw 0, uw 0, uw 0, uw 0, uw 0, uw 0, iw 2, iw 0, bo false, bo false, iw 0, iw 0, bo false]) (c' := [iw 1, uw 0, uw 0, uw 1, bo false, iw 0, uw 0, uw 0, uw 0, uw 0, uw 0, iw 2, iw 0, bo false, bo false, iw 0, iw 0, bo false]) rfl rfl ta33 rfl rfl rfl rfl rfl rfl (le_b rfl) (.inr hb3) rfl ?_
  refine SL.nil ?_
  refine SC.of_SE ?_
  refine SC.norm [(0, bo false), (1, pt b1 0), (2, pt b2 0), (3, pt b3 0)] [rBlk b1 [iw 1, uw 0, uw 0, uw 1, bo false, iw 0, uw 0, uw 0, uw 0, uw 0, uw 0] 24, rBlk b2 [iw 3, uw 0, uw 1, uw 1, bo false, iw 7, uw 9, uw 1, uw 9, uw 10, uw 10, iw 1, iw 0, bo true, bo false, iw 0, iw 0, bo false] 33, rBlk b3 [iw 1, uw 0, uw 0, uw 1, bo false, iw 0, uw 0, uw 0, uw 0, uw 0, uw 0, iw 2, iw 0, bo false, bo false, iw 0, iw 0, bo false] 33] ⟨rfl, rfl, rfl, rfl, trivial⟩ rfl ?_
  refine SC.seq ?_
  refine SC.region ?_
  refine SL.ru rfl rfl (lt_b rfl) (ru_fieldAddr (o2 := 0) fd33_0 rfl rfl rfl) ?_
  refine SL.ru rfl rfl (lt_b rfl) (ru_loada (i := 1) (vs := [iw 3, uw 0, uw 1, uw 1, bo false, iw 7, uw 9, uw 1, uw 9, uw 10, uw 10]) ta24 rfl rfl rfl rfl (le_b rfl)) ?_
  refine SL.alloca rfl rfl (lt_b rfl) ta24 rfl fun b4 hb4 => ?_
  refine SL.storea (i := 3) (vs := [iw 3, uw 0, uw 1, uw 1, bo false, iw 7, uw 9, uw 1, uw 9, uw 10, uw 10]) (c' := [iw 3, uw 0, uw 1, uw 1, bo false, iw 7, uw 9, uw 1, uw 9, uw 10, uw 10]) rfl rfl ta24 rfl rfl rfl rfl rfl rfl (le_b rfl) (.inr hb4) rfl ?_
  refine SL.nil ?_
  refine SC.of_SE ?_
  refine SC.norm [(0, bo false), (1, pt b1 0), (2, pt b2 0), (3, pt b3 0), (4, pt b4 0)] [rBlk b1 [iw 1, uw 0, uw 0, uw 1, bo false, iw 0, uw 0, uw 0, uw 0, uw 0, uw 0] 24, rBlk b2 [iw 3, uw 0, uw 1, uw 1, bo false, iw 7, uw 9, uw 1, uw 9, uw 10, uw 10, iw 1, iw 0, bo true, bo false, iw 0, iw 0, bo false] 33, rBlk b3 [iw 1, uw 0, uw 0, uw 1, bo false, iw 0, uw 0, uw 0, uw 0, uw 0, uw 0, iw 2, iw 0, bo false, bo false, iw 0, iw 0, bo false] 33, rBlk b4 [iw 3, uw 0, uw 1, uw 1, bo false, iw 7, uw 9, uw 1, uw 9, uw 10, uw 10] 24] ⟨rfl, rfl, rfl, rfl, rfl, trivial⟩ rfl ?_
  refine SC.seq ?_
  refine SC.region ?_
  refine SL.ru rfl rfl (lt_b rfl) (ru_fieldAddr (o2 := 10) fd24_10 rfl rfl rfl) ?_
  refine SL.store (i := 3) (c' := [iw 3, uw 0, uw 1, uw 1, bo false, iw 7, uw 9, uw 1, uw 9, uw 10, uw 20]) rfl rfl ts22 rfl rfl rfl rfl rfl (lt_b rfl) (.inr hb4) rfl ?_
  refine SL.nil ?_
  refine SC.of_SE ?_
  refine SC.norm [(0, bo false), (1, pt b1 0), (2, pt b2 0), (3, pt b3 0), (4, pt b4 0)] [rBlk b1 [iw 1, uw 0, uw 0, uw 1, bo false, iw 0, uw 0, uw 0, uw 0, uw 0, uw 0] 24, rBlk b2 [iw 3, uw 0, uw 1, uw 1, bo false, iw 7, uw 9, uw 1, uw 9, uw 10, uw 10, iw 1, iw 0, bo true, bo false, iw 0, iw 0, bo false] 33, rBlk b3 [iw 1, uw 0, uw 0, uw 1, bo false, iw 0, uw 0, uw 0, uw 0, uw 0, uw 0, iw 2, iw 0, bo false, bo false, iw 0, iw 0, bo false] 33, rBlk b4 [iw 3, uw 0, uw 1, uw 1, bo false, iw 7, uw 9, uw 1, uw 9, uw 10, uw 20] 24] ⟨rfl, rfl, rfl, rfl, rfl, trivial⟩ rfl ?_
  refine SC.seq ?_
  refine SC.region ?_
  refine SL.ru rfl rfl (lt_b rfl) (ru_loada (i := 3) (vs := [iw 3, uw 0, uw 1, uw 1, bo false, iw 7, uw 9, uw 1, uw 9, uw 10, uw 20]) ta24 rfl rfl rfl rfl (le_b rfl)) ?_
  refine SL.buildSlice (size := 1) (vals := [(0, Value.int .u8 97), (1, Value.int .u8 98), (2, Value.int .u8 99), (3, Value.int .u8 100)]) (z := [Value.int .u8 0]) (cs := [Value.int .u8 97, Value.int .u8 98, Value.int .u8 99, Value.int .u8 100]) rfl rfl (lt_b rfl) rfl Try.underlying26 (by kernel_rfl) rfl rfl (by kernel_rfl) fun b5 hb5 => ?_
  refine SL.mark (i := 4) rfl rfl (lt_b rfl) rfl Try.underlying26 Try.underlying5 rfl rfl (.inr hb5) ?_
  refine SL.ru rfl rfl (lt_b rfl) (ru_build (vals := [(2, uw 8), (3, uw 1), (4, iw 16), (9, sl b5 0 4 4)]) (cells := [iw 0, iw 0, uw 8, uw 1, iw 16, iw 0, iw 0, bo false, Value.slice none 0 0, sl b5 0 4 4]) rfl rfl (by kernel_rfl)) ?_
  refine SL.callv (Value.agg #[iw 3, uw 0, uw 1, uw 1, bo false, iw 7, uw 9, uw 1, uw 9, uw 10, uw 20, iw 0, iw 0, bo false, bo false, iw 2, iw 2, bo false]) rfl rfl co10 rfl rfl rfl (lt_b rfl) (fun w hI => H_only hI (judge_as w (⟨3, 0, 1, 1, false, 7, 9, 1, 9, 10, 20⟩ : Ctl) (⟨0, 0, 8, 1, 16, 0, 0, false, none, 0, 0, (some ⟨b5, 0, none⟩), 4, 4⟩ : Seg) (v := (⟨(⟨3, 0, 1, 1, false, 7, 9, 1, 9, 10, 20⟩ : Ctl), 0, 0, false, false, 2, 2, false⟩ : Vd)) (Nat.le_of_ble_eq_true rfl) (by kernel_rfl))) ?_
  refine SL.alloca rfl rfl (lt_b rfl) ta33 rfl fun b6 hb6 => ?_
  refine SL.storea (i := 5) (vs := [iw 3, uw 0, uw 1, uw 1, bo false, iw 7, uw 9, uw 1, uw 9, uw 10, uw 20, iw 0, iw 0, bo false, bo false, iw 2, iw 2, bo false]) (c' := [iw 3, uw 0, uw 1, uw 1, bo false, iw 7, uw 9, uw 1, uw 9, uw 10, uw 20, iw 0, iw 0, bo false, bo false, iw 2, iw 2, bo false]) rfl rfl ta33 rfl rfl rfl rfl rfl rfl (le_b rfl) (.inr hb6) rfl ?_
  refine SL.nil ?_
  refine SC.of_SE ?_
  refine SC.norm [(0, bo false), (1, pt b1 0), (2, pt b2 0), (3, pt b3 0), (4, pt b4 0), (5, pt b6 0)] [rBlk b1 [iw 1, uw 0, uw 0, uw 1, bo false, iw 0, uw 0, uw 0, uw 0, uw 0, uw 0] 24, rBlk b2 [iw 3, uw 0, uw 1, uw 1, bo false, iw 7, uw 9, uw 1, uw 9, uw 10, uw 10, iw 1, iw 0, bo true, bo false, iw 0, iw 0, bo false] 33, rBlk b3 [iw 1, uw 0, uw 0, uw 1, bo false, iw 0, uw 0, uw 0, uw 0, uw 0, uw 0, iw 2, iw 0, bo false, bo false, iw 0, iw 0, bo false] 33, rBlk b4 [iw 3, uw 0, uw 1, uw 1, bo false, iw 7, uw 9, uw 1, uw 9, uw 10, uw 20] 24, rFz b5 [Value.int .u8 97, Value.int .u8 98, Value.int .u8 99, Value.int .u8 100] 5, rBlk b6 [iw 3, uw 0, uw 1, uw 1, bo false, iw 7, uw 9, uw 1, uw 9, uw 10, uw 20, iw 0, iw 0, bo false, bo false, iw 2, iw 2, bo false] 33] ⟨rfl, rfl, rfl, rfl, rfl, rfl, trivial⟩ rfl ?_
  refine SC.seq ?_
  refine SC.region ?_
  refine SL.ru rfl rfl (lt_b rfl) (ru_loada (i := 3) (vs := [iw 3, uw 0, uw 1, uw 1, bo false, iw 7, uw 9, uw 1, uw 9, uw 10, uw 20]) ta24 rfl rfl rfl rfl (le_b rfl)) ?_
  refine SL.ru rfl rfl (lt_b rfl) (ru_build (vals := [(2, uw 12), (4, iw 4)]) (cells := [iw 0, iw 0, uw 12, uw 0, iw 4, iw 0, iw 0, bo false, Value.slice none 0 0, Value.slice none 0 0]) rfl rfl (by kernel_rfl)) ?_
  refine SL.callv (Value.agg #[iw 3, uw 0, uw 1, uw 1, bo false, iw 7, uw 9, uw 1, uw 9, uw 10, uw 20, iw 1, iw 0, bo false, bo false, iw 0, iw 0, bo false]) rfl rfl co10 rfl rfl rfl (lt_b rfl) (fun w hI => H_only hI (judge_as w (⟨3, 0, 1, 1, false, 7, 9, 1, 9, 10, 20⟩ : Ctl) (⟨0, 0, 12, 0, 4, 0, 0, false, none, 0, 0, none, 0, 0⟩ : Seg) (v := (⟨(⟨3, 0, 1, 1, false, 7, 9, 1, 9, 10, 20⟩ : Ctl), 1, 0, false, false, 0, 0, false⟩ : Vd)) (Nat.le_of_ble_eq_true rfl) (by kernel_rfl))) ?_
  refine SL.alloca rfl rfl (lt_b rfl) ta33 rfl fun b7 hb7 => ?_
  refine SL.storea (i := 6) (vs := [iw 3, uw 0, uw 1, uw 1, bo false, iw 7, uw 9, uw 1, uw 9, uw 10, uw 20, iw 1, iw 0, bo false, bo false, iw 0, iw 0, bo false]) (c' := [iw 3, uw 0, uw 1, uw 1, bo false, iw 7, uw 9, uw 1, uw 9, uw 10, uw 20, iw 1, iw 0, bo false, bo false, iw 0, iw 0, bo false]) rfl rfl ta33 rfl rfl rfl rfl rfl rfl (le_b rfl) (.inr hb7) rfl ?_
  refine SL.nil ?_
  refine SC.of_SE ?_
  refine SC.norm [(0, bo false), (1, pt b1 0), (2, pt b2 0), (3, pt b3 0), (4, pt b4 0), (5, pt b6 0), (6, pt b7 0)] [rBlk b1 [iw 1, uw 0, uw 0, uw 1, bo false, iw 0, uw 0, uw 0, uw 0, uw 0, uw 0] 24, rBlk b2 [iw 3, uw 0, uw 1, uw 1, bo false, iw 7, uw 9, uw 1, uw 9, uw 10, uw 10, iw 1, iw 0, bo true, bo false, iw 0, iw 0, bo false] 33, rBlk b3 [iw 1, uw 0, uw 0, uw 1, bo false, iw 0, uw 0, uw 0, uw 0, uw 0, uw 0, iw 2, iw 0, bo false, bo false, iw 0, iw 0, bo false] 33, rBlk b4 [iw 3, uw 0, uw 1, uw 1, bo false, iw 7, uw 9, uw 1, uw 9, uw 10, uw 20] 24, rFz b5 [Value.int .u8 97, Value.int .u8 98, Value.int .u8 99, Value.int .u8 100] 5, rBlk b6 [iw 3, uw 0, uw 1, uw 1, bo false, iw 7, uw 9, uw 1, uw 9, uw 10, uw 20, iw 0, iw 0, bo false, bo false, iw 2, iw 2, bo false] 33, rBlk b7 [iw 3, uw 0, uw 1, uw 1, bo false, iw 7, uw 9, uw 1, uw 9, uw 10, uw 20, iw 1, iw 0, bo false, bo false, iw 0, iw 0, bo false] 33] ⟨rfl, rfl, rfl, rfl, rfl, rfl, rfl, trivial⟩ rfl ?_
  refine SC.seq ?_
  refine SC.region ?_
  refine SL.ru rfl rfl (lt_b rfl) (ru_loada (i := 3) (vs := [iw 3, uw 0, uw 1, uw 1, bo false, iw 7, uw 9, uw 1, uw 9, uw 10, uw 20]) ta24 rfl rfl rfl rfl (le_b rfl)) ?_
  refine SL.ru rfl rfl (lt_b rfl) (ru_build (vals := [(2, uw 10), (4, iw 4)]) (cells := [iw 0, iw 0, uw 10, uw 0, iw 4, iw 0, iw 0, bo false, Value.slice none 0 0, Value.slice none 0 0]) rfl rfl (by kernel_rfl)) ?_
  refine SL.callv (Value.agg #[iw 3, uw 0, uw 1, uw 1, bo false, iw 7, uw 9, uw 1, uw 9, uw 10, uw 20, iw 0, iw 216, bo false, bo false, iw 0, iw 0, bo false]) rfl rfl co10 rfl rfl rfl (lt_b rfl) (fun w hI => H_only hI (judge_as w (⟨3, 0, 1, 1, false, 7, 9, 1, 9, 10, 20⟩ : Ctl) (⟨0, 0, 10, 0, 4, 0, 0, false, none, 0, 0, none, 0, 0⟩ : Seg) (v := (⟨(⟨3, 0, 1, 1, false, 7, 9, 1, 9, 10, 20⟩ : Ctl), 0, 216, false, false, 0, 0, false⟩ : Vd)) (Nat.le_of_ble_eq_true rfl) (by kernel_rfl))) ?_
  refine SL.alloca rfl rfl (lt_b rfl) ta33 rfl fun b8 hb8 => ?_
  refine SL.storea (i := 7) (vs := [iw 3, uw 0, uw 1, uw 1, bo false, iw 7, uw 9, uw 1, uw 9, uw 10, uw 20, iw 0, iw 216, bo false, bo false, iw 0, iw 0, bo false]) (c' := [iw 3, uw 0, uw 1, uw 1, bo false, iw 7, uw 9, uw 1, uw 9, uw 10, uw 20, iw 0, iw 216, bo false, bo false, iw 0, iw 0, bo false]) rfl rfl ta33 rfl rfl rfl rfl rfl rfl (le_b rfl) (.inr hb8) rfl ?_
  refine SL.nil ?_
  refine SC.of_SE ?_
  refine SC.norm [(0, bo false), (1, pt b1 0), (2, pt b2 0), (3, pt b3 0), (5, pt b6 0), (6, pt b7 0), (7, pt b8 0)] [rBlk b1 [iw 1, uw 0, uw 0, uw 1, bo false, iw 0, uw 0, uw 0, uw 0, uw 0, uw 0] 24, rBlk b2 [iw 3, uw 0, uw 1, uw 1, bo false, iw 7, uw 9, uw 1, uw 9, uw 10, uw 10, iw 1, iw 0, bo true, bo false, iw 0, iw 0, bo false] 33, rBlk b3 [iw 1, uw 0, uw 0, uw 1, bo false, iw 0, uw 0, uw 0, uw 0, uw 0, uw 0, iw 2, iw 0, bo false, bo false, iw 0, iw 0, bo false] 33, rBlk b4 [iw 3, uw 0, uw 1, uw 1, bo false, iw 7, uw 9, uw 1, uw 9, uw 10, uw 20] 24, rFz b5 [Value.int .u8 97, Value.int .u8 98, Value.int .u8 99, Value.int .u8 100] 5, rBlk b6 [iw 3, uw 0, uw 1, uw 1, bo false, iw 7, uw 9, uw 1, uw 9, uw 10, uw 20, iw 0, iw 0, bo false, bo false, iw 2, iw 2, bo false] 33, rBlk b7 [iw 3, uw 0, uw 1, uw 1, bo false, iw 7, uw 9, uw 1, uw 9, uw 10, uw 20, iw 1, iw 0, bo false, bo false, iw 0, iw 0, bo false] 33, rBlk b8 [iw 3, uw 0, uw 1, uw 1, bo false, iw 7, uw 9, uw 1, uw 9, uw 10, uw 20, iw 0, iw 216, bo false, bo false, iw 0, iw 0, bo false] 33] ⟨rfl, rfl, rfl, rfl, rfl, rfl, rfl, trivial⟩ rfl ?_
  refine SC.seq ?_
  refine SC.region ?_
  refine SL.ru rfl rfl (lt_b rfl) (ru_fieldAddr (o2 := 3) fd24_3 rfl rfl rfl) ?_
  refine SL.ru rfl rfl (lt_b rfl) (ru_load (i := 0) ts22 rfl rfl rfl rfl) ?_
  refine SL.ru rfl rfl (lt_b rfl) (ru_eq (b := true) rfl rfl rfl rfl) ?_
  refine SL.ru rfl rfl (lt_b rfl) (ru_move rfl rfl) ?_
  refine SL.rug rfl rfl rfl rfl (lt_b rfl) (ru_fieldAddr (o2 := 0) fd33_0 rfl rfl rfl) ?_
  refine SL.rug rfl rfl rfl rfl (lt_b rfl) (ru_fieldAddr (o2 := 0) fd24_0 rfl rfl rfl) ?_
  refine SL.rug rfl rfl rfl rfl (lt_b rfl) (ru_load (i := 1) ts3 rfl rfl rfl rfl) ?_
  refine SL.rug rfl rfl rfl rfl (lt_b rfl) (ru_eq (b := true) rfl rfl rfl rfl) ?_
  refine SL.ru rfl rfl (lt_b rfl) (ru_pick (u := bo true) (v := bo false) rfl rfl rfl rfl) ?_
  refine SL.ru rfl rfl (lt_b rfl) (ru_move rfl rfl) ?_
  refine SL.rug rfl rfl rfl rfl (lt_b rfl) (ru_fieldAddr (o2 := 0) fd33_0 rfl rfl rfl) ?_
  refine SL.rug rfl rfl rfl rfl (lt_b rfl) (ru_fieldAddr (o2 := 9) fd24_9 rfl rfl rfl) ?_
  refine SL.rug rfl rfl rfl rfl (lt_b rfl) (ru_load (i := 1) ts22 rfl rfl rfl rfl) ?_
  refine SL.rug rfl rfl rfl rfl (lt_b rfl) (ru_eq (b := true) rfl rfl rfl rfl) ?_
  refine SL.ru rfl rfl (lt_b rfl) (ru_pick (u := bo true) (v := bo false) rfl rfl rfl rfl) ?_
  refine SL.ru rfl rfl (lt_b rfl) (ru_move rfl rfl) ?_
  refine SL.rug rfl rfl rfl rfl (lt_b rfl) (ru_fieldAddr (o2 := 11) fd33_1 rfl rfl rfl) ?_
  refine SL.rug rfl rfl rfl rfl (lt_b rfl) (ru_load (i := 1) ts3 rfl rfl rfl rfl) ?_
  refine SL.rug rfl rfl rfl rfl (lt_b rfl) (ru_eq (b := true) rfl rfl rfl rfl) ?_
  refine SL.ru rfl rfl (lt_b rfl) (ru_pick (u := bo true) (v := bo false) rfl rfl rfl rfl) ?_
  refine SL.ru rfl rfl (lt_b rfl) (ru_move rfl rfl) ?_
  refine SL.rug rfl rfl rfl rfl (lt_b rfl) (ru_fieldAddr (o2 := 13) fd33_3 rfl rfl rfl) ?_
  refine SL.rug rfl rfl rfl rfl (lt_b rfl) (ru_load (i := 1) ts4 rfl rfl rfl rfl) ?_
  refine SL.ru rfl rfl (lt_b rfl) (ru_pick (u := bo true) (v := bo false) rfl rfl rfl rfl) ?_
  refine SL.ru rfl rfl (lt_b rfl) (ru_move rfl rfl) ?_
  refine SL.rug rfl rfl rfl rfl (lt_b rfl) (ru_fieldAddr (o2 := 11) fd33_1 rfl rfl rfl) ?_
  refine SL.rug rfl rfl rfl rfl (lt_b rfl) (ru_load (i := 2) ts3 rfl rfl rfl rfl) ?_
  refine SL.rug rfl rfl rfl rfl (lt_b rfl) (ru_eq (b := true) rfl rfl rfl rfl) ?_
  refine SL.ru rfl rfl (lt_b rfl) (ru_pick (u := bo true) (v := bo false) rfl rfl rfl rfl) ?_
  refine SL.ru rfl rfl (lt_b rfl) (ru_move rfl rfl) ?_
  refine SL.rug rfl rfl rfl rfl (lt_b rfl) (ru_fieldAddr (o2 := 15) fd33_5 rfl rfl rfl) ?_
  refine SL.rug rfl rfl rfl rfl (lt_b rfl) (ru_load (i := 5) ts3 rfl rfl rfl rfl) ?_
  refine SL.rug rfl rfl rfl rfl (lt_b rfl) (ru_eq (b := true) rfl rfl rfl rfl) ?_
  refine SL.ru rfl rfl (lt_b rfl) (ru_pick (u := bo true) (v := bo false) rfl rfl rfl rfl) ?_
  refine SL.ru rfl rfl (lt_b rfl) (ru_move rfl rfl) ?_
  refine SL.rug rfl rfl rfl rfl (lt_b rfl) (ru_fieldAddr (o2 := 16) fd33_6 rfl rfl rfl) ?_
  refine SL.rug rfl rfl rfl rfl (lt_b rfl) (ru_load (i := 5) ts3 rfl rfl rfl rfl) ?_
  refine SL.rug rfl rfl rfl rfl (lt_b rfl) (ru_eq (b := true) rfl rfl rfl rfl) ?_
  refine SL.ru rfl rfl (lt_b rfl) (ru_pick (u := bo true) (v := bo false) rfl rfl rfl rfl) ?_
  refine SL.ru rfl rfl (lt_b rfl) (ru_move rfl rfl) ?_
  refine SL.rug rfl rfl rfl rfl (lt_b rfl) (ru_fieldAddr (o2 := 11) fd33_1 rfl rfl rfl) ?_
  refine SL.rug rfl rfl rfl rfl (lt_b rfl) (ru_load (i := 6) ts3 rfl rfl rfl rfl) ?_
  refine SL.rug rfl rfl rfl rfl (lt_b rfl) (ru_eq (b := true) rfl rfl rfl rfl) ?_
  refine SL.ru rfl rfl (lt_b rfl) (ru_pick (u := bo true) (v := bo false) rfl rfl rfl rfl) ?_
  refine SL.ru rfl rfl (lt_b rfl) (ru_move rfl rfl) ?_
  refine SL.rug rfl rfl rfl rfl (lt_b rfl) (ru_fieldAddr (o2 := 12) fd33_2 rfl rfl rfl) ?_
  refine SL.rug rfl rfl rfl rfl (lt_b rfl) (ru_load (i := 7) ts31 rfl rfl rfl rfl) ?_
  refine SL.rug rfl rfl rfl rfl (lt_b rfl) (ru_eq (b := true) rfl rfl rfl rfl) ?_
  refine SL.ru rfl rfl (lt_b rfl) (ru_pick (u := bo true) (v := bo false) rfl rfl rfl rfl) ?_
  refine SL.ru rfl rfl (lt_b rfl) (ru_assign rfl rfl) ?_
  refine SL.nil ?_
  refine SC.of_SE ?_
  refine SC.norm [(0, bo true)] [rBlk b1 [iw 1, uw 0, uw 0, uw 1, bo false, iw 0, uw 0, uw 0, uw 0, uw 0, uw 0] 24, rBlk b2 [iw 3, uw 0, uw 1, uw 1, bo false, iw 7, uw 9, uw 1, uw 9, uw 10, uw 10, iw 1, iw 0, bo true, bo false, iw 0, iw 0, bo false] 33, rBlk b3 [iw 1, uw 0, uw 0, uw 1, bo false, iw 0, uw 0, uw 0, uw 0, uw 0, uw 0, iw 2, iw 0, bo false, bo false, iw 0, iw 0, bo false] 33, rBlk b4 [iw 3, uw 0, uw 1, uw 1, bo false, iw 7, uw 9, uw 1, uw 9, uw 10, uw 20] 24, rFz b5 [Value.int .u8 97, Value.int .u8 98, Value.int .u8 99, Value.int .u8 100] 5, rBlk b6 [iw 3, uw 0, uw 1, uw 1, bo false, iw 7, uw 9, uw 1, uw 9, uw 10, uw 20, iw 0, iw 0, bo false, bo false, iw 2, iw 2, bo false] 33, rBlk b7 [iw 3, uw 0, uw 1, uw 1, bo false, iw 7, uw 9, uw 1, uw 9, uw 10, uw 20, iw 1, iw 0, bo false, bo false, iw 0, iw 0, bo false] 33, rBlk b8 [iw 3, uw 0, uw 1, uw 1, bo false, iw 7, uw 9, uw 1, uw 9, uw 10, uw 20, iw 0, iw 216, bo false, bo false, iw 0, iw 0, bo false] 33] ⟨rfl, trivial⟩ rfl ?_
  refine SC.ret ?_
  exact SE.res (.inl rfl) (res1 Try.results8 rfl) fun w hI => ⟨rfl, hI.2⟩
end Go.Proofs.Ytpodmpidelifeaa
