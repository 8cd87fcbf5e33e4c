/-
  CoreBegins, walked.
-/
import Derived.Test.YtpodmpidelifeaaCoreOk
namespace Go.Proofs.Ytpodmpidelifeaa
open Go.RowKit
set_option maxRecDepth 100000
set_option maxHeartbeats 4000000
theorem rpas_yes {s : Seg} (w : World) (now : Int) (h : asks s = true) : Calls Try.prog 15 #[.agg s.cs.toArray, .int .i64 now] w fun e w' => e = .returned (.tuple #[.agg (passF s now).cs.toArray, .int .i64 0]) ∧ Only (fun _ => False) w w' := by
  have := rpassive_any w s now
  rw [h] at this
  exact this
theorem rpas_no {s : Seg} (w : World) (now : Int) (h : asks s = false) : Calls Try.prog 15 #[.agg s.cs.toArray, .int .i64 now] w fun e w' => e = .returned (.tuple #[.agg zc.cs.toArray, .int .i64 1]) ∧ Only (fun _ => False) w w' := by
  have := rpassive_any w s now
  rw [h] at this
  exact this
theorem ctlEq_self (c : Ctl) : ctlEq c c = true := by simp [ctlEq]
theorem eq24s (w : World) (c : Ctl) : (binOp .eql 24 (.agg c.cs.toArray) (.agg c.cs.toArray)).run Try.prog w = .ok (.bool true) w := by
  have := eq24 w c c
  rw [ctlEq_self] at this
  exact this
theorem CoreBegins_walk (w : World) {v0 v1 : Value} {c : Ctl} (hc : v0 = .agg c.cs.toArray ∧ CtlOk c) {s : Seg} (hs : v1 = .agg s.cs.toArray ∧ SegOk s) (now : Int) :
    Calls Try.prog 6 #[v0, v1, .int .i64 now] w fun e w' => e = .returned (.bool true) ∧ Only (fun _ => False) w w' := by
  obtain ⟨rfl, hc⟩ := hc
  obtain ⟨rfl, hs⟩ := hs
  rcases tf (asks s) with ha | ha
  · refine calls_sc (l0 := []) (args := [Value.agg #[iw c.st, uw c.iss, uw c.una, uw c.nxt, bo c.fs, iw c.wnd, uw c.wl1, uw c.wl2, uw c.irs, uw c.rcv, uw c.adv], Value.agg #[iw s.fr, iw s.to, uw s.sq, uw s.ak, iw s.fl, iw s.wnd, iw s.mss, bo s.sacks, Value.slice s.ga s.gn s.gc, Value.slice s.da s.dn s.dc], iw now]) (fun _ => False) Try.func6 rfl 74 Try.ntmps6 (le_b rfl) ⟨⟨by simp, List.Pairwise.nil⟩, Only.refl _ _⟩ ?_
    show SC _ _ _ _ [(0, Value.agg #[iw c.st, uw c.iss, uw c.una, uw c.nxt, bo c.fs, iw c.wnd, uw c.wl1, uw c.wl2, uw c.irs, uw c.rcv, uw c.adv]), (1, Value.agg #[iw s.fr, iw s.to, uw s.sq, uw s.ak, iw s.fl, iw s.wnd, iw s.mss, bo s.sacks, Value.slice s.ga s.gn s.gc, Value.slice s.da s.dn s.dc]), (2, iw now)] []
    refine SC.seq ?_
    refine SC.region ?_
    refine SL.box (c := [iw c.st, uw c.iss, uw c.una, uw c.nxt, bo c.fs, iw c.wnd, uw c.wl1, uw c.wl2, uw c.irs, uw c.rcv, uw c.adv]) rfl rfl (lt_b rfl) rfl rfl rfl fun b1 hb1 => ?_
    refine SL.box (c := [iw s.fr, iw s.to, uw s.sq, uw s.ak, iw s.fl, iw s.wnd, iw s.mss, bo s.sacks, Value.slice s.ga s.gn s.gc, Value.slice s.da s.dn s.dc]) rfl rfl (lt_b rfl) rfl rfl rfl fun b2 hb2 => ?_
    refine SL.ru rfl rfl (lt_b rfl) (ru_assign rfl rfl) ?_
    refine SL.nil ?_
    refine SC.of_SE ?_
    refine SC.norm [(2, iw now), (3, pt b1 0), (4, pt b2 0), (6, bo false)] [rBlk b1 [iw c.st, uw c.iss, uw c.una, uw c.nxt, bo c.fs, iw c.wnd, uw c.wl1, uw c.wl2, uw c.irs, uw c.rcv, uw c.adv] 24, rBlk b2 [iw s.fr, iw s.to, uw s.sq, uw s.ak, iw s.fl, iw s.wnd, iw s.mss, bo s.sacks, Value.slice s.ga s.gn s.gc, Value.slice s.da s.dn s.dc] 28] ⟨rfl, rfl, rfl, rfl, trivial⟩ rfl ?_
    refine SC.seq ?_
    refine SC.region ?_
    refine SL.callv (bo true) rfl rfl co8 rfl rfl rfl (lt_b rfl) (fun w hI => H_only hI (awake_any w)) ?_
    refine SL.ru rfl rfl (lt_b rfl) (ru_assign rfl rfl) ?_
    refine SL.nil ?_
    refine SC.of_SE ?_
    refine SC.norm [(2, iw now), (3, pt b1 0), (4, pt b2 0), (6, bo false), (7, bo true)] [rBlk b1 [iw c.st, uw c.iss, uw c.una, uw c.nxt, bo c.fs, iw c.wnd, uw c.wl1, uw c.wl2, uw c.irs, uw c.rcv, uw c.adv] 24, rBlk b2 [iw s.fr, iw s.to, uw s.sq, uw s.ak, iw s.fl, iw s.wnd, iw s.mss, bo s.sacks, Value.slice s.ga s.gn s.gc, Value.slice s.da s.dn s.dc] 28] ⟨rfl, rfl, rfl, rfl, rfl, trivial⟩ rfl ?_
    refine SC.seq ?_
    refine SC.region ?_
    refine SL.ru rfl rfl (lt_b rfl) (ru_loada (i := 1) (vs := [iw s.fr, iw s.to, uw s.sq, uw s.ak, iw s.fl, iw s.wnd, iw s.mss, bo s.sacks, Value.slice s.ga s.gn s.gc, Value.slice s.da s.dn s.dc]) ta28 rfl rfl rfl rfl (le_b rfl)) ?_
    refine SL.ru rfl rfl (lt_b rfl) (ru_move rfl rfl) ?_
    refine SL.callv (Value.tuple #[Value.agg #[iw 2, uw (ft now), uw (ft now), uw (((ft now) + 1) % 4294967296), bo false, iw s.wnd, uw s.sq, uw (ft now), uw s.sq, uw ((s.sq + 1) % 4294967296), uw ((s.sq + 1) % 4294967296)], iw 0]) rfl rfl co14 rfl rfl rfl (lt_b rfl) (fun w hI => H_only hI (passive_yes w now ha)) ?_
    refine SL.ru rfl rfl (lt_b rfl) (ru_move rfl rfl) ?_
    refine SL.ru rfl rfl (lt_b rfl) (ru_extract rfl rfl rfl) ?_
    refine SL.ru rfl rfl (lt_b rfl) (ru_extract rfl rfl rfl) ?_
    refine SL.alloca rfl rfl (lt_b rfl) ta24 rfl fun b3 hb3 => ?_
    refine SL.storea (i := 2) (vs := [iw 2, uw (ft now), uw (ft now), uw (((ft now) + 1) % 4294967296), bo false, iw s.wnd, uw s.sq, uw (ft now), uw s.sq, uw ((s.sq + 1) % 4294967296), uw ((s.sq + 1) % 4294967296)]) (c' := [iw 2, uw (ft now), uw (ft now), uw (((ft now) + 1) % 4294967296), bo false, iw s.wnd, uw s.sq, uw (ft now), uw s.sq, uw ((s.sq + 1) % 4294967296), uw ((s.sq + 1) % 4294967296)]) rfl rfl ta24 rfl rfl rfl rfl rfl rfl (le_b rfl) (.inr hb3) rfl ?_
    refine SL.ru rfl rfl (lt_b rfl) (ru_assign rfl rfl) ?_
    refine SL.nil ?_
    refine SC.of_SE ?_
    refine SC.norm [(2, iw now), (3, pt b1 0), (4, pt b2 0), (6, bo false), (7, bo true), (8, pt b3 0), (9, iw 0)] [rBlk b1 [iw c.st, uw c.iss, uw c.una, uw c.nxt, bo c.fs, iw c.wnd, uw c.wl1, uw c.wl2, uw c.irs, uw c.rcv, uw c.adv] 24, rBlk b2 [iw s.fr, iw s.to, uw s.sq, uw s.ak, iw s.fl, iw s.wnd, iw s.mss, bo s.sacks, Value.slice s.ga s.gn s.gc, Value.slice s.da s.dn s.dc] 28, rBlk b3 [iw 2, uw (ft now), uw (ft now), uw (((ft now) + 1) % 4294967296), bo false, iw s.wnd, uw s.sq, uw (ft now), uw s.sq, uw ((s.sq + 1) % 4294967296), uw ((s.sq + 1) % 4294967296)] 24] ⟨rfl, rfl, rfl, rfl, rfl, rfl, rfl, trivial⟩ rfl ?_
    refine SC.seq ?_
    refine SC.region ?_
    refine SL.ru rfl rfl (lt_b rfl) (ru_loada (i := 1) (vs := [iw s.fr, iw s.to, uw s.sq, uw s.ak, iw s.fl, iw s.wnd, iw s.mss, bo s.sacks, Value.slice s.ga s.gn s.gc, Value.slice s.da s.dn s.dc]) ta28 rfl rfl rfl rfl (le_b rfl)) ?_
    refine SL.ru rfl rfl (lt_b rfl) (ru_move rfl rfl) ?_
    refine SL.callv (Value.tuple #[Value.agg #[iw 2, uw (ft now), uw (ft now), uw (((ft now) + 1) % 4294967296), bo false, iw s.wnd, uw s.sq, uw (ft now), uw s.sq, uw ((s.sq + 1) % 4294967296), uw ((s.sq + 1) % 4294967296)], iw 0]) rfl rfl co15 rfl rfl rfl (lt_b rfl) (fun w hI => H_only hI (rpas_yes w now ha)) ?_
    refine SL.ru rfl rfl (lt_b rfl) (ru_move rfl rfl) ?_
    refine SL.ru rfl rfl (lt_b rfl) (ru_extract rfl rfl rfl) ?_
    refine SL.ru rfl rfl (lt_b rfl) (ru_extract rfl rfl rfl) ?_
    refine SL.alloca rfl rfl (lt_b rfl) ta24 rfl fun b4 hb4 => ?_
    refine SL.storea (i := 3) (vs := [iw 2, uw (ft now), uw (ft now), uw (((ft now) + 1) % 4294967296), bo false, iw s.wnd, uw s.sq, uw (ft now), uw s.sq, uw ((s.sq + 1) % 4294967296), uw ((s.sq + 1) % 4294967296)]) (c' := [iw 2, uw (ft now), uw (ft now), uw (((ft now) + 1) % 4294967296), bo false, iw s.wnd, uw s.sq, uw (ft now), uw s.sq, uw ((s.sq + 1) % 4294967296), uw ((s.sq + 1) % 4294967296)]) rfl rfl ta24 rfl rfl rfl rfl rfl rfl (le_b rfl) (.inr hb4) rfl ?_
    refine SL.ru rfl rfl (lt_b rfl) (ru_assign rfl rfl) ?_
    refine SL.nil ?_
    refine SC.of_SE ?_
    refine SC.norm [(2, iw now), (3, pt b1 0), (6, bo false), (7, bo true), (8, pt b3 0), (9, iw 0), (10, pt b4 0), (11, iw 0)] [rBlk b1 [iw c.st, uw c.iss, uw c.una, uw c.nxt, bo c.fs, iw c.wnd, uw c.wl1, uw c.wl2, uw c.irs, uw c.rcv, uw c.adv] 24, rBlk b2 [iw s.fr, iw s.to, uw s.sq, uw s.ak, iw s.fl, iw s.wnd, iw s.mss, bo s.sacks, Value.slice s.ga s.gn s.gc, Value.slice s.da s.dn s.dc] 28, rBlk b3 [iw 2, uw (ft now), uw (ft now), uw (((ft now) + 1) % 4294967296), bo false, iw s.wnd, uw s.sq, uw (ft now), uw s.sq, uw ((s.sq + 1) % 4294967296), uw ((s.sq + 1) % 4294967296)] 24, rBlk b4 [iw 2, uw (ft now), uw (ft now), uw (((ft now) + 1) % 4294967296), bo false, iw s.wnd, uw s.sq, uw (ft now), uw s.sq, uw ((s.sq + 1) % 4294967296), uw ((s.sq + 1) % 4294967296)] 24] ⟨rfl, rfl, rfl, rfl, rfl, rfl, rfl, rfl, trivial⟩ rfl ?_
    refine SC.seq ?_
    refine SC.region ?_
    refine SL.ru rfl rfl (lt_b rfl) (ru_loada (i := 0) (vs := [iw c.st, uw c.iss, uw c.una, uw c.nxt, bo c.fs, iw c.wnd, uw c.wl1, uw c.wl2, uw c.irs, uw c.rcv, uw c.adv]) ta24 rfl rfl rfl rfl (le_b rfl)) ?_
    refine SL.callv (Value.tuple #[Value.agg #[iw ((shutF c).1.st), uw ((shutF c).1.iss), uw ((shutF c).1.una), uw ((shutF c).1.nxt), bo ((shutF c).1.fs), iw ((shutF c).1.wnd), uw ((shutF c).1.wl1), uw ((shutF c).1.wl2), uw ((shutF c).1.irs), uw ((shutF c).1.rcv), uw ((shutF c).1.adv)], iw ((shutF c).2)]) rfl rfl co16 rfl rfl rfl (lt_b rfl) (fun w hI => H_only hI (shut_any w c)) ?_
    refine SL.ru rfl rfl (lt_b rfl) (ru_move rfl rfl) ?_
    refine SL.ru rfl rfl (lt_b rfl) (ru_extract rfl rfl rfl) ?_
    refine SL.ru rfl rfl (lt_b rfl) (ru_extract rfl rfl rfl) ?_
    refine SL.alloca rfl rfl (lt_b rfl) ta24 rfl fun b5 hb5 => ?_
    refine SL.storea (i := 4) (vs := [iw ((shutF c).1.st), uw ((shutF c).1.iss), uw ((shutF c).1.una), uw ((shutF c).1.nxt), bo ((shutF c).1.fs), iw ((shutF c).1.wnd), uw ((shutF c).1.wl1), uw ((shutF c).1.wl2), uw ((shutF c).1.irs), uw ((shutF c).1.rcv), uw ((shutF c).1.adv)]) (c' := [iw ((shutF c).1.st), uw ((shutF c).1.iss), uw ((shutF c).1.una), uw ((shutF c).1.nxt), bo ((shutF c).1.fs), iw ((shutF c).1.wnd), uw ((shutF c).1.wl1), uw ((shutF c).1.wl2), uw ((shutF c).1.irs), uw ((shutF c).1.rcv), uw ((shutF c).1.adv)]) rfl rfl ta24 rfl rfl rfl rfl rfl rfl (le_b rfl) (.inr hb5) rfl ?_
    refine SL.ru rfl rfl (lt_b rfl) (ru_assign rfl rfl) ?_
    refine SL.nil ?_
    refine SC.of_SE ?_
    refine SC.norm [(2, iw now), (3, pt b1 0), (6, bo false), (7, bo true), (8, pt b3 0), (9, iw 0), (10, pt b4 0), (11, iw 0), (12, pt b5 0), (13, iw ((shutF c).2))] [rBlk b1 [iw c.st, uw c.iss, uw c.una, uw c.nxt, bo c.fs, iw c.wnd, uw c.wl1, uw c.wl2, uw c.irs, uw c.rcv, uw c.adv] 24, rBlk b2 [iw s.fr, iw s.to, uw s.sq, uw s.ak, iw s.fl, iw s.wnd, iw s.mss, bo s.sacks, Value.slice s.ga s.gn s.gc, Value.slice s.da s.dn s.dc] 28, rBlk b3 [iw 2, uw (ft now), uw (ft now), uw (((ft now) + 1) % 4294967296), bo false, iw s.wnd, uw s.sq, uw (ft now), uw s.sq, uw ((s.sq + 1) % 4294967296), uw ((s.sq + 1) % 4294967296)] 24, rBlk b4 [iw 2, uw (ft now), uw (ft now), uw (((ft now) + 1) % 4294967296), bo false, iw s.wnd, uw s.sq, uw (ft now), uw s.sq, uw ((s.sq + 1) % 4294967296), uw ((s.sq + 1) % 4294967296)] 24, rBlk b5 [iw ((shutF c).1.st), uw ((shutF c).1.iss), uw ((shutF c).1.una), uw ((shutF c).1.nxt), bo ((shutF c).1.fs), iw ((shutF c).1.wnd), uw ((shutF c).1.wl1), uw ((shutF c).1.wl2), uw ((shutF c).1.irs), uw ((shutF c).1.rcv), uw ((shutF c).1.adv)] 24] ⟨rfl, rfl, rfl, rfl, rfl, rfl, rfl, rfl, rfl, rfl, trivial⟩ rfl ?_
    refine SC.seq ?_
    refine SC.region ?_
    refine SL.ru rfl rfl (lt_b rfl) (ru_loada (i := 0) (vs := [iw c.st, uw c.iss, uw c.una, uw c.nxt, bo c.fs, iw c.wnd, uw c.wl1, uw c.wl2, uw c.irs, uw c.rcv, uw c.adv]) ta24 rfl rfl rfl rfl (le_b rfl)) ?_
    refine SL.callv (Value.tuple #[Value.agg #[iw ((shutF c).1.st), uw ((shutF c).1.iss), uw ((shutF c).1.una), uw ((shutF c).1.nxt), bo ((shutF c).1.fs), iw ((shutF c).1.wnd), uw ((shutF c).1.wl1), uw ((shutF c).1.wl2), uw ((shutF c).1.irs), uw ((shutF c).1.rcv), uw ((shutF c).1.adv)], iw ((shutF c).2)]) rfl rfl co17 rfl rfl rfl (lt_b rfl) (fun w hI => H_only hI (rshut_any w c)) ?_
    refine SL.ru rfl rfl (lt_b rfl) (ru_move rfl rfl) ?_
    refine SL.ru rfl rfl (lt_b rfl) (ru_extract rfl rfl rfl) ?_
    refine SL.ru rfl rfl (lt_b rfl) (ru_extract rfl rfl rfl) ?_
    refine SL.alloca rfl rfl (lt_b rfl) ta24 rfl fun b6 hb6 => ?_
    refine SL.storea (i := 5) (vs := [iw ((shutF c).1.st), uw ((shutF c).1.iss), uw ((shutF c).1.una), uw ((shutF c).1.nxt), bo ((shutF c).1.fs), iw ((shutF c).1.wnd), uw ((shutF c).1.wl1), uw ((shutF c).1.wl2), uw ((shutF c).1.irs), uw ((shutF c).1.rcv), uw ((shutF c).1.adv)]) (c' := [iw ((shutF c).1.st), uw ((shutF c).1.iss), uw ((shutF c).1.una), uw ((shutF c).1.nxt), bo ((shutF c).1.fs), iw ((shutF c).1.wnd), uw ((shutF c).1.wl1), uw ((shutF c).1.wl2), uw ((shutF c).1.irs), uw ((shutF c).1.rcv), uw ((shutF c).1.adv)]) rfl rfl ta24 rfl rfl rfl rfl rfl rfl (le_b rfl) (.inr hb6) rfl ?_
    refine SL.ru rfl rfl (lt_b rfl) (ru_assign rfl rfl) ?_
    refine SL.nil ?_
    refine SC.of_SE ?_
    refine SC.norm [(2, iw now), (3, pt b1 0), (6, bo false), (7, bo true), (8, pt b3 0), (9, iw 0), (10, pt b4 0), (11, iw 0), (12, pt b5 0), (13, iw ((shutF c).2)), (14, pt b6 0), (15, iw ((shutF c).2))] [rBlk b1 [iw c.st, uw c.iss, uw c.una, uw c.nxt, bo c.fs, iw c.wnd, uw c.wl1, uw c.wl2, uw c.irs, uw c.rcv, uw c.adv] 24, rBlk b2 [iw s.fr, iw s.to, uw s.sq, uw s.ak, iw s.fl, iw s.wnd, iw s.mss, bo s.sacks, Value.slice s.ga s.gn s.gc, Value.slice s.da s.dn s.dc] 28, rBlk b3 [iw 2, uw (ft now), uw (ft now), uw (((ft now) + 1) % 4294967296), bo false, iw s.wnd, uw s.sq, uw (ft now), uw s.sq, uw ((s.sq + 1) % 4294967296), uw ((s.sq + 1) % 4294967296)] 24, rBlk b4 [iw 2, uw (ft now), uw (ft now), uw (((ft now) + 1) % 4294967296), bo false, iw s.wnd, uw s.sq, uw (ft now), uw s.sq, uw ((s.sq + 1) % 4294967296), uw ((s.sq + 1) % 4294967296)] 24, rBlk b5 [iw ((shutF c).1.st), uw ((shutF c).1.iss), uw ((shutF c).1.una), uw ((shutF c).1.nxt), bo ((shutF c).1.fs), iw ((shutF c).1.wnd), uw ((shutF c).1.wl1), uw ((shutF c).1.wl2), uw ((shutF c).1.irs), uw ((shutF c).1.rcv), uw ((shutF c).1.adv)] 24, rBlk b6 [iw ((shutF c).1.st), uw ((shutF c).1.iss), uw ((shutF c).1.una), uw ((shutF c).1.nxt), bo ((shutF c).1.fs), iw ((shutF c).1.wnd), uw ((shutF c).1.wl1), uw ((shutF c).1.wl2), uw ((shutF c).1.irs), uw ((shutF c).1.rcv), uw ((shutF c).1.adv)] 24] ⟨rfl, rfl, rfl, rfl, rfl, rfl, rfl, rfl, rfl, rfl, rfl, rfl, trivial⟩ rfl ?_
    refine SC.seq ?_
    refine SC.region_quiet (by kernel_rfl) (by kernel_rfl) ?_
    refine SQ.ru rfl rfl (lt_b rfl) (ru_move rfl rfl) ?_
    refine SQ.ru rfl rfl (lt_b rfl) (ru_move rfl rfl) ?_
    refine SQ.rug rfl rfl rfl rfl (lt_b rfl) (ru_move rfl rfl) ?_
    refine SQ.callg (Value.agg #[iw 1, uw (ft now), uw (ft now), uw (((ft now) + 1) % 4294967296), bo false, iw 0, uw 0, uw 0, uw 0, uw 0, uw 0]) rfl rfl rfl rfl co13 rfl rfl rfl (lt_b rfl) (fun w hI => H_only hI (active_any w now)) ?_
    refine SQ.rug rfl rfl rfl rfl (lt_b rfl) (ru_move rfl rfl) ?_
    refine SQ.callg (Value.agg #[iw 1, uw (ft now), uw (ft now), uw (((ft now) + 1) % 4294967296), bo false, iw 0, uw 0, uw 0, uw 0, uw 0, uw 0]) rfl rfl rfl rfl co18 rfl rfl rfl (lt_b rfl) (fun w hI => H_only hI (ractive_any w now)) ?_
    refine SQ.rug rfl rfl rfl rfl (lt_b rfl) (ru_binv rfl rfl rfl (fun w => run_eqGuard_agg w _ _ _ _ _ _ (by kernel_rfl)) (fun w _ => eq24s w (⟨1, ft now, ft now, ((ft now) + 1) % 4294967296, false, 0, 0, 0, 0, 0, 0⟩ : Ctl))) ?_
    refine SQ.ru rfl rfl (lt_b rfl) (ru_pick (u := bo true) (v := bo false) rfl rfl rfl rfl) ?_
    refine SQ.ru rfl rfl (lt_b rfl) (ru_move rfl rfl) ?_
    refine SQ.rug rfl rfl rfl rfl (lt_b rfl) (ru_loada (i := 2) (vs := [iw 2, uw (ft now), uw (ft now), uw (((ft now) + 1) % 4294967296), bo false, iw s.wnd, uw s.sq, uw (ft now), uw s.sq, uw ((s.sq + 1) % 4294967296), uw ((s.sq + 1) % 4294967296)]) ta24 rfl rfl rfl rfl (le_b rfl)) ?_
    refine SQ.rug rfl rfl rfl rfl (lt_b rfl) (ru_loada (i := 3) (vs := [iw 2, uw (ft now), uw (ft now), uw (((ft now) + 1) % 4294967296), bo false, iw s.wnd, uw s.sq, uw (ft now), uw s.sq, uw ((s.sq + 1) % 4294967296), uw ((s.sq + 1) % 4294967296)]) ta24 rfl rfl rfl rfl (le_b rfl)) ?_
    refine SQ.rug rfl rfl rfl rfl (lt_b rfl) (ru_binv rfl rfl rfl (fun w => run_eqGuard_agg w _ _ _ _ _ _ (by kernel_rfl)) (fun w _ => eq24s w (⟨2, ft now, ft now, ((ft now) + 1) % 4294967296, false, s.wnd, s.sq, ft now, s.sq, (s.sq + 1) % 4294967296, (s.sq + 1) % 4294967296⟩ : Ctl))) ?_
    refine SQ.ru rfl rfl (lt_b rfl) (ru_pick (u := bo true) (v := bo false) rfl rfl rfl rfl) ?_
    refine SQ.ru rfl rfl (lt_b rfl) (ru_move rfl rfl) ?_
    refine SQ.rug rfl rfl rfl rfl (lt_b rfl) (ru_move rfl rfl) ?_
    refine SQ.rug rfl rfl rfl rfl (lt_b rfl) (ru_move rfl rfl) ?_
    refine SQ.rug rfl rfl rfl rfl (lt_b rfl) (ru_eq (b := true) rfl rfl rfl rfl) ?_
    refine SQ.ru rfl rfl (lt_b rfl) (ru_pick (u := bo true) (v := bo false) rfl rfl rfl rfl) ?_
    refine SQ.ru rfl rfl (lt_b rfl) (ru_move rfl rfl) ?_
    refine SQ.rug rfl rfl rfl rfl (lt_b rfl) (ru_loada (i := 4) (vs := [iw ((shutF c).1.st), uw ((shutF c).1.iss), uw ((shutF c).1.una), uw ((shutF c).1.nxt), bo ((shutF c).1.fs), iw ((shutF c).1.wnd), uw ((shutF c).1.wl1), uw ((shutF c).1.wl2), uw ((shutF c).1.irs), uw ((shutF c).1.rcv), uw ((shutF c).1.adv)]) ta24 rfl rfl rfl rfl (le_b rfl)) ?_
    refine SQ.rug rfl rfl rfl rfl (lt_b rfl) (ru_loada (i := 5) (vs := [iw ((shutF c).1.st), uw ((shutF c).1.iss), uw ((shutF c).1.una), uw ((shutF c).1.nxt), bo ((shutF c).1.fs), iw ((shutF c).1.wnd), uw ((shutF c).1.wl1), uw ((shutF c).1.wl2), uw ((shutF c).1.irs), uw ((shutF c).1.rcv), uw ((shutF c).1.adv)]) ta24 rfl rfl rfl rfl (le_b rfl)) ?_
    refine SQ.rug rfl rfl rfl rfl (lt_b rfl) (ru_binv rfl rfl rfl (fun w => run_eqGuard_agg w _ _ _ _ _ _ (by kernel_rfl)) (fun w _ => eq24s w (shutF c).1)) ?_
    refine SQ.ru rfl rfl (lt_b rfl) (ru_pick (u := bo true) (v := bo false) rfl rfl rfl rfl) ?_
    refine SQ.ru rfl rfl (lt_b rfl) (ru_move rfl rfl) ?_
    refine SQ.rug rfl rfl rfl rfl (lt_b rfl) (ru_move rfl rfl) ?_
    refine SQ.rug rfl rfl rfl rfl (lt_b rfl) (ru_move rfl rfl) ?_
    refine SQ.rug rfl rfl rfl rfl (lt_b rfl) (ru_eq (b := true) rfl rfl rfl (by simp)) ?_
    refine SQ.ru rfl rfl (lt_b rfl) (ru_pick (u := bo true) (v := bo false) rfl rfl rfl rfl) ?_
    refine SQ.ru rfl rfl (lt_b rfl) (ru_move rfl rfl) ?_
    refine SQ.rug rfl rfl rfl rfl (lt_b rfl) (ru_loada (i := 0) (vs := [iw c.st, uw c.iss, uw c.una, uw c.nxt, bo c.fs, iw c.wnd, uw c.wl1, uw c.wl2, uw c.irs, uw c.rcv, uw c.adv]) ta24 rfl rfl rfl rfl (le_b rfl)) ?_
    refine SQ.callg (Value.agg #[iw ((endedF c).st), uw ((endedF c).iss), uw ((endedF c).una), uw ((endedF c).nxt), bo ((endedF c).fs), iw ((endedF c).wnd), uw ((endedF c).wl1), uw ((endedF c).wl2), uw ((endedF c).irs), uw ((endedF c).rcv), uw ((endedF c).adv)]) rfl rfl rfl rfl co19 rfl rfl rfl (lt_b rfl) (fun w hI => H_only hI (ended_any w c)) ?_
    refine SQ.rug rfl rfl rfl rfl (lt_b rfl) (ru_loada (i := 0) (vs := [iw c.st, uw c.iss, uw c.una, uw c.nxt, bo c.fs, iw c.wnd, uw c.wl1, uw c.wl2, uw c.irs, uw c.rcv, uw c.adv]) ta24 rfl rfl rfl rfl (le_b rfl)) ?_
    refine SQ.callg (Value.agg #[iw ((endedF c).st), uw ((endedF c).iss), uw ((endedF c).una), uw ((endedF c).nxt), bo ((endedF c).fs), iw ((endedF c).wnd), uw ((endedF c).wl1), uw ((endedF c).wl2), uw ((endedF c).irs), uw ((endedF c).rcv), uw ((endedF c).adv)]) rfl rfl rfl rfl co20 rfl rfl rfl (lt_b rfl) (fun w hI => H_only hI (rended_any w c hc.adv)) ?_
    refine SQ.rug rfl rfl rfl rfl (lt_b rfl) (ru_binv rfl rfl rfl (fun w => run_eqGuard_agg w _ _ _ _ _ _ (by kernel_rfl)) (fun w _ => eq24s w (endedF c))) ?_
    refine SQ.ru rfl rfl (lt_b rfl) (ru_pick (u := bo true) (v := bo false) rfl rfl rfl rfl) ?_
    refine SQ.ru rfl rfl (lt_b rfl) (ru_assign rfl rfl) ?_
    refine SQ.nilE ?_
    refine SC.of_SE ?_
    refine SC.norm [(6, bo true)] [rBlk b1 [iw c.st, uw c.iss, uw c.una, uw c.nxt, bo c.fs, iw c.wnd, uw c.wl1, uw c.wl2, uw c.irs, uw c.rcv, uw c.adv] 24, rBlk b2 [iw s.fr, iw s.to, uw s.sq, uw s.ak, iw s.fl, iw s.wnd, iw s.mss, bo s.sacks, Value.slice s.ga s.gn s.gc, Value.slice s.da s.dn s.dc] 28, rBlk b3 [iw 2, uw (ft now), uw (ft now), uw (((ft now) + 1) % 4294967296), bo false, iw s.wnd, uw s.sq, uw (ft now), uw s.sq, uw ((s.sq + 1) % 4294967296), uw ((s.sq + 1) % 4294967296)] 24, rBlk b4 [iw 2, uw (ft now), uw (ft now), uw (((ft now) + 1) % 4294967296), bo false, iw s.wnd, uw s.sq, uw (ft now), uw s.sq, uw ((s.sq + 1) % 4294967296), uw ((s.sq + 1) % 4294967296)] 24, rBlk b5 [iw ((shutF c).1.st), uw ((shutF c).1.iss), uw ((shutF c).1.una), uw ((shutF c).1.nxt), bo ((shutF c).1.fs), iw ((shutF c).1.wnd), uw ((shutF c).1.wl1), uw ((shutF c).1.wl2), uw ((shutF c).1.irs), uw ((shutF c).1.rcv), uw ((shutF c).1.adv)] 24, rBlk b6 [iw ((shutF c).1.st), uw ((shutF c).1.iss), uw ((shutF c).1.una), uw ((shutF c).1.nxt), bo ((shutF c).1.fs), iw ((shutF c).1.wnd), uw ((shutF c).1.wl1), uw ((shutF c).1.wl2), uw ((shutF c).1.irs), uw ((shutF c).1.rcv), uw ((shutF c).1.adv)] 24] ⟨rfl, trivial⟩ rfl ?_
    refine SC.ret ?_
    exact SE.res (.inl rfl) (res1 Try.results6 rfl) fun w hI => ⟨rfl, hI.2⟩
  · refine calls_sc (l0 := []) (args := [Value.agg #[iw c.st, uw c.iss, uw c.una, uw c.nxt, bo c.fs, iw c.wnd, uw c.wl1, uw c.wl2, uw c.irs, uw c.rcv, uw c.adv], Value.agg #[iw s.fr, iw s.to, uw s.sq, uw s.ak, iw s.fl, iw s.wnd, iw s.mss, bo s.sacks, Value.slice s.ga s.gn s.gc, Value.slice s.da s.dn s.dc], iw now]) (fun _ => False) Try.func6 rfl 74 Try.ntmps6 (le_b rfl) ⟨⟨by simp, List.Pairwise.nil⟩, Only.refl _ _⟩ ?_
    show SC _ _ _ _ [(0, Value.agg #[iw c.st, uw c.iss, uw c.una, uw c.nxt, bo c.fs, iw c.wnd, uw c.wl1, uw c.wl2, uw c.irs, uw c.rcv, uw c.adv]), (1, Value.agg #[iw s.fr, iw s.to, uw s.sq, uw s.ak, iw s.fl, iw s.wnd, iw s.mss, bo s.sacks, Value.slice s.ga s.gn s.gc, Value.slice s.da s.dn s.dc]), (2, iw now)] []
    refine SC.seq ?_
    refine SC.region ?_
    refine SL.box (c := [iw c.st, uw c.iss, uw c.una, uw c.nxt, bo c.fs, iw c.wnd, uw c.wl1, uw c.wl2, uw c.irs, uw c.rcv, uw c.adv]) rfl rfl (lt_b rfl) rfl rfl rfl fun b1 hb1 => ?_
    refine SL.box (c := [iw s.fr, iw s.to, uw s.sq, uw s.ak, iw s.fl, iw s.wnd, iw s.mss, bo s.sacks, Value.slice s.ga s.gn s.gc, Value.slice s.da s.dn s.dc]) rfl rfl (lt_b rfl) rfl rfl rfl fun b2 hb2 => ?_
    refine SL.ru rfl rfl (lt_b rfl) (ru_assign rfl rfl) ?_
    refine SL.nil ?_
    refine SC.of_SE ?_
    refine SC.norm [(2, iw now), (3, pt b1 0), (4, pt b2 0), (6, bo false)] [rBlk b1 [iw c.st, uw c.iss, uw c.una, uw c.nxt, bo c.fs, iw c.wnd, uw c.wl1, uw c.wl2, uw c.irs, uw c.rcv, uw c.adv] 24, rBlk b2 [iw s.fr, iw s.to, uw s.sq, uw s.ak, iw s.fl, iw s.wnd, iw s.mss, bo s.sacks, Value.slice s.ga s.gn s.gc, Value.slice s.da s.dn s.dc] 28] ⟨rfl, rfl, rfl, rfl, trivial⟩ rfl ?_
    refine SC.seq ?_
    refine SC.region ?_
    refine SL.callv (bo true) rfl rfl co8 rfl rfl rfl (lt_b rfl) (fun w hI => H_only hI (awake_any w)) ?_
    refine SL.ru rfl rfl (lt_b rfl) (ru_assign rfl rfl) ?_
    refine SL.nil ?_
    refine SC.of_SE ?_
    refine SC.norm [(2, iw now), (3, pt b1 0), (4, pt b2 0), (6, bo false), (7, bo true)] [rBlk b1 [iw c.st, uw c.iss, uw c.una, uw c.nxt, bo c.fs, iw c.wnd, uw c.wl1, uw c.wl2, uw c.irs, uw c.rcv, uw c.adv] 24, rBlk b2 [iw s.fr, iw s.to, uw s.sq, uw s.ak, iw s.fl, iw s.wnd, iw s.mss, bo s.sacks, Value.slice s.ga s.gn s.gc, Value.slice s.da s.dn s.dc] 28] ⟨rfl, rfl, rfl, rfl, rfl, trivial⟩ rfl ?_
    refine SC.seq ?_
    refine SC.region ?_
    refine SL.ru rfl rfl (lt_b rfl) (ru_loada (i := 1) (vs := [iw s.fr, iw s.to, uw s.sq, uw s.ak, iw s.fl, iw s.wnd, iw s.mss, bo s.sacks, Value.slice s.ga s.gn s.gc, Value.slice s.da s.dn s.dc]) ta28 rfl rfl rfl rfl (le_b rfl)) ?_
    refine SL.ru rfl rfl (lt_b rfl) (ru_move rfl rfl) ?_
    refine SL.callv (Value.tuple #[Value.agg #[iw 0, uw 0, uw 0, uw 0, bo false, iw 0, uw 0, uw 0, uw 0, uw 0, uw 0], iw 1]) rfl rfl co14 rfl rfl rfl (lt_b rfl) (fun w hI => H_only hI (passive_no w now ha)) ?_
    refine SL.ru rfl rfl (lt_b rfl) (ru_move rfl rfl) ?_
    refine SL.ru rfl rfl (lt_b rfl) (ru_extract rfl rfl rfl) ?_
    refine SL.ru rfl rfl (lt_b rfl) (ru_extract rfl rfl rfl) ?_
    refine SL.alloca rfl rfl (lt_b rfl) ta24 rfl fun b3 hb3 => ?_
    refine SL.storea (i := 2) (vs := [iw 0, uw 0, uw 0, uw 0, bo false, iw 0, uw 0, uw 0, uw 0, uw 0, uw 0]) (c' := [iw 0, uw 0, uw 0, uw 0, bo false, iw 0, uw 0, uw 0, uw 0, uw 0, uw 0]) rfl rfl ta24 rfl rfl rfl rfl rfl rfl (le_b rfl) (.inr hb3) rfl ?_
    refine SL.ru rfl rfl (lt_b rfl) (ru_assign rfl rfl) ?_
    refine SL.nil ?_
    refine SC.of_SE ?_
    refine SC.norm [(2, iw now), (3, pt b1 0), (4, pt b2 0), (6, bo false), (7, bo true), (8, pt b3 0), (9, iw 1)] [rBlk b1 [iw c.st, uw c.iss, uw c.una, uw c.nxt, bo c.fs, iw c.wnd, uw c.wl1, uw c.wl2, uw c.irs, uw c.rcv, uw c.adv] 24, rBlk b2 [iw s.fr, iw s.to, uw s.sq, uw s.ak, iw s.fl, iw s.wnd, iw s.mss, bo s.sacks, Value.slice s.ga s.gn s.gc, Value.slice s.da s.dn s.dc] 28, rBlk b3 [iw 0, uw 0, uw 0, uw 0, bo false, iw 0, uw 0, uw 0, uw 0, uw 0, uw 0] 24] ⟨rfl, rfl, rfl, rfl, rfl, rfl, rfl, trivial⟩ rfl ?_
    refine SC.seq ?_
    refine SC.region ?_
    refine SL.ru rfl rfl (lt_b rfl) (ru_loada (i := 1) (vs := [iw s.fr, iw s.to, uw s.sq, uw s.ak, iw s.fl, iw s.wnd, iw s.mss, bo s.sacks, Value.slice s.ga s.gn s.gc, Value.slice s.da s.dn s.dc]) ta28 rfl rfl rfl rfl (le_b rfl)) ?_
    refine SL.ru rfl rfl (lt_b rfl) (ru_move rfl rfl) ?_
    refine SL.callv (Value.tuple #[Value.agg #[iw 0, uw 0, uw 0, uw 0, bo false, iw 0, uw 0, uw 0, uw 0, uw 0, uw 0], iw 1]) rfl rfl co15 rfl rfl rfl (lt_b rfl) (fun w hI => H_only hI (rpas_no w now ha)) ?_
    refine SL.ru rfl rfl (lt_b rfl) (ru_move rfl rfl) ?_
    refine SL.ru rfl rfl (lt_b rfl) (ru_extract rfl rfl rfl) ?_
    refine SL.ru rfl rfl (lt_b rfl) (ru_extract rfl rfl rfl) ?_
    refine SL.alloca rfl rfl (lt_b rfl) ta24 rfl fun b4 hb4 => ?_
    refine SL.storea (i := 3) (vs := [iw 0, uw 0, uw 0, uw 0, bo false, iw 0, uw 0, uw 0, uw 0, uw 0, uw 0]) (c' := [iw 0, uw 0, uw 0, uw 0, bo false, iw 0, uw 0, uw 0, uw 0, uw 0, uw 0]) rfl rfl ta24 rfl rfl rfl rfl rfl rfl (le_b rfl) (.inr hb4) rfl ?_
    refine SL.ru rfl rfl (lt_b rfl) (ru_assign rfl rfl) ?_
    refine SL.nil ?_
    refine SC.of_SE ?_
    refine SC.norm [(2, iw now), (3, pt b1 0), (6, bo false), (7, bo true), (8, pt b3 0), (9, iw 1), (10, pt b4 0), (11, iw 1)] [rBlk b1 [iw c.st, uw c.iss, uw c.una, uw c.nxt, bo c.fs, iw c.wnd, uw c.wl1, uw c.wl2, uw c.irs, uw c.rcv, uw c.adv] 24, rBlk b2 [iw s.fr, iw s.to, uw s.sq, uw s.ak, iw s.fl, iw s.wnd, iw s.mss, bo s.sacks, Value.slice s.ga s.gn s.gc, Value.slice s.da s.dn s.dc] 28, rBlk b3 [iw 0, uw 0, uw 0, uw 0, bo false, iw 0, uw 0, uw 0, uw 0, uw 0, uw 0] 24, rBlk b4 [iw 0, uw 0, uw 0, uw 0, bo false, iw 0, uw 0, uw 0, uw 0, uw 0, uw 0] 24] ⟨rfl, rfl, rfl, rfl, rfl, rfl, rfl, rfl, trivial⟩ rfl ?_
    refine SC.seq ?_
    refine SC.region ?_
    refine SL.ru rfl rfl (lt_b rfl) (ru_loada (i := 0) (vs := [iw c.st, uw c.iss, uw c.una, uw c.nxt, bo c.fs, iw c.wnd, uw c.wl1, uw c.wl2, uw c.irs, uw c.rcv, uw c.adv]) ta24 rfl rfl rfl rfl (le_b rfl)) ?_
    refine SL.callv (Value.tuple #[Value.agg #[iw ((shutF c).1.st), uw ((shutF c).1.iss), uw ((shutF c).1.una), uw ((shutF c).1.nxt), bo ((shutF c).1.fs), iw ((shutF c).1.wnd), uw ((shutF c).1.wl1), uw ((shutF c).1.wl2), uw ((shutF c).1.irs), uw ((shutF c).1.rcv), uw ((shutF c).1.adv)], iw ((shutF c).2)]) rfl rfl co16 rfl rfl rfl (lt_b rfl) (fun w hI => H_only hI (shut_any w c)) ?_
    refine SL.ru rfl rfl (lt_b rfl) (ru_move rfl rfl) ?_
    refine SL.ru rfl rfl (lt_b rfl) (ru_extract rfl rfl rfl) ?_
    refine SL.ru rfl rfl (lt_b rfl) (ru_extract rfl rfl rfl) ?_
    refine SL.alloca rfl rfl (lt_b rfl) ta24 rfl fun b5 hb5 => ?_
    refine SL.storea (i := 4) (vs := [iw ((shutF c).1.st), uw ((shutF c).1.iss), uw ((shutF c).1.una), uw ((shutF c).1.nxt), bo ((shutF c).1.fs), iw ((shutF c).1.wnd), uw ((shutF c).1.wl1), uw ((shutF c).1.wl2), uw ((shutF c).1.irs), uw ((shutF c).1.rcv), uw ((shutF c).1.adv)]) (c' := [iw ((shutF c).1.st), uw ((shutF c).1.iss), uw ((shutF c).1.una), uw ((shutF c).1.nxt), bo ((shutF c).1.fs), iw ((shutF c).1.wnd), uw ((shutF c).1.wl1), uw ((shutF c).1.wl2), uw ((shutF c).1.irs), uw ((shutF c).1.rcv), uw ((shutF c).1.adv)]) rfl rfl ta24 rfl rfl rfl rfl rfl rfl (le_b rfl) (.inr hb5) rfl ?_
    refine SL.ru rfl rfl (lt_b rfl) (ru_assign rfl rfl) ?_
    refine SL.nil ?_
    refine SC.of_SE ?_
    refine SC.norm [(2, iw now), (3, pt b1 0), (6, bo false), (7, bo true), (8, pt b3 0), (9, iw 1), (10, pt b4 0), (11, iw 1), (12, pt b5 0), (13, iw ((shutF c).2))] [rBlk b1 [iw c.st, uw c.iss, uw c.una, uw c.nxt, bo c.fs, iw c.wnd, uw c.wl1, uw c.wl2, uw c.irs, uw c.rcv, uw c.adv] 24, rBlk b2 [iw s.fr, iw s.to, uw s.sq, uw s.ak, iw s.fl, iw s.wnd, iw s.mss, bo s.sacks, Value.slice s.ga s.gn s.gc, Value.slice s.da s.dn s.dc] 28, rBlk b3 [iw 0, uw 0, uw 0, uw 0, bo false, iw 0, uw 0, uw 0, uw 0, uw 0, uw 0] 24, rBlk b4 [iw 0, uw 0, uw 0, uw 0, bo false, iw 0, uw 0, uw 0, uw 0, uw 0, uw 0] 24, rBlk b5 [iw ((shutF c).1.st), uw ((shutF c).1.iss), uw ((shutF c).1.una), uw ((shutF c).1.nxt), bo ((shutF c).1.fs), iw ((shutF c).1.wnd), uw ((shutF c).1.wl1), uw ((shutF c).1.wl2), uw ((shutF c).1.irs), uw ((shutF c).1.rcv), uw ((shutF c).1.adv)] 24] ⟨rfl, rfl, rfl, rfl, rfl, rfl, rfl, rfl, rfl, rfl, trivial⟩ rfl ?_
    refine SC.seq ?_
    refine SC.region ?_
    refine SL.ru rfl rfl (lt_b rfl) (ru_loada (i := 0) (vs := [iw c.st, uw c.iss, uw c.una, uw c.nxt, bo c.fs, iw c.wnd, uw c.wl1, uw c.wl2, uw c.irs, uw c.rcv, uw c.adv]) ta24 rfl rfl rfl rfl (le_b rfl)) ?_
    refine SL.callv (Value.tuple #[Value.agg #[iw ((shutF c).1.st), uw ((shutF c).1.iss), uw ((shutF c).1.una), uw ((shutF c).1.nxt), bo ((shutF c).1.fs), iw ((shutF c).1.wnd), uw ((shutF c).1.wl1), uw ((shutF c).1.wl2), uw ((shutF c).1.irs), uw ((shutF c).1.rcv), uw ((shutF c).1.adv)], iw ((shutF c).2)]) rfl rfl co17 rfl rfl rfl (lt_b rfl) (fun w hI => H_only hI (rshut_any w c)) ?_
    refine SL.ru rfl rfl (lt_b rfl) (ru_move rfl rfl) ?_
    refine SL.ru rfl rfl (lt_b rfl) (ru_extract rfl rfl rfl) ?_
    refine SL.ru rfl rfl (lt_b rfl) (ru_extract rfl rfl rfl) ?_
    refine SL.alloca rfl rfl (lt_b rfl) ta24 rfl fun b6 hb6 => ?_
    refine SL.storea (i := 5) (vs := [iw ((shutF c).1.st), uw ((shutF c).1.iss), uw ((shutF c).1.una), uw ((shutF c).1.nxt), bo ((shutF c).1.fs), iw ((shutF c).1.wnd), uw ((shutF c).1.wl1), uw ((shutF c).1.wl2), uw ((shutF c).1.irs), uw ((shutF c).1.rcv), uw ((shutF c).1.adv)]) (c' := [iw ((shutF c).1.st), uw ((shutF c).1.iss), uw ((shutF c).1.una), uw ((shutF c).1.nxt), bo ((shutF c).1.fs), iw ((shutF c).1.wnd), uw ((shutF c).1.wl1), uw ((shutF c).1.wl2), uw ((shutF c).1.irs), uw ((shutF c).1.rcv), uw ((shutF c).1.adv)]) rfl rfl ta24 rfl rfl rfl rfl rfl rfl (le_b rfl) (.inr hb6) rfl ?_
    refine SL.ru rfl rfl (lt_b rfl) (ru_assign rfl rfl) ?_
    refine SL.nil ?_
    refine SC.of_SE ?_
    refine SC.norm [(2, iw now), (3, pt b1 0), (6, bo false), (7, bo true), (8, pt b3 0), (9, iw 1), (10, pt b4 0), (11, iw 1), (12, pt b5 0), (13, iw ((shutF c).2)), (14, pt b6 0), (15, iw ((shutF c).2))] [rBlk b1 [iw c.st, uw c.iss, uw c.una, uw c.nxt, bo c.fs, iw c.wnd, uw c.wl1, uw c.wl2, uw c.irs, uw c.rcv, uw c.adv] 24, rBlk b2 [iw s.fr, iw s.to, uw s.sq, uw s.ak, iw s.fl, iw s.wnd, iw s.mss, bo s.sacks, Value.slice s.ga s.gn s.gc, Value.slice s.da s.dn s.dc] 28, rBlk b3 [iw 0, uw 0, uw 0, uw 0, bo false, iw 0, uw 0, uw 0, uw 0, uw 0, uw 0] 24, rBlk b4 [iw 0, uw 0, uw 0, uw 0, bo false, iw 0, uw 0, uw 0, uw 0, uw 0, uw 0] 24, rBlk b5 [iw ((shutF c).1.st), uw ((shutF c).1.iss), uw ((shutF c).1.una), uw ((shutF c).1.nxt), bo ((shutF c).1.fs), iw ((shutF c).1.wnd), uw ((shutF c).1.wl1), uw ((shutF c).1.wl2), uw ((shutF c).1.irs), uw ((shutF c).1.rcv), uw ((shutF c).1.adv)] 24, rBlk b6 [iw ((shutF c).1.st), uw ((shutF c).1.iss), uw ((shutF c).1.una), uw ((shutF c).1.nxt), bo ((shutF c).1.fs), iw ((shutF c).1.wnd), uw ((shutF c).1.wl1), uw ((shutF c).1.wl2), uw ((shutF c).1.irs), uw ((shutF c).1.rcv), uw ((shutF c).1.adv)] 24] ⟨rfl, rfl, rfl, rfl, rfl, rfl, rfl, rfl, rfl, rfl, rfl, rfl, trivial⟩ rfl ?_
    refine SC.seq ?_
    refine SC.region_quiet (by kernel_rfl) (by kernel_rfl) ?_
    refine SQ.ru rfl rfl (lt_b rfl) (ru_move rfl rfl) ?_
    refine SQ.ru rfl rfl (lt_b rfl) (ru_move rfl rfl) ?_
    refine SQ.rug rfl rfl rfl rfl (lt_b rfl) (ru_move rfl rfl) ?_
    refine SQ.callg (Value.agg #[iw 1, uw (ft now), uw (ft now), uw (((ft now) + 1) % 4294967296), bo false, iw 0, uw 0, uw 0, uw 0, uw 0, uw 0]) rfl rfl rfl rfl co13 rfl rfl rfl (lt_b rfl) (fun w hI => H_only hI (active_any w now)) ?_
    refine SQ.rug rfl rfl rfl rfl (lt_b rfl) (ru_move rfl rfl) ?_
    refine SQ.callg (Value.agg #[iw 1, uw (ft now), uw (ft now), uw (((ft now) + 1) % 4294967296), bo false, iw 0, uw 0, uw 0, uw 0, uw 0, uw 0]) rfl rfl rfl rfl co18 rfl rfl rfl (lt_b rfl) (fun w hI => H_only hI (ractive_any w now)) ?_
    refine SQ.rug rfl rfl rfl rfl (lt_b rfl) (ru_binv rfl rfl rfl (fun w => run_eqGuard_agg w _ _ _ _ _ _ (by kernel_rfl)) (fun w _ => eq24s w (⟨1, ft now, ft now, ((ft now) + 1) % 4294967296, false, 0, 0, 0, 0, 0, 0⟩ : Ctl))) ?_
    refine SQ.ru rfl rfl (lt_b rfl) (ru_pick (u := bo true) (v := bo false) rfl rfl rfl rfl) ?_
    refine SQ.ru rfl rfl (lt_b rfl) (ru_move rfl rfl) ?_
    refine SQ.rug rfl rfl rfl rfl (lt_b rfl) (ru_loada (i := 2) (vs := [iw 0, uw 0, uw 0, uw 0, bo false, iw 0, uw 0, uw 0, uw 0, uw 0, uw 0]) ta24 rfl rfl rfl rfl (le_b rfl)) ?_
    refine SQ.rug rfl rfl rfl rfl (lt_b rfl) (ru_loada (i := 3) (vs := [iw 0, uw 0, uw 0, uw 0, bo false, iw 0, uw 0, uw 0, uw 0, uw 0, uw 0]) ta24 rfl rfl rfl rfl (le_b rfl)) ?_
    refine SQ.rug rfl rfl rfl rfl (lt_b rfl) (ru_binv rfl rfl rfl (fun w => run_eqGuard_agg w _ _ _ _ _ _ (by kernel_rfl)) (fun w _ => eq24s w (⟨0, 0, 0, 0, false, 0, 0, 0, 0, 0, 0⟩ : Ctl))) ?_
    refine SQ.ru rfl rfl (lt_b rfl) (ru_pick (u := bo true) (v := bo false) rfl rfl rfl rfl) ?_
    refine SQ.ru rfl rfl (lt_b rfl) (ru_move rfl rfl) ?_
    refine SQ.rug rfl rfl rfl rfl (lt_b rfl) (ru_move rfl rfl) ?_
    refine SQ.rug rfl rfl rfl rfl (lt_b rfl) (ru_move rfl rfl) ?_
    refine SQ.rug rfl rfl rfl rfl (lt_b rfl) (ru_eq (b := true) rfl rfl rfl rfl) ?_
    refine SQ.ru rfl rfl (lt_b rfl) (ru_pick (u := bo true) (v := bo false) rfl rfl rfl rfl) ?_
    refine SQ.ru rfl rfl (lt_b rfl) (ru_move rfl rfl) ?_
    refine SQ.rug rfl rfl rfl rfl (lt_b rfl) (ru_loada (i := 4) (vs := [iw ((shutF c).1.st), uw ((shutF c).1.iss), uw ((shutF c).1.una), uw ((shutF c).1.nxt), bo ((shutF c).1.fs), iw ((shutF c).1.wnd), uw ((shutF c).1.wl1), uw ((shutF c).1.wl2), uw ((shutF c).1.irs), uw ((shutF c).1.rcv), uw ((shutF c).1.adv)]) ta24 rfl rfl rfl rfl (le_b rfl)) ?_
    refine SQ.rug rfl rfl rfl rfl (lt_b rfl) (ru_loada (i := 5) (vs := [iw ((shutF c).1.st), uw ((shutF c).1.iss), uw ((shutF c).1.una), uw ((shutF c).1.nxt), bo ((shutF c).1.fs), iw ((shutF c).1.wnd), uw ((shutF c).1.wl1), uw ((shutF c).1.wl2), uw ((shutF c).1.irs), uw ((shutF c).1.rcv), uw ((shutF c).1.adv)]) ta24 rfl rfl rfl rfl (le_b rfl)) ?_
    refine SQ.rug rfl rfl rfl rfl (lt_b rfl) (ru_binv rfl rfl rfl (fun w => run_eqGuard_agg w _ _ _ _ _ _ (by kernel_rfl)) (fun w _ => eq24s w (shutF c).1)) ?_
    refine SQ.ru rfl rfl (lt_b rfl) (ru_pick (u := bo true) (v := bo false) rfl rfl rfl rfl) ?_
    refine SQ.ru rfl rfl (lt_b rfl) (ru_move rfl rfl) ?_
    refine SQ.rug rfl rfl rfl rfl (lt_b rfl) (ru_move rfl rfl) ?_
    refine SQ.rug rfl rfl rfl rfl (lt_b rfl) (ru_move rfl rfl) ?_
    refine SQ.rug rfl rfl rfl rfl (lt_b rfl) (ru_eq (b := true) rfl rfl rfl (by simp)) ?_
    refine SQ.ru rfl rfl (lt_b rfl) (ru_pick (u := bo true) (v := bo false) rfl rfl rfl rfl) ?_
    refine SQ.ru rfl rfl (lt_b rfl) (ru_move rfl rfl) ?_
    refine SQ.rug rfl rfl rfl rfl (lt_b rfl) (ru_loada (i := 0) (vs := [iw c.st, uw c.iss, uw c.una, uw c.nxt, bo c.fs, iw c.wnd, uw c.wl1, uw c.wl2, uw c.irs, uw c.rcv, uw c.adv]) ta24 rfl rfl rfl rfl (le_b rfl)) ?_
    refine SQ.callg (Value.agg #[iw ((endedF c).st), uw ((endedF c).iss), uw ((endedF c).una), uw ((endedF c).nxt), bo ((endedF c).fs), iw ((endedF c).wnd), uw ((endedF c).wl1), uw ((endedF c).wl2), uw ((endedF c).irs), uw ((endedF c).rcv), uw ((endedF c).adv)]) rfl rfl rfl rfl co19 rfl rfl rfl (lt_b rfl) (fun w hI => H_only hI (ended_any w c)) ?_
    refine SQ.rug rfl rfl rfl rfl (lt_b rfl) (ru_loada (i := 0) (vs := [iw c.st, uw c.iss, uw c.una, uw c.nxt, bo c.fs, iw c.wnd, uw c.wl1, uw c.wl2, uw c.irs, uw c.rcv, uw c.adv]) ta24 rfl rfl rfl rfl (le_b rfl)) ?_
    refine SQ.callg (Value.agg #[iw ((endedF c).st), uw ((endedF c).iss), uw ((endedF c).una), uw ((endedF c).nxt), bo ((endedF c).fs), iw ((endedF c).wnd), uw ((endedF c).wl1), uw ((endedF c).wl2), uw ((endedF c).irs), uw ((endedF c).rcv), uw ((endedF c).adv)]) rfl rfl rfl rfl co20 rfl rfl rfl (lt_b rfl) (fun w hI => H_only hI (rended_any w c hc.adv)) ?_
    refine SQ.rug rfl rfl rfl rfl (lt_b rfl) (ru_binv rfl rfl rfl (fun w => run_eqGuard_agg w _ _ _ _ _ _ (by kernel_rfl)) (fun w _ => eq24s w (endedF c))) ?_
    refine SQ.ru rfl rfl (lt_b rfl) (ru_pick (u := bo true) (v := bo false) rfl rfl rfl rfl) ?_
    refine SQ.ru rfl rfl (lt_b rfl) (ru_assign rfl rfl) ?_
    refine SQ.nilE ?_
    refine SC.of_SE ?_
    refine SC.norm [(6, bo true)] [rBlk b1 [iw c.st, uw c.iss, uw c.una, uw c.nxt, bo c.fs, iw c.wnd, uw c.wl1, uw c.wl2, uw c.irs, uw c.rcv, uw c.adv] 24, rBlk b2 [iw s.fr, iw s.to, uw s.sq, uw s.ak, iw s.fl, iw s.wnd, iw s.mss, bo s.sacks, Value.slice s.ga s.gn s.gc, Value.slice s.da s.dn s.dc] 28, rBlk b3 [iw 0, uw 0, uw 0, uw 0, bo false, iw 0, uw 0, uw 0, uw 0, uw 0, uw 0] 24, rBlk b4 [iw 0, uw 0, uw 0, uw 0, bo false, iw 0, uw 0, uw 0, uw 0, uw 0, uw 0] 24, rBlk b5 [iw ((shutF c).1.st), uw ((shutF c).1.iss), uw ((shutF c).1.una), uw ((shutF c).1.nxt), bo ((shutF c).1.fs), iw ((shutF c).1.wnd), uw ((shutF c).1.wl1), uw ((shutF c).1.wl2), uw ((shutF c).1.irs), uw ((shutF c).1.rcv), uw ((shutF c).1.adv)] 24, rBlk b6 [iw ((shutF c).1.st), uw ((shutF c).1.iss), uw ((shutF c).1.una), uw ((shutF c).1.nxt), bo ((shutF c).1.fs), iw ((shutF c).1.wnd), uw ((shutF c).1.wl1), uw ((shutF c).1.wl2), uw ((shutF c).1.irs), uw ((shutF c).1.rcv), uw ((shutF c).1.adv)] 24] ⟨rfl, trivial⟩ rfl ?_
    refine SC.ret ?_
    exact SE.res (.inl rfl) (res1 Try.results6 rfl) fun w hI => ⟨rfl, hI.2⟩

end Go.Proofs.Ytpodmpidelifeaa
