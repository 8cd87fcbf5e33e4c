/-
  What the proof of RingDown stands on, part 3: each theorem by itself, under the conditions that it names.
-/
import Derived.Test.YtghfkgcaglabpaaRingDownM2
/-
  Send.
-/
namespace Go.Proofs.Ytghfkgcaglabpaa
open Go.RowKit
set_option maxRecDepth 100000
set_option maxHeartbeats 4000000
theorem send_any {w : World} {r d p ab : Nat} {F0 : Nat → Prop} {A0 : NicA} {L0 : List Bf} {T0 R0 : Line} (hk : NicOk A0) (hT0 : LineOk T0) (hR0 : LineOk R0) (hL : Few L0) (h : RingAt w r d p ab F0 ⟨A0, L0, T0, R0⟩) (id : Int) : Calls Try.prog 10 #[pt r 0, iw id] w fun e w' => e = .returned (iw (sendF ⟨A0, L0, T0, R0⟩ id).1) ∧ RingTo w r d p ab F0 (sendF ⟨A0, L0, T0, R0⟩ id).2 w' := by
  have ht0 := hT0.m
  have hr0 := hR0.m
  have hsz := see_sizes h.pool id
  simp only at hsz
  have hsz1 := hsz.1
  have hsz2 := hsz.2
  refine calls_sc (l0 := [rBlkRing r d p T0 R0, rDev d F0 A0, rPool p ab L0]) (args := [pt r 0, iw id]) (rS r d p ab) Try.func10 rfl 67 Try.ntmps10 (le_b rfl) (h.inv _ _) ?_
  show SC _ _ _ _ [(0, pt r 0), (1, iw id)] [rBlkRing r d p T0 R0, rDev d F0 A0, rPool p ab L0]
  refine SC.sr ?_
  refine SL.as ?_
  refine SL.nn [(0, pt r 0), (1, iw id), (4, iw 0)] [rBlk r (rc d p T0 R0) 86, rDev d F0 A0, rPool p ab L0] ⟨rfl, rfl, rfl, trivial⟩ ?_
  refine SC.sr ?_
  refine SL.mv ?_
  refine SL.nk ?_
  refine SL.uu (ru_fieldAddr (o2 := 1) fd86_1 rfl rfl rfl) ?_
  refine SL.uu (ru_load (i := 0) (v := pt p 0) ts37 rfl rfl rfl rc_p) ?_
  refine SL.mv ?_
  refine SL.mk (Mk.see ⟨67, w, rS r d p ab⟩ (seeF L0 id).1.refs (seeF L0 id).1.head (seeF L0 id).1.data (seeF L0 id).2 5) (w_all rfl) rfl co9 rfl rfl rfl (lt_b rfl) (fun l' w hI => (see_any (pool_at hI (i := 2) rfl) id).mono fun e w2 ⟨qh, ch, qd, cd, h1, h2, h3, h4, h5, h6, h7⟩ => ⟨_, h1, ⟨qh, ch, qd, cd, fun b hb => Nat.le_trans hI.2.size (h4 b hb), fun b hb => Nat.le_trans hI.2.size (h5 b hb), rfl⟩, hI.saw2 h2 h3 h4 h5 h6 h7⟩) ?_
  rintro _ ⟨qh1, ch2, qd3, cd4, hqh1, hqd3, rfl⟩
  refine SL.norm [(0, pt r 0), (1, iw id), (4, iw 0), (9, pt r 0), (10, pt r 0), (11, pt r 1), (12, pt p 0), (13, iw id), (14, Value.tuple #[Value.agg #[iw ((seeF L0 id).1.refs : Int), Value.slice qh1 ((seeF L0 id).1.head.length) ch2, Value.slice qd3 ((seeF L0 id).1.data.length) cd4], iw ((seeF L0 id).2)])] [rBlk r (rc d p T0 R0) 86, rDev d F0 A0, rPool p ab L0, rMine (.slice qh1 ((seeF L0 id).1.head).length ch2) ((seeF L0 id).1.head) 5, rMine (.slice qd3 ((seeF L0 id).1.data).length cd4) ((seeF L0 id).1.data) 5] ⟨rfl, rfl, rfl, rfl, rfl, rfl, rfl, rfl, rfl, trivial⟩ rfl ?_
  refine SL.mv ?_
  refine SL.uu (ru_extract rfl rfl rfl) ?_
  refine SL.uu (ru_extract rfl rfl rfl) ?_
  refine SL.alloca rfl rfl (lt_b rfl) ta33 rfl fun b5 hb5 => ?_
  refine SL.storea (i := 5) (vs := [iw ((seeF L0 id).1.refs : Int), Value.slice qh1 ((seeF L0 id).1.head.length) ch2, Value.slice qd3 ((seeF L0 id).1.data.length) cd4]) (c' := [iw ((seeF L0 id).1.refs : Int), Value.slice qh1 ((seeF L0 id).1.head.length) ch2, Value.slice qd3 ((seeF L0 id).1.data.length) cd4]) rfl rfl ta33 rfl rfl rfl rfl rfl rfl (le_b rfl) (.inr hb5) rfl ?_
  refine SL.as ?_
  refine SL.nn [(0, pt r 0), (1, iw id), (4, iw 0), (5, pt b5 0), (6, iw ((seeF L0 id).2))] [rBlk r (rc d p T0 R0) 86, rDev d F0 A0, rPool p ab L0, rMine (.slice qh1 ((seeF L0 id).1.head).length ch2) ((seeF L0 id).1.head) 5, rMine (.slice qd3 ((seeF L0 id).1.data).length cd4) ((seeF L0 id).1.data) 5, rBlk b5 [iw ((seeF L0 id).1.refs : Int), Value.slice qh1 ((seeF L0 id).1.head.length) ch2, Value.slice qd3 ((seeF L0 id).1.data.length) cd4] 33] ⟨rfl, rfl, rfl, rfl, rfl, trivial⟩ ?_
  refine SC.seq ?_
  refine SC.block ?_
  refine SC.sr ?_
  refine SL.mv ?_
  refine SL.uu (ru_ne (b := ((((seeF L0 id).2) : Int) != 0)) rfl rfl rfl rfl) ?_
  refine SL.as ?_
  refine SL.nn [(0, pt r 0), (1, iw id), (4, iw 0), (5, pt b5 0), (6, iw ((seeF L0 id).2)), (17, bo ((((seeF L0 id).2) : Int) != 0))] _ ⟨rfl, rfl, rfl, rfl, rfl, rfl, trivial⟩ ?_
  refine SC.both ((((seeF L0 id).2) : Int) != 0) rfl (fun h6 => ?_) (fun h6 => ?_)
  · skip
    refine SC.sr ?_
    refine SL.mv ?_
    refine SL.as ?_
    refine SL.nn [(0, pt r 0), (1, iw id), (4, iw ((seeF L0 id).2)), (5, pt b5 0)] _ ⟨rfl, rfl, rfl, rfl, trivial⟩ ?_
    refine SC.ret ?_
    refine SE.blkr ?_
    refine SE.passr ?_
    have e : sendF ⟨A0, L0, T0, R0⟩ id = ((seeF L0 id).2, ⟨A0, L0, T0, R0⟩) := by
      unfold sendF; dsimp only; rw [if_pos (ne_t h6)]
    refine SE.res (.inl rfl) (res1 Try.results10 rfl) fun w1 hI => ?_
    rw [e]
    exact ⟨rfl, RingTo.fin hI (fun b hb => .inl hb)⟩
  refine SC.sr ?_
  refine SL.mv ?_
  refine SL.callv (iw (A0.r 1)) rfl rfl co34 rfl rfl rfl (lt_b rfl) (fun w hI => H_only hI (regq1 (A := A0) hk (RingAt.of3 hI))) ?_
  refine SL.uu (ru_eq (b := (((A0.r 1) : Int) == 0)) rfl rfl rfl rfl) ?_
  refine SL.as ?_
  refine SL.nn [(0, pt r 0), (1, iw id), (4, iw 0), (5, pt b5 0), (21, bo (((A0.r 1) : Int) == 0))] _ ⟨rfl, rfl, rfl, rfl, rfl, trivial⟩ ?_
  refine SC.both (((A0.r 1) : Int) == 0) rfl (fun h7 => ?_) (fun h7 => ?_)
  · skip
    refine SC.sr ?_
    refine SL.as ?_
    refine SL.nn [(0, pt r 0), (1, iw id), (4, iw 20), (5, pt b5 0)] _ ⟨rfl, rfl, rfl, rfl, trivial⟩ ?_
    refine SC.ret ?_
    refine SE.blkr ?_
    refine SE.passr ?_
    have e : sendF ⟨A0, L0, T0, R0⟩ id = (20, ⟨A0, L0, T0, R0⟩) := by
      unfold sendF; dsimp only; rw [if_neg (ne_f h6), if_pos (eq_t h7)]
    refine SE.res (.inl rfl) (res1 Try.results10 rfl) fun w1 hI => ?_
    rw [e]
    exact ⟨rfl, RingTo.fin hI (fun b hb => .inl hb)⟩
  refine SC.sr ?_
  refine SL.mv ?_
  refine SL.callv (iw (15 - T0.many)) rfl rfl co22 rfl rfl rfl (lt_b rfl) (fun w hI => H_only hI (room_any hT0 (hI.1.get (i := 0) rfl))) ?_
  refine SL.uu (ru_eq (b := (((15 - T0.many) : Int) == 0)) rfl rfl rfl rfl) ?_
  refine SL.as ?_
  refine SL.nn [(0, pt r 0), (1, iw id), (4, iw 0), (5, pt b5 0), (25, bo (((15 - T0.many) : Int) == 0))] _ ⟨rfl, rfl, rfl, rfl, rfl, trivial⟩ ?_
  refine SC.both (((15 - T0.many) : Int) == 0) rfl (fun h8 => ?_) (fun h8 => ?_)
  · skip
    refine SC.sr ?_
    refine SL.as ?_
    refine SL.nn [(0, pt r 0), (1, iw id), (4, iw 21), (5, pt b5 0)] _ ⟨rfl, rfl, rfl, rfl, trivial⟩ ?_
    refine SC.ret ?_
    refine SE.blkr ?_
    refine SE.passr ?_
    have e : sendF ⟨A0, L0, T0, R0⟩ id = (21, ⟨A0, L0, T0, R0⟩) := by
      unfold sendF; dsimp only; rw [if_neg (ne_f h6), if_neg (eq_f h7), if_pos (eq_t h8)]
    refine SE.res (.inl rfl) (res1 Try.results10 rfl) fun w1 hI => ?_
    rw [e]
    exact ⟨rfl, RingTo.fin hI (fun b hb => .inl hb)⟩
  have hroom := eq_f h8
  refine SC.skip ?_
  refine SE.blkn ?_
  refine SC.of_SE ?_
  refine SC.norm [(0, pt r 0), (1, iw id), (4, iw 0), (5, pt b5 0)] _ ⟨rfl, rfl, rfl, rfl, trivial⟩ rfl ?_
  refine SC.seq ?_
  refine SC.seq ?_
  refine SC.region_mk_tail 14 [(7, Mk.val (iw (lastI T0))), (12, Mk.row ⟨67, w, rS r d p ab⟩ 2 2 [] (fun _ => [Value.slice qh1 ((seeF L0 id).1.head.length) ch2, Value.slice qd3 ((seeF L0 id).1.data.length) cd4]) 28), (13, Mk.mine ⟨67, w, rS r d p ab⟩ (((seeF L0 id).1.head) ++ ((seeF L0 id).1.data)) 5)] [(13, [7, 12])] rfl rfl (by kernel_rfl) (by kernel_rfl) (by kernel_rfl) ?_
  refine SM.ru rfl rfl rfl (w_all rfl) rfl (lt_b rfl) (ru_move rfl rfl) ?_
  refine SM.ru rfl rfl rfl (w_all rfl) rfl (lt_b rfl) (ru_nilCheck rfl rfl) ?_
  refine SM.ru rfl rfl rfl (w_all rfl) rfl (lt_b rfl) (ru_fieldAddr (o2 := 0) fd86_0 rfl rfl rfl) ?_
  refine SM.ru rfl rfl rfl (w_all rfl) rfl (lt_b rfl) (ru_load (i := 0) (v := pt d 0) ts36 rfl rfl rfl rc_d) ?_
  refine SM.ru rfl rfl rfl (w_all rfl) rfl (lt_b rfl) (ru_move rfl rfl) ?_
  refine SM.ru rfl rfl rfl (w_all rfl) rfl (lt_b rfl) (ru_nilCheck rfl rfl) ?_
  refine SM.ru rfl rfl rfl (w_all rfl) rfl (lt_b rfl) (ru_fieldAddr (o2 := 2) fd86_2 rfl rfl rfl) ?_
  have hbd8 := lastI_bd T0
  refine SM.call rfl rfl rfl rfl (w_all rfl) rfl (lt_b rfl) (iw (lastI T0)) rfl rfl co36 rfl rfl (fun l' w hI => H_only hI (last_t hT0 (hI.1.get (i := 0) rfl))) ?_
  refine SM.ru rfl rfl rfl (w_all rfl) rfl (lt_b rfl) (ru_fieldAddr (o2 := 1) fd33_1 rfl rfl rfl) ?_
  refine SM.ru rfl rfl rfl (w_all rfl) rfl (lt_b rfl) (ru_load (i := 5) ts28 rfl rfl rfl rfl) ?_
  refine SM.ru rfl rfl rfl (w_all rfl) rfl (lt_b rfl) (ru_fieldAddr (o2 := 2) fd33_2 rfl rfl rfl) ?_
  refine SM.ru rfl rfl rfl (w_all rfl) rfl (lt_b rfl) (ru_load (i := 5) ts28 rfl rfl rfl rfl) ?_
  refine SM.buildSlice (size := 1) (vals := [(0, Value.slice qh1 ((seeF L0 id).1.head.length) ch2), (1, Value.slice qd3 ((seeF L0 id).1.data.length) cd4)]) (z := [Value.slice none 0 0]) (cs := [Value.slice qh1 ((seeF L0 id).1.head.length) ch2, Value.slice qd3 ((seeF L0 id).1.data.length) cd4]) (dp := []) (csf := fun _ => [Value.slice qh1 ((seeF L0 id).1.head.length) ch2, Value.slice qd3 ((seeF L0 id).1.data.length) cd4]) rfl rfl rfl rfl (w_all rfl) rfl (lt_b rfl) rfl rfl rfl rfl Try.underlying27 (by kernel_rfl) rfl rfl (by kernel_rfl) fun b10 hb10 => ?_
  refine SM.mkcall (s := Mk.mine ⟨67, w, rS r d p ab⟩ (((seeF L0 id).1.head) ++ ((seeF L0 id).1.data)) 5) rfl rfl rfl rfl (w_all rfl) rfl (lt_b rfl) rfl rfl rfl co37 rfl rfl (fun l' w hI => (catBB_any (w := w) (hI.1.get (i := 6) rfl) (mine_bytes hI (j := 3) rfl (Nat.le_trans (hsz).1 (by decide))) (mine_bytes hI (j := 4) rfl (Nat.le_trans (hsz).2 (by decide))) (by omega)).mono fun e w2 ⟨q, c, h1, h2, h3, h4⟩ => ⟨_, h1, ⟨q, c, fun b hb => Nat.le_trans hI.2.size (h3 b hb), rfl⟩, hI.add h4 h2 h3⟩) ?_
  rintro _ ⟨q11, c12, hq11, rfl⟩
  refine SM.nilL (l' := [rBlk r (rc d p T0 R0) 86, rDev d F0 A0, rPool p ab L0, rMine (.slice qh1 ((seeF L0 id).1.head).length ch2) ((seeF L0 id).1.head) 5, rMine (.slice qd3 ((seeF L0 id).1.data).length cd4) ((seeF L0 id).1.data) 5, rBlk b5 [iw ((seeF L0 id).1.refs : Int), Value.slice qh1 ((seeF L0 id).1.head.length) ch2, Value.slice qd3 ((seeF L0 id).1.data.length) cd4] 33, rBlk b10 [Value.slice qh1 ((seeF L0 id).1.head.length) ch2, Value.slice qd3 ((seeF L0 id).1.data.length) cd4] 28, rMine (.slice q11 (((seeF L0 id).1.head) ++ ((seeF L0 id).1.data)).length c12) (((seeF L0 id).1.head) ++ ((seeF L0 id).1.data)) 5]) rfl ?_
  refine SL.call (ζ := Nat → Prop) (fun F13 => iw ((setTxF A0 (lastI T0) (((seeF L0 id).1.head) ++ ((seeF L0 id).1.data))).1)) (fun F13 => [rBlk r (rc d p T0 R0) 86, rDev d F13 ((setTxF A0 (lastI T0) (((seeF L0 id).1.head) ++ ((seeF L0 id).1.data))).2), rPool p ab L0, rMine (.slice qh1 ((seeF L0 id).1.head).length ch2) ((seeF L0 id).1.head) 5, rMine (.slice qd3 ((seeF L0 id).1.data).length cd4) ((seeF L0 id).1.data) 5, rBlk b5 [iw ((seeF L0 id).1.refs : Int), Value.slice qh1 ((seeF L0 id).1.head.length) ch2, Value.slice qd3 ((seeF L0 id).1.data.length) cd4] 33, rBlk b10 [Value.slice qh1 ((seeF L0 id).1.head.length) ch2, Value.slice qd3 ((seeF L0 id).1.data.length) cd4] 28, rMine (.slice q11 (((seeF L0 id).1.head) ++ ((seeF L0 id).1.data)).length c12) (((seeF L0 id).1.head) ++ ((seeF L0 id).1.data)) 5]) (fun F13 => ∀ b, F13 b → F0 b ∨ w.heap.size ≤ b) rfl rfl co35 rfl rfl rfl (lt_b rfl) (fun w hI => (p_settx hk (nic_at hI (i := 1) rfl) (mine_bytes hI (j := 7) rfl (by rw [List.length_append]; omega)) ((mineIn hI (j := 7) (i := 1) rfl rfl (by decide)).mono (fun b hb e => hb (.inl e))) (lastI T0)).mono fun e w2 ⟨h1, h2⟩ => by obtain ⟨F2, k1, k2⟩ := hI.nicB (i := 1) rfl rS_d h2 (fun b hb => .inl hb); exact ⟨F2, h1, k1, k2⟩) ?_
  intro F13 hF13
  refine SL.as ?_
  refine SL.nn [(0, pt r 0), (1, iw id), (4, iw 0), (7, iw ((setTxF A0 (lastI T0) (((seeF L0 id).1.head) ++ ((seeF L0 id).1.data))).1))] [rBlk r (rc d p T0 R0) 86, rDev d F13 ((setTxF A0 (lastI T0) (((seeF L0 id).1.head) ++ ((seeF L0 id).1.data))).2), rPool p ab L0, rMine (.slice qh1 ((seeF L0 id).1.head).length ch2) ((seeF L0 id).1.head) 5, rMine (.slice qd3 ((seeF L0 id).1.data).length cd4) ((seeF L0 id).1.data) 5, rBlk b5 [iw ((seeF L0 id).1.refs : Int), Value.slice qh1 ((seeF L0 id).1.head.length) ch2, Value.slice qd3 ((seeF L0 id).1.data.length) cd4] 33, rBlk b10 [Value.slice qh1 ((seeF L0 id).1.head.length) ch2, Value.slice qd3 ((seeF L0 id).1.data.length) cd4] 28, rMine (.slice q11 (((seeF L0 id).1.head) ++ ((seeF L0 id).1.data)).length c12) (((seeF L0 id).1.head) ++ ((seeF L0 id).1.data)) 5] ⟨rfl, rfl, rfl, rfl, trivial⟩ ?_
  refine SC.sr ?_
  refine SL.mv ?_
  refine SL.uu (ru_ne (b := ((((setTxF A0 (lastI T0) (((seeF L0 id).1.head) ++ ((seeF L0 id).1.data))).1) : Int) != 0)) rfl rfl rfl rfl) ?_
  refine SL.nn [(0, pt r 0), (1, iw id), (4, iw 0), (7, iw ((setTxF A0 (lastI T0) (((seeF L0 id).1.head) ++ ((seeF L0 id).1.data))).1)), (45, bo ((((setTxF A0 (lastI T0) (((seeF L0 id).1.head) ++ ((seeF L0 id).1.data))).1) : Int) != 0))] _ ⟨rfl, rfl, rfl, rfl, rfl, trivial⟩ ?_
  refine SC.both ((((setTxF A0 (lastI T0) (((seeF L0 id).1.head) ++ ((seeF L0 id).1.data))).1) : Int) != 0) rfl (fun h14 => ?_) (fun h14 => ?_)
  · skip
    refine SC.sr ?_
    refine SL.mv ?_
    refine SL.as ?_
    refine SL.nn [(0, pt r 0), (1, iw id), (4, iw ((setTxF A0 (lastI T0) (((seeF L0 id).1.head) ++ ((seeF L0 id).1.data))).1))] _ ⟨rfl, rfl, rfl, trivial⟩ ?_
    refine SC.ret ?_
    refine SE.passr ?_
    have e : sendF ⟨A0, L0, T0, R0⟩ id = ((setTxF A0 (lastI T0) (((seeF L0 id).1.head) ++ ((seeF L0 id).1.data))).1, ⟨(setTxF A0 (lastI T0) (((seeF L0 id).1.head) ++ ((seeF L0 id).1.data))).2, L0, T0, R0⟩) := by
      unfold sendF; dsimp only; rw [if_neg (ne_f h6), if_neg (eq_f h7), if_neg (eq_f h8), if_pos (ne_t h14)]
    refine SE.res (.inl rfl) (res1 Try.results10 rfl) fun w1 hI => ?_
    rw [e]
    exact ⟨rfl, RingTo.fin hI hF13⟩
  refine SC.skip ?_
  refine SC.of_SE ?_
  refine SC.norm [(0, pt r 0), (1, iw id), (4, iw 0)] _ ⟨rfl, rfl, rfl, trivial⟩ rfl ?_
  refine SC.sr ?_
  refine SL.mv ?_
  refine SL.nk ?_
  refine SL.uu (ru_fieldAddr (o2 := 2) fd86_2 rfl rfl rfl) ?_
  refine SL.mv ?_
  refine SL.call (ζ := Unit) (fun _z => Value.tuple #[]) (fun _z => [rBlk r (rc d p (putL T0 id) R0) 86, rDev d F13 ((setTxF A0 (lastI T0) (((seeF L0 id).1.head) ++ ((seeF L0 id).1.data))).2), rPool p ab L0, rMine (.slice qh1 ((seeF L0 id).1.head).length ch2) ((seeF L0 id).1.head) 5, rMine (.slice qd3 ((seeF L0 id).1.data).length cd4) ((seeF L0 id).1.data) 5, rBlk b5 [iw ((seeF L0 id).1.refs : Int), Value.slice qh1 ((seeF L0 id).1.head.length) ch2, Value.slice qd3 ((seeF L0 id).1.data.length) cd4] 33, rBlk b10 [Value.slice qh1 ((seeF L0 id).1.head.length) ch2, Value.slice qd3 ((seeF L0 id).1.data.length) cd4] 28, rMine (.slice q11 (((seeF L0 id).1.head) ++ ((seeF L0 id).1.data)).length c12) (((seeF L0 id).1.head) ++ ((seeF L0 id).1.data)) 5]) (fun _z => True) rfl rfl co38 rfl rfl rfl (lt_b rfl) (fun w hI => (put_t hT0 (hI.1.get (i := 0) rfl) id).mono fun e w2 ⟨h1, h2, h3⟩ => ⟨(), h1, hI.upd (i := 0) rfl h3 (fun b hb => rS_r hb) h2 (fun b hb => .inl hb), trivial⟩) ?_
  rintro ⟨⟩ _
  refine SL.nn [(0, pt r 0), (1, iw id), (4, iw 0)] [rBlk r (rc d p (putL T0 id) R0) 86, rDev d F13 ((setTxF A0 (lastI T0) (((seeF L0 id).1.head) ++ ((seeF L0 id).1.data))).2), rPool p ab L0, rMine (.slice qh1 ((seeF L0 id).1.head).length ch2) ((seeF L0 id).1.head) 5, rMine (.slice qd3 ((seeF L0 id).1.data).length cd4) ((seeF L0 id).1.data) 5, rBlk b5 [iw ((seeF L0 id).1.refs : Int), Value.slice qh1 ((seeF L0 id).1.head.length) ch2, Value.slice qd3 ((seeF L0 id).1.data.length) cd4] 33, rBlk b10 [Value.slice qh1 ((seeF L0 id).1.head.length) ch2, Value.slice qd3 ((seeF L0 id).1.data.length) cd4] 28, rMine (.slice q11 (((seeF L0 id).1.head) ++ ((seeF L0 id).1.data)).length c12) (((seeF L0 id).1.head) ++ ((seeF L0 id).1.data)) 5] ⟨rfl, rfl, rfl, trivial⟩ ?_
  refine SC.sr ?_
  refine SL.mv ?_
  refine SL.nk ?_
  refine SL.uu (ru_fieldAddr (o2 := 1) fd86_1 rfl rfl rfl) ?_
  refine SL.uu (ru_load (i := 0) (v := pt p 0) ts37 rfl rfl rfl rc_p) ?_
  refine SL.mv ?_
  refine SL.call (ζ := Unit) (fun _z => iw ((holdF L0 id).1)) (fun _z => [rBlk r (rc d p (putL T0 id) R0) 86, rDev d F13 ((setTxF A0 (lastI T0) (((seeF L0 id).1.head) ++ ((seeF L0 id).1.data))).2), rPool p ab ((holdF L0 id).2), rMine (.slice qh1 ((seeF L0 id).1.head).length ch2) ((seeF L0 id).1.head) 5, rMine (.slice qd3 ((seeF L0 id).1.data).length cd4) ((seeF L0 id).1.data) 5, rBlk b5 [iw ((seeF L0 id).1.refs : Int), Value.slice qh1 ((seeF L0 id).1.head.length) ch2, Value.slice qd3 ((seeF L0 id).1.data.length) cd4] 33, rBlk b10 [Value.slice qh1 ((seeF L0 id).1.head.length) ch2, Value.slice qd3 ((seeF L0 id).1.data.length) cd4] 28, rMine (.slice q11 (((seeF L0 id).1.head) ++ ((seeF L0 id).1.data)).length c12) (((seeF L0 id).1.head) ++ ((seeF L0 id).1.data)) 5]) (fun _z => True) rfl rfl co39 rfl rfl rfl (lt_b rfl) (fun w hI => (hold_any (pool_at hI (i := 2) rfl) id hL).mono fun e w2 ⟨h1, h2⟩ => ⟨(), h1, hI.poolTo (i := 2) rfl (fun b hb => rS_p hb) h2, trivial⟩) ?_
  rintro ⟨⟩ _
  refine SL.nn [(0, pt r 0), (4, iw 0)] [rBlk r (rc d p (putL T0 id) R0) 86, rDev d F13 ((setTxF A0 (lastI T0) (((seeF L0 id).1.head) ++ ((seeF L0 id).1.data))).2), rPool p ab ((holdF L0 id).2), rMine (.slice qh1 ((seeF L0 id).1.head).length ch2) ((seeF L0 id).1.head) 5, rMine (.slice qd3 ((seeF L0 id).1.data).length cd4) ((seeF L0 id).1.data) 5, rBlk b5 [iw ((seeF L0 id).1.refs : Int), Value.slice qh1 ((seeF L0 id).1.head.length) ch2, Value.slice qd3 ((seeF L0 id).1.data.length) cd4] 33, rBlk b10 [Value.slice qh1 ((seeF L0 id).1.head.length) ch2, Value.slice qd3 ((seeF L0 id).1.data.length) cd4] 28, rMine (.slice q11 (((seeF L0 id).1.head) ++ ((seeF L0 id).1.data)).length c12) (((seeF L0 id).1.head) ++ ((seeF L0 id).1.data)) 5] ⟨rfl, rfl, trivial⟩ ?_
  refine SC.seq ?_
  refine SC.region_mk_tail 8 [(7, Mk.val (iw (lastI (putL T0 id))))] [] rfl rfl (by kernel_rfl) (by kernel_rfl) (by kernel_rfl) ?_
  refine SM.ru rfl rfl rfl (w_all rfl) rfl (lt_b rfl) (ru_move rfl rfl) ?_
  refine SM.ru rfl rfl rfl (w_all rfl) rfl (lt_b rfl) (ru_nilCheck rfl rfl) ?_
  refine SM.ru rfl rfl rfl (w_all rfl) rfl (lt_b rfl) (ru_fieldAddr (o2 := 0) fd86_0 rfl rfl rfl) ?_
  refine SM.ru rfl rfl rfl (w_all rfl) rfl (lt_b rfl) (ru_load (i := 0) (v := pt d 0) ts36 rfl rfl rfl rc_d) ?_
  refine SM.ru rfl rfl rfl (w_all rfl) rfl (lt_b rfl) (ru_move rfl rfl) ?_
  refine SM.ru rfl rfl rfl (w_all rfl) rfl (lt_b rfl) (ru_nilCheck rfl rfl) ?_
  refine SM.ru rfl rfl rfl (w_all rfl) rfl (lt_b rfl) (ru_fieldAddr (o2 := 2) fd86_2 rfl rfl rfl) ?_
  have hbd14 := lastI_bd (putL T0 id)
  refine SM.call rfl rfl rfl rfl (w_all rfl) rfl (lt_b rfl) (iw (lastI (putL T0 id))) rfl rfl co36 rfl rfl (fun l' w hI => H_only hI (last_t (putL_ok hT0 (by omega) _) (hI.1.get (i := 0) rfl))) ?_
  refine SM.nilL (l' := [rBlk r (rc d p (putL T0 id) R0) 86, rDev d F13 ((setTxF A0 (lastI T0) (((seeF L0 id).1.head) ++ ((seeF L0 id).1.data))).2), rPool p ab ((holdF L0 id).2), rMine (.slice qh1 ((seeF L0 id).1.head).length ch2) ((seeF L0 id).1.head) 5, rMine (.slice qd3 ((seeF L0 id).1.data).length cd4) ((seeF L0 id).1.data) 5, rBlk b5 [iw ((seeF L0 id).1.refs : Int), Value.slice qh1 ((seeF L0 id).1.head.length) ch2, Value.slice qd3 ((seeF L0 id).1.data.length) cd4] 33, rBlk b10 [Value.slice qh1 ((seeF L0 id).1.head.length) ch2, Value.slice qd3 ((seeF L0 id).1.data.length) cd4] 28, rMine (.slice q11 (((seeF L0 id).1.head) ++ ((seeF L0 id).1.data)).length c12) (((seeF L0 id).1.head) ++ ((seeF L0 id).1.data)) 5]) rfl ?_
  refine SL.call (ζ := Nat → Prop) (fun F16 => iw ((writeF ((setTxF A0 (lastI T0) (((seeF L0 id).1.head) ++ ((seeF L0 id).1.data))).2) 5 (lastI (putL T0 id))).1)) (fun F16 => [rBlk r (rc d p (putL T0 id) R0) 86, rDev d F16 ((writeF ((setTxF A0 (lastI T0) (((seeF L0 id).1.head) ++ ((seeF L0 id).1.data))).2) 5 (lastI (putL T0 id))).2), rPool p ab ((holdF L0 id).2), rMine (.slice qh1 ((seeF L0 id).1.head).length ch2) ((seeF L0 id).1.head) 5, rMine (.slice qd3 ((seeF L0 id).1.data).length cd4) ((seeF L0 id).1.data) 5, rBlk b5 [iw ((seeF L0 id).1.refs : Int), Value.slice qh1 ((seeF L0 id).1.head.length) ch2, Value.slice qd3 ((seeF L0 id).1.data.length) cd4] 33, rBlk b10 [Value.slice qh1 ((seeF L0 id).1.head.length) ch2, Value.slice qd3 ((seeF L0 id).1.data.length) cd4] 28, rMine (.slice q11 (((seeF L0 id).1.head) ++ ((seeF L0 id).1.data)).length c12) (((seeF L0 id).1.head) ++ ((seeF L0 id).1.data)) 5]) (fun F16 => ∀ b, F16 b → F0 b ∨ w.heap.size ≤ b) rfl rfl co40 rfl rfl rfl (lt_b rfl) (fun w hI => (p_write (setTx_ok hk _ _) (nic_at hI (i := 1) rfl) 5 (lastI (putL T0 id))).mono fun e w2 ⟨h1, h2⟩ => by obtain ⟨F2, k1, k2⟩ := hI.nicB (i := 1) rfl rS_d (NicTo.of h2) hF13; exact ⟨F2, h1, k1, k2⟩) ?_
  intro F16 hF16
  refine SL.nn [(4, iw 0)] [rBlk r (rc d p (putL T0 id) R0) 86, rDev d F16 ((writeF ((setTxF A0 (lastI T0) (((seeF L0 id).1.head) ++ ((seeF L0 id).1.data))).2) 5 (lastI (putL T0 id))).2), rPool p ab ((holdF L0 id).2), rMine (.slice qh1 ((seeF L0 id).1.head).length ch2) ((seeF L0 id).1.head) 5, rMine (.slice qd3 ((seeF L0 id).1.data).length cd4) ((seeF L0 id).1.data) 5, rBlk b5 [iw ((seeF L0 id).1.refs : Int), Value.slice qh1 ((seeF L0 id).1.head.length) ch2, Value.slice qd3 ((seeF L0 id).1.data.length) cd4] 33, rBlk b10 [Value.slice qh1 ((seeF L0 id).1.head.length) ch2, Value.slice qd3 ((seeF L0 id).1.data.length) cd4] 28, rMine (.slice q11 (((seeF L0 id).1.head) ++ ((seeF L0 id).1.data)).length c12) (((seeF L0 id).1.head) ++ ((seeF L0 id).1.data)) 5] ⟨rfl, trivial⟩ ?_
  refine SC.sr ?_
  refine SL.as ?_
  refine SL.nn [(4, iw 0)] _ ⟨rfl, trivial⟩ ?_
  refine SC.ret ?_
  have e : sendF ⟨A0, L0, T0, R0⟩ id = (0, ⟨(writeF ((setTxF A0 (lastI T0) (((seeF L0 id).1.head) ++ ((seeF L0 id).1.data))).2) 5 (lastI (putL T0 id))).2, (holdF L0 id).2, putL T0 id, R0⟩) := by
    unfold sendF; dsimp only; rw [if_neg (ne_f h6), if_neg (eq_f h7), if_neg (eq_f h8), if_neg (ne_f h14)]
  refine SE.res (.inl rfl) (res1 Try.results10 rfl) fun w1 hI => ?_
  rw [e]
  exact ⟨rfl, RingTo.fin hI hF16⟩

end Go.Proofs.Ytghfkgcaglabpaa

/-
  Poll.
-/
namespace Go.Proofs.Ytghfkgcaglabpaa
open Go.RowKit
set_option maxRecDepth 100000
set_option maxHeartbeats 4000000
theorem poll_any {w : World} {r d p ab : Nat} {F0 : Nat → Prop} {A0 : NicA} {L0 : List Bf} {T0 R0 : Line} (hk : NicOk A0) (hT0 : LineOk T0) (hR0 : LineOk R0) (hL : Few L0) (h : RingAt w r d p ab F0 ⟨A0, L0, T0, R0⟩) : Calls Try.prog 20 #[pt r 0] w fun e w' => ∃ q c, e = .returned (.slice q (pollF ⟨A0, L0, T0, R0⟩).2.length c) ∧ RingToW w r d p ab F0 (pollF ⟨A0, L0, T0, R0⟩).1 [rRowN (.slice q (pollF ⟨A0, L0, T0, R0⟩).2.length c) (comeV (pollF ⟨A0, L0, T0, R0⟩).2) 67 2] w' := by
  refine calls_sc (l0 := [rBlkRing r d p T0 R0, rDev d F0 A0, rPool p ab L0]) (args := [pt r 0]) (rS r d p ab) Try.func20 rfl 32 Try.ntmps20 (le_b rfl) (h.inv _ _) ?_
  show SC _ _ _ _ [(0, pt r 0)] [rBlkRing r d p T0 R0, rDev d F0 A0, rPool p ab L0]
  refine SC.sr ?_
  refine SL.box (c := [pt r 0]) rfl rfl (lt_b rfl) rfl rfl rfl fun b1 hb1 => ?_
  refine SL.as ?_
  refine SL.nn [(1, pt b1 0), (2, Value.slice none 0 0)] [rBlk r (rc d p T0 R0) 86, rDev d F0 A0, rPool p ab L0, rBlk b1 [pt r 0] 38] ⟨rfl, rfl, trivial⟩ ?_
  refine SC.seq ?_
  refine SC.sr ?_
  refine SL.uu (ru_load (i := 3) ts38 rfl rfl rfl rfl) ?_
  refine SL.call (ζ := Nat → Prop) (fun F2 => iw (A0.r 6)) (fun F2 => [rBlk r (rc d p T0 R0) 86, rDev d F2 (A6 A0), rPool p ab L0, rBlk b1 [pt r 0] 38]) (fun F2 => ∀ b, F2 b → F0 b ∨ w.heap.size ≤ b) rfl rfl co34 rfl rfl rfl (lt_b rfl) (fun w hI => (reg6 hk (RingAt.of3 hI)).mono fun e w2 ⟨h1, h2⟩ => by obtain ⟨F2, k1, k2⟩ := hI.nicB (i := 1) rfl rS_d h2 (fun b hb => .inl hb); exact ⟨F2, h1, k1, k2⟩) ?_
  intro F2 hF2
  refine SL.uu (ru_and (r := (bits .and .i64 (A0.r 6) 4)) rfl rfl rfl rfl) ?_
  refine SL.uu (ru_ne (b := (((bits .and .i64 (A0.r 6) 4) : Int) != 0)) rfl rfl rfl rfl) ?_
  refine SL.mv ?_
  refine SL.join 4 [(1, pt b1 0), (2, Value.slice none 0 0), (4, pt r 0), (5, iw (A0.r 6)), (6, iw (bits .and .i64 (A0.r 6) 4)), (7, bo (((bits .and .i64 (A0.r 6) 4) : Int) != 0)), (8, bo (((bits .and .i64 (A0.r 6) 4) : Int) != 0)), (12, bo ((((bits .and .i64 (A0.r 6) 4) : Int) != 0) && (((A0.r 1) : Int) == 0)))] [rBlk r (rc d p T0 R0) 86, rDev d F2 (A6 A0), rPool p ab L0, rBlk b1 [pt r 0] 38] ?_ ?_
  rotate_left
  · intro K hK
    rcases tf (((bits .and .i64 (A0.r 6) 4) : Int) != 0) with h3 | h3
    · skip
      refine SL.norm [(1, pt b1 0), (2, Value.slice none 0 0), (4, pt r 0), (5, iw (A0.r 6)), (6, iw (bits .and .i64 (A0.r 6) 4)), (7, bo true), (8, bo true)] [rBlk r (rc d p T0 R0) 86, rDev d F2 (A6 A0), rPool p ab L0, rBlk b1 [pt r 0] 38] ⟨rfl, rfl, rfl, rfl, rfl, (congrArg (fun x => some (Value.bool x)) h3), (congrArg (fun x => some (Value.bool x)) h3), trivial⟩ rfl ?_
      refine SL.gg (ru_load (i := 3) ts38 rfl rfl rfl rfl) ?_
      refine SL.callvg (iw (A0.r 1)) rfl rfl rfl rfl co34 rfl rfl rfl (lt_b rfl) (fun w hI => H_only hI (regq1 (A := A6 A0) (read6_ok hk) (RingAt.of3 hI))) ?_
      refine SL.gg (ru_eq (b := (((A0.r 1) : Int) == 0)) rfl rfl rfl rfl) ?_
      refine SL.uu (ru_pick (u := bo (((A0.r 1) : Int) == 0)) (v := bo false) rfl rfl rfl rfl) ?_
      exact SL.joined hK ⟨rfl, rfl, rfl, rfl, rfl, (congrArg (fun x => some (Value.bool x)) h3.symm), (congrArg (fun x => some (Value.bool x)) h3.symm), (congrArg (fun x => some (Value.bool (x && (((A0.r 1) : Int) == 0)))) h3.symm), trivial⟩ rfl
    refine SL.norm [(1, pt b1 0), (2, Value.slice none 0 0), (4, pt r 0), (5, iw (A0.r 6)), (6, iw (bits .and .i64 (A0.r 6) 4)), (7, bo false), (8, bo false)] [rBlk r (rc d p T0 R0) 86, rDev d F2 (A6 A0), rPool p ab L0, rBlk b1 [pt r 0] 38] ⟨rfl, rfl, rfl, rfl, rfl, (congrArg (fun x => some (Value.bool x)) h3), (congrArg (fun x => some (Value.bool x)) h3), trivial⟩ rfl ?_
    refine SL.oo ?_
    refine SL.oo ?_
    refine SL.oo ?_
    refine SL.uu (ru_pick (u := undef) (v := bo false) rfl rfl rfl rfl) ?_
    exact SL.joined hK ⟨rfl, rfl, rfl, rfl, rfl, (congrArg (fun x => some (Value.bool x)) h3.symm), (congrArg (fun x => some (Value.bool x)) h3.symm), (congrArg (fun x => some (Value.bool (x && (((A0.r 1) : Int) == 0)))) h3.symm), trivial⟩ rfl
  skip
  refine SL.nn [(1, pt b1 0), (2, Value.slice none 0 0), (12, bo ((((bits .and .i64 (A0.r 6) 4) : Int) != 0) && (((A0.r 1) : Int) == 0)))] [rBlk r (rc d p T0 R0) 86, rDev d F2 (A6 A0), rPool p ab L0, rBlk b1 [pt r 0] 38] ⟨rfl, rfl, rfl, trivial⟩ ?_
  refine SC.both ((((bits .and .i64 (A0.r 6) 4) : Int) != 0) && (((A0.r 1) : Int) == 0)) rfl (fun h4 => ?_) (fun h4 => ?_)
  · skip
    refine SC.sr ?_
    refine SL.uu (ru_load (i := 3) ts38 rfl rfl rfl rfl) ?_
    refine SL.call (ζ := Nat → Prop) (fun F5 => Value.tuple #[]) (fun F5 => [rBlk r (rc d p ((resetF ⟨A6 A0, L0, T0, R0⟩).T) ((resetF ⟨A6 A0, L0, T0, R0⟩).R)) 86, rDev d F5 ((resetF ⟨A6 A0, L0, T0, R0⟩).A), rPool p ab ((resetF ⟨A6 A0, L0, T0, R0⟩).L), rBlk b1 [pt r 0] 38]) (fun F5 => ∀ b, F5 b → F0 b ∨ w.heap.size ≤ b) rfl rfl co47 rfl rfl rfl (lt_b rfl) (fun w hI => (reset_any (read6_ok hk) hT0 hR0 hL (RingAt.of3 hI)).mono fun e w2 ⟨h1, h2⟩ => by obtain ⟨F2, k1, k2⟩ := hI.ring3 (S := ⟨A6 A0, L0, T0, R0⟩) (fun b hb => .inl hb) h2 hF2; exact ⟨F2, h1, k1, k2⟩) ?_
    intro F5 hF5
    refine SL.nn [(1, pt b1 0), (2, Value.slice none 0 0)] [rBlk r (rc d p ((resetF ⟨A6 A0, L0, T0, R0⟩).T) ((resetF ⟨A6 A0, L0, T0, R0⟩).R)) 86, rDev d F5 ((resetF ⟨A6 A0, L0, T0, R0⟩).A), rPool p ab ((resetF ⟨A6 A0, L0, T0, R0⟩).L), rBlk b1 [pt r 0] 38] ⟨rfl, rfl, trivial⟩ ?_
    refine SC.sr ?_
    refine SL.as ?_
    refine SL.nn [(1, pt b1 0), (2, Value.slice none 0 0)] _ ⟨rfl, rfl, trivial⟩ ?_
    refine SC.ret ?_
    refine SE.passr ?_
    refine SE.res (.inl rfl) (res1 Try.results20 rfl) fun w1 hI => ?_
    have e : pollF ⟨A0, L0, T0, R0⟩ = (⟨(resetF ⟨A6 A0, L0, T0, R0⟩).A, (resetF ⟨A6 A0, L0, T0, R0⟩).L, (resetF ⟨A6 A0, L0, T0, R0⟩).T, (resetF ⟨A6 A0, L0, T0, R0⟩).R⟩, []) := by unfold pollF; dsimp only; rw [if_pos (show downB A0 = true from h4)]
    rw [e]
    refine ⟨none, 0, rfl, F5, ((hI.packRing (S := ⟨(resetF ⟨A6 A0, L0, T0, R0⟩).A, (resetF ⟨A6 A0, L0, T0, R0⟩).L, (resetF ⟨A6 A0, L0, T0, R0⟩).T, (resetF ⟨A6 A0, L0, T0, R0⟩).R⟩)).add (Only.refl _ _) (r := rRowN (.slice none 0 0) (comeV []) 67 2) (rowN_nil _ _ _) (fun b hb => by cases hb)).pick (js := [0, 2]) rfl |>.1, hF5, fun q hq b hb => ?_, hI.2⟩
    simp only [List.mem_cons, List.not_mem_nil, or_false] at hq
    subst hq
    cases hb
  refine SC.skip ?_
  refine SC.of_SE ?_
  refine SC.norm [(1, pt b1 0), (2, Value.slice none 0 0)] _ ⟨rfl, rfl, trivial⟩ rfl ?_
  refine SC.seq ?_
  refine SC.region_mk_tail 6 [(4, Mk.val (iw (A0.r 4)))] [] rfl rfl (by kernel_rfl) (by kernel_rfl) (by kernel_rfl) ?_
  refine SM.ru rfl rfl rfl (w_all rfl) rfl (lt_b rfl) (ru_load (i := 3) ts38 rfl rfl rfl rfl) ?_
  refine SM.ru rfl rfl rfl (w_all rfl) rfl (lt_b rfl) (ru_nilCheck rfl rfl) ?_
  refine SM.ru rfl rfl rfl (w_all rfl) rfl (lt_b rfl) (ru_fieldAddr (o2 := 2) fd86_2 rfl rfl rfl) ?_
  refine SM.ru rfl rfl rfl (w_all rfl) rfl (lt_b rfl) (ru_load (i := 3) ts38 rfl rfl rfl rfl) ?_
  refine SM.call rfl rfl rfl rfl (w_all rfl) rfl (lt_b rfl) (iw (A0.r 4)) rfl rfl co34 rfl rfl (fun l' w hI => H_only hI (regq4 (A := A6 A0) (read6_ok hk) (RingAt.of3 hI))) ?_
  refine SM.ru rfl rfl rfl (w_all rfl) rfl (lt_b rfl) (ru_makeFunc (v1 := []) (v2 := [pt b1 0]) rfl rfl rfl) ?_
  refine SM.nilL (l' := [rBlk r (rc d p T0 R0) 86, rDev d F2 (A6 A0), rPool p ab L0, rBlk b1 [pt r 0] 38]) rfl ?_
  refine SL.call (ζ := Nat → Prop) (fun F6 => Value.tuple #[]) (fun F6 => [rBlk r (rc d p ((uptoT T0.many.toNat (A0.r 4) L0 T0).2) R0) 86, rDev d F6 (A6 A0), rPool p ab ((uptoT T0.many.toNat (A0.r 4) L0 T0).1), rBlk b1 [pt r 0] 38]) (fun F6 => ∀ b, F6 b → F0 b ∨ w.heap.size ≤ b) rfl rfl co55 rfl rfl rfl (lt_b rfl) (fun w hI => (upto1_any hT0 hR0 hL hI.take4 (A0.r 4)).mono fun e w2 ⟨h1, h2⟩ => by obtain ⟨F2, k1, k2⟩ := hI.ring3 (S := ⟨A6 A0, L0, T0, R0⟩) (fun b hb => .inl hb) h2 hF2; exact ⟨F2, h1, k1, k2⟩) ?_
  intro F6 hF6
  refine SL.nn [(1, pt b1 0), (2, Value.slice none 0 0)] [rBlk r (rc d p ((uptoT T0.many.toNat (A0.r 4) L0 T0).2) R0) 86, rDev d F6 (A6 A0), rPool p ab ((uptoT T0.many.toNat (A0.r 4) L0 T0).1), rBlk b1 [pt r 0] 38] ⟨rfl, rfl, trivial⟩ ?_
  refine SC.sr ?_
  refine SL.alloc rfl rfl (lt_b rfl) ts61 rfl fun b7 hb7 => ?_
  refine SL.nn [(1, pt b1 0), (2, Value.slice none 0 0), (3, pt b7 0)] [rBlk r (rc d p ((uptoT T0.many.toNat (A0.r 4) L0 T0).2) R0) 86, rDev d F6 (A6 A0), rPool p ab ((uptoT T0.many.toNat (A0.r 4) L0 T0).1), rBlk b1 [pt r 0] 38, rBlk b7 [Value.slice none 0 0] 61] ⟨rfl, rfl, rfl, trivial⟩ ?_
  refine SC.seq ?_
  refine SC.region_mk_tail 6 [(4, Mk.val (iw (A0.r 2)))] [] rfl rfl (by kernel_rfl) (by kernel_rfl) (by kernel_rfl) ?_
  refine SM.ru rfl rfl rfl (w_all rfl) rfl (lt_b rfl) (ru_load (i := 3) ts38 rfl rfl rfl rfl) ?_
  refine SM.ru rfl rfl rfl (w_all rfl) rfl (lt_b rfl) (ru_nilCheck rfl rfl) ?_
  refine SM.ru rfl rfl rfl (w_all rfl) rfl (lt_b rfl) (ru_fieldAddr (o2 := 20) fd86_3 rfl rfl rfl) ?_
  refine SM.ru rfl rfl rfl (w_all rfl) rfl (lt_b rfl) (ru_load (i := 3) ts38 rfl rfl rfl rfl) ?_
  refine SM.call rfl rfl rfl rfl (w_all rfl) rfl (lt_b rfl) (iw (A0.r 2)) rfl rfl co34 rfl rfl (fun l' w hI => H_only hI (regq2 (A := A6 A0) (read6_ok hk) (RingAt.of3 hI))) ?_
  refine SM.ru rfl rfl rfl (w_all rfl) rfl (lt_b rfl) (ru_makeFunc (v1 := []) (v2 := [pt b1 0, pt b7 0]) rfl rfl rfl) ?_
  refine SM.nilL (l' := [rBlk r (rc d p ((uptoT T0.many.toNat (A0.r 4) L0 T0).2) R0) 86, rDev d F6 (A6 A0), rPool p ab ((uptoT T0.many.toNat (A0.r 4) L0 T0).1), rBlk b1 [pt r 0] 38, rBlk b7 [Value.slice none 0 0] 61]) rfl ?_
  refine SL.call (ζ := Option Addr × Nat) (fun z => Value.tuple #[]) (fun z => [rBlk r (rc d p ((uptoT T0.many.toNat (A0.r 4) L0 T0).2) ((uptoR (A6 A0) R0.many.toNat (A0.r 2) ((uptoT T0.many.toNat (A0.r 4) L0 T0).1) R0 []).2.1)) 86, rDev d F6 (A6 A0), rPool p ab ((uptoR (A6 A0) R0.many.toNat (A0.r 2) ((uptoT T0.many.toNat (A0.r 4) L0 T0).1) R0 []).1), rBlk b1 [pt r 0] 38, rBlk b7 [Value.slice z.1 ((uptoR (A6 A0) R0.many.toNat (A0.r 2) ((uptoT T0.many.toNat (A0.r 4) L0 T0).1) R0 []).2.2.length) z.2] 61, rRowN (.slice z.1 ((uptoR (A6 A0) R0.many.toNat (A0.r 2) ((uptoT T0.many.toNat (A0.r 4) L0 T0).1) R0 []).2.2.length) z.2) (comeV (uptoR (A6 A0) R0.many.toNat (A0.r 2) ((uptoT T0.many.toNat (A0.r 4) L0 T0).1) R0 []).2.2) 67 2]) (fun z => ∀ b, (Value.slice z.1 (uptoR (A6 A0) R0.many.toNat (A0.r 2) ((uptoT T0.many.toNat (A0.r 4) L0 T0).1) R0 []).2.2.length z.2).ownBlock = some b → (rS r d p ab b ∨ b = b7) ∨ w.heap.size ≤ b) rfl rfl co55 rfl rfl rfl (lt_b rfl) (fun w hI => (upto2_any (read6_ok hk) (uptoT_ok (hd := (A0.r 4)) T0.many.toNat hL hT0 (by have := (hT0).m; omega)).2 hR0 (uptoT_ok (hd := (A0.r 4)) T0.many.toNat hL hT0 (by have := (hT0).m; omega)).1 hI.1 (A0.r 2)).mono fun e w2 ⟨h1, q', c', h2, t⟩ => ⟨(q', c'), h1, hI.turns0 t (fun b hb => zU_in hb) (fun b hb => hb.elim .inl (fun e => .inr (e ▸ hb7))), fun b hb => (h2 b hb).imp (fun e => e) (fun e => Nat.le_trans hI.2.size e)⟩) ?_
  rintro ⟨q8, c9⟩ hq10
  refine SL.nn [(1, pt b1 0), (2, Value.slice none 0 0), (3, pt b7 0)] [rBlk r (rc d p ((uptoT T0.many.toNat (A0.r 4) L0 T0).2) ((uptoR (A6 A0) R0.many.toNat (A0.r 2) ((uptoT T0.many.toNat (A0.r 4) L0 T0).1) R0 []).2.1)) 86, rDev d F6 (A6 A0), rPool p ab ((uptoR (A6 A0) R0.many.toNat (A0.r 2) ((uptoT T0.many.toNat (A0.r 4) L0 T0).1) R0 []).1), rBlk b1 [pt r 0] 38, rBlk b7 [Value.slice q8 ((uptoR (A6 A0) R0.many.toNat (A0.r 2) ((uptoT T0.many.toNat (A0.r 4) L0 T0).1) R0 []).2.2.length) c9] 61, rRowN (.slice q8 ((uptoR (A6 A0) R0.many.toNat (A0.r 2) ((uptoT T0.many.toNat (A0.r 4) L0 T0).1) R0 []).2.2.length) c9) (comeV (uptoR (A6 A0) R0.many.toNat (A0.r 2) ((uptoT T0.many.toNat (A0.r 4) L0 T0).1) R0 []).2.2) 67 2] ⟨rfl, rfl, rfl, trivial⟩ ?_
  refine SC.sr ?_
  refine SL.uu (ru_load (i := 3) ts38 rfl rfl rfl rfl) ?_
  refine SL.call (ζ := Nat → Prop) (fun F11 => Value.tuple #[]) (fun F11 => [rBlk r (rc d p ((fillF ⟨A6 A0, (uptoR (A6 A0) R0.many.toNat (A0.r 2) ((uptoT T0.many.toNat (A0.r 4) L0 T0).1) R0 []).1, (uptoT T0.many.toNat (A0.r 4) L0 T0).2, (uptoR (A6 A0) R0.many.toNat (A0.r 2) ((uptoT T0.many.toNat (A0.r 4) L0 T0).1) R0 []).2.1⟩).T) ((fillF ⟨A6 A0, (uptoR (A6 A0) R0.many.toNat (A0.r 2) ((uptoT T0.many.toNat (A0.r 4) L0 T0).1) R0 []).1, (uptoT T0.many.toNat (A0.r 4) L0 T0).2, (uptoR (A6 A0) R0.many.toNat (A0.r 2) ((uptoT T0.many.toNat (A0.r 4) L0 T0).1) R0 []).2.1⟩).R)) 86, rDev d F11 ((fillF ⟨A6 A0, (uptoR (A6 A0) R0.many.toNat (A0.r 2) ((uptoT T0.many.toNat (A0.r 4) L0 T0).1) R0 []).1, (uptoT T0.many.toNat (A0.r 4) L0 T0).2, (uptoR (A6 A0) R0.many.toNat (A0.r 2) ((uptoT T0.many.toNat (A0.r 4) L0 T0).1) R0 []).2.1⟩).A), rPool p ab ((fillF ⟨A6 A0, (uptoR (A6 A0) R0.many.toNat (A0.r 2) ((uptoT T0.many.toNat (A0.r 4) L0 T0).1) R0 []).1, (uptoT T0.many.toNat (A0.r 4) L0 T0).2, (uptoR (A6 A0) R0.many.toNat (A0.r 2) ((uptoT T0.many.toNat (A0.r 4) L0 T0).1) R0 []).2.1⟩).L), rBlk b1 [pt r 0] 38, rBlk b7 [Value.slice q8 ((uptoR (A6 A0) R0.many.toNat (A0.r 2) ((uptoT T0.many.toNat (A0.r 4) L0 T0).1) R0 []).2.2.length) c9] 61, rRowN (.slice q8 ((uptoR (A6 A0) R0.many.toNat (A0.r 2) ((uptoT T0.many.toNat (A0.r 4) L0 T0).1) R0 []).2.2.length) c9) (comeV (uptoR (A6 A0) R0.many.toNat (A0.r 2) ((uptoT T0.many.toNat (A0.r 4) L0 T0).1) R0 []).2.2) 67 2]) (fun F11 => ∀ b, F11 b → F0 b ∨ w.heap.size ≤ b) rfl rfl co59 rfl rfl rfl (lt_b rfl) (fun w hI => (fill_any (read6_ok hk) ((uptoT_ok (hd := (A0.r 4)) T0.many.toNat hL hT0 (by have := (hT0).m; omega)).2) ((uptoR_ok (A := A6 A0) (hd := (A0.r 2)) (o := []) R0.many.toNat (uptoT_ok (hd := (A0.r 4)) T0.many.toNat hL hT0 (by have := (hT0).m; omega)).1 hR0 (by have := (hR0).m; omega)).2) ((uptoR_ok (A := A6 A0) (hd := (A0.r 2)) (o := []) R0.many.toNat (uptoT_ok (hd := (A0.r 4)) T0.many.toNat hL hT0 (by have := (hT0).m; omega)).1 hR0 (by have := (hR0).m; omega)).1) (RingAt.of3 hI)).mono fun e w2 ⟨h1, h2⟩ => by obtain ⟨F2, k1, k2⟩ := hI.ring3 (S := ⟨A6 A0, (uptoR (A6 A0) R0.many.toNat (A0.r 2) ((uptoT T0.many.toNat (A0.r 4) L0 T0).1) R0 []).1, (uptoT T0.many.toNat (A0.r 4) L0 T0).2, (uptoR (A6 A0) R0.many.toNat (A0.r 2) ((uptoT T0.many.toNat (A0.r 4) L0 T0).1) R0 []).2.1⟩) (fun b hb => .inl hb) h2 hF6; exact ⟨F2, h1, k1, k2⟩) ?_
  intro F11 hF11
  refine SL.nn [(2, Value.slice none 0 0), (3, pt b7 0)] [rBlk r (rc d p ((fillF ⟨A6 A0, (uptoR (A6 A0) R0.many.toNat (A0.r 2) ((uptoT T0.many.toNat (A0.r 4) L0 T0).1) R0 []).1, (uptoT T0.many.toNat (A0.r 4) L0 T0).2, (uptoR (A6 A0) R0.many.toNat (A0.r 2) ((uptoT T0.many.toNat (A0.r 4) L0 T0).1) R0 []).2.1⟩).T) ((fillF ⟨A6 A0, (uptoR (A6 A0) R0.many.toNat (A0.r 2) ((uptoT T0.many.toNat (A0.r 4) L0 T0).1) R0 []).1, (uptoT T0.many.toNat (A0.r 4) L0 T0).2, (uptoR (A6 A0) R0.many.toNat (A0.r 2) ((uptoT T0.many.toNat (A0.r 4) L0 T0).1) R0 []).2.1⟩).R)) 86, rDev d F11 ((fillF ⟨A6 A0, (uptoR (A6 A0) R0.many.toNat (A0.r 2) ((uptoT T0.many.toNat (A0.r 4) L0 T0).1) R0 []).1, (uptoT T0.many.toNat (A0.r 4) L0 T0).2, (uptoR (A6 A0) R0.many.toNat (A0.r 2) ((uptoT T0.many.toNat (A0.r 4) L0 T0).1) R0 []).2.1⟩).A), rPool p ab ((fillF ⟨A6 A0, (uptoR (A6 A0) R0.many.toNat (A0.r 2) ((uptoT T0.many.toNat (A0.r 4) L0 T0).1) R0 []).1, (uptoT T0.many.toNat (A0.r 4) L0 T0).2, (uptoR (A6 A0) R0.many.toNat (A0.r 2) ((uptoT T0.many.toNat (A0.r 4) L0 T0).1) R0 []).2.1⟩).L), rBlk b1 [pt r 0] 38, rBlk b7 [Value.slice q8 ((uptoR (A6 A0) R0.many.toNat (A0.r 2) ((uptoT T0.many.toNat (A0.r 4) L0 T0).1) R0 []).2.2.length) c9] 61, rRowN (.slice q8 ((uptoR (A6 A0) R0.many.toNat (A0.r 2) ((uptoT T0.many.toNat (A0.r 4) L0 T0).1) R0 []).2.2.length) c9) (comeV (uptoR (A6 A0) R0.many.toNat (A0.r 2) ((uptoT T0.many.toNat (A0.r 4) L0 T0).1) R0 []).2.2) 67 2] ⟨rfl, rfl, trivial⟩ ?_
  refine SC.sr ?_
  refine SL.uu (ru_load (i := 4) ts61 rfl rfl rfl rfl) ?_
  refine SL.as ?_
  refine SL.nn [(2, Value.slice q8 ((uptoR (A6 A0) R0.many.toNat (A0.r 2) ((uptoT T0.many.toNat (A0.r 4) L0 T0).1) R0 []).2.2.length) c9)] _ ⟨rfl, trivial⟩ ?_
  refine SC.ret ?_
  refine SE.res (.inl rfl) (res1 Try.results20 rfl) fun w1 hI => ?_
  have e : pollF ⟨A0, L0, T0, R0⟩ = (⟨(fillF ⟨A6 A0, (uptoR (A6 A0) R0.many.toNat (A0.r 2) ((uptoT T0.many.toNat (A0.r 4) L0 T0).1) R0 []).1, (uptoT T0.many.toNat (A0.r 4) L0 T0).2, (uptoR (A6 A0) R0.many.toNat (A0.r 2) ((uptoT T0.many.toNat (A0.r 4) L0 T0).1) R0 []).2.1⟩).A, (fillF ⟨A6 A0, (uptoR (A6 A0) R0.many.toNat (A0.r 2) ((uptoT T0.many.toNat (A0.r 4) L0 T0).1) R0 []).1, (uptoT T0.many.toNat (A0.r 4) L0 T0).2, (uptoR (A6 A0) R0.many.toNat (A0.r 2) ((uptoT T0.many.toNat (A0.r 4) L0 T0).1) R0 []).2.1⟩).L, (fillF ⟨A6 A0, (uptoR (A6 A0) R0.many.toNat (A0.r 2) ((uptoT T0.many.toNat (A0.r 4) L0 T0).1) R0 []).1, (uptoT T0.many.toNat (A0.r 4) L0 T0).2, (uptoR (A6 A0) R0.many.toNat (A0.r 2) ((uptoT T0.many.toNat (A0.r 4) L0 T0).1) R0 []).2.1⟩).T, (fillF ⟨A6 A0, (uptoR (A6 A0) R0.many.toNat (A0.r 2) ((uptoT T0.many.toNat (A0.r 4) L0 T0).1) R0 []).1, (uptoT T0.many.toNat (A0.r 4) L0 T0).2, (uptoR (A6 A0) R0.many.toNat (A0.r 2) ((uptoT T0.many.toNat (A0.r 4) L0 T0).1) R0 []).2.1⟩).R⟩, (uptoR (A6 A0) R0.many.toNat (A0.r 2) ((uptoT T0.many.toNat (A0.r 4) L0 T0).1) R0 []).2.2) := by unfold pollF; dsimp only; rw [if_neg (by rw [show downB A0 = false from h4]; simp)]
  rw [e]
  refine ⟨q8, c9, rfl, F11, (hI.packRing (S := ⟨(fillF ⟨A6 A0, (uptoR (A6 A0) R0.many.toNat (A0.r 2) ((uptoT T0.many.toNat (A0.r 4) L0 T0).1) R0 []).1, (uptoT T0.many.toNat (A0.r 4) L0 T0).2, (uptoR (A6 A0) R0.many.toNat (A0.r 2) ((uptoT T0.many.toNat (A0.r 4) L0 T0).1) R0 []).2.1⟩).A, (fillF ⟨A6 A0, (uptoR (A6 A0) R0.many.toNat (A0.r 2) ((uptoT T0.many.toNat (A0.r 4) L0 T0).1) R0 []).1, (uptoT T0.many.toNat (A0.r 4) L0 T0).2, (uptoR (A6 A0) R0.many.toNat (A0.r 2) ((uptoT T0.many.toNat (A0.r 4) L0 T0).1) R0 []).2.1⟩).L, (fillF ⟨A6 A0, (uptoR (A6 A0) R0.many.toNat (A0.r 2) ((uptoT T0.many.toNat (A0.r 4) L0 T0).1) R0 []).1, (uptoT T0.many.toNat (A0.r 4) L0 T0).2, (uptoR (A6 A0) R0.many.toNat (A0.r 2) ((uptoT T0.many.toNat (A0.r 4) L0 T0).1) R0 []).2.1⟩).T, (fillF ⟨A6 A0, (uptoR (A6 A0) R0.many.toNat (A0.r 2) ((uptoT T0.many.toNat (A0.r 4) L0 T0).1) R0 []).1, (uptoT T0.many.toNat (A0.r 4) L0 T0).2, (uptoR (A6 A0) R0.many.toNat (A0.r 2) ((uptoT T0.many.toNat (A0.r 4) L0 T0).1) R0 []).2.1⟩).R⟩)).pick (js := [0, 3]) rfl |>.1, hF11, fun q hq b hb => ?_, hI.2⟩
  simp only [List.mem_cons, List.not_mem_nil, or_false] at hq
  subst hq
  exact row_apart hI hq10 b hb

end Go.Proofs.Ytghfkgcaglabpaa

/-
  New.
-/
namespace Go.Proofs.Ytghfkgcaglabpaa
open Go.RowKit
set_option maxRecDepth 100000
set_option maxHeartbeats 4000000
theorem rnew_any {w : World} {d p ab : Nat} {F0 : Nat → Prop} {A0 : NicA} {L0 : List Bf} (hk : NicOk A0) (hL : Few L0) (h : Sep w [rDev d F0 A0, rPool p ab L0]) : Calls Try.prog 30 #[pt d 0, pt p 0] w fun e w' => ∃ r, e = .returned (pt r 0) ∧ w.heap.size ≤ r ∧ ∃ F', RingAt w' r d p ab F' (beginF ⟨A0, L0, line0, line0⟩) ∧ (∀ b, F' b → F0 b ∨ w.heap.size ≤ b) ∧ Only (fun b => b = d ∨ b = p ∨ b = ab) w w' := by
  refine calls_sc (l0 := [rDev d F0 A0, rPool p ab L0]) (args := [pt d 0, pt p 0]) (fun b => b = d ∨ b = p ∨ b = ab) Try.func30 rfl 13 Try.ntmps30 (le_b rfl) ⟨h, Only.refl _ _⟩ ?_
  show SC _ _ _ _ [(0, pt d 0), (1, pt p 0)] [rDev d F0 A0, rPool p ab L0]
  refine SC.sr ?_
  refine SL.as ?_
  refine SL.nn [(0, pt d 0), (1, pt p 0), (4, Value.pointer none)] [rDev d F0 A0, rPool p ab L0] ⟨rfl, rfl, rfl, trivial⟩ ?_
  refine SC.sr ?_
  refine SL.mv ?_
  refine SL.mv ?_
  refine SL.uu (ru_build (vals := [(0, pt d 0), (1, pt p 0)]) (cells := [pt d 0, pt p 0, iw 0, iw 0, iw 0, iw 0, iw 0, iw 0, iw 0, iw 0, iw 0, iw 0, iw 0, iw 0, iw 0, iw 0, iw 0, iw 0, iw 0, iw 0, iw 0, iw 0, iw 0, iw 0, iw 0, iw 0, iw 0, iw 0, iw 0, iw 0, iw 0, iw 0, iw 0, iw 0, iw 0, iw 0, iw 0, iw 0]) rfl rfl (by kernel_rfl)) ?_
  refine SL.box (c := [pt d 0, pt p 0, iw 0, iw 0, iw 0, iw 0, iw 0, iw 0, iw 0, iw 0, iw 0, iw 0, iw 0, iw 0, iw 0, iw 0, iw 0, iw 0, iw 0, iw 0, iw 0, iw 0, iw 0, iw 0, iw 0, iw 0, iw 0, iw 0, iw 0, iw 0, iw 0, iw 0, iw 0, iw 0, iw 0, iw 0, iw 0, iw 0]) rfl rfl (lt_b rfl) rfl rfl rfl fun r hr => ?_
  refine SL.as ?_
  refine SL.nil ?_
  refine SC.of_SE ?_
  refine SC.reord [rBlk r (rc d p line0 line0) 86, rDev d F0 A0, rPool p ab L0] (List.perm_append_comm (l₁ := [rDev d F0 A0, rPool p ab L0]) (l₂ := [rBlkRing r d p line0 line0])) ?_
  refine SC.sr ?_
  refine SL.mv ?_
  refine SL.call (ζ := Nat → Prop) (fun F1 => Value.tuple #[]) (fun F1 => [rBlk r (rc d p ((beginF ⟨A0, L0, line0, line0⟩).T) ((beginF ⟨A0, L0, line0, line0⟩).R)) 86, rDev d F1 ((beginF ⟨A0, L0, line0, line0⟩).A), rPool p ab ((beginF ⟨A0, L0, line0, line0⟩).L)]) (fun F1 => ∀ b, F1 b → F0 b ∨ w.heap.size ≤ b) rfl rfl co61 rfl rfl rfl (lt_b rfl) (fun w hI => (begin_any hk hL (RingAt.of3 hI)).mono fun e w2 ⟨h1, h2⟩ => by obtain ⟨F2, k1, k2⟩ := hI.ring3 (S := ⟨A0, L0, line0, line0⟩) (fun b hb => hb.elim (fun e => .inr (e ▸ hr)) (fun e => .inl e)) h2 (fun b hb => .inl hb); exact ⟨F2, h1, k1, k2⟩) ?_
  intro F1 hF1
  refine SL.nn [(4, Value.pointer none), (5, pt r 0)] [rBlk r (rc d p ((beginF ⟨A0, L0, line0, line0⟩).T) ((beginF ⟨A0, L0, line0, line0⟩).R)) 86, rDev d F1 ((beginF ⟨A0, L0, line0, line0⟩).A), rPool p ab ((beginF ⟨A0, L0, line0, line0⟩).L)] ⟨rfl, rfl, trivial⟩ ?_
  refine SC.sr ?_
  refine SL.mv ?_
  refine SL.as ?_
  refine SL.nn [(4, pt r 0)] _ ⟨rfl, trivial⟩ ?_
  refine SC.ret ?_
  refine SE.res (.inl rfl) (res1 Try.results30 rfl) fun w1 hI => ⟨r, rfl, hr, F1, (hI.packRing (S := beginF ⟨A0, L0, line0, line0⟩)).1.get (i := 0) rfl, hF1, hI.2⟩

end Go.Proofs.Ytghfkgcaglabpaa

/-
  The document's ring: its calls as plain functions; how it lies in memory.
-/
namespace Go.Proofs.Ytghfkgcaglabpaa
open Go.RowKit
structure RefS where
  A : NicA
  L : List Bf
  T : List Int
  C : List Int
  next : Int
  fill : Int
structure RefOk (Z : RefS) : Prop where
  a : NicOk Z.A
  n : 0 ≤ Z.next ∧ Z.next < 16
  f : 0 ≤ Z.fill ∧ Z.fill < 16
  t : Z.T.length ≤ 15
  c : Z.C.length ≤ 15
def rfillL : Nat → NicA → List Bf → List Int → Int → Bool → NicA × List Bf × List Int × Int × Bool
  | 0, A, L, C, f, s => (A, L, C, f, s)
  | n + 1, A, L, C, f, s => if (getF L).1.2 = 0 then rfillL n (setRxF A f 274).2 (getF L).2 (C ++ [(getF L).1.1]) ((f + 1) % 16) true else (A, (getF L).2, C, f, s)
def rfillF (Z : RefS) : RefS :=
  let z := rfillL (15 - Z.C.length) Z.A Z.L Z.C Z.fill false
  { Z with A := if z.2.2.2.2 then (writeF z.1 3 z.2.2.2.1).2 else z.1, L := z.2.1, C := z.2.2.1, fill := z.2.2.2.1 }
def rbeginF (Z : RefS) : RefS := rfillF ⟨(writeF (writeF Z.A 0 2).2 0 1).2, Z.L, [], [], 0, 0⟩
theorem rfillL_ok : ∀ (n : Nat) {A : NicA} {L : List Bf} {C : List Int} {f : Int} {s : Bool}, NicOk A → Few L → (0 ≤ f ∧ f < 16) → C.length + n ≤ 15 → NicOk (rfillL n A L C f s).1 ∧ Few (rfillL n A L C f s).2.1 ∧ (rfillL n A L C f s).2.2.1.length ≤ 15 ∧ 0 ≤ (rfillL n A L C f s).2.2.2.1 ∧ (rfillL n A L C f s).2.2.2.1 < 16
  | 0, A, L, C, f, s, h1, h2, h3, h4 => ⟨h1, h2, h4, h3⟩
  | n + 1, A, L, C, f, s, h1, h2, h3, h4 => by
    unfold rfillL
    split
    · exact rfillL_ok n (setRx_ok h1 _ _) (get_few h2) (by omega) (by simp; omega)
    · exact ⟨h1, get_few h2, by simp only; omega, h3⟩
theorem rfill_ok {Z : RefS} (h : RefOk Z) (hL : Few Z.L) : RefOk (rfillF Z) ∧ Few (rfillF Z).L := by
  have hc := h.c
  obtain ⟨h1, h2, h3, h4⟩ := rfillL_ok (15 - Z.C.length) (C := Z.C) (s := false) h.a hL h.f (by omega)
  unfold rfillF
  simp only
  refine ⟨⟨?_, h.n, h4, h.t, h3⟩, h2⟩
  simp only
  split
  · exact write_ok h1 _ _
  · exact h1
theorem rbegin_ok {Z : RefS} (h : NicOk Z.A) (hL : Few Z.L) : RefOk (rbeginF Z) ∧ Few (rbeginF Z).L := rfill_ok ⟨write_ok (write_ok h _ _) _ _, by simp, by simp, by simp, by simp⟩ hL
abbrev rs6 (s e q : Nat) (vT vC : Value) (next fill : Int) : Res := rBlk s [pt e 0, pt q 0, vT, vC, iw next, iw fill] 122
abbrev rDevQ (e : Nat) (F : Nat → Prop) (A : NicA) : Res := rNic 108 e F A
def ivs (l : List Int) : List Value := l.map iw
theorem ivs_snoc {l : List Int} {x : Int} : ivs l ++ [iw x] = ivs (l ++ [x]) := by simp [ivs]
theorem ivs_len {l : List Int} : (ivs l).length = l.length := by simp [ivs]
abbrev RR5 (s e q rb : Nat) (FE FQ : Nat → Prop) (qt : Option Addr) (ct : Nat) (qc : Option Addr) (cc : Nat) (Z : RefS) : List Res :=
  [rs6 s e q (.slice qt Z.T.length ct) (.slice qc Z.C.length cc) Z.next Z.fill, rDevQ e FE Z.A, rRefP q rb FQ Z.L, rRowO (.slice qt Z.T.length ct) (ivs Z.T) 3, rRowO (.slice qc Z.C.length cc) (ivs Z.C) 3]
def RRTo (w : World) (s e q rb : Nat) (G : Nat → Prop) (Z' : RefS) (w' : World) : Prop := ∃ FE FQ qt ct qc cc, Sep w' (RR5 s e q rb FE FQ qt ct qc cc Z') ∧ (∀ b, FE b → G b ∨ w.heap.size ≤ b) ∧ (∀ b, FQ b → G b ∨ w.heap.size ≤ b) ∧
  (∀ b, (Value.slice qt Z'.T.length ct).ownBlock = some b → G b ∨ w.heap.size ≤ b) ∧ (∀ b, (Value.slice qc Z'.C.length cc).ownBlock = some b → G b ∨ w.heap.size ≤ b) ∧ Only G w w'
theorem RRTo.inv {X : Cx} {w w' : World} {s e q rb : Nat} {G : Nat → Prop} {Z' : RefS} {l : List Res} (hS : ∀ b, G b → X.S b) (hI : Inv X w l) (h : RRTo w s e q rb (fun b => G b ∨ X.w0.heap.size ≤ b) Z' w') :
    ∃ z : (Nat → Prop) × (Nat → Prop) × Option Addr × Nat × Option Addr × Nat, Inv X w' (RR5 s e q rb z.1 z.2.1 z.2.2.1 z.2.2.2.1 z.2.2.2.2.1 z.2.2.2.2.2 Z') ∧ (∀ b, z.1 b → G b ∨ X.w0.heap.size ≤ b) ∧ (∀ b, z.2.1 b → G b ∨ X.w0.heap.size ≤ b) ∧
      (∀ b, (Value.slice z.2.2.1 Z'.T.length z.2.2.2.1).ownBlock = some b → G b ∨ X.w0.heap.size ≤ b) ∧ (∀ b, (Value.slice z.2.2.2.2.1 Z'.C.length z.2.2.2.2.2).ownBlock = some b → G b ∨ X.w0.heap.size ≤ b) := by
  obtain ⟨FE, FQ, qt, ct, qc, cc, h1, h2, h3, h4, h5, h6⟩ := h
  have hsz := hI.2.size
  have col : ∀ b, (G b ∨ X.w0.heap.size ≤ b) ∨ w.heap.size ≤ b → G b ∨ X.w0.heap.size ≤ b := fun b hb => hb.elim id (fun e => .inr (Nat.le_trans hsz e))
  exact ⟨(FE, FQ, qt, ct, qc, cc), ⟨h1, hI.2.trans' h6 (fun b hb => hb.imp (hS b) id)⟩, fun b hb => col b (h2 b hb), fun b hb => col b (h3 b hb), fun b hb => col b (h4 b hb), fun b hb => col b (h5 b hb)⟩
section
variable {A0 A : NicA} {L0 L : List Bf} {T C0 C : List Int} {nx f0 f : Int} {b : Bool}
theorem rfill_leaf (hZ : rfillL (15 - C0.length) A0 L0 C0 f0 false = (A, L, C, f, b)) : rfillF ⟨A0, L0, T, C0, nx, f0⟩ = ⟨if b then (writeF A 3 f).2 else A, L, T, C, nx, f⟩ := by
  unfold rfillF; simp only [hZ]
end
end Go.Proofs.Ytghfkgcaglabpaa

/-
  fill, of the document's ring.
-/
namespace Go.Proofs.Ytghfkgcaglabpaa
open Go.RowKit
set_option maxRecDepth 100000
set_option maxHeartbeats 4000000
theorem rfill_any {w : World} {s e q rb : Nat} {FE FQ G : Nat → Prop} {A : NicA} {L : List Bf} {T C : List Int} {nx fi : Int} {qt qc : Option Addr} {ct cc : Nat} (hk : NicOk A) (hL : Few L) (hfi : 0 ≤ fi ∧ fi < 16) (hs : G s) (he : G e) (hrb : G rb) (hFE : ∀ b, FE b → G b ∨ w.heap.size ≤ b) (hFQ : ∀ b, FQ b → G b ∨ w.heap.size ≤ b) (hCo : ∀ b, (Value.slice qc C.length cc).ownBlock = some b → G b ∨ w.heap.size ≤ b) (h : Sep w [rs6 s e q (.slice qt T.length ct) (.slice qc C.length cc) nx fi, rDevQ e FE A, rRefP q rb FQ L, rRowO (.slice qt T.length ct) (ivs T) 3, rRowO (.slice qc C.length cc) (ivs C) 3]) : Calls Try.prog 80 #[pt s 0] w fun e' w' => e' = .returned (.tuple #[]) ∧ ∃ FE' FQ' qc' cc', Sep w' [rs6 s e q (.slice qt T.length ct) (.slice qc' ((rfillF ⟨A, L, T, C, nx, fi⟩).C.length) cc') nx ((rfillF ⟨A, L, T, C, nx, fi⟩).fill), rDevQ e FE' ((rfillF ⟨A, L, T, C, nx, fi⟩).A), rRefP q rb FQ' ((rfillF ⟨A, L, T, C, nx, fi⟩).L), rRowO (.slice qt T.length ct) (ivs T) 3, rRowO (.slice qc' ((rfillF ⟨A, L, T, C, nx, fi⟩).C.length) cc') (ivs ((rfillF ⟨A, L, T, C, nx, fi⟩).C)) 3] ∧ (∀ b, FE' b → G b ∨ w.heap.size ≤ b) ∧ (∀ b, FQ' b → G b ∨ w.heap.size ≤ b) ∧ (∀ b, (Value.slice qc' (rfillF ⟨A, L, T, C, nx, fi⟩).C.length cc').ownBlock = some b → G b ∨ w.heap.size ≤ b) ∧ Only G w w' := by
  obtain ⟨Z, hZ⟩ : ∃ Z, rfillL (15 - C.length) A L C fi false = Z := ⟨_, rfl⟩
  refine calls_sc (l0 := [rs6 s e q (.slice qt T.length ct) (.slice qc C.length cc) nx fi, rDevQ e FE A, rRefP q rb FQ L, rRowO (.slice qt T.length ct) (ivs T) 3, rRowO (.slice qc C.length cc) (ivs C) 3]) (args := [pt s 0]) G Try.func80 rfl 59 Try.ntmps80 (le_b rfl) ⟨h, Only.refl _ _⟩ ?_
  show SC _ _ _ _ [(0, pt s 0)] [rs6 s e q (.slice qt T.length ct) (.slice qc C.length cc) nx fi, rDevQ e FE A, rRefP q rb FQ L, rRowO (.slice qt T.length ct) (ivs T) 3, rRowO (.slice qc C.length cc) (ivs C) 3]
  refine SC.sr ?_
  refine SL.as ?_
  refine SL.nn [(0, pt s 0), (2, bo false)] [rBlk s [pt e 0, pt q 0, Value.slice qt T.length ct, Value.slice qc C.length cc, iw nx, iw fi] 122, rDevQ e FE A, rRefP q rb FQ L, rRowO (.slice qt T.length ct) (ivs T) 3, rRowO (.slice qc C.length cc) (ivs C) 3] ⟨rfl, rfl, trivial⟩ ?_
  refine SC.seq ?_
  refine SC.block ?_
  refine SC.loop (γ := (Nat → Prop) × NicA × (Nat → Prop) × List Bf × List Int × Int × Bool × Option Addr × Nat) (fun n g => [(0, pt s 0), (2, bo g.2.2.2.2.2.2.1)]) (fun n g => [rBlk s [pt e 0, pt q 0, Value.slice qt T.length ct, Value.slice g.2.2.2.2.2.2.2.1 g.2.2.2.2.1.length g.2.2.2.2.2.2.2.2, iw nx, iw g.2.2.2.2.2.1] 122, rDevQ e g.1 g.2.1, rRefP q rb g.2.2.1 g.2.2.2.1, rRowO (.slice qt T.length ct) (ivs T) 3, rRowO (.slice g.2.2.2.2.2.2.2.1 g.2.2.2.2.1.length g.2.2.2.2.2.2.2.2) (ivs g.2.2.2.2.1) 3]) (fun n g => NicOk g.2.1 ∧ Few g.2.2.2.1 ∧ (0 ≤ g.2.2.2.2.2.1 ∧ g.2.2.2.2.2.1 < 16) ∧ n = 15 - g.2.2.2.2.1.length ∧ (∀ b, g.1 b → G b ∨ w.heap.size ≤ b) ∧ (∀ b, g.2.2.1 b → G b ∨ w.heap.size ≤ b) ∧ (∀ b, (Value.slice g.2.2.2.2.2.2.2.1 g.2.2.2.2.1.length g.2.2.2.2.2.2.2.2).ownBlock = some b → G b ∨ w.heap.size ≤ b) ∧ rfillL n g.2.1 g.2.2.2.1 g.2.2.2.2.1 g.2.2.2.2.2.1 g.2.2.2.2.2.2.1 = Z) (15 - C.length) (FE, A, FQ, L, C, fi, false, qc, cc) ⟨hk, hL, hfi, rfl, hFE, hFQ, hCo, hZ⟩ ⟨rfl, rfl, trivial⟩ rfl ?_
  rintro n ⟨FE, A, FQ, L, C, fi, sm, qc, cc⟩ ⟨hk, hL, hfi, hn, hFE, hFQ, hCo, hZn⟩
  simp only at hk hL hfi hn hFE hFQ hCo hZn
  rcases n with _ | n
  · skip
    simp only [rfillL] at hZn
    refine SC.seq ?_
    refine SC.sr ?_
    refine SL.mv ?_
    refine SL.nk ?_
    refine SL.uu (ru_fieldAddr (o2 := 3) fd122_3 rfl rfl rfl) ?_
    refine SL.uu (ru_load (i := 0) ts26 rfl rfl rfl rfl) ?_
    refine SL.uu (ru_len Try.underlying26 rfl rfl) ?_
    refine SL.uu (ru_lt (b := (decide (((C.length : Int) : Int) < 15))) rfl rfl rfl rfl) ?_
    refine SL.nn [(0, pt s 0), (2, bo sm), (10, bo (decide (((C.length : Int) : Int) < 15)))] _ ⟨rfl, rfl, rfl, trivial⟩ ?_
    refine SC.no (show some (Value.bool (decide (((C.length : Int) : Int) < 15))) = some (Value.bool false) from congrArg (fun x => some (Value.bool x)) (decide_eq_false (by omega))) ?_
    refine SC.exit ?_
    refine SE.passe ?_
    refine SE.passe ?_
    refine SE.blke ?_
    refine SC.of_SE ?_
    refine SC.norm [(0, pt s 0), (2, bo sm)] _ ⟨rfl, rfl, trivial⟩ rfl ?_
    refine SC.sr ?_
    refine SL.mv ?_
    refine SL.nn [(0, pt s 0), (49, bo sm)] _ ⟨rfl, rfl, trivial⟩ ?_
    refine SC.both sm rfl (fun h1 => ?_) (fun h1 => ?_)
    · skip
      refine SC.region_tail 8 (by kernel_rfl) (by kernel_rfl) ?_
      refine SQ.uu (ru_move rfl rfl) ?_
      refine SQ.uu (ru_nilCheck rfl rfl) ?_
      refine SQ.uu (ru_fieldAddr (o2 := 0) fd122_0 rfl rfl rfl) ?_
      refine SQ.uu (ru_load (i := 0) ts39 rfl rfl rfl rfl) ?_
      refine SQ.uu (ru_move rfl rfl) ?_
      refine SQ.uu (ru_nilCheck rfl rfl) ?_
      refine SQ.uu (ru_fieldAddr (o2 := 5) fd122_5 rfl rfl rfl) ?_
      refine SQ.uu (ru_load (i := 0) ts3 rfl rfl rfl rfl) ?_
      refine SQ.nilL ?_
      refine SL.call (ζ := Nat → Prop) (fun F2 => iw ((writeF A 3 fi).1)) (fun F2 => [rBlk s [pt e 0, pt q 0, Value.slice qt T.length ct, Value.slice qc C.length cc, iw nx, iw fi] 122, rDevQ e F2 ((writeF A 3 fi).2), rRefP q rb FQ L, rRowO (.slice qt T.length ct) (ivs T) 3, rRowO (.slice qc C.length cc) (ivs C) 3]) (fun F2 => (∀ b, F2 b → G b ∨ w.heap.size ≤ b)) rfl rfl co72 rfl rfl rfl (lt_b rfl) (fun w hI => (q_write hk (nic_at hI (i := 1) rfl) 3 fi).mono fun e w2 ⟨h1, h2⟩ => by obtain ⟨F2, k1, k2⟩ := hI.nicB (F0 := G) (i := 1) rfl (.inl he) (NicTo.of h2) hFE; exact ⟨F2, h1, k1, k2⟩) ?_
      intro F2 hF2
      refine SL.nil ?_
      subst hZn
      refine SE.res (.inr rfl) (res0 Try.results80) fun w1 hI => ⟨rfl, F2, FQ, qc, cc, ?_, hF2, hFQ, ?_, hI.2⟩
      · rw [rfill_leaf hZ, h1]; exact hI.1
      · rw [rfill_leaf hZ]; exact hCo
    refine SC.skip ?_
    subst hZn
    refine SE.res (.inr rfl) (res0 Try.results80) fun w1 hI => ⟨rfl, FE, FQ, qc, cc, ?_, hFE, hFQ, ?_, hI.2⟩
    · rw [rfill_leaf hZ, h1]; exact hI.1
    · rw [rfill_leaf hZ]; exact hCo
  refine SC.seq ?_
  refine SC.sr ?_
  refine SL.mv ?_
  refine SL.nk ?_
  refine SL.uu (ru_fieldAddr (o2 := 3) fd122_3 rfl rfl rfl) ?_
  refine SL.uu (ru_load (i := 0) ts26 rfl rfl rfl rfl) ?_
  refine SL.uu (ru_len Try.underlying26 rfl rfl) ?_
  refine SL.uu (ru_lt (b := (decide (((C.length : Int) : Int) < 15))) rfl rfl rfl rfl) ?_
  refine SL.nn [(0, pt s 0), (2, bo sm), (10, bo (decide (((C.length : Int) : Int) < 15)))] _ ⟨rfl, rfl, rfl, trivial⟩ ?_
  refine SC.yes (show some (Value.bool (decide (((C.length : Int) : Int) < 15))) = some (Value.bool true) from congrArg (fun x => some (Value.bool x)) (decide_eq_true (by omega))) ?_
  refine SC.skip ?_
  refine SC.of_SE ?_
  refine SC.norm [(0, pt s 0), (2, bo sm)] _ ⟨rfl, rfl, trivial⟩ rfl ?_
  refine SC.block ?_
  refine SC.sr ?_
  refine SL.mv ?_
  refine SL.nk ?_
  refine SL.uu (ru_fieldAddr (o2 := 1) fd122_1 rfl rfl rfl) ?_
  refine SL.uu (ru_load (i := 0) ts40 rfl rfl rfl rfl) ?_
  refine SL.call (ζ := Nat → Prop) (fun F3 => Value.tuple #[iw ((getF L).1.1), iw ((getF L).1.2)]) (fun F3 => [rBlk s [pt e 0, pt q 0, Value.slice qt T.length ct, Value.slice qc C.length cc, iw nx, iw fi] 122, rDevQ e FE A, rRefP q rb F3 ((getF L).2), rRowO (.slice qt T.length ct) (ivs T) 3, rRowO (.slice qc C.length cc) (ivs C) 3]) (fun F3 => (∀ b, F3 b → G b ∨ w.heap.size ≤ b)) rfl rfl co66 rfl rfl rfl (lt_b rfl) (fun w hI => (rget_any (refp_at hI (i := 2) rfl)).mono fun e w2 ⟨h1, h2⟩ => by obtain ⟨F2, k1, k2⟩ := hI.refPTo (F0 := G) (i := 2) rfl (.inl hrb) h2 hFQ; exact ⟨F2, h1, k1, k2⟩) ?_
  intro F3 hF3
  refine SL.mv ?_
  refine SL.uu (ru_extract rfl rfl rfl) ?_
  refine SL.uu (ru_extract rfl rfl rfl) ?_
  refine SL.as ?_
  refine SL.as ?_
  refine SL.nn [(0, pt s 0), (2, bo sm), (3, iw ((getF L).1.1)), (4, iw ((getF L).1.2))] [rBlk s [pt e 0, pt q 0, Value.slice qt T.length ct, Value.slice qc C.length cc, iw nx, iw fi] 122, rDevQ e FE A, rRefP q rb F3 ((getF L).2), rRowO (.slice qt T.length ct) (ivs T) 3, rRowO (.slice qc C.length cc) (ivs C) 3] ⟨rfl, rfl, rfl, rfl, trivial⟩ ?_
  refine SC.seq ?_
  refine SC.sr ?_
  refine SL.mv ?_
  refine SL.uu (ru_ne (b := ((((getF L).1.2) : Int) != 0)) rfl rfl rfl rfl) ?_
  refine SL.nn [(0, pt s 0), (2, bo sm), (3, iw ((getF L).1.1)), (20, bo ((((getF L).1.2) : Int) != 0))] _ ⟨rfl, rfl, rfl, rfl, trivial⟩ ?_
  refine SC.both ((((getF L).1.2) : Int) != 0) rfl (fun h4 => ?_) (fun h4 => ?_)
  · skip
    rw [rfillL, if_neg (bne_yes h4)] at hZn
    refine SC.exit ?_
    refine SE.passe ?_
    refine SE.blko (by decide) ?_
    refine SE.passe ?_
    refine SE.blke ?_
    refine SC.of_SE ?_
    refine SC.norm [(0, pt s 0), (2, bo sm)] _ ⟨rfl, rfl, trivial⟩ rfl ?_
    refine SC.sr ?_
    refine SL.mv ?_
    refine SL.nn [(0, pt s 0), (49, bo sm)] _ ⟨rfl, rfl, trivial⟩ ?_
    refine SC.both sm rfl (fun h5 => ?_) (fun h5 => ?_)
    · skip
      refine SC.region_tail 8 (by kernel_rfl) (by kernel_rfl) ?_
      refine SQ.uu (ru_move rfl rfl) ?_
      refine SQ.uu (ru_nilCheck rfl rfl) ?_
      refine SQ.uu (ru_fieldAddr (o2 := 0) fd122_0 rfl rfl rfl) ?_
      refine SQ.uu (ru_load (i := 0) ts39 rfl rfl rfl rfl) ?_
      refine SQ.uu (ru_move rfl rfl) ?_
      refine SQ.uu (ru_nilCheck rfl rfl) ?_
      refine SQ.uu (ru_fieldAddr (o2 := 5) fd122_5 rfl rfl rfl) ?_
      refine SQ.uu (ru_load (i := 0) ts3 rfl rfl rfl rfl) ?_
      refine SQ.nilL ?_
      refine SL.call (ζ := Nat → Prop) (fun F6 => iw ((writeF A 3 fi).1)) (fun F6 => [rBlk s [pt e 0, pt q 0, Value.slice qt T.length ct, Value.slice qc C.length cc, iw nx, iw fi] 122, rDevQ e F6 ((writeF A 3 fi).2), rRefP q rb F3 ((getF L).2), rRowO (.slice qt T.length ct) (ivs T) 3, rRowO (.slice qc C.length cc) (ivs C) 3]) (fun F6 => (∀ b, F6 b → G b ∨ w.heap.size ≤ b)) rfl rfl co72 rfl rfl rfl (lt_b rfl) (fun w hI => (q_write hk (nic_at hI (i := 1) rfl) 3 fi).mono fun e w2 ⟨h1, h2⟩ => by obtain ⟨F2, k1, k2⟩ := hI.nicB (F0 := G) (i := 1) rfl (.inl he) (NicTo.of h2) hFE; exact ⟨F2, h1, k1, k2⟩) ?_
      intro F6 hF6
      refine SL.nil ?_
      subst hZn
      refine SE.res (.inr rfl) (res0 Try.results80) fun w1 hI => ⟨rfl, F6, F3, qc, cc, ?_, hF6, hF3, ?_, hI.2⟩
      · rw [rfill_leaf hZ, h5]; exact hI.1
      · rw [rfill_leaf hZ]; exact hCo
    refine SC.skip ?_
    subst hZn
    refine SE.res (.inr rfl) (res0 Try.results80) fun w1 hI => ⟨rfl, FE, F3, qc, cc, ?_, hFE, hF3, ?_, hI.2⟩
    · rw [rfill_leaf hZ, h5]; exact hI.1
    · rw [rfill_leaf hZ]; exact hCo
  rw [rfillL, if_pos (bne_no h4)] at hZn
  refine SC.skip ?_
  refine SC.of_SE ?_
  refine SC.norm [(0, pt s 0), (2, bo sm), (3, iw ((getF L).1.1))] _ ⟨rfl, rfl, rfl, trivial⟩ rfl ?_
  refine SC.seq ?_
  refine SC.region_tail 8 (by kernel_rfl) (by kernel_rfl) ?_
  refine SQ.uu (ru_move rfl rfl) ?_
  refine SQ.uu (ru_nilCheck rfl rfl) ?_
  refine SQ.uu (ru_fieldAddr (o2 := 0) fd122_0 rfl rfl rfl) ?_
  refine SQ.uu (ru_load (i := 0) ts39 rfl rfl rfl rfl) ?_
  refine SQ.uu (ru_move rfl rfl) ?_
  refine SQ.uu (ru_nilCheck rfl rfl) ?_
  refine SQ.uu (ru_fieldAddr (o2 := 5) fd122_5 rfl rfl rfl) ?_
  refine SQ.uu (ru_load (i := 0) ts3 rfl rfl rfl rfl) ?_
  refine SQ.nilL ?_
  refine SL.call (ζ := Nat → Prop) (fun F7 => iw ((setRxF A fi 274).1)) (fun F7 => [rBlk s [pt e 0, pt q 0, Value.slice qt T.length ct, Value.slice qc C.length cc, iw nx, iw fi] 122, rDevQ e F7 ((setRxF A fi 274).2), rRefP q rb F3 ((getF L).2), rRowO (.slice qt T.length ct) (ivs T) 3, rRowO (.slice qc C.length cc) (ivs C) 3]) (fun F7 => (∀ b, F7 b → G b ∨ w.heap.size ≤ b)) rfl rfl co88 rfl rfl rfl (lt_b rfl) (fun w hI => (q_setrx hk (nic_at hI (i := 1) rfl) fi 274).mono fun e w2 ⟨h1, h2⟩ => by obtain ⟨F2, k1, k2⟩ := hI.nicB (F0 := G) (i := 1) rfl (.inl he) h2 hFE; exact ⟨F2, h1, k1, k2⟩) ?_
  intro F7 hF7
  refine SL.nn [(0, pt s 0), (2, bo sm), (3, iw ((getF L).1.1))] [rBlk s [pt e 0, pt q 0, Value.slice qt T.length ct, Value.slice qc C.length cc, iw nx, iw fi] 122, rDevQ e F7 ((setRxF A fi 274).2), rRefP q rb F3 ((getF L).2), rRowO (.slice qt T.length ct) (ivs T) 3, rRowO (.slice qc C.length cc) (ivs C) 3] ⟨rfl, rfl, rfl, trivial⟩ ?_
  refine SC.sr ?_
  refine SL.mv ?_
  refine SL.mv ?_
  refine SL.nk ?_
  refine SL.uu (ru_fieldAddr (o2 := 5) fd122_5 rfl rfl rfl) ?_
  refine SL.uu (ru_load (i := 0) ts3 rfl rfl rfl rfl) ?_
  refine SL.uu (ru_add (r := (IntKind.i64.wrap (fi + 1))) rfl rfl rfl rfl) ?_
  refine SL.uu (ru_rem (r := ((fi + 1) % 16)) rfl rfl rfl (by decide) ((at_eq hfi (by omega)))) ?_
  refine SL.nk ?_
  refine SL.uu (ru_fieldAddr (o2 := 5) fd122_5 rfl rfl rfl) ?_
  refine SL.store (i := 0) (c' := [pt e 0, pt q 0, Value.slice qt T.length ct, Value.slice qc C.length cc, iw nx, iw ((fi + 1) % 16)]) rfl rfl ts3 rfl rfl rfl rfl rfl (lt_b rfl) (.inl hs) rfl ?_
  refine SL.nn [(0, pt s 0), (2, bo sm), (3, iw ((getF L).1.1))] [rBlk s [pt e 0, pt q 0, Value.slice qt T.length ct, Value.slice qc C.length cc, iw nx, iw ((fi + 1) % 16)] 122, rDevQ e F7 ((setRxF A fi 274).2), rRefP q rb F3 ((getF L).2), rRowO (.slice qt T.length ct) (ivs T) 3, rRowO (.slice qc C.length cc) (ivs C) 3] ⟨rfl, rfl, rfl, trivial⟩ ?_
  refine SC.sr ?_
  refine SL.mv ?_
  refine SL.mv ?_
  refine SL.nk ?_
  refine SL.uu (ru_fieldAddr (o2 := 3) fd122_3 rfl rfl rfl) ?_
  refine SL.uu (ru_load (i := 0) ts26 rfl rfl rfl rfl) ?_
  refine SL.mv ?_
  refine SL.buildSlice (size := 1) (vals := [(0, iw ((getF L).1.1))]) (z := [iw 0]) (cs := [iw ((getF L).1.1)]) rfl rfl (lt_b rfl) rfl Try.underlying26 (by kernel_rfl) rfl rfl (by kernel_rfl) fun b8 hb8 => ?_
  refine SL.append_rowO (ri := 4) (rj := 5) (z := iw 0) (bytes := 8) rfl rfl (lt_b rfl) rfl Try.underlying26 (by kernel_rfl) rfl rfl rfl rfl rfl rfl (by first | omega | (rw [ivs_len]; omega)) (by unfold maxLen; first | omega | (rw [ivs_len]; omega)) (fun b hb => hCo b hb) fun q9 c10 hq11 => ?_
  refine SL.nk ?_
  refine SL.uu (ru_fieldAddr (o2 := 3) fd122_3 rfl rfl rfl) ?_
  refine SL.store (i := 0) (c' := [pt e 0, pt q 0, Value.slice qt T.length ct, Value.slice q9 (C.length + 1) c10, iw nx, iw ((fi + 1) % 16)]) rfl rfl ts26 rfl rfl rfl rfl rfl (lt_b rfl) (.inl hs) rfl ?_
  refine SL.nn [(0, pt s 0), (2, bo sm)] [rBlk s [pt e 0, pt q 0, Value.slice qt T.length ct, Value.slice q9 (C.length + 1) c10, iw nx, iw ((fi + 1) % 16)] 122, rDevQ e F7 ((setRxF A fi 274).2), rRefP q rb F3 ((getF L).2), rRowO (.slice qt T.length ct) (ivs T) 3, rRowO (.slice q9 (C.length + 1) c10) (ivs C ++ [iw ((getF L).1.1)]) 3, rBlk b8 [iw ((getF L).1.1)] 3] ⟨rfl, rfl, trivial⟩ ?_
  refine SC.region ?_
  refine SL.as ?_
  refine SL.nil ?_
  refine SE.blkn ?_
  refine SE.keep 5 ?_
  refine SE.again n (F7, (setRxF A fi 274).2, F3, (getF L).2, C ++ [(getF L).1.1], (fi + 1) % 16, true, q9, c10) (by omega) ⟨(setRx_ok hk _ _), (get_few hL), by simp only; omega, by simp; omega, hF7, hF3, by simpa using hq11, hZn⟩ ⟨rfl, rfl, trivial⟩ (by simp only [List.take, ivs_snoc, List.length_append, List.length_singleton]) 

end Go.Proofs.Ytghfkgcaglabpaa

/-
  begin, New, of the document's ring.
-/
namespace Go.Proofs.Ytghfkgcaglabpaa
open Go.RowKit
set_option maxRecDepth 100000
set_option maxHeartbeats 4000000
theorem rfillT_any {w : World} {s e q rb : Nat} {FE FQ G : Nat → Prop} {qt qc : Option Addr} {ct cc : Nat} {Z : RefS} (hk : RefOk Z) (hL : Few Z.L) (hs : G s) (he : G e) (hrb : G rb) (hFE : ∀ b, FE b → G b ∨ w.heap.size ≤ b) (hFQ : ∀ b, FQ b → G b ∨ w.heap.size ≤ b)
    (hTo : ∀ b, (Value.slice qt Z.T.length ct).ownBlock = some b → G b ∨ w.heap.size ≤ b) (hCo : ∀ b, (Value.slice qc Z.C.length cc).ownBlock = some b → G b ∨ w.heap.size ≤ b) (h : Sep w (RR5 s e q rb FE FQ qt ct qc cc Z)) :
    Calls Try.prog 80 #[pt s 0] w fun e' w' => e' = .returned (.tuple #[]) ∧ RRTo w s e q rb G (rfillF Z) w' :=
  (rfill_any (A := Z.A) (L := Z.L) (T := Z.T) (C := Z.C) (nx := Z.next) (fi := Z.fill) hk.a hL hk.f hs he hrb hFE hFQ hCo h).mono fun e' w' ⟨h1, FE', FQ', qc', cc', h2, h3, h4, h5, h6⟩ => ⟨h1, FE', FQ', qt, ct, qc', cc', h2, h3, h4, hTo, h5, h6⟩
theorem rbegin_any {w : World} {s e q rb : Nat} {FE FQ G : Nat → Prop} {A : NicA} {L : List Bf} {T C : List Int} {nx fi : Int} {qt qc : Option Addr} {ct cc : Nat} (hk : NicOk A) (hL : Few L) (hs : G s) (he : G e) (hrb : G rb) (hFE : ∀ b, FE b → G b ∨ w.heap.size ≤ b) (hFQ : ∀ b, FQ b → G b ∨ w.heap.size ≤ b) (h : Sep w [rs6 s e q (.slice qt T.length ct) (.slice qc C.length cc) nx fi, rDevQ e FE A, rRefP q rb FQ L, rRowO (.slice qt T.length ct) (ivs T) 3, rRowO (.slice qc C.length cc) (ivs C) 3]) : Calls Try.prog 62 #[pt s 0] w fun e' w' => e' = .returned (.tuple #[]) ∧ RRTo w s e q rb G (rbeginF ⟨A, L, T, C, nx, fi⟩) w' := by
  have hn0 : ∀ b, (Value.slice none 0 0).ownBlock = some b → G b ∨ w.heap.size ≤ b := fun b hb => by simp [Value.ownBlock] at hb
  refine calls_sc (l0 := [rs6 s e q (.slice qt T.length ct) (.slice qc C.length cc) nx fi, rDevQ e FE A, rRefP q rb FQ L, rRowO (.slice qt T.length ct) (ivs T) 3, rRowO (.slice qc C.length cc) (ivs C) 3]) (args := [pt s 0]) G Try.func62 rfl 26 Try.ntmps62 (le_b rfl) ⟨h, Only.refl _ _⟩ ?_
  show SC _ _ _ _ [(0, pt s 0)] [rs6 s e q (.slice qt T.length ct) (.slice qc C.length cc) nx fi, rDevQ e FE A, rRefP q rb FQ L, rRowO (.slice qt T.length ct) (ivs T) 3, rRowO (.slice qc C.length cc) (ivs C) 3]
  refine SC.sr ?_
  refine SL.mv ?_
  refine SL.nk ?_
  refine SL.uu (ru_fieldAddr (o2 := 0) fd122_0 rfl rfl rfl) ?_
  refine SL.uu (ru_load (i := 0) ts39 rfl rfl rfl rfl) ?_
  refine SL.call (ζ := Nat → Prop) (fun F1 => iw ((writeF A 0 2).1)) (fun F1 => [rBlk s [pt e 0, pt q 0, Value.slice qt T.length ct, Value.slice qc C.length cc, iw nx, iw fi] 122, rDevQ e F1 ((writeF A 0 2).2), rRefP q rb FQ L, rRowO (.slice qt T.length ct) (ivs T) 3, rRowO (.slice qc C.length cc) (ivs C) 3]) (fun F1 => (∀ b, F1 b → G b ∨ w.heap.size ≤ b)) rfl rfl co72 rfl rfl rfl (lt_b rfl) (fun w hI => (q_write hk (nic_at hI (i := 1) rfl) 0 2).mono fun e w2 ⟨h1, h2⟩ => by obtain ⟨F2, k1, k2⟩ := hI.nicB (F0 := G) (i := 1) rfl (.inl he) (NicTo.of h2) hFE; exact ⟨F2, h1, k1, k2⟩) ?_
  intro F1 hF1
  refine SL.nn [(0, pt s 0)] [rBlk s [pt e 0, pt q 0, Value.slice qt T.length ct, Value.slice qc C.length cc, iw nx, iw fi] 122, rDevQ e F1 ((writeF A 0 2).2), rRefP q rb FQ L, rRowO (.slice qt T.length ct) (ivs T) 3, rRowO (.slice qc C.length cc) (ivs C) 3] ⟨rfl, trivial⟩ ?_
  refine SC.sr ?_
  refine SL.mv ?_
  refine SL.nk ?_
  refine SL.uu (ru_fieldAddr (o2 := 0) fd122_0 rfl rfl rfl) ?_
  refine SL.uu (ru_load (i := 0) ts39 rfl rfl rfl rfl) ?_
  refine SL.call (ζ := Nat → Prop) (fun F2 => iw ((writeF ((writeF A 0 2).2) 0 1).1)) (fun F2 => [rBlk s [pt e 0, pt q 0, Value.slice qt T.length ct, Value.slice qc C.length cc, iw nx, iw fi] 122, rDevQ e F2 ((writeF ((writeF A 0 2).2) 0 1).2), rRefP q rb FQ L, rRowO (.slice qt T.length ct) (ivs T) 3, rRowO (.slice qc C.length cc) (ivs C) 3]) (fun F2 => (∀ b, F2 b → G b ∨ w.heap.size ≤ b)) rfl rfl co72 rfl rfl rfl (lt_b rfl) (fun w hI => (q_write (write_ok hk _ _) (nic_at hI (i := 1) rfl) 0 1).mono fun e w2 ⟨h1, h2⟩ => by obtain ⟨F2, k1, k2⟩ := hI.nicB (F0 := G) (i := 1) rfl (.inl he) (NicTo.of h2) hF1; exact ⟨F2, h1, k1, k2⟩) ?_
  intro F2 hF2
  refine SL.nn [(0, pt s 0)] [rBlk s [pt e 0, pt q 0, Value.slice qt T.length ct, Value.slice qc C.length cc, iw nx, iw fi] 122, rDevQ e F2 ((writeF ((writeF A 0 2).2) 0 1).2), rRefP q rb FQ L, rRowO (.slice qt T.length ct) (ivs T) 3, rRowO (.slice qc C.length cc) (ivs C) 3] ⟨rfl, trivial⟩ ?_
  refine SC.sr ?_
  refine SL.mv ?_
  refine SL.nk ?_
  refine SL.uu (ru_fieldAddr (o2 := 2) fd122_2 rfl rfl rfl) ?_
  refine SL.store (i := 0) (c' := [pt e 0, pt q 0, Value.slice none 0 0, Value.slice qc C.length cc, iw nx, iw fi]) rfl rfl ts26 rfl rfl rfl rfl rfl (lt_b rfl) (.inl hs) rfl ?_
  refine SL.nn [(0, pt s 0)] [rBlk s [pt e 0, pt q 0, Value.slice none 0 0, Value.slice qc C.length cc, iw nx, iw fi] 122, rDevQ e F2 ((writeF ((writeF A 0 2).2) 0 1).2), rRefP q rb FQ L, rRowO (.slice qt T.length ct) (ivs T) 3, rRowO (.slice qc C.length cc) (ivs C) 3] ⟨rfl, trivial⟩ ?_
  refine SC.sr ?_
  refine SL.mv ?_
  refine SL.nk ?_
  refine SL.uu (ru_fieldAddr (o2 := 3) fd122_3 rfl rfl rfl) ?_
  refine SL.store (i := 0) (c' := [pt e 0, pt q 0, Value.slice none 0 0, Value.slice none 0 0, iw nx, iw fi]) rfl rfl ts26 rfl rfl rfl rfl rfl (lt_b rfl) (.inl hs) rfl ?_
  refine SL.nn [(0, pt s 0)] [rBlk s [pt e 0, pt q 0, Value.slice none 0 0, Value.slice none 0 0, iw nx, iw fi] 122, rDevQ e F2 ((writeF ((writeF A 0 2).2) 0 1).2), rRefP q rb FQ L, rRowO (.slice qt T.length ct) (ivs T) 3, rRowO (.slice qc C.length cc) (ivs C) 3] ⟨rfl, trivial⟩ ?_
  refine SC.sr ?_
  refine SL.mv ?_
  refine SL.nk ?_
  refine SL.uu (ru_fieldAddr (o2 := 4) fd122_4 rfl rfl rfl) ?_
  refine SL.store (i := 0) (c' := [pt e 0, pt q 0, Value.slice none 0 0, Value.slice none 0 0, iw 0, iw fi]) rfl rfl ts3 rfl rfl rfl rfl rfl (lt_b rfl) (.inl hs) rfl ?_
  refine SL.nn [(0, pt s 0)] [rBlk s [pt e 0, pt q 0, Value.slice none 0 0, Value.slice none 0 0, iw 0, iw fi] 122, rDevQ e F2 ((writeF ((writeF A 0 2).2) 0 1).2), rRefP q rb FQ L, rRowO (.slice qt T.length ct) (ivs T) 3, rRowO (.slice qc C.length cc) (ivs C) 3] ⟨rfl, trivial⟩ ?_
  refine SC.sr ?_
  refine SL.mv ?_
  refine SL.nk ?_
  refine SL.uu (ru_fieldAddr (o2 := 5) fd122_5 rfl rfl rfl) ?_
  refine SL.store (i := 0) (c' := [pt e 0, pt q 0, Value.slice none 0 0, Value.slice none 0 0, iw 0, iw 0]) rfl rfl ts3 rfl rfl rfl rfl rfl (lt_b rfl) (.inl hs) rfl ?_
  refine SL.nn [(0, pt s 0)] [rBlk s [pt e 0, pt q 0, Value.slice none 0 0, Value.slice none 0 0, iw 0, iw 0] 122, rDevQ e F2 ((writeF ((writeF A 0 2).2) 0 1).2), rRefP q rb FQ L, rRowO (.slice qt T.length ct) (ivs T) 3, rRowO (.slice qc C.length cc) (ivs C) 3] ⟨rfl, trivial⟩ ?_
  refine SC.rows (rRowO (.slice none 0 0) (ivs []) 3) (fun b hb => by cases hb) (fun w => rowO_nil w 3) ?_
  refine SC.rows (rRowO (.slice none 0 0) (ivs []) 3) (fun b hb => by cases hb) (fun w => rowO_nil w 3) ?_
  refine SC.pick [0, 1, 2, 5, 6] rfl ?_
  refine SC.region ?_
  refine SL.mv ?_
  refine SL.call (ζ := (Nat → Prop) × (Nat → Prop) × Option Addr × Nat × Option Addr × Nat) (fun z => Value.tuple #[]) (fun z => [rBlk s [pt e 0, pt q 0, Value.slice z.2.2.1 ((rfillF ⟨(writeF ((writeF A 0 2).2) 0 1).2, L, [], [], 0, 0⟩).T.length) z.2.2.2.1, Value.slice z.2.2.2.2.1 ((rfillF ⟨(writeF ((writeF A 0 2).2) 0 1).2, L, [], [], 0, 0⟩).C.length) z.2.2.2.2.2, iw ((rfillF ⟨(writeF ((writeF A 0 2).2) 0 1).2, L, [], [], 0, 0⟩).next), iw ((rfillF ⟨(writeF ((writeF A 0 2).2) 0 1).2, L, [], [], 0, 0⟩).fill)] 122, rDevQ e z.1 ((rfillF ⟨(writeF ((writeF A 0 2).2) 0 1).2, L, [], [], 0, 0⟩).A), rRefP q rb z.2.1 ((rfillF ⟨(writeF ((writeF A 0 2).2) 0 1).2, L, [], [], 0, 0⟩).L), rRowO (.slice z.2.2.1 ((rfillF ⟨(writeF ((writeF A 0 2).2) 0 1).2, L, [], [], 0, 0⟩).T.length) z.2.2.2.1) (ivs ((rfillF ⟨(writeF ((writeF A 0 2).2) 0 1).2, L, [], [], 0, 0⟩).T)) 3, rRowO (.slice z.2.2.2.2.1 ((rfillF ⟨(writeF ((writeF A 0 2).2) 0 1).2, L, [], [], 0, 0⟩).C.length) z.2.2.2.2.2) (ivs ((rfillF ⟨(writeF ((writeF A 0 2).2) 0 1).2, L, [], [], 0, 0⟩).C)) 3]) (fun z => (∀ b, z.1 b → G b ∨ w.heap.size ≤ b) ∧ (∀ b, z.2.1 b → G b ∨ w.heap.size ≤ b) ∧ (∀ b, (Value.slice z.2.2.1 (rfillF ⟨(writeF ((writeF A 0 2).2) 0 1).2, L, [], [], 0, 0⟩).T.length z.2.2.2.1).ownBlock = some b → G b ∨ w.heap.size ≤ b) ∧ (∀ b, (Value.slice z.2.2.2.2.1 (rfillF ⟨(writeF ((writeF A 0 2).2) 0 1).2, L, [], [], 0, 0⟩).C.length z.2.2.2.2.2).ownBlock = some b → G b ∨ w.heap.size ≤ b)) rfl rfl co80 rfl rfl rfl (lt_b rfl) (fun w9 hI => (rfillT_any (G := fun b => G b ∨ w.heap.size ≤ b) (Z := ⟨(writeF ((writeF A 0 2).2) 0 1).2, L, [], [], 0, 0⟩) ⟨(write_ok (write_ok hk _ _) _ _), by simp, by simp, by simp, by simp⟩ hL (.inl hs) (.inl he) (.inl hrb) (fun b hb => .inl (hF2 b hb)) (fun b hb => .inl (hFQ b hb)) (fun b hb => .inl (hn0 b hb)) (fun b hb => .inl (hn0 b hb)) hI.1).mono fun e2 w2 ⟨h1, h2⟩ => by obtain ⟨z, k1, k2, k3, k4, k5⟩ := RRTo.inv (G := G) (fun b hb => hb) hI h2; exact ⟨z, h1, k1, k2, k3, k4, k5⟩) ?_
  rintro ⟨FE3, FQ4, qt5, ct6, qc7, cc8⟩ ⟨hFE3, hFQ4, hqt5, hqc7⟩
  refine SL.nil ?_
  refine SE.res (.inr rfl) (res0 Try.results62) fun w1 hI => ⟨rfl, FE3, FQ4, qt5, ct6, qc7, cc8, hI.1, hFE3, hFQ4, hqt5, hqc7, hI.2⟩
theorem rnewR_any {w : World} {e q rb : Nat} {FE FQ G : Nat → Prop} {A : NicA} {L : List Bf} (hk : NicOk A) (hL : Few L) (he : G e) (hrb : G rb) (hFE : ∀ b, FE b → G b ∨ w.heap.size ≤ b) (hFQ : ∀ b, FQ b → G b ∨ w.heap.size ≤ b) (h : Sep w [rDevQ e FE A, rRefP q rb FQ L]) : Calls Try.prog 31 #[pt e 0, pt q 0] w fun e' w' => ∃ s, e' = .returned (pt s 0) ∧ w.heap.size ≤ s ∧ RRTo w s e q rb G (rbeginF ⟨A, L, [], [], 0, 0⟩) w' := by
  refine calls_sc (l0 := [rDevQ e FE A, rRefP q rb FQ L]) (args := [pt e 0, pt q 0]) G Try.func31 rfl 13 Try.ntmps31 (le_b rfl) ⟨h, Only.refl _ _⟩ ?_
  show SC _ _ _ _ [(0, pt e 0), (1, pt q 0)] [rDevQ e FE A, rRefP q rb FQ L]
  refine SC.sr ?_
  refine SL.as ?_
  refine SL.nn [(0, pt e 0), (1, pt q 0), (4, Value.pointer none)] [rDevQ e FE A, rRefP q rb FQ L] ⟨rfl, rfl, rfl, trivial⟩ ?_
  refine SC.sr ?_
  refine SL.mv ?_
  refine SL.mv ?_
  refine SL.uu (ru_build (vals := [(0, pt e 0), (1, pt q 0)]) (cells := [pt e 0, pt q 0, Value.slice none 0 0, Value.slice none 0 0, iw 0, iw 0]) rfl rfl (by kernel_rfl)) ?_
  refine SL.box (c := [pt e 0, pt q 0, Value.slice none 0 0, Value.slice none 0 0, iw 0, iw 0]) rfl rfl (lt_b rfl) rfl rfl rfl fun s hs => ?_
  refine SL.as ?_
  refine SL.nil ?_
  refine SC.of_SE ?_
  refine SC.reord [rBlk s [pt e 0, pt q 0, Value.slice none 0 0, Value.slice none 0 0, iw 0, iw 0] 122, rDevQ e FE A, rRefP q rb FQ L] (List.perm_append_comm (l₁ := [rDevQ e FE A, rRefP q rb FQ L]) (l₂ := [rBlk s [pt e 0, pt q 0, Value.slice none 0 0, Value.slice none 0 0, iw 0, iw 0] 122])) ?_
  refine SC.rows (rRowO (.slice none 0 0) (ivs []) 3) (fun b hb => by cases hb) (fun w => rowO_nil w 3) ?_
  refine SC.rows (rRowO (.slice none 0 0) (ivs []) 3) (fun b hb => by cases hb) (fun w => rowO_nil w 3) ?_
  refine SC.sr ?_
  refine SL.mv ?_
  refine SL.call (ζ := (Nat → Prop) × (Nat → Prop) × Option Addr × Nat × Option Addr × Nat) (fun z => Value.tuple #[]) (fun z => [rBlk s [pt e 0, pt q 0, Value.slice z.2.2.1 ((rbeginF ⟨A, L, [], [], 0, 0⟩).T.length) z.2.2.2.1, Value.slice z.2.2.2.2.1 ((rbeginF ⟨A, L, [], [], 0, 0⟩).C.length) z.2.2.2.2.2, iw ((rbeginF ⟨A, L, [], [], 0, 0⟩).next), iw ((rbeginF ⟨A, L, [], [], 0, 0⟩).fill)] 122, rDevQ e z.1 ((rbeginF ⟨A, L, [], [], 0, 0⟩).A), rRefP q rb z.2.1 ((rbeginF ⟨A, L, [], [], 0, 0⟩).L), rRowO (.slice z.2.2.1 ((rbeginF ⟨A, L, [], [], 0, 0⟩).T.length) z.2.2.2.1) (ivs ((rbeginF ⟨A, L, [], [], 0, 0⟩).T)) 3, rRowO (.slice z.2.2.2.2.1 ((rbeginF ⟨A, L, [], [], 0, 0⟩).C.length) z.2.2.2.2.2) (ivs ((rbeginF ⟨A, L, [], [], 0, 0⟩).C)) 3]) (fun z => (∀ b, z.1 b → G b ∨ w.heap.size ≤ b) ∧ (∀ b, z.2.1 b → G b ∨ w.heap.size ≤ b) ∧ (∀ b, (Value.slice z.2.2.1 (rbeginF ⟨A, L, [], [], 0, 0⟩).T.length z.2.2.2.1).ownBlock = some b → G b ∨ w.heap.size ≤ b) ∧ (∀ b, (Value.slice z.2.2.2.2.1 (rbeginF ⟨A, L, [], [], 0, 0⟩).C.length z.2.2.2.2.2).ownBlock = some b → G b ∨ w.heap.size ≤ b)) rfl rfl co62 rfl rfl rfl (lt_b rfl) (fun w9 hI => (rbegin_any (G := fun b => G b ∨ w.heap.size ≤ b) hk hL (.inr hs) (.inl he) (.inl hrb) (fun b hb => .inl (hFE b hb)) (fun b hb => .inl (hFQ b hb)) (T := []) (C := []) (qt := none) (ct := 0) (qc := none) (cc := 0) hI.1).mono fun e2 w2 ⟨h1, h2⟩ => by obtain ⟨z, k1, k2, k3, k4, k5⟩ := RRTo.inv (G := G) (fun b hb => hb) hI h2; exact ⟨z, h1, k1, k2, k3, k4, k5⟩) ?_
  rintro ⟨FE1, FQ2, qt3, ct4, qc5, cc6⟩ ⟨hFE1, hFQ2, hqt3, hqc5⟩
  refine SL.nn [(4, Value.pointer none), (5, pt s 0)] [rBlk s [pt e 0, pt q 0, Value.slice qt3 ((rbeginF ⟨A, L, [], [], 0, 0⟩).T.length) ct4, Value.slice qc5 ((rbeginF ⟨A, L, [], [], 0, 0⟩).C.length) cc6, iw ((rbeginF ⟨A, L, [], [], 0, 0⟩).next), iw ((rbeginF ⟨A, L, [], [], 0, 0⟩).fill)] 122, rDevQ e FE1 ((rbeginF ⟨A, L, [], [], 0, 0⟩).A), rRefP q rb FQ2 ((rbeginF ⟨A, L, [], [], 0, 0⟩).L), rRowO (.slice qt3 ((rbeginF ⟨A, L, [], [], 0, 0⟩).T.length) ct4) (ivs ((rbeginF ⟨A, L, [], [], 0, 0⟩).T)) 3, rRowO (.slice qc5 ((rbeginF ⟨A, L, [], [], 0, 0⟩).C.length) cc6) (ivs ((rbeginF ⟨A, L, [], [], 0, 0⟩).C)) 3] ⟨rfl, rfl, trivial⟩ ?_
  refine SC.sr ?_
  refine SL.mv ?_
  refine SL.as ?_
  refine SL.nn [(4, pt s 0)] _ ⟨rfl, trivial⟩ ?_
  refine SC.ret ?_
  refine SE.res (.inl rfl) (res1 Try.results31 rfl) fun w1 hI => ⟨s, rfl, hs, FE1, FQ2, qt3, ct4, qc5, cc6, hI.1, hFE1, hFQ2, hqt3, hqc5, hI.2⟩

end Go.Proofs.Ytghfkgcaglabpaa

/-
  The document's pool: Set and See, whatever the number.
-/
namespace Go.Proofs.Ytghfkgcaglabpaa
open Go.RowKit
section
variable {w w' : World} {r rb : Nat} {F F0 : Nat → Prop} {L L' : List Bf}
theorem rset_any (h : RefP w r rb F L) (id : Int) {v : Value} {d : List UInt8} (hd : BytesAt w v d) : Calls Try.prog 67 #[pt r 0, iw id, v] w fun e w' => e = .returned (iw (ownF L id (setF d)).1) ∧ RefPTo w r rb F (ownF L id (setF d)).2 w' := by
  obtain ⟨a, c, rfl⟩ := hd.form
  rcases own_cases L id with he | he | ⟨k, b, rfl, hk, hr⟩
  · rw [ownF_err he]; exact (rset_err h.base he _ _ _).mono (by rintro e w' ⟨rfl, rfl⟩; exact ⟨rfl, RefPTo.same h⟩)
  · rw [ownF_err he]; exact (rset_err h.base he _ _ _).mono (by rintro e w' ⟨rfl, rfl⟩; exact ⟨rfl, RefPTo.same h⟩)
  · rw [ownF_in hk hr]
    by_cases hl : d.length ≤ 288
    · have e : setF d b = (0, ⟨1, [], d⟩) := by unfold setF; rw [if_neg (by omega)]
      rw [e, if_pos rfl]
      exact (rset_in h.base hk hr hd hl).mono (by rintro e w' ⟨rfl, h1, h2⟩; exact ⟨rfl, RefPTo.at h1 h2⟩)
    · have e : setF d b = (2, ⟨1, [], []⟩) := by unfold setF; rw [if_pos (by omega)]
      rw [e, if_neg (by decide)]
      exact (rset_long h.base hk hr _ _ _ (by omega)).mono (by rintro e w' ⟨rfl, rfl⟩; exact ⟨rfl, RefPTo.same h⟩)
theorem rsee_any (h : RefP w r rb F L) (id : Int) : Calls Try.prog 70 #[pt r 0, iw id] w fun e w' => ∃ qh ch qd cd,
    e = .returned (.tuple #[.agg #[iw ((seeF L id).1.refs : Int), .slice qh (seeF L id).1.head.length ch, .slice qd (seeF L id).1.data.length cd], iw (seeF L id).2]) ∧ BytesAt w' (.slice qh (seeF L id).1.head.length ch) (seeF L id).1.head ∧ BytesAt w' (.slice qd (seeF L id).1.data.length cd) (seeF L id).1.data ∧
    sliceIn (.slice qh (seeF L id).1.head.length ch) (fun b => F b ∧ b < w.heap.size) ∧ sliceIn (.slice qd (seeF L id).1.data.length cd) (fun b => F b ∧ b < w.heap.size) ∧ Only (fun _ => False) w w' := by
  by_cases hu : Used L id
  · obtain ⟨k, b, rfl, hk, hr⟩ := hu
    have e : seeF L (k : Int) = (b, 0) := by unfold seeF; rw [bufAt_nat, hk]; simp only [if_pos hr]
    rw [e]
    refine (rsee_in h.base hk hr).mono ?_
    rintro e w' ⟨x, n, c, y, n2, c2, rfl, h1, h2, h3, h4, h5⟩
    obtain ⟨_, _, e1⟩ := h1.form
    obtain ⟨_, _, e2⟩ := h2.form
    simp only [Value.slice.injEq] at e1 e2
    obtain ⟨_, rfl, _⟩ := e1
    obtain ⟨_, rfl, _⟩ := e2
    exact ⟨x, c, y, c2, rfl, h1, h2, h3.mono fun b hb => ⟨hb.1.elim id (fun h => absurd hb.2 (by omega)), hb.2⟩, h4.mono fun b hb => ⟨hb.1.elim id (fun h => absurd hb.2 (by omega)), hb.2⟩, h5⟩
  · rw [seeF_no hu]
    refine (rsee_no h.base hu).mono ?_
    rintro e w' ⟨rfl, h1⟩
    exact ⟨none, 0, none, 0, rfl, .nil _, .nil _, fun b o n c e _ => by simp at e, fun b o n c e _ => by simp at e, h1⟩
end
end Go.Proofs.Ytghfkgcaglabpaa

/-
  The law's two rings in memory.
-/
namespace Go.Proofs.Ytghfkgcaglabpaa
open Go.RowKit
def insN (a : Nat) : List Nat → List Nat
  | [] => [a]
  | b :: r => bif Nat.ble a b then a :: b :: r else b :: insN a r
def sortN : List Nat → List Nat
  | [] => []
  | a :: r => insN a (sortN r)
def upN : Nat → Nat → List Nat
  | 0, _ => []
  | n + 1, k => k :: upN n (k + 1)
def permB (js : List Nat) (n : Nat) : Bool := sortN js == upN n 0
theorem insN_perm (a : Nat) (l : List Nat) : (insN a l).Perm (a :: l) := by
  induction l with
  | nil => exact List.Perm.refl _
  | cons b r ih =>
    unfold insN
    cases Nat.ble a b
    · exact (ih.cons b).trans (List.Perm.swap a b r)
    · exact List.Perm.refl _
theorem sortN_perm (l : List Nat) : (sortN l).Perm l := by
  induction l with
  | nil => exact List.Perm.refl _
  | cons a r ih => exact (insN_perm a _).trans (ih.cons a)
theorem upN_pick {α : Type} (l : List α) : ∀ (n k : Nat), k + n = l.length → (upN n k).filterMap (l[·]?) = l.drop k
  | 0, k, h => by rw [List.drop_eq_nil_of_le (by omega)]; rfl
  | n + 1, k, h => by
    have hk : k < l.length := by omega
    unfold upN
    rw [List.filterMap_cons, List.getElem?_eq_getElem hk]
    simp only
    rw [upN_pick l n (k + 1) (by omega), ← List.drop_eq_getElem_cons hk]
theorem permB_perm {α : Type} {js : List Nat} {l l' : List α} (h : permB js l.length = true) (h1 : js.filterMap (l[·]?) = l') : l.Perm l' := by
  have e : sortN js = upN l.length 0 := by simpa [permB] using h
  have h2 := (sortN_perm js).filterMap (l[·]?)
  rw [e, upN_pick l l.length 0 (by omega), List.drop_zero, h1] at h2
  exact h2
def RRAt (w : World) (s e q : Nat) (G : Nat → Prop) (Z : RefS) : Prop := ∃ rb FE FQ qt ct qc cc, Sep w (RR5 s e q rb FE FQ qt ct qc cc Z) ∧ G s ∧ G e ∧ G q ∧ G rb ∧ (∀ b, FE b → G b) ∧ (∀ b, FQ b → G b) ∧
  (∀ b, (Value.slice qt Z.T.length ct).ownBlock = some b → G b) ∧ (∀ b, (Value.slice qc Z.C.length cc).ownBlock = some b → G b) ∧ ∀ b, G b → b < w.heap.size
def rRefR (s e q : Nat) (G : Nat → Prop) (Z : RefS) : Res where
  ok w := RRAt w s e q G Z
  fp := G
  lt w h b hb := by obtain ⟨rb, FE, FQ, qt, ct, qc, cc, _, _, _, _, _, _, _, _, _, h⟩ := h; exact h b hb
  st w w' h hw := by
    obtain ⟨rb, FE, FQ, qt, ct, qc, cc, h1, g1, g2, g3, g4, g5, g6, g7, g8, g9⟩ := h
    refine ⟨rb, FE, FQ, qt, ct, qc, cc, ⟨fun x hx => ?_, h1.2⟩, g1, g2, g3, g4, g5, g6, g7, g8, fun b hb => ?_⟩
    · refine x.st w w' (h1.1 x hx) (fun b hb => hw b ?_)
      simp only [List.mem_cons, List.not_mem_nil, or_false] at hx
      rcases hx with rfl | rfl | rfl | rfl | rfl
      · have : b = s := hb
        rw [this]; exact g1
      · exact hb.elim (fun e => by rw [e]; exact g2) (g5 b)
      · exact hb.elim (fun e => by rw [e]; exact g3) (fun e => e.elim (fun e => by rw [e]; exact g4) (g6 b))
      · exact g7 b hb
      · exact g8 b hb
    · have h2 := g9 b hb
      have h3 := hw b hb
      rw [Array.getElem?_eq_getElem h2] at h3
      exact (Array.getElem?_eq_some_iff.1 h3).1
section
variable {X : Cx} {l : List Res} {w w' : World} {r d p ab s e q rb : Nat} {F F' F0 G FE FQ : Nat → Prop} {S : RingA} {Z : RefS} {A : NicA} {L : List Bf}
theorem RRTo.at (h : RRTo w s e q rb G Z w') (hs : G s ∨ w.heap.size ≤ s) (he : G e) (hq : G q) (hrb : G rb) : RRAt w' s e q (fun b => (G b ∨ w.heap.size ≤ b) ∧ b < w'.heap.size) Z := by
  obtain ⟨FE, FQ, qt, ct, qc, cc, h1, h2, h3, h4, h5, h6⟩ := h
  have lt : ∀ x ∈ RR5 s e q rb FE FQ qt ct qc cc Z, ∀ b, x.fp b → b < w'.heap.size := fun x hx b hb => x.lt w' (h1.1 x hx) b hb
  have l1 := lt (rs6 s e q (.slice qt Z.T.length ct) (.slice qc Z.C.length cc) Z.next Z.fill) (by simp)
  have l2 := lt (rDevQ e FE Z.A) (by simp)
  have l3 := lt (rRefP q rb FQ Z.L) (by simp)
  have l4 := lt (rRowO (.slice qt Z.T.length ct) (ivs Z.T) 3) (by simp)
  have l5 := lt (rRowO (.slice qc Z.C.length cc) (ivs Z.C) 3) (by simp)
  exact ⟨rb, FE, FQ, qt, ct, qc, cc, h1, ⟨hs, l1 s rfl⟩, ⟨.inl he, l2 e (.inl rfl)⟩, ⟨.inl hq, l3 q (.inl rfl)⟩, ⟨.inl hrb, l3 rb (.inr (.inl rfl))⟩, fun b hb => ⟨h2 b hb, l2 b (.inr hb)⟩, fun b hb => ⟨h3 b hb, l3 b (.inr (.inr hb))⟩, fun b hb => ⟨h4 b hb, l4 b hb⟩, fun b hb => ⟨h5 b hb, l5 b hb⟩, fun b hb => hb.2⟩
theorem Inv.two {a b : Res} (h : Inv X w (a :: b :: l)) : Sep w [a, b] := (h.keep 2).1
theorem Inv.newRing (h : Inv X w (rDev d F0 A :: rPool p ab L :: l)) (hS : ∀ b, b = d ∨ b = p ∨ b = ab → X.S b ∨ X.w0.heap.size ≤ b) (hr : w.heap.size ≤ r) (h1 : RingAt w' r d p ab F' S) (h2 : ∀ b, F' b → F0 b ∨ w.heap.size ≤ b) (h3 : Only (fun b => b = d ∨ b = p ∨ b = ab) w w') : Inv X w' (rRing r d p ab F' S :: l) := by
  have hp := h.1.2
  rw [List.pairwise_cons, List.pairwise_cons] at hp
  have t : Turns (fun b => b = d ∨ b = p ∨ b = ab) [rDev d F0 A, rPool p ab L] [rRing r d p ab F' S] w w' := by
    refine ⟨⟨fun q hq => by simp at hq; subst hq; exact h1, List.pairwise_singleton _ _⟩, h3, fun q hq b hb => ?_⟩
    simp only [List.mem_cons, List.not_mem_nil, or_false] at hq
    subst hq
    rcases hb with e | e | e | e | e
    · exact .inr (by omega)
    · exact .inl ⟨rDev d F0 A, by simp, .inl e⟩
    · exact (h2 b e).imp (fun e => ⟨rDev d F0 A, by simp, .inr e⟩) id
    · exact .inl ⟨rPool p ab L, by simp, .inl e⟩
    · exact .inl ⟨rPool p ab L, by simp, .inr e⟩
  exact Inv.turns (l1 := [rDev d F0 A, rPool p ab L]) h t (fun b hb => by
    rcases hb with e | e | e
    · exact ⟨rDev d F0 A, by simp, .inl e⟩
    · exact ⟨rPool p ab L, by simp, .inl e⟩
    · exact ⟨rPool p ab L, by simp, .inr e⟩) hS
theorem Inv.newRefRing' (h : Inv X w (rDevQ e FE A :: rRefP q rb FQ L :: l)) (hS : ∀ b, b = e ∨ FE b ∨ b = q ∨ b = rb ∨ FQ b → X.S b ∨ X.w0.heap.size ≤ b) (hs : w.heap.size ≤ s) (k : RRTo w s e q rb (fun b => b = e ∨ FE b ∨ b = q ∨ b = rb ∨ FQ b) Z w') (hX : ∀ b, ¬ X.S b) : ∃ G, Inv X w' (rRefR s e q G Z :: l) ∧ ∀ b, G b → X.w0.heap.size ≤ b := by
  have hA := k.at (.inr hs) (.inl rfl) (.inr (.inr (.inl rfl))) (.inr (.inr (.inr (.inl rfl))))
  obtain ⟨_, _, _, _, _, _, _, _, _, _, _, hO⟩ := k
  have zin : ∀ b, (b = e ∨ FE b ∨ b = q ∨ b = rb ∨ FQ b) → ∃ r ∈ [rDevQ e FE A, rRefP q rb FQ L], r.fp b := fun b hb => by
    rcases hb with e1 | e1 | e1 | e1 | e1
    · exact ⟨rDevQ e FE A, by simp, .inl e1⟩
    · exact ⟨rDevQ e FE A, by simp, .inr e1⟩
    · exact ⟨rRefP q rb FQ L, by simp, .inl e1⟩
    · exact ⟨rRefP q rb FQ L, by simp, .inr (.inl e1)⟩
    · exact ⟨rRefP q rb FQ L, by simp, .inr (.inr e1)⟩
  have t : Turns (fun b => b = e ∨ FE b ∨ b = q ∨ b = rb ∨ FQ b) [rDevQ e FE A, rRefP q rb FQ L] [rRefR s e q (fun b => ((b = e ∨ FE b ∨ b = q ∨ b = rb ∨ FQ b) ∨ w.heap.size ≤ b) ∧ b < w'.heap.size) Z] w w' := by
    refine ⟨⟨fun x hx => by simp at hx; subst hx; exact hA, List.pairwise_singleton _ _⟩, hO, fun x hx b hb => ?_⟩
    simp only [List.mem_cons, List.not_mem_nil, or_false] at hx
    subst hx
    exact hb.1.imp (zin b) id
  refine ⟨_, Inv.turns (l1 := [rDevQ e FE A, rRefP q rb FQ L]) h t zin hS, fun b hb => ?_⟩
  rcases hb.1 with h1 | h1
  · exact (hS b h1).elim (fun h => (hX b h).elim) id
  · exact Nat.le_trans h.2.size h1
theorem perm_by {α : Type} {l l' : List α} (js : List Nat) (h1 : js.filterMap (l[·]?) = l') (h2 : permB js l.length = true) : l.Perm l' := permB_perm h2 h1
theorem rnewP_any {n : Nat} (h1 : 1 ≤ n) (h2 : n ≤ 4096) : Calls Try.prog 28 #[iw (n : Int)] w fun e w' => ∃ q rb, e = .returned (.tuple #[pt q 0, iw 0]) ∧ RefP w' q rb (fun _ => False) (List.replicate n ⟨0, [], []⟩) ∧ w.heap.size ≤ q ∧ w.heap.size ≤ rb ∧ Only (fun _ => False) w w' := by
  refine (rnew_in h1 h2).mono ?_
  rintro e w' ⟨r, rb, h1, h2, h3, h4, h5⟩
  refine ⟨r, rb, h1, ?_, h3, h4, h5⟩
  obtain ⟨k1, k2, k3, k4, k5, k6, k7, c, k8, k9, k10⟩ := RefP.of h2
  refine ⟨k1, k2, id, id, k5, k6, fun b hb => hb.elim, c, k8, k9, fun k b hk => (k10 k b hk).mono (fun x hlt hx => ?_)⟩
  have := hx.1
  omega
def beg0 (n : Nat) : RingA := beginF ⟨newA, List.replicate n ⟨0, [], []⟩, line0, line0⟩
def ref0 (n : Nat) : RefS := rbeginF ⟨newA, List.replicate n ⟨0, [], []⟩, [], [], 0, 0⟩
theorem few0 {n : Nat} : Few (List.replicate n ⟨0, [], []⟩) := fun b hb => by rw [(List.mem_replicate.1 hb).2]; decide
def Rig (w : World) (n : Nat) (g : Nat) (l' : List Res) (w' : World) : Prop := ∃ d p ab r e q s F G, l' = [rBlk g [pt d 0, pt p 0, pt r 0, pt e 0, pt q 0, pt s 0, .slice none 0 0, .slice none 0 0] 43, rRing r d p ab F (beg0 n), rRefR s e q G (ref0 n)] ∧ Sep w' l' ∧ ∀ x ∈ l', ∀ b, x.fp b → w.heap.size ≤ b
end
end Go.Proofs.Ytghfkgcaglabpaa

/-
  begun.
-/
namespace Go.Proofs.Ytghfkgcaglabpaa
open Go.RowKit
set_option maxRecDepth 100000
set_option maxHeartbeats 4000000
theorem begun_no {w : World} {many : Int} (hb : (decide ((many : Int) < 1) || decide ((60 : Int) < many)) = true) : Calls Try.prog 7 #[iw many] w fun e w' => e = .returned (.pointer none) ∧ Only (fun _ => False) w w' := by
  refine calls_sc (l0 := []) (args := [iw many]) (fun _ => False) Try.func7 rfl 63 Try.ntmps7 (le_b rfl) ⟨⟨by simp, List.Pairwise.nil⟩, Only.refl _ _⟩ ?_
  show SC _ _ _ _ [(0, iw many)] []
  refine SC.sr ?_
  refine SL.as ?_
  refine SL.nn [(0, iw many), (2, Value.pointer none)] [] ⟨rfl, rfl, trivial⟩ ?_
  refine SC.seq ?_
  refine SC.sr ?_
  refine SL.mv ?_
  refine SL.uu (ru_lt (b := (decide ((many : Int) < 1))) rfl rfl rfl rfl) ?_
  refine SL.mv ?_
  refine SL.join 3 [(0, iw many), (2, Value.pointer none), (9, iw many), (10, bo (decide ((many : Int) < 1))), (11, bo (decide ((many : Int) < 1))), (14, bo ((decide ((many : Int) < 1)) || (decide ((60 : Int) < many))))] [] ?_ ?_
  rotate_left
  · intro K hK
    rcases tf (decide ((many : Int) < 1)) with h1 | h1
    · skip
      refine SL.norm [(0, iw many), (2, Value.pointer none), (9, iw many), (10, bo true), (11, bo true)] _ ⟨rfl, rfl, rfl, (congrArg (fun x => some (Value.bool x)) h1), (congrArg (fun x => some (Value.bool x)) h1), trivial⟩ rfl ?_
      refine SL.oo ?_
      refine SL.oo ?_
      refine SL.uu (ru_pick (u := bo true) (v := undef) rfl rfl rfl rfl) ?_
      exact SL.joined hK ⟨rfl, rfl, rfl, (congrArg (fun x => some (Value.bool x)) h1.symm), (congrArg (fun x => some (Value.bool x)) h1.symm), (congrArg (fun x => some (Value.bool (x || (decide ((60 : Int) < many))))) h1.symm), trivial⟩ rfl
    refine SL.norm [(0, iw many), (2, Value.pointer none), (9, iw many), (10, bo false), (11, bo false)] _ ⟨rfl, rfl, rfl, (congrArg (fun x => some (Value.bool x)) h1), (congrArg (fun x => some (Value.bool x)) h1), trivial⟩ rfl ?_
    refine SL.gg (ru_move rfl rfl) ?_
    refine SL.gg (ru_gt (b := (decide ((60 : Int) < many))) rfl rfl rfl rfl) ?_
    refine SL.uu (ru_pick (u := bo true) (v := bo (decide ((60 : Int) < many))) rfl rfl rfl rfl) ?_
    exact SL.joined hK ⟨rfl, rfl, rfl, (congrArg (fun x => some (Value.bool x)) h1.symm), (congrArg (fun x => some (Value.bool x)) h1.symm), (congrArg (fun x => some (Value.bool (x || (decide ((60 : Int) < many))))) h1.symm), trivial⟩ rfl
  skip
  refine SL.nn [(0, iw many), (2, Value.pointer none), (14, bo ((decide ((many : Int) < 1)) || (decide ((60 : Int) < many))))] _ ⟨rfl, rfl, rfl, trivial⟩ ?_
  refine SC.yes (show some (Value.bool ((decide ((many : Int) < 1)) || (decide ((60 : Int) < many)))) = some (Value.bool true) from congrArg (fun x => some (Value.bool x)) hb) ?_
  refine SC.sr ?_
  refine SL.as ?_
  refine SL.nn [(0, iw many), (2, Value.pointer none)] _ ⟨rfl, rfl, trivial⟩ ?_
  refine SC.ret ?_
  refine SE.passr ?_
  refine SE.res (.inl rfl) (res1 Try.results7 rfl) fun w1 hI => ⟨rfl, hI.2⟩

theorem begun_in {w : World} {n : Nat} (h1 : 1 ≤ n) (h2 : n ≤ 60) : Calls Try.prog 7 #[iw (n : Int)] w fun e w' => ∃ g, e = .returned (pt g 0) ∧ ∃ l', Rig w n g l' w' ∧ Only (fun _ => False) w w' := by
  have hb : (decide (((n : Int) : Int) < 1) || decide ((60 : Int) < (n : Int))) = false := by simp; omega
  refine calls_sc (l0 := []) (args := [iw (n : Int)]) (fun _ => False) Try.func7 rfl 63 Try.ntmps7 (le_b rfl) ⟨⟨by simp, List.Pairwise.nil⟩, Only.refl _ _⟩ ?_
  show SC _ _ _ _ [(0, iw (n : Int))] []
  refine SC.sr ?_
  refine SL.as ?_
  refine SL.nn [(0, iw (n : Int)), (2, Value.pointer none)] [] ⟨rfl, rfl, trivial⟩ ?_
  refine SC.seq ?_
  refine SC.sr ?_
  refine SL.mv ?_
  refine SL.uu (ru_lt (b := (decide (((n : Int) : Int) < 1))) rfl rfl rfl rfl) ?_
  refine SL.mv ?_
  refine SL.join 3 [(0, iw (n : Int)), (2, Value.pointer none), (9, iw (n : Int)), (10, bo (decide (((n : Int) : Int) < 1))), (11, bo (decide (((n : Int) : Int) < 1))), (14, bo ((decide (((n : Int) : Int) < 1)) || (decide ((60 : Int) < (n : Int)))))] [] ?_ ?_
  rotate_left
  · intro K hK
    rcases tf (decide (((n : Int) : Int) < 1)) with h1 | h1
    · skip
      refine SL.norm [(0, iw (n : Int)), (2, Value.pointer none), (9, iw (n : Int)), (10, bo true), (11, bo true)] _ ⟨rfl, rfl, rfl, (congrArg (fun x => some (Value.bool x)) h1), (congrArg (fun x => some (Value.bool x)) h1), trivial⟩ rfl ?_
      refine SL.oo ?_
      refine SL.oo ?_
      refine SL.uu (ru_pick (u := bo true) (v := undef) rfl rfl rfl rfl) ?_
      exact SL.joined hK ⟨rfl, rfl, rfl, (congrArg (fun x => some (Value.bool x)) h1.symm), (congrArg (fun x => some (Value.bool x)) h1.symm), (congrArg (fun x => some (Value.bool (x || (decide ((60 : Int) < (n : Int)))))) h1.symm), trivial⟩ rfl
    refine SL.norm [(0, iw (n : Int)), (2, Value.pointer none), (9, iw (n : Int)), (10, bo false), (11, bo false)] _ ⟨rfl, rfl, rfl, (congrArg (fun x => some (Value.bool x)) h1), (congrArg (fun x => some (Value.bool x)) h1), trivial⟩ rfl ?_
    refine SL.gg (ru_move rfl rfl) ?_
    refine SL.gg (ru_gt (b := (decide ((60 : Int) < (n : Int)))) rfl rfl rfl rfl) ?_
    refine SL.uu (ru_pick (u := bo true) (v := bo (decide ((60 : Int) < (n : Int)))) rfl rfl rfl rfl) ?_
    exact SL.joined hK ⟨rfl, rfl, rfl, (congrArg (fun x => some (Value.bool x)) h1.symm), (congrArg (fun x => some (Value.bool x)) h1.symm), (congrArg (fun x => some (Value.bool (x || (decide ((60 : Int) < (n : Int)))))) h1.symm), trivial⟩ rfl
  skip
  refine SL.nn [(0, iw (n : Int)), (2, Value.pointer none), (14, bo ((decide (((n : Int) : Int) < 1)) || (decide ((60 : Int) < (n : Int)))))] _ ⟨rfl, rfl, rfl, trivial⟩ ?_
  refine SC.no (show some (Value.bool ((decide (((n : Int) : Int) < 1)) || (decide ((60 : Int) < (n : Int))))) = some (Value.bool false) from congrArg (fun x => some (Value.bool x)) hb) ?_
  refine SC.skip ?_
  refine SC.of_SE ?_
  refine SC.norm [(0, iw (n : Int)), (2, Value.pointer none)] _ ⟨rfl, rfl, trivial⟩ rfl ?_
  refine SC.sr ?_
  refine SL.mv ?_
  refine SL.call (ζ := Nat × Nat) (fun z => Value.tuple #[pt z.1 0, iw 0]) (fun z => [rPool z.1 z.2 (List.replicate n ⟨0, [], []⟩)]) (fun z => w.heap.size ≤ z.1 ∧ w.heap.size ≤ z.2) rfl rfl co27 rfl rfl rfl (lt_b rfl) (fun w hI => (new_in h1 (by omega)).mono fun e w2 ⟨p, ab, k1, k2, k3, k4, k5⟩ => ⟨(p, ab), k1, hI.add (r := rPool p ab (List.replicate n ⟨0, [], []⟩)) k5 k2 (fun b hb => hb.elim (fun e => e ▸ k3) (fun e => e ▸ k4)), Nat.le_trans hI.2.size k3, Nat.le_trans hI.2.size k4⟩) ?_
  rintro ⟨p, ab⟩ ⟨hp, hab⟩
  refine SL.mv ?_
  refine SL.uu (ru_extract rfl rfl rfl) ?_
  refine SL.uu (ru_extract rfl rfl rfl) ?_
  refine SL.as ?_
  refine SL.as ?_
  refine SL.nn [(0, iw (n : Int)), (2, Value.pointer none), (3, pt p 0), (4, iw 0)] [rPool p ab (List.replicate n ⟨0, [], []⟩)] ⟨rfl, rfl, rfl, rfl, trivial⟩ ?_
  refine SC.sr ?_
  refine SL.mv ?_
  refine SL.call (ζ := Nat × Nat) (fun z => Value.tuple #[pt z.1 0, iw 0]) (fun z => [rPool p ab (List.replicate n ⟨0, [], []⟩), rRefP z.1 z.2 (fun _ => False) (List.replicate n ⟨0, [], []⟩)]) (fun z => w.heap.size ≤ z.1 ∧ w.heap.size ≤ z.2) rfl rfl co28 rfl rfl rfl (lt_b rfl) (fun w hI => (rnewP_any h1 (by omega)).mono fun e w2 ⟨p, ab, k1, k2, k3, k4, k5⟩ => ⟨(p, ab), k1, hI.add (r := rRefP p ab (fun _ => False) (List.replicate n ⟨0, [], []⟩)) k5 k2 (fun b hb => hb.elim (fun e => e ▸ k3) (fun e => e.elim (fun e => e ▸ k4) False.elim)), Nat.le_trans hI.2.size k3, Nat.le_trans hI.2.size k4⟩) ?_
  rintro ⟨q, rb⟩ ⟨hq, hrb⟩
  refine SL.mv ?_
  refine SL.uu (ru_extract rfl rfl rfl) ?_
  refine SL.uu (ru_extract rfl rfl rfl) ?_
  refine SL.as ?_
  refine SL.as ?_
  refine SL.nn [(2, Value.pointer none), (3, pt p 0), (4, iw 0), (5, pt q 0)] [rPool p ab (List.replicate n ⟨0, [], []⟩), rRefP q rb (fun _ => False) (List.replicate n ⟨0, [], []⟩)] ⟨rfl, rfl, rfl, rfl, trivial⟩ ?_
  refine SC.sr ?_
  refine SL.call (ζ := Nat) (fun z => pt z 0) (fun z => [rPool p ab (List.replicate n ⟨0, [], []⟩), rRefP q rb (fun _ => False) (List.replicate n ⟨0, [], []⟩), rDev z (fun _ => False) newA]) (fun z => w.heap.size ≤ z) rfl rfl co29 rfl rfl rfl (lt_b rfl) (fun w hI => (p_new _).mono fun e w2 ⟨g, k1, k2, k3, k4⟩ => ⟨g, k2, hI.newNic k1 k3 k4, Nat.le_trans hI.2.size k1⟩) ?_
  intro d hd
  refine SL.as ?_
  refine SL.nn [(2, Value.pointer none), (3, pt p 0), (4, iw 0), (5, pt q 0), (7, pt d 0)] [rPool p ab (List.replicate n ⟨0, [], []⟩), rRefP q rb (fun _ => False) (List.replicate n ⟨0, [], []⟩), rDev d (fun _ => False) newA] ⟨rfl, rfl, rfl, rfl, rfl, trivial⟩ ?_
  refine SC.seq ?_
  refine SC.sr ?_
  refine SL.mv ?_
  refine SL.uu (ru_eqnil Try.underlying37 rfl rfl rfl rfl) ?_
  refine SL.mv ?_
  refine SL.gg (ru_move rfl rfl) ?_
  refine SL.gg (ru_ne (b := false) rfl rfl rfl rfl) ?_
  refine SL.uu (ru_pick (u := bo true) (v := bo false) rfl rfl rfl rfl) ?_
  refine SL.mv ?_
  refine SL.gg (ru_move rfl rfl) ?_
  refine SL.gg (ru_eqnil Try.underlying36 rfl rfl rfl rfl) ?_
  refine SL.uu (ru_pick (u := bo true) (v := bo false) rfl rfl rfl rfl) ?_
  refine SL.nn [(2, Value.pointer none), (3, pt p 0), (5, pt q 0), (7, pt d 0), (35, bo false)] _ ⟨rfl, rfl, rfl, rfl, rfl, trivial⟩ ?_
  refine SC.no rfl ?_
  refine SC.skip ?_
  refine SC.of_SE ?_
  refine SC.norm [(2, Value.pointer none), (3, pt p 0), (5, pt q 0), (7, pt d 0)] _ ⟨rfl, rfl, rfl, rfl, trivial⟩ rfl ?_
  refine SC.sr ?_
  refine SL.mv ?_
  refine SL.mv ?_
  refine SL.call (ζ := Nat) (fun z => pt z 0) (fun z => [rPool p ab (List.replicate n ⟨0, [], []⟩), rRefP q rb (fun _ => False) (List.replicate n ⟨0, [], []⟩), rDev d (fun _ => False) newA, rDevQ z (fun _ => False) newA]) (fun z => w.heap.size ≤ z) rfl rfl co23 rfl rfl rfl (lt_b rfl) (fun w hI => (q_new _).mono fun e w2 ⟨g, k1, k2, k3, k4⟩ => ⟨g, k2, hI.newNic k1 k3 k4, Nat.le_trans hI.2.size k1⟩) ?_
  intro e he
  refine SL.mv ?_
  refine SL.uu (ru_build (vals := [(0, pt d 0), (1, pt p 0), (3, pt e 0), (4, pt q 0)]) (cells := [pt d 0, pt p 0, Value.pointer none, pt e 0, pt q 0, Value.pointer none, Value.slice none 0 0, Value.slice none 0 0]) rfl rfl (by kernel_rfl)) ?_
  refine SL.box (c := [pt d 0, pt p 0, Value.pointer none, pt e 0, pt q 0, Value.pointer none, Value.slice none 0 0, Value.slice none 0 0]) rfl rfl (lt_b rfl) rfl rfl rfl fun g hg => ?_
  refine SL.as ?_
  refine SL.nn [(2, Value.pointer none), (3, pt p 0), (5, pt q 0), (7, pt d 0), (8, pt g 0)] [rPool p ab (List.replicate n ⟨0, [], []⟩), rRefP q rb (fun _ => False) (List.replicate n ⟨0, [], []⟩), rDev d (fun _ => False) newA, rDevQ e (fun _ => False) newA, rBlk g [pt d 0, pt p 0, Value.pointer none, pt e 0, pt q 0, Value.pointer none, Value.slice none 0 0, Value.slice none 0 0] 43] ⟨rfl, rfl, rfl, rfl, rfl, trivial⟩ ?_
  refine SC.seq ?_
  refine SC.reord [rDev d (fun _ => False) newA, rPool p ab (List.replicate n ⟨0, [], []⟩), rBlk g [pt d 0, pt p 0, Value.pointer none, pt e 0, pt q 0, Value.pointer none, Value.slice none 0 0, Value.slice none 0 0] 43, rRefP q rb (fun _ => False) (List.replicate n ⟨0, [], []⟩), rDevQ e (fun _ => False) newA] (by refine (perm_by [2, 0, 4, 1, 3] rfl rfl)) ?_
  refine SC.region ?_
  refine SL.mv ?_
  refine SL.mv ?_
  refine SL.mv ?_
  refine SL.call (ζ := Nat × (Nat → Prop)) (fun z => pt z.1 0) (fun z => [rRing z.1 d p ab z.2 (beg0 n), rBlk g [pt d 0, pt p 0, Value.pointer none, pt e 0, pt q 0, Value.pointer none, Value.slice none 0 0, Value.slice none 0 0] 43, rRefP q rb (fun _ => False) (List.replicate n ⟨0, [], []⟩), rDevQ e (fun _ => False) newA]) (fun z => w.heap.size ≤ z.1 ∧ ∀ b, z.2 b → w.heap.size ≤ b) rfl rfl co30 rfl rfl rfl (lt_b rfl) (fun w hI => (rnew_any newA_ok few0 hI.two).mono fun e w2 ⟨r, k1, k2, F, k3, k4, k5⟩ => ⟨(r, F), k1, hI.newRing (fun b hb => .inr (hb.elim (fun e => e ▸ hd) (fun e => e.elim (fun e => e ▸ hp) (fun e => e ▸ hab)))) k2 k3 k4 k5, Nat.le_trans hI.2.size k2, fun b hb => (k4 b hb).elim False.elim (fun e => Nat.le_trans hI.2.size e)⟩) ?_
  rintro ⟨r, F⟩ ⟨hr, hF⟩
  refine SL.nk ?_
  refine SL.uu (ru_fieldAddr (o2 := 2) fd43_2 rfl rfl rfl) ?_
  refine SL.store (i := 1) (c' := [pt d 0, pt p 0, pt r 0, pt e 0, pt q 0, Value.pointer none, Value.slice none 0 0, Value.slice none 0 0]) rfl rfl ts38 rfl rfl rfl rfl rfl (lt_b rfl) (.inr hg) rfl ?_
  refine SL.nn [(2, Value.pointer none), (5, pt q 0), (8, pt g 0)] [rRing r d p ab F (beg0 n), rBlk g [pt d 0, pt p 0, pt r 0, pt e 0, pt q 0, Value.pointer none, Value.slice none 0 0, Value.slice none 0 0] 43, rRefP q rb (fun _ => False) (List.replicate n ⟨0, [], []⟩), rDevQ e (fun _ => False) newA] ⟨rfl, rfl, rfl, trivial⟩ ?_
  refine SC.seq ?_
  refine SC.reord [rDevQ e (fun _ => False) newA, rRefP q rb (fun _ => False) (List.replicate n ⟨0, [], []⟩), rRing r d p ab F (beg0 n), rBlk g [pt d 0, pt p 0, pt r 0, pt e 0, pt q 0, Value.pointer none, Value.slice none 0 0, Value.slice none 0 0] 43] (by refine (perm_by [3, 2, 0, 1] rfl rfl)) ?_
  refine SC.region ?_
  refine SL.mv ?_
  refine SL.mv ?_
  refine SL.nk ?_
  refine SL.uu (ru_fieldAddr (o2 := 3) fd43_3 rfl rfl rfl) ?_
  refine SL.uu (ru_load (i := 3) ts39 rfl rfl rfl rfl) ?_
  refine SL.mv ?_
  refine SL.call (ζ := Nat × (Nat → Prop)) (fun z => pt z.1 0) (fun z => [rRefR z.1 e q z.2 (ref0 n), rRing r d p ab F (beg0 n), rBlk g [pt d 0, pt p 0, pt r 0, pt e 0, pt q 0, Value.pointer none, Value.slice none 0 0, Value.slice none 0 0] 43]) (fun z => w.heap.size ≤ z.1 ∧ ∀ b, z.2 b → w.heap.size ≤ b) rfl rfl co31 rfl rfl rfl (lt_b rfl) (fun w9 hI => (rnewR_any (G := fun b => b = e ∨ False ∨ b = q ∨ b = rb ∨ False) newA_ok few0 (.inl rfl) (.inr (.inr (.inr (.inl rfl)))) (fun b hb => hb.elim) (fun b hb => hb.elim) hI.two).mono fun e2 w2 ⟨s, k1, k2, k3⟩ => by obtain ⟨G, k4, k5⟩ := hI.newRefRing' (fun b hb => .inr (hb.elim (fun e1 => e1 ▸ he) (fun e1 => e1.elim False.elim (fun e1 => e1.elim (fun e1 => e1 ▸ hq) (fun e1 => e1.elim (fun e1 => e1 ▸ hrb) False.elim))))) k2 k3 (fun _ => id); exact ⟨(s, G), k1, k4, Nat.le_trans hI.2.size k2, k5⟩) ?_
  rintro ⟨s, G⟩ ⟨hs, hG⟩
  refine SL.nk ?_
  refine SL.uu (ru_fieldAddr (o2 := 5) fd43_5 rfl rfl rfl) ?_
  refine SL.store (i := 2) (c' := [pt d 0, pt p 0, pt r 0, pt e 0, pt q 0, pt s 0, Value.slice none 0 0, Value.slice none 0 0]) rfl rfl ts41 rfl rfl rfl rfl rfl (lt_b rfl) (.inr hg) rfl ?_
  refine SL.nn [(2, Value.pointer none), (8, pt g 0)] [rRefR s e q G (ref0 n), rRing r d p ab F (beg0 n), rBlk g [pt d 0, pt p 0, pt r 0, pt e 0, pt q 0, pt s 0, Value.slice none 0 0, Value.slice none 0 0] 43] ⟨rfl, rfl, trivial⟩ ?_
  refine SC.seq ?_
  refine SC.sr ?_
  refine SL.mv ?_
  refine SL.nk ?_
  refine SL.uu (ru_fieldAddr (o2 := 2) fd43_2 rfl rfl rfl) ?_
  refine SL.uu (ru_load (i := 2) ts38 rfl rfl rfl rfl) ?_
  refine SL.uu (ru_eqnil Try.underlying38 rfl rfl rfl rfl) ?_
  refine SL.nn [(2, Value.pointer none), (8, pt g 0), (61, bo false)] _ ⟨rfl, rfl, rfl, trivial⟩ ?_
  refine SC.no rfl ?_
  refine SC.skip ?_
  refine SC.of_SE ?_
  refine SC.norm [(2, Value.pointer none), (8, pt g 0)] _ ⟨rfl, rfl, trivial⟩ rfl ?_
  refine SC.sr ?_
  refine SL.mv ?_
  refine SL.as ?_
  refine SL.nn [(2, pt g 0)] _ ⟨rfl, trivial⟩ ?_
  refine SC.ret ?_
  refine SE.res (.inl rfl) (res1 Try.results7 rfl) fun w1 hI => ⟨g, rfl, _, ⟨d, p, ab, r, e, q, s, F, G, rfl, ((hI.perm (perm_by [2, 1, 0] rfl rfl)).1), fun x hx b hb => ?_⟩, hI.2⟩
  simp only [List.mem_cons, List.not_mem_nil, or_false] at hx
  rcases hx with rfl | rfl | rfl
  · have : b = g := hb
    rw [this]; exact hg
  · rcases hb with e1 | e1 | e1 | e1 | e1 <;> first | (rw [e1]; assumption) | exact hF b e1
  · exact hG b hb

end Go.Proofs.Ytghfkgcaglabpaa

/-
  What the law of the ring does, as plain functions; calls on the parts of a ring.
-/
namespace Go.Proofs.Ytghfkgcaglabpaa
open Go.RowKit
section
variable {w w' : World} {r d p ab : Nat} {F F' : Nat → Prop} {S : RingA}
theorem RingAt.inv0 (h : RingAt w r d p ab F S) (Z : Nat → Prop) : Inv ⟨0, w, Z⟩ w [rBlkRing r d p S.T S.R, rDev d F S.A, rPool p ab S.L] := ⟨h, Only.refl _ _⟩
theorem RingAt.dev (h : RingAt w r d p ab F S) : NicAt 99 w d F S.A := h.1 (rDev d F S.A) (by simp)
theorem RingAt.poolTo {L' : List Bf} (h : RingAt w r d p ab F S) (k : PoolTo w p ab L' w') : RingTo w r d p ab F { S with L := L' } w' := by
  have := (h.inv0 (rS r d p ab)).poolTo (i := 2) rfl (fun b hb => rS_p hb) k
  exact RingTo.fin (T := S.T) (R := S.R) (A := S.A) (L := L') this (fun b hb => .inl hb)
theorem RingAt.devTo {A' : NicA} (h : RingAt w r d p ab F S) (k : NicTo 99 w d F A' w') : RingTo w r d p ab F { S with A := A' } w' := by
  obtain ⟨F', h1, h2⟩ := (h.inv0 (rS r d p ab)).nicB (F0 := F) (i := 1) rfl rS_d k (fun b hb => .inl hb)
  exact RingTo.fin (T := S.T) (R := S.R) (A := A') (L := S.L) h1 h2
theorem ring_at {X : Cx} {l : List Res} {i : Nat} (h : Inv X w l) (hi : l[i]? = some (rRing r d p ab F S)) : RingAt w r d p ab F S := h.1.get hi
end
def getsF (S : RingA) (held : List Int) (b : List UInt8) : Bool × RingA × List Int :=
  let g := getF S.L
  if g.1.2 ≠ 0 then (true, { S with L := g.2 }, held)
  else if (decide (g.1.1 < 0) || decide ((held.length : Int) ≤ g.1.1)) = true then (false, { S with L := g.2 }, held)
  else (true, { S with L := (ownF g.2 g.1.1 (setF b)).2 }, held.set g.1.1.toNat (IntKind.i64.wrap (held.getD g.1.1.toNat 0 + 1)))
def letsF (S : RingA) (held : List Int) (k : Int) : Bool × RingA × List Int :=
  if (decide (k < 0) || decide ((held.length : Int) ≤ k) || (held.getD k.toNat 0 == 0)) = true then (true, S, held)
  else ((freeF S.L k).1 == 0, { S with L := (freeF S.L k).2 }, held.set k.toNat (IntKind.i64.wrap (held.getD k.toNat 0 - 1)))
def toldL (L : List Bf) : List (Int × Bool) → List Int → List (List UInt8) → Bool × List Int × List (List UInt8)
  | [], held, given => (true, held, given)
  | x :: o, held, given =>
    if (decide (x.1 < 0) || decide ((held.length : Int) ≤ x.1) || ((given.length : Int) == 0)) = true then (false, held, given)
    else if ((seeF L x.1).2 != 0 || !decide ((seeF L x.1).1.data = given.headD []) || (((seeF L x.1).1.head.length : Int) != 0) || x.2) = true then (false, held, given)
    else toldL L o (held.set x.1.toNat (IntKind.i64.wrap (held.getD x.1.toNat 0 + 1))) (given.drop 1)
def toldF (S : RingA) (held : List Int) (given posted : List (List UInt8)) : Bool × RingA × List Int :=
  let x := pollF S
  let y := toldL x.1.L x.2 held given
  (y.1 && ((y.2.2.length : Int) == 0 && decide (((allV x.1.T).length : Int) ≤ (posted.length : Int))), x.1, y.2.1)
def incL : List Int → List Int → Bool × List Int
  | [], refs => (true, refs)
  | x :: o, refs => if (decide (x < 0) || decide ((refs.length : Int) ≤ x)) = true then (false, refs) else incL o (refs.set x.toNat (IntKind.i64.wrap (refs.getD x.toNat 0 + 1)))
def sameB (L : List Bf) (refs : List Int) (id : Nat) : Bool := !(!(((seeF L (id : Int)).2 == 0) == decide (0 < refs.getD id 0)) || (((seeF L (id : Int)).1.refs : Int) != refs.getD id 0))
def sameL (L : List Bf) (refs : List Int) : Nat → Nat → Bool
  | 0, _ => true
  | n + 1, id => sameB L refs id && sameL L refs n (id + 1)
def countedF (S : RingA) (held : List Int) : Bool :=
  let x := incL (allL S.T) held
  let y := incL (allL S.R) x.2
  x.1 && (y.1 && sameL S.L y.2 y.2.length 0)
theorem SC.fact {P : Program} {X : Cx} {c : Code} {Q : Exit → Act → World → Prop} {m : List (Nat × Value)} {l : List Res} {p : Prop} (hf : ∀ w, Inv X w l → p) (h : p → SC P X c Q m l) : SC P X c Q m l := fun a w h1 h2 => h (hf w h2) a w h1 h2
theorem SE.weak {X : Cx} {Q : Exit → Act → World → Prop} {e : Exit} {m : List (Nat × Value)} {l : List Res} {i : Nat} {r : Res} (r' : Res) (hi : l[i]? = some r) (hr : ∀ w, r.ok w → r'.ok w) (hf : ∀ b, r'.fp b → r.fp b) (h : SE X Q e m (l.set i r')) : SE X Q e m l := fun a w h1 h2 => h a w h1 (h2.weak hi (hr w) hf)
theorem rowO_le {w : World} {q : Option Addr} {n c : Nat} {xs : List Value} {e : TypeId} (h : RowO w (.slice q n c) xs e) : n ≤ c := by
  rcases h with ⟨h1, rfl⟩ | ⟨g, o, c', cur, h1, _, h2, _⟩
  · simp at h1; omega
  · simp at h1; omega
def tq (q : Option Addr) (c : Nat) : Option Addr := if c = 1 then q else q.map (·.add (1 * 1))
theorem tq_own {q : Option Addr} {c n m k : Nat} {b : Nat} (h : (Value.slice (tq q c) n m).ownBlock = some b) : (Value.slice q k c).ownBlock = some b := by
  unfold tq at h
  split at h
  · cases q with
    | none => simp [Value.ownBlock] at h
    | some a => simpa [Value.ownBlock] using h
  · cases q with
    | none => simp [Value.ownBlock] at h
    | some a => simpa [Value.ownBlock, Addr.add] using h
theorem come_get {o : List (Int × Bool)} {i : Nat} {x : Int × Bool} (h : o[i]? = some x) : (comeV o)[((i : Nat) : Int).toNat]? = some [iw x.1, bo x.2] := by
  rw [Int.toNat_natCast]; simp [comeV, h]
theorem uptoR_len {A : NicA} {hd : Int} : ∀ (n : Nat) {L : List Bf} {R : Line} {o : List (Int × Bool)}, (uptoR A n hd L R o).2.2.length ≤ o.length + n
  | 0, L, R, o => by simp [uptoR]
  | n + 1, L, R, o => by
    unfold uptoR
    split
    · simp
    · exact Nat.le_trans (uptoR_len n) (by simp; omega)
theorem poll_len {S : RingA} (h : RingOk S) : (pollF S).2.length ≤ 15 := by
  unfold pollF
  split
  · simp
  · simp only
    have := h.r.m
    exact Nat.le_trans (uptoR_len _) (by simp; omega)
end Go.Proofs.Ytghfkgcaglabpaa

/-
  The document's ring: what is needed of its calls, whatever they answer; bytes appended to bytes of one's own; a drawn region with one call that turns memory.
-/
namespace Go.Proofs.Ytghfkgcaglabpaa
open Go.RowKit
def Lim (B : Nat) (L : List Bf) : Prop := ∀ b ∈ L, b.refs ≤ B ∧ b.head.length ≤ 104 ∧ b.data.length ≤ 288
section
variable {B : Nat} {L : List Bf}
theorem lim_few (h : Lim B L) (hB : B ≤ 100000000000000) : Few L := fun b hb => by have := (h b hb).1; omega
theorem lim_up (h : Lim B L) : Lim (B + 1) L := fun b hb => ⟨by have := (h b hb).1; omega, (h b hb).2⟩
theorem lim_set (h : Lim B L) (k : Nat) {b : Bf} (hb : b.refs ≤ B ∧ b.head.length ≤ 104 ∧ b.data.length ≤ 288) : Lim B (L.set k b) := by
  intro x hx
  rcases List.mem_or_eq_of_mem_set hx with h1 | rfl
  · exact h x h1
  · exact hb
theorem lim_get (h : Lim B L) (h1 : 1 ≤ B) : Lim B (getF L).2 := by
  unfold getF; split
  · exact lim_set h _ ⟨h1, by simp, by simp⟩
  · exact h
theorem lim_free (h : Lim B L) (id : Int) : Lim B (freeF L id).2 := by
  unfold freeF; split
  · rename_i b hb
    split
    · exact lim_set h _ ⟨by have := (h b (bufAt_mem hb)).1; simp only; omega, (h b (bufAt_mem hb)).2⟩
    · exact h
  · exact h
theorem lim_hold (h : Lim B L) (id : Int) : Lim (B + 1) (holdF L id).2 := by
  unfold holdF; split
  · rename_i b hb
    split
    · exact lim_set (lim_up h) _ ⟨by have := (h b (bufAt_mem hb)).1; simp only; omega, (h b (bufAt_mem hb)).2⟩
    · exact lim_up h
  · exact lim_up h
theorem lim_own (h : Lim B L) (h1 : 1 ≤ B) (id : Int) {f : Bf → Int × Bf} (hf : ∀ b, b.refs = 1 → b.head.length ≤ 104 → b.data.length ≤ 288 → (f b).1 = 0 → (f b).2.refs ≤ 1 ∧ (f b).2.head.length ≤ 104 ∧ (f b).2.data.length ≤ 288) : Lim B (ownF L id f).2 := by
  unfold ownF; split
  · rename_i b hb
    have hb' := h b (bufAt_mem hb)
    split
    · exact h
    · split
      · rename_i h11
        split
        · rename_i h0
          have := hf b h11 hb'.2.1 hb'.2.2 h0
          exact lim_set h _ ⟨by omega, this.2⟩
        · exact h
      · exact h
  · exact h
theorem setF_lim (d : List UInt8) (b : Bf) (_ : b.refs = 1) (_ : b.head.length ≤ 104) (_ : b.data.length ≤ 288) (h : (setF d b).1 = 0) : (setF d b).2.refs ≤ 1 ∧ (setF d b).2.head.length ≤ 104 ∧ (setF d b).2.data.length ≤ 288 := by
  unfold setF at h ⊢
  split at h
  · exact absurd h (by decide)
  · rename_i e
    rw [if_neg e]; simp; omega
theorem see_lim (h : Lim B L) (id : Int) : (seeF L id).1.head.length ≤ 104 ∧ (seeF L id).1.data.length ≤ 288 := by
  unfold seeF
  split
  · rename_i b hb
    split
    · exact (h b (bufAt_mem hb)).2
    · simp
  · simp
theorem lim_rfillL : ∀ (n : Nat) {A : NicA} {L : List Bf} {C : List Int} {f : Int} {s : Bool}, Lim B L → 1 ≤ B → Lim B (rfillL n A L C f s).2.1
  | 0, A, L, C, f, s, h, _ => h
  | n + 1, A, L, C, f, s, h, h1 => by
    unfold rfillL
    split
    · exact lim_rfillL n (lim_get h h1) h1
    · exact lim_get h h1
theorem lim_rfill {Z : RefS} (h : Lim B Z.L) (h1 : 1 ≤ B) : Lim B (rfillF Z).L := lim_rfillL _ h h1
theorem lim_rbegin {Z : RefS} (h : Lim B Z.L) (h1 : 1 ≤ B) : Lim B (rbeginF Z).L := lim_rfill h h1
end
structure RB (B : Nat) (Z : RefS) : Prop where
  ok : RefOk Z
  lim : Lim B Z.L
theorem RB.up {B : Nat} {Z : RefS} (h : RB B Z) : RB (B + 1) Z := ⟨h.ok, lim_up h.lim⟩
def rRefPS (r rb : Nat) (F : Nat → Prop) (L : List Bf) (vh : Value) (fh : List UInt8) (vd : Value) (fd : List UInt8) : Res where
  ok w := RefP w r rb F L ∧ (BytesAt w vh fh ∧ sliceIn vh F) ∧ BytesAt w vd fd ∧ sliceIn vd F
  fp b := b = r ∨ b = rb ∨ F b
  lt w h b hb := (rRefP r rb F L).lt w h.1 b hb
  st w w' h hw := ⟨(rRefP r rb F L).st w w' h.1 hw, ⟨h.2.1.1.agree h.2.1.2 (fun b hb => hw b (.inr (.inr hb))), h.2.1.2⟩, h.2.2.1.agree h.2.2.2 (fun b hb => hw b (.inr (.inr hb))), h.2.2.2⟩
section
variable {X : Cx} {l : List Res} {w w' : World}
theorem Inv.seen {i r rb : Nat} {F : Nat → Prop} {L : List Bf} {vh vd : Value} {fh fd : List UInt8} (h : Inv X w l) (hi : l[i]? = some (rRefP r rb F L)) (h1 : BytesAt w' vh fh) (h2 : BytesAt w' vd fd) (h3 : sliceIn vh (fun b => F b ∧ b < w.heap.size)) (h4 : sliceIn vd (fun b => F b ∧ b < w.heap.size)) (hO : Only (fun _ => False) w w') :
    Inv X w' (l.set i (rRefPS r rb F L vh fh vd fd)) :=
  (h.only hO).weak hi (fun hp => ⟨hp, ⟨h1, h3.mono fun b hb => hb.1⟩, h2, h4.mono fun b hb => hb.1⟩) (fun b hb => hb)
variable {P : Program} {ops : Array Oper} {Q : Exit → Act → World → Prop} {rest : List Oper} {o : Oper} {m : List (Nat × Value)} {d : Nat} {t : TypeId}
theorem SL.append_mine {e ri : Nat} {a1 a2 : Operand} {vx : Value} {f h : List UInt8} {q : Option Addr} {n c : Nat} (hg : o.guard = none) (hd : o.dst = some d) (hn : d < X.n) (ho : o.op = .call { callee := .builtin .append, args := #[a1, a2], argTypes := #[t, t] })
    (ht : P.underlying t = some (.slice e)) (hz : (P.info? e).map (fun i => (i.zero, i.size, i.bytes)) = some (some (.int .u8 0), 1, 1)) (h1 : evM m a1 = some (.slice q n c)) (h2 : evM m a2 = some vx) (hi : l[ri]? = some (rMine (.slice q n c) f e)) (hx : ∀ w, Inv X w l → BytesAt w vx h)
    (hl : f.length + h.length ≤ 1000000) (hS : ∀ b, (Value.slice q n c).ownBlock = some b → X.S b ∨ X.w0.heap.size ≤ b)
    (k : ∀ (q' : Option Addr) (c' : Nat), (∀ b, (Value.slice q' (f ++ h).length c').ownBlock = some b → X.S b ∨ X.w0.heap.size ≤ b) → SL P X ops Q rest ((d, .slice q' (f ++ h).length c') :: m) (l.set ri (rMine (.slice q' (f ++ h).length c') (f ++ h) e))) : SL P X ops Q (o :: rest) m l := fun a w hf hI =>
  wpList_plain hg fun K' hK => by
    have hM : OwnBytes w 0 e (.slice q n c) f := hI.1.get hi
    have hM' : w.ownsRow 0 e 1 (.slice q n c) (f.map bv).length (f.map bv) := by unfold OwnBytes at hM; simpa using hM
    obtain ⟨v', w', hr, hO, hU, hN⟩ := run_appOwn (P := P) (ty := o.type) ht hz rfl (ys := h.map bv) (fun u hu => by obtain ⟨x, _, rfl⟩ := List.mem_map.1 hu; rfl) hM' (hx w hI).cells (by simp; omega) (by unfold maxLen; simp; omega)
    unfold Oper.wp
    rw [run_call_app ho (hf.ev h1) (hf.ev h2) hr]
    simp only [Oper.upon_value, hd]
    have hO' : OwnBytes w' 0 e v' (f ++ h) := by unfold OwnBytes; simpa using hO
    obtain ⟨q', c', rfl⟩ : ∃ q' c', v' = .slice q' (f ++ h).length c' := by
      obtain ⟨a', c', e1, _⟩ := hO'.form
      exact ⟨a', c', e1⟩
    refine hK _ _ (k q' c' (fun b hb => ?_) _ _ (hf.put hn _) (hI.upd hi hU hS hO' (fun b hb => hN b hb)))
    rcases hN b hb with h | h
    · exact hS b h
    · exact .inr (Nat.le_trans hI.2.size h)
def CU {ζ : Type} (X : Cx) (l : List Res) (l2 : ζ → List Res) (p : ζ → Prop) (k : Nat) : (Nat → Bool) → World → Prop := fun D w => if D k then ∃ z, Inv X w (l2 z) ∧ p z else Inv X w l
theorem CU.base {ζ : Type} {l2 : ζ → List Res} {p : ζ → Prop} {k : Nat} {lb : List Res} (h0 : ∀ w, Inv X w l → Inv X w lb) (h1 : ∀ z w, Inv X w (l2 z) → Inv X w lb) : ∀ D w, CU X l l2 p k D w → Inv X w lb := fun D w h => by
  unfold CU at h
  split at h
  · obtain ⟨z, h, _⟩ := h; exact h1 z w h
  · exact h0 w h
theorem SC.region_turn {ζ : Type} {id : Nat} {L : List Oper} (n k : Nat) (l2 : ζ → List Res) (p : ζ → Prop) (hm : P.follows .mixedOrders = true) (hB : Region.lexTailB .any L.toArray n = true)
    (hg : ([k].all fun i => decide (i < n) && ((L[i]?).map (fun o => o.guard.isNone)).getD false) = true)
    (h : SS P X L.toArray [k] (CU X l l2 p k) (fun a' => ∀ D w', (∀ i ∈ [k], D i = true) → CU X l l2 p k D w' → wpList P L.toArray Q (L.drop n) a' w') 0 (L.take n) m) : SC P X (.region id L.toArray true) Q m l :=
  fun a w hf hi => wp_region_spread_tail n [k] (CU X l l2 p k) hm hB hg (by unfold CU; exact hi.draw1) (h a hf)
theorem SS.nilU {ζ : Type} {sp : List Nat} {C : (Nat → Bool) → World → Prop} {l2 : ζ → List Res} {p : ζ → Prop} {k : Nat} {L : List Oper} {j : Nat} (h : ∀ z, p z → SL P X ops Q L m (l2 z)) : SS P X ops sp C (fun a' => ∀ D w', (∀ i ∈ [k], D i = true) → CU X l l2 p k D w' → wpList P ops Q L a' w') j [] m := fun a hf => by
  unfold wpSpread
  intro D w' hD hC
  unfold CU at hC
  rw [if_pos (hD k (by simp))] at hC
  obtain ⟨z, h1, h2⟩ := hC
  exact h z h2 a w' hf h1
theorem SS.turnc {ζ : Type} {K : Act → Prop} {k : Nat} {f : FuncId} {fs cs vals : List Value} {c : Operand} {args : List Operand} {aT : Array TypeId} {l2 : ζ → List Res} {p : ζ → Prop} (v : Value) (hg : o.guard = none)
    (ho : o.op = .call { callee := .value c, args := args.toArray, argTypes := aT }) (hok : CallOk P f) (hc : evM m c = some (.func (.func f) fs.toArray cs.toArray)) (ha : evL m args = some vals) (hd : o.dst = some d) (hn : d < X.n)
    (H : ∀ w, Inv X w l → Calls P f (fs ++ vals ++ cs).toArray w fun e w' => ∃ z, e = .returned v ∧ Inv X w' (l2 z) ∧ p z)
    (h : SS P X ops [k] (CU X l l2 p k) K (k + 1) rest ((d, v) :: m)) : SS P X ops [k] (CU X l l2 p k) K k (o :: rest) m :=
  SS.turn v (by simp) hg ho hok hc ha hd hn (fun D w hC hk => by
    unfold CU at hC
    rw [if_neg (by simp [hk])] at hC
    refine (H w hC).mono ?_
    rintro e w' ⟨z, h1, h2⟩
    refine ⟨h1, ?_⟩
    unfold CU
    simp only [if_true]
    exact ⟨z, h2⟩) h
end
end Go.Proofs.Ytghfkgcaglabpaa

/-
  The document's ring as one thing that is known, beside others; its parts turned.
-/
namespace Go.Proofs.Ytghfkgcaglabpaa
open Go.RowKit
theorem ivs_getN {l : List Int} {i : Nat} (h : i < l.length) : (ivs l)[((i : Nat) : Int).toNat]? = some (iw (l.getD i 0)) := by
  rw [Int.toNat_natCast]
  simp [ivs, List.getD, List.getElem?_eq_getElem h]
theorem ivs_get0 {l : List Int} (h : 0 < l.length) : (ivs l)[(0 : Int).toNat]? = some (iw (l.getD 0 0)) := ivs_getN (i := 0) h
theorem ivs_drop1 {l : List Int} : (ivs l).drop 1 = ivs (l.drop 1) := by simp [ivs]
section
variable {X : Cx} {l : List Res} {w w' : World} {s e q rb : Nat} {G FE FQ : Nat → Prop} {Z Z' : RefS} {qt qc : Option Addr} {ct cc : Nat}
def fps (rs : List Res) : Nat → Prop := fun b => ∃ r ∈ rs, r.fp b
theorem Inv.packRef (h : Inv X w (RR5 s e q rb FE FQ qt ct qc cc Z ++ l)) : Inv X w (rRefR s e q (fps (RR5 s e q rb FE FQ qt ct qc cc Z)) Z :: l) := by
  have hp := List.pairwise_append.1 h.1.2
  have hS : Sep w (RR5 s e q rb FE FQ qt ct qc cc Z) := ⟨fun r hr => h.1.1 r (List.mem_append_left _ hr), hp.1⟩
  refine ⟨⟨fun r hr => ?_, ?_⟩, h.2⟩
  · rcases List.mem_cons.1 hr with rfl | hr
    · refine ⟨rb, FE, FQ, qt, ct, qc, cc, hS, ⟨rs6 s e q (.slice qt Z.T.length ct) (.slice qc Z.C.length cc) Z.next Z.fill, by simp, rfl⟩, ⟨rDevQ e FE Z.A, by simp, .inl rfl⟩, ⟨rRefP q rb FQ Z.L, by simp, .inl rfl⟩, ⟨rRefP q rb FQ Z.L, by simp, .inr (.inl rfl)⟩, fun b hb => ⟨rDevQ e FE Z.A, by simp, .inr hb⟩, fun b hb => ⟨rRefP q rb FQ Z.L, by simp, .inr (.inr hb)⟩, fun b hb => ⟨rRowO (.slice qt Z.T.length ct) (ivs Z.T) 3, by simp, hb⟩, fun b hb => ⟨rRowO (.slice qc Z.C.length cc) (ivs Z.C) 3, by simp, hb⟩, ?_⟩
      rintro b ⟨r, hr, hb⟩
      exact r.lt w (hS.1 r hr) b hb
    · exact h.1.1 r (List.mem_append_right _ hr)
  · refine List.Pairwise.cons (fun r hr k => ?_) hp.2.1
    rintro ⟨r1, hr1, h1⟩ h2
    exact hp.2.2 r1 hr1 r hr k h1 h2
theorem fps_in (h : ∀ b, FE b → G b ∨ w.heap.size ≤ b) (h' : ∀ b, FQ b → G b ∨ w.heap.size ≤ b) (hs : G s ∨ w.heap.size ≤ s) (he : G e ∨ w.heap.size ≤ e) (hq : G q ∨ w.heap.size ≤ q) (hrb : G rb ∨ w.heap.size ≤ rb) (ht : ∀ b, (Value.slice qt Z.T.length ct).ownBlock = some b → G b ∨ w.heap.size ≤ b) (hc : ∀ b, (Value.slice qc Z.C.length cc).ownBlock = some b → G b ∨ w.heap.size ≤ b) :
    ∀ b, fps (RR5 s e q rb FE FQ qt ct qc cc Z) b → G b ∨ w.heap.size ≤ b := by
  rintro b ⟨r, hr, hb⟩
  simp only [List.mem_cons, List.not_mem_nil, or_false] at hr
  rcases hr with rfl | rfl | rfl | rfl | rfl
  · have e1 : b = s := hb
    rw [e1]; exact hs
  · rcases hb with e1 | e1
    · rw [e1]; exact he
    · exact h b e1
  · rcases hb with e1 | e1 | e1
    · rw [e1]; exact hq
    · rw [e1]; exact hrb
    · exact h' b e1
  · exact ht b hb
  · exact hc b hb
theorem SC.packRef {P : Program} {c : Code} {Q : Exit → Act → World → Prop} {m : List (Nat × Value)} (k : SC P X c Q m (rRefR s e q (fps (RR5 s e q rb FE FQ qt ct qc cc Z)) Z :: l)) : SC P X c Q m (RR5 s e q rb FE FQ qt ct qc cc Z ++ l) := fun a w hf hI => k a w hf hI.packRef
theorem ref_call {α : Type} {j : Nat} {f : FuncId} {args : Array Value} {val : α → Value} {B' : Nat} (h : Inv X w l) (hi : l[j]? = some (rRefR s e q G Z)) (hS : ∀ b, G b → X.S b ∨ X.w0.heap.size ≤ b)
    (C : ∀ rb FE FQ qt ct qc cc, Sep w (RR5 s e q rb FE FQ qt ct qc cc Z) → G s → G e → G q → G rb → (∀ b, FE b → G b ∨ w.heap.size ≤ b) → (∀ b, FQ b → G b ∨ w.heap.size ≤ b) → (∀ b, (Value.slice qt Z.T.length ct).ownBlock = some b → G b ∨ w.heap.size ≤ b) → (∀ b, (Value.slice qc Z.C.length cc).ownBlock = some b → G b ∨ w.heap.size ≤ b) →
      Calls Try.prog f args w fun e' w' => ∃ x Z', e' = .returned (val x) ∧ RB B' Z' ∧ RRTo w s e q rb G Z' w') :
    Calls Try.prog f args w fun e' w' => ∃ z : α × RefS × (Nat → Prop), e' = .returned (val z.1) ∧ Inv X w' (l.set j (rRefR s e q z.2.2 z.2.1)) ∧ RB B' z.2.1 ∧ ∀ b, z.2.2 b → X.S b ∨ X.w0.heap.size ≤ b := by
  obtain ⟨rb, FE, FQ, qt, ct, qc, cc, h1, g1, g2, g3, g4, g5, g6, g7, g8, g9⟩ : RRAt w s e q G Z := h.1.get hi
  refine (C rb FE FQ qt ct qc cc h1 g1 g2 g3 g4 (fun b hb => .inl (g5 b hb)) (fun b hb => .inl (g6 b hb)) (fun b hb => .inl (g7 b hb)) (fun b hb => .inl (g8 b hb))).mono ?_
  rintro e' w' ⟨x, Z', k1, k2, k3⟩
  have hO : Only G w w' := by obtain ⟨_, _, _, _, _, _, _, _, _, _, _, hO⟩ := k3; exact hO
  refine ⟨(x, Z', fun b => (G b ∨ w.heap.size ≤ b) ∧ b < w'.heap.size), k1, h.upd hi hO hS (RRTo.at k3 (.inl g1) g2 g3 g4) (fun b hb => hb.1), k2, fun b hb => ?_⟩
  rcases hb.1 with h2 | h2
  · exact hS b h2
  · exact .inr (Nat.le_trans h.2.size h2)
theorem RRTo.pool {L' : List Bf} (h : Sep w (RR5 s e q rb FE FQ qt ct qc cc Z)) (grb : G rb) (hFE : ∀ b, FE b → G b ∨ w.heap.size ≤ b) (hFQ : ∀ b, FQ b → G b ∨ w.heap.size ≤ b) (hqt : ∀ b, (Value.slice qt Z.T.length ct).ownBlock = some b → G b ∨ w.heap.size ≤ b) (hqc : ∀ b, (Value.slice qc Z.C.length cc).ownBlock = some b → G b ∨ w.heap.size ≤ b) (k : RefPTo w q rb FQ L' w') : RRTo w s e q rb G { Z with L := L' } w' := by
  have hI : Inv ⟨0, w, G⟩ w (RR5 s e q rb FE FQ qt ct qc cc Z) := ⟨h, Only.refl _ _⟩
  obtain ⟨F2, k1, k2⟩ := hI.refPTo (F0 := G) (i := 2) rfl (.inl grb) k hFQ
  exact ⟨FE, F2, qt, ct, qc, cc, k1.1, hFE, k2, hqt, hqc, k1.2⟩
end
end Go.Proofs.Ytghfkgcaglabpaa

/-
  many, of the document's ring.
-/
namespace Go.Proofs.Ytghfkgcaglabpaa
open Go.RowKit
set_option maxRecDepth 100000
set_option maxHeartbeats 4000000
theorem many_eq {a b : Int} (ha : 0 ≤ a ∧ a < 16) (hb : 0 ≤ b ∧ b < 16) : Int.tmod (IntKind.i64.wrap (IntKind.i64.wrap (b - a) + 16)) 16 = (b - a + 16) % 16 := by
  rw [show IntKind.i64.wrap (b - a) = b - a by rw [IntKind.wrap_i64]; omega, show IntKind.i64.wrap (b - a + 16) = b - a + 16 by rw [IntKind.wrap_i64]; omega]
  exact Int.tmod_eq_emod_of_nonneg (by omega)
theorem many32_eq {a b : Int} (ha : 0 ≤ a ∧ a < 16) (hb : 0 ≤ b ∧ b < 16) : Int.tmod (IntKind.i64.wrap (IntKind.i64.wrap (b - a) + 32)) 16 = (b - a + 32) % 16 := by
  rw [show IntKind.i64.wrap (b - a) = b - a by rw [IntKind.wrap_i64]; omega, show IntKind.i64.wrap (b - a + 32) = b - a + 32 by rw [IntKind.wrap_i64]; omega]
  exact Int.tmod_eq_emod_of_nonneg (by omega)
theorem rmany_any (w : World) {a b : Int} (ha : 0 ≤ a ∧ a < 16) (hb : 0 ≤ b ∧ b < 16) : Calls Try.prog 85 #[iw a, iw b] w fun e w' => e = .returned (iw ((b - a + 16) % 16)) ∧ Only (fun _ => False) w w' := by
  refine calls_sc (l0 := []) (args := [iw a, iw b]) (fun _ => False) Try.func85 rfl 10 Try.ntmps85 (le_b rfl) ⟨⟨by simp, List.Pairwise.nil⟩, Only.refl _ _⟩ ?_
  show SC _ _ _ _ [(0, iw a), (1, iw b)] []
  refine SC.sr ?_
  refine SL.as ?_
  refine SL.nn [(0, iw a), (1, iw b), (4, iw 0)] [] ⟨rfl, rfl, rfl, trivial⟩ ?_
  refine SC.sr ?_
  refine SL.mv ?_
  refine SL.mv ?_
  refine SL.uu (ru_sub (r := (IntKind.i64.wrap (b - a))) rfl rfl rfl rfl) ?_
  refine SL.uu (ru_add (r := (IntKind.i64.wrap ((IntKind.i64.wrap (b - a)) + 16))) rfl rfl rfl rfl) ?_
  refine SL.uu (ru_rem (r := ((b - a + 16) % 16)) rfl rfl rfl (by decide) ((many_eq (by omega) (by omega)))) ?_
  refine SL.as ?_
  refine SL.nn [(4, iw ((b - a + 16) % 16))] _ ⟨rfl, trivial⟩ ?_
  refine SC.ret ?_
  refine SE.res (.inl rfl) (res1 Try.results85 rfl) fun w1 hI => ⟨rfl, hI.2⟩

end Go.Proofs.Ytghfkgcaglabpaa

/-
  Reset, of the document's ring.
-/
namespace Go.Proofs.Ytghfkgcaglabpaa
open Go.RowKit
set_option maxRecDepth 100000
set_option maxHeartbeats 4000000
theorem rreset_any {w : World} {s e q rb B : Nat} {FE FQ G : Nat → Prop} {A : NicA} {L : List Bf} {T C : List Int} {nx fi : Int} {qt qc : Option Addr} {ct cc : Nat} (hk : NicOk A) (hL : Lim B L) (h1B : 1 ≤ B) (hB : B ≤ 10000000000000) (hn : 0 ≤ nx ∧ nx < 16) (hf : 0 ≤ fi ∧ fi < 16) (ht : T.length ≤ 15) (hc : C.length ≤ 15) (hs : G s) (he : G e) (hrb : G rb) (hFE : ∀ b, FE b → G b ∨ w.heap.size ≤ b) (hFQ : ∀ b, FQ b → G b ∨ w.heap.size ≤ b) (hTo : ∀ b, (Value.slice qt T.length ct).ownBlock = some b → G b ∨ w.heap.size ≤ b) (hCo : ∀ b, (Value.slice qc C.length cc).ownBlock = some b → G b ∨ w.heap.size ≤ b) (h : Sep w [rs6 s e q (.slice qt T.length ct) (.slice qc C.length cc) nx fi, rDevQ e FE A, rRefP q rb FQ L, rRowO (.slice qt T.length ct) (ivs T) 3, rRowO (.slice qc C.length cc) (ivs C) 3]) : Calls Try.prog 48 #[pt s 0] w fun e' w' => ∃ Z', e' = .returned (.tuple #[]) ∧ RB (B + 1) Z' ∧ RRTo w s e q rb G Z' w' := by
  refine calls_sc (l0 := [rs6 s e q (.slice qt T.length ct) (.slice qc C.length cc) nx fi, rDevQ e FE A, rRefP q rb FQ L, rRowO (.slice qt T.length ct) (ivs T) 3, rRowO (.slice qc C.length cc) (ivs C) 3]) (args := [pt s 0]) G Try.func48 rfl 48 Try.ntmps48 (le_b rfl) ⟨h, Only.refl _ _⟩ ?_
  show SC _ _ _ _ [(0, pt s 0)] [rs6 s e q (.slice qt T.length ct) (.slice qc C.length cc) nx fi, rDevQ e FE A, rRefP q rb FQ L, rRowO (.slice qt T.length ct) (ivs T) 3, rRowO (.slice qc C.length cc) (ivs C) 3]
  refine SC.seq ?_
  refine SC.sr ?_
  refine SL.as ?_
  refine SL.nn [(0, pt s 0), (2, iw 0)] [rBlk s [pt e 0, pt q 0, Value.slice qt T.length ct, Value.slice qc C.length cc, iw nx, iw fi] 122, rDevQ e FE A, rRefP q rb FQ L, rRowO (.slice qt T.length ct) (ivs T) 3, rRowO (.slice qc C.length cc) (ivs C) 3] ⟨rfl, rfl, trivial⟩ ?_
  refine SC.block ?_
  refine SC.loop (γ := Nat × (Nat → Prop) × List Bf) (fun n z => [(0, pt s 0), (2, iw (z.1 : Int))]) (fun n z => [rBlk s [pt e 0, pt q 0, Value.slice qt T.length ct, Value.slice qc C.length cc, iw nx, iw fi] 122, rDevQ e FE A, rRefP q rb z.2.1 z.2.2, rRowO (.slice qt T.length ct) (ivs T) 3, rRowO (.slice qc C.length cc) (ivs C) 3]) (fun n z => n + z.1 = T.length ∧ Lim B z.2.2 ∧ (∀ b, z.2.1 b → G b ∨ w.heap.size ≤ b)) T.length (0, FQ, L) ⟨rfl, hL, hFQ⟩ ⟨rfl, rfl, trivial⟩ rfl ?_
  rintro n ⟨i, FQ, L⟩ ⟨hni, hL, hFQ⟩
  simp only at hni hL hFQ
  rcases n with _ | n
  · skip
    refine SC.seq ?_
    refine SC.sr ?_
    refine SL.mv ?_
    refine SL.mv ?_
    refine SL.nk ?_
    refine SL.uu (ru_fieldAddr (o2 := 2) fd122_2 rfl rfl rfl) ?_
    refine SL.uu (ru_load (i := 0) ts26 rfl rfl rfl rfl) ?_
    refine SL.uu (ru_len Try.underlying26 rfl rfl) ?_
    refine SL.uu (ru_lt (b := (decide (((i : Int) : Int) < (T.length : Int)))) rfl rfl rfl rfl) ?_
    refine SL.nn [(0, pt s 0), (2, iw (i : Int)), (10, bo (decide (((i : Int) : Int) < (T.length : Int))))] _ ⟨rfl, rfl, rfl, trivial⟩ ?_
    refine SC.no (show some (Value.bool (decide (((i : Int) : Int) < (T.length : Int)))) = some (Value.bool false) from congrArg (fun x => some (Value.bool x)) (decide_eq_false (by omega))) ?_
    refine SC.exit ?_
    refine SE.passe ?_
    refine SE.passe ?_
    refine SE.blke ?_
    refine SC.of_SE ?_
    refine SC.norm [(0, pt s 0)] _ ⟨rfl, trivial⟩ rfl ?_
    refine SC.seq ?_
    refine SC.sr ?_
    refine SL.as ?_
    refine SL.nn [(0, pt s 0), (3, iw 0)] _ ⟨rfl, rfl, trivial⟩ ?_
    refine SC.block ?_
    refine SC.loop (γ := Nat × (Nat → Prop) × List Bf) (fun n z => [(0, pt s 0), (3, iw (z.1 : Int))]) (fun n z => [rBlk s [pt e 0, pt q 0, Value.slice qt T.length ct, Value.slice qc C.length cc, iw nx, iw fi] 122, rDevQ e FE A, rRefP q rb z.2.1 z.2.2, rRowO (.slice qt T.length ct) (ivs T) 3, rRowO (.slice qc C.length cc) (ivs C) 3]) (fun n z => n + z.1 = C.length ∧ Lim B z.2.2 ∧ (∀ b, z.2.1 b → G b ∨ w.heap.size ≤ b)) C.length (0, FQ, L) ⟨rfl, hL, hFQ⟩ ⟨rfl, rfl, trivial⟩ rfl ?_
    rintro n ⟨i, FQ, L⟩ ⟨hni, hL, hFQ⟩
    simp only at hni hL hFQ
    rcases n with _ | n
    · skip
      refine SC.seq ?_
      refine SC.sr ?_
      refine SL.mv ?_
      refine SL.mv ?_
      refine SL.nk ?_
      refine SL.uu (ru_fieldAddr (o2 := 3) fd122_3 rfl rfl rfl) ?_
      refine SL.uu (ru_load (i := 0) ts26 rfl rfl rfl rfl) ?_
      refine SL.uu (ru_len Try.underlying26 rfl rfl) ?_
      refine SL.uu (ru_lt (b := (decide (((i : Int) : Int) < (C.length : Int)))) rfl rfl rfl rfl) ?_
      refine SL.nn [(0, pt s 0), (3, iw (i : Int)), (31, bo (decide (((i : Int) : Int) < (C.length : Int))))] _ ⟨rfl, rfl, rfl, trivial⟩ ?_
      refine SC.no (show some (Value.bool (decide (((i : Int) : Int) < (C.length : Int)))) = some (Value.bool false) from congrArg (fun x => some (Value.bool x)) (decide_eq_false (by omega))) ?_
      refine SC.exit ?_
      refine SE.passe ?_
      refine SE.passe ?_
      refine SE.blke ?_
      refine SC.of_SE ?_
      refine SC.norm [(0, pt s 0)] _ ⟨rfl, trivial⟩ rfl ?_
      refine SC.region ?_
      refine SL.mv ?_
      refine SL.call (ζ := (Nat → Prop) × (Nat → Prop) × Option Addr × Nat × Option Addr × Nat) (fun z => Value.tuple #[]) (fun z => [rBlk s [pt e 0, pt q 0, Value.slice z.2.2.1 ((rbeginF ⟨A, L, T, C, nx, fi⟩).T.length) z.2.2.2.1, Value.slice z.2.2.2.2.1 ((rbeginF ⟨A, L, T, C, nx, fi⟩).C.length) z.2.2.2.2.2, iw ((rbeginF ⟨A, L, T, C, nx, fi⟩).next), iw ((rbeginF ⟨A, L, T, C, nx, fi⟩).fill)] 122, rDevQ e z.1 ((rbeginF ⟨A, L, T, C, nx, fi⟩).A), rRefP q rb z.2.1 ((rbeginF ⟨A, L, T, C, nx, fi⟩).L), rRowO (.slice z.2.2.1 ((rbeginF ⟨A, L, T, C, nx, fi⟩).T.length) z.2.2.2.1) (ivs ((rbeginF ⟨A, L, T, C, nx, fi⟩).T)) 3, rRowO (.slice z.2.2.2.2.1 ((rbeginF ⟨A, L, T, C, nx, fi⟩).C.length) z.2.2.2.2.2) (ivs ((rbeginF ⟨A, L, T, C, nx, fi⟩).C)) 3]) (fun z => (∀ b, z.1 b → G b ∨ w.heap.size ≤ b) ∧ (∀ b, z.2.1 b → G b ∨ w.heap.size ≤ b) ∧ (∀ b, (Value.slice z.2.2.1 (rbeginF ⟨A, L, T, C, nx, fi⟩).T.length z.2.2.2.1).ownBlock = some b → G b ∨ w.heap.size ≤ b) ∧ (∀ b, (Value.slice z.2.2.2.2.1 (rbeginF ⟨A, L, T, C, nx, fi⟩).C.length z.2.2.2.2.2).ownBlock = some b → G b ∨ w.heap.size ≤ b)) rfl rfl co62 rfl rfl rfl (lt_b rfl) (fun w9 hI => (rbegin_any (G := fun b => G b ∨ w.heap.size ≤ b) (T := T) (C := C) hk (lim_few hL (by omega)) (.inl hs) (.inl he) (.inl hrb) (fun b hb => .inl (hFE b hb)) (fun b hb => .inl (hFQ b hb)) hI.1).mono fun e2 w2 ⟨h1, h2⟩ => by obtain ⟨z, k1, k2, k3, k4, k5⟩ := RRTo.inv (G := G) (fun b hb => hb) hI h2; exact ⟨z, h1, k1, k2, k3, k4, k5⟩) ?_
      rintro ⟨FE1, FQ2, qt3, ct4, qc5, cc6⟩ ⟨hFE1, hFQ2, hqt3, hqc5⟩
      refine SL.nil ?_
      refine SE.res (.inr rfl) (res0 Try.results48) fun w1 hI => ⟨rbeginF ⟨A, L, T, C, nx, fi⟩, rfl, ⟨(rbegin_ok (Z := ⟨A, L, T, C, nx, fi⟩) hk (lim_few hL (by omega))).1, (lim_up (lim_rbegin (Z := ⟨A, L, T, C, nx, fi⟩) hL h1B))⟩, FE1, FQ2, qt3, ct4, qc5, cc6, hI.1, hFE1, hFQ2, hqt3, hqc5, hI.2⟩
    refine SC.seq ?_
    refine SC.sr ?_
    refine SL.mv ?_
    refine SL.mv ?_
    refine SL.nk ?_
    refine SL.uu (ru_fieldAddr (o2 := 3) fd122_3 rfl rfl rfl) ?_
    refine SL.uu (ru_load (i := 0) ts26 rfl rfl rfl rfl) ?_
    refine SL.uu (ru_len Try.underlying26 rfl rfl) ?_
    refine SL.uu (ru_lt (b := (decide (((i : Int) : Int) < (C.length : Int)))) rfl rfl rfl rfl) ?_
    refine SL.nn [(0, pt s 0), (3, iw (i : Int)), (31, bo (decide (((i : Int) : Int) < (C.length : Int))))] _ ⟨rfl, rfl, rfl, trivial⟩ ?_
    refine SC.yes (show some (Value.bool (decide (((i : Int) : Int) < (C.length : Int)))) = some (Value.bool true) from congrArg (fun x => some (Value.bool x)) (decide_eq_true (by omega))) ?_
    refine SC.skip ?_
    refine SC.of_SE ?_
    refine SC.norm [(0, pt s 0), (3, iw (i : Int))] _ ⟨rfl, rfl, trivial⟩ rfl ?_
    refine SC.seq ?_
    refine SC.block ?_
    refine SC.region_tail 11 (by kernel_rfl) (by kernel_rfl) ?_
    refine SQ.uu (ru_move rfl rfl) ?_
    refine SQ.uu (ru_nilCheck rfl rfl) ?_
    refine SQ.uu (ru_fieldAddr (o2 := 1) fd122_1 rfl rfl rfl) ?_
    refine SQ.uu (ru_load (i := 0) ts40 rfl rfl rfl rfl) ?_
    refine SQ.uu (ru_move rfl rfl) ?_
    refine SQ.uu (ru_nilCheck rfl rfl) ?_
    refine SQ.uu (ru_fieldAddr (o2 := 3) fd122_3 rfl rfl rfl) ?_
    refine SQ.uu (ru_load (i := 0) ts26 rfl rfl rfl rfl) ?_
    refine SQ.uu (ru_move rfl rfl) ?_
    refine SQ.uu (ru_index_rowO (ri := 4) si26 rfl rfl rfl rfl (by omega) (by omega)) ?_
    refine SQ.uu (ru_load_rowO (ri := 4) (i := (i : Int).toNat) ts3 rfl rfl rfl (ivs_getN (by omega))) ?_
    refine SQ.nilL ?_
    refine SL.call (ζ := Nat → Prop) (fun F7 => iw ((freeF L (C.getD i 0)).1)) (fun F7 => [rBlk s [pt e 0, pt q 0, Value.slice qt T.length ct, Value.slice qc C.length cc, iw nx, iw fi] 122, rDevQ e FE A, rRefP q rb F7 ((freeF L (C.getD i 0)).2), rRowO (.slice qt T.length ct) (ivs T) 3, rRowO (.slice qc C.length cc) (ivs C) 3]) (fun F7 => (∀ b, F7 b → G b ∨ w.heap.size ≤ b)) rfl rfl co76 rfl rfl rfl (lt_b rfl) (fun w hI => (rfree_any (refp_at hI (i := 2) rfl) (C.getD i 0) (lim_few hL (by omega))).mono fun e w2 ⟨h1, h2⟩ => by obtain ⟨F2, k1, k2⟩ := hI.refPTo (F0 := G) (i := 2) rfl (.inl hrb) h2 hFQ; exact ⟨F2, h1, k1, k2⟩) ?_
    intro F7 hF7
    refine SL.nil ?_
    refine SE.blkn ?_
    refine SC.of_SE ?_
    refine SC.norm [(0, pt s 0), (3, iw (i : Int))] [rBlk s [pt e 0, pt q 0, Value.slice qt T.length ct, Value.slice qc C.length cc, iw nx, iw fi] 122, rDevQ e FE A, rRefP q rb F7 ((freeF L (C.getD i 0)).2), rRowO (.slice qt T.length ct) (ivs T) 3, rRowO (.slice qc C.length cc) (ivs C) 3] ⟨rfl, rfl, trivial⟩ rfl ?_
    refine SC.region ?_
    refine SL.mv ?_
    refine SL.uu (ru_add (r := (IntKind.i64.wrap ((i : Int) + 1))) rfl rfl rfl rfl) ?_
    refine SL.as ?_
    refine SL.nil ?_
    refine SE.again n (i + 1, F7, (freeF L (C.getD i 0)).2) (by omega) ⟨by simp only; omega, (lim_free hL _), hF7⟩ ⟨rfl, (congrArg (fun x => some (iw x)) (show IntKind.i64.wrap ((i : Int) + 1) = ((i + 1 : Nat) : Int) by rw [IntKind.wrap_i64]; omega)), trivial⟩ rfl
  refine SC.seq ?_
  refine SC.sr ?_
  refine SL.mv ?_
  refine SL.mv ?_
  refine SL.nk ?_
  refine SL.uu (ru_fieldAddr (o2 := 2) fd122_2 rfl rfl rfl) ?_
  refine SL.uu (ru_load (i := 0) ts26 rfl rfl rfl rfl) ?_
  refine SL.uu (ru_len Try.underlying26 rfl rfl) ?_
  refine SL.uu (ru_lt (b := (decide (((i : Int) : Int) < (T.length : Int)))) rfl rfl rfl rfl) ?_
  refine SL.nn [(0, pt s 0), (2, iw (i : Int)), (10, bo (decide (((i : Int) : Int) < (T.length : Int))))] _ ⟨rfl, rfl, rfl, trivial⟩ ?_
  refine SC.yes (show some (Value.bool (decide (((i : Int) : Int) < (T.length : Int)))) = some (Value.bool true) from congrArg (fun x => some (Value.bool x)) (decide_eq_true (by omega))) ?_
  refine SC.skip ?_
  refine SC.of_SE ?_
  refine SC.norm [(0, pt s 0), (2, iw (i : Int))] _ ⟨rfl, rfl, trivial⟩ rfl ?_
  refine SC.seq ?_
  refine SC.block ?_
  refine SC.region_tail 11 (by kernel_rfl) (by kernel_rfl) ?_
  refine SQ.uu (ru_move rfl rfl) ?_
  refine SQ.uu (ru_nilCheck rfl rfl) ?_
  refine SQ.uu (ru_fieldAddr (o2 := 1) fd122_1 rfl rfl rfl) ?_
  refine SQ.uu (ru_load (i := 0) ts40 rfl rfl rfl rfl) ?_
  refine SQ.uu (ru_move rfl rfl) ?_
  refine SQ.uu (ru_nilCheck rfl rfl) ?_
  refine SQ.uu (ru_fieldAddr (o2 := 2) fd122_2 rfl rfl rfl) ?_
  refine SQ.uu (ru_load (i := 0) ts26 rfl rfl rfl rfl) ?_
  refine SQ.uu (ru_move rfl rfl) ?_
  refine SQ.uu (ru_index_rowO (ri := 3) si26 rfl rfl rfl rfl (by omega) (by omega)) ?_
  refine SQ.uu (ru_load_rowO (ri := 3) (i := (i : Int).toNat) ts3 rfl rfl rfl (ivs_getN (by omega))) ?_
  refine SQ.nilL ?_
  refine SL.call (ζ := Nat → Prop) (fun F8 => iw ((freeF L (T.getD i 0)).1)) (fun F8 => [rBlk s [pt e 0, pt q 0, Value.slice qt T.length ct, Value.slice qc C.length cc, iw nx, iw fi] 122, rDevQ e FE A, rRefP q rb F8 ((freeF L (T.getD i 0)).2), rRowO (.slice qt T.length ct) (ivs T) 3, rRowO (.slice qc C.length cc) (ivs C) 3]) (fun F8 => (∀ b, F8 b → G b ∨ w.heap.size ≤ b)) rfl rfl co76 rfl rfl rfl (lt_b rfl) (fun w hI => (rfree_any (refp_at hI (i := 2) rfl) (T.getD i 0) (lim_few hL (by omega))).mono fun e w2 ⟨h1, h2⟩ => by obtain ⟨F2, k1, k2⟩ := hI.refPTo (F0 := G) (i := 2) rfl (.inl hrb) h2 hFQ; exact ⟨F2, h1, k1, k2⟩) ?_
  intro F8 hF8
  refine SL.nil ?_
  refine SE.blkn ?_
  refine SC.of_SE ?_
  refine SC.norm [(0, pt s 0), (2, iw (i : Int))] [rBlk s [pt e 0, pt q 0, Value.slice qt T.length ct, Value.slice qc C.length cc, iw nx, iw fi] 122, rDevQ e FE A, rRefP q rb F8 ((freeF L (T.getD i 0)).2), rRowO (.slice qt T.length ct) (ivs T) 3, rRowO (.slice qc C.length cc) (ivs C) 3] ⟨rfl, rfl, trivial⟩ rfl ?_
  refine SC.region ?_
  refine SL.mv ?_
  refine SL.uu (ru_add (r := (IntKind.i64.wrap ((i : Int) + 1))) rfl rfl rfl rfl) ?_
  refine SL.as ?_
  refine SL.nil ?_
  refine SE.again n (i + 1, F8, (freeF L (T.getD i 0)).2) (by omega) ⟨by simp only; omega, (lim_free hL _), hF8⟩ ⟨rfl, (congrArg (fun x => some (iw x)) (show IntKind.i64.wrap ((i : Int) + 1) = ((i + 1 : Nat) : Int) by rw [IntKind.wrap_i64]; omega)), trivial⟩ rfl

end Go.Proofs.Ytghfkgcaglabpaa

/-
  Poll, of the document's ring.
-/
namespace Go.Proofs.Ytghfkgcaglabpaa
open Go.RowKit
set_option maxRecDepth 100000
set_option maxHeartbeats 4000000
theorem rpoll_any {w : World} {s e q rb B : Nat} {FE FQ G : Nat → Prop} {A : NicA} {L : List Bf} {T C : List Int} {nx fi : Int} {qt qc : Option Addr} {ct cc : Nat} (hk : NicOk A) (hL : Lim B L) (h1B : 1 ≤ B) (hB : B ≤ 10000000000000) (hn : 0 ≤ nx ∧ nx < 16) (hf : 0 ≤ fi ∧ fi < 16) (ht : T.length ≤ 15) (hc : C.length ≤ 15) (hs : G s) (he : G e) (hrb : G rb) (hFE : ∀ b, FE b → G b ∨ w.heap.size ≤ b) (hFQ : ∀ b, FQ b → G b ∨ w.heap.size ≤ b) (hTo : ∀ b, (Value.slice qt T.length ct).ownBlock = some b → G b ∨ w.heap.size ≤ b) (hCo : ∀ b, (Value.slice qc C.length cc).ownBlock = some b → G b ∨ w.heap.size ≤ b) (hq : G q) (h : Sep w [rs6 s e q (.slice qt T.length ct) (.slice qc C.length cc) nx fi, rDevQ e FE A, rRefP q rb FQ L, rRowO (.slice qt T.length ct) (ivs T) 3, rRowO (.slice qc C.length cc) (ivs C) 3]) : Calls Try.prog 74 #[pt s 0] w fun e' w' => ∃ q2 c2 o Z' G', e' = .returned (.slice q2 o.length c2) ∧ RB (B + 1) Z' ∧ Sep w' [rRefR s e q G' Z', rRowN (.slice q2 o.length c2) (comeV o) 67 2] ∧ (∀ b, G' b → G b ∨ w.heap.size ≤ b) ∧ (∀ b, (Value.slice q2 o.length c2).ownBlock = some b → G b ∨ w.heap.size ≤ b) ∧ o.length ≤ 15 ∧ Only G w w' := by
  refine calls_sc (l0 := [rs6 s e q (.slice qt T.length ct) (.slice qc C.length cc) nx fi, rDevQ e FE A, rRefP q rb FQ L, rRowO (.slice qt T.length ct) (ivs T) 3, rRowO (.slice qc C.length cc) (ivs C) 3]) (args := [pt s 0]) G Try.func74 rfl 156 Try.ntmps74 (le_b rfl) ⟨h, Only.refl _ _⟩ ?_
  show SC _ _ _ _ [(0, pt s 0)] [rs6 s e q (.slice qt T.length ct) (.slice qc C.length cc) nx fi, rDevQ e FE A, rRefP q rb FQ L, rRowO (.slice qt T.length ct) (ivs T) 3, rRowO (.slice qc C.length cc) (ivs C) 3]
  refine SC.sr ?_
  refine SL.as ?_
  refine SL.nn [(0, pt s 0), (2, Value.slice none 0 0)] [rBlk s [pt e 0, pt q 0, Value.slice qt T.length ct, Value.slice qc C.length cc, iw nx, iw fi] 122, rDevQ e FE A, rRefP q rb FQ L, rRowO (.slice qt T.length ct) (ivs T) 3, rRowO (.slice qc C.length cc) (ivs C) 3] ⟨rfl, rfl, trivial⟩ ?_
  refine SC.sr ?_
  refine SL.mv ?_
  refine SL.nk ?_
  refine SL.uu (ru_fieldAddr (o2 := 0) fd122_0 rfl rfl rfl) ?_
  refine SL.uu (ru_load (i := 0) ts39 rfl rfl rfl rfl) ?_
  refine SL.call (ζ := Nat → Prop) (fun F1 => Value.tuple #[iw ((readF A 6).1.1), iw ((readF A 6).1.2)]) (fun F1 => [rBlk s [pt e 0, pt q 0, Value.slice qt T.length ct, Value.slice qc C.length cc, iw nx, iw fi] 122, rDevQ e F1 ((readF A 6).2), rRefP q rb FQ L, rRowO (.slice qt T.length ct) (ivs T) 3, rRowO (.slice qc C.length cc) (ivs C) 3]) (fun F1 => (∀ b, F1 b → G b ∨ w.heap.size ≤ b)) rfl rfl co84 rfl rfl rfl (lt_b rfl) (fun w hI => (q_read hk (nic_at hI (i := 1) rfl) 6).mono fun e w2 ⟨h1, h2⟩ => by obtain ⟨F2, k1, k2⟩ := hI.nicB (F0 := G) (i := 1) rfl (.inl he) h2 hFE; exact ⟨F2, h1, k1, k2⟩) ?_
  intro F1 hF1
  refine SL.mv ?_
  refine SL.uu (ru_extract rfl rfl rfl) ?_
  refine SL.uu (ru_extract rfl rfl rfl) ?_
  refine SL.as ?_
  refine SL.as ?_
  refine SL.nn [(0, pt s 0), (2, Value.slice none 0 0), (3, iw ((readF A 6).1.1))] [rBlk s [pt e 0, pt q 0, Value.slice qt T.length ct, Value.slice qc C.length cc, iw nx, iw fi] 122, rDevQ e F1 ((readF A 6).2), rRefP q rb FQ L, rRowO (.slice qt T.length ct) (ivs T) 3, rRowO (.slice qc C.length cc) (ivs C) 3] ⟨rfl, rfl, rfl, trivial⟩ ?_
  refine SC.seq ?_
  refine SC.sr ?_
  refine SL.mv ?_
  refine SL.uu (ru_quo (r := (IntKind.i64.wrap (Int.tdiv ((readF A 6).1.1) 4))) rfl rfl rfl (by decide) rfl) ?_
  refine SL.uu (ru_rem (r := (Int.tmod (IntKind.i64.wrap (Int.tdiv ((readF A 6).1.1) 4)) 2)) rfl rfl rfl (by decide) rfl) ?_
  refine SL.uu (ru_eq (b := (((Int.tmod (IntKind.i64.wrap (Int.tdiv ((readF A 6).1.1) 4)) 2) : Int) == 1)) rfl rfl rfl rfl) ?_
  refine SL.mv ?_
  refine SL.join 10 [(0, pt s 0), (2, Value.slice none 0 0), (3, iw ((readF A 6).1.1)), (18, iw ((readF A 6).1.1)), (19, iw (IntKind.i64.wrap (Int.tdiv ((readF A 6).1.1) 4))), (20, iw (Int.tmod (IntKind.i64.wrap (Int.tdiv ((readF A 6).1.1) 4)) 2)), (21, bo (((Int.tmod (IntKind.i64.wrap (Int.tdiv ((readF A 6).1.1) 4)) 2) : Int) == 1)), (22, bo (((Int.tmod (IntKind.i64.wrap (Int.tdiv ((readF A 6).1.1) 4)) 2) : Int) == 1)), (32, bo ((((Int.tmod (IntKind.i64.wrap (Int.tdiv ((readF A 6).1.1) 4)) 2) : Int) == 1) && (((((readF A 6).2).r 1) : Int) == 0)))] [rBlk s [pt e 0, pt q 0, Value.slice qt T.length ct, Value.slice qc C.length cc, iw nx, iw fi] 122, rDevQ e F1 ((readF A 6).2), rRefP q rb FQ L, rRowO (.slice qt T.length ct) (ivs T) 3, rRowO (.slice qc C.length cc) (ivs C) 3] ?_ ?_
  rotate_left
  · intro K hK
    rcases tf (((Int.tmod (IntKind.i64.wrap (Int.tdiv ((readF A 6).1.1) 4)) 2) : Int) == 1) with h2 | h2
    · skip
      refine SL.norm [(0, pt s 0), (2, Value.slice none 0 0), (3, iw ((readF A 6).1.1)), (18, iw ((readF A 6).1.1)), (19, iw (IntKind.i64.wrap (Int.tdiv ((readF A 6).1.1) 4))), (20, iw (Int.tmod (IntKind.i64.wrap (Int.tdiv ((readF A 6).1.1) 4)) 2)), (21, bo true), (22, bo true)] _ ⟨rfl, rfl, rfl, rfl, rfl, rfl, (congrArg (fun x => some (Value.bool x)) h2), (congrArg (fun x => some (Value.bool x)) h2), trivial⟩ rfl ?_
      refine SL.gg (ru_move rfl rfl) ?_
      refine SL.gg (ru_nilCheck rfl rfl) ?_
      refine SL.gg (ru_fieldAddr (o2 := 0) fd122_0 rfl rfl rfl) ?_
      refine SL.gg (ru_load (i := 0) ts39 rfl rfl rfl rfl) ?_
      refine SL.gg (ru_nilCheck rfl rfl) ?_
      refine SL.gg (ru_fieldAddr (o2 := 0) fd108_0 rfl rfl rfl) ?_
      refine SL.gg (ru_indexA (o2 := 1) ar91 rfl rfl rfl (by decide) (by decide) rfl) ?_
      refine SL.gg (ru_nic_r (q := 1) (i := 1) (by decide) ts3 rfl rfl rfl) ?_
      refine SL.gg (ru_eq (b := (((((readF A 6).2).r 1) : Int) == 0)) rfl rfl rfl rfl) ?_
      refine SL.uu (ru_pick (u := bo (((((readF A 6).2).r 1) : Int) == 0)) (v := bo false) rfl rfl rfl rfl) ?_
      exact SL.joined hK ⟨rfl, rfl, rfl, rfl, rfl, rfl, (congrArg (fun x => some (Value.bool x)) h2.symm), (congrArg (fun x => some (Value.bool x)) h2.symm), (congrArg (fun bx => some (Value.bool (bx && (((((readF A 6).2).r 1) : Int) == 0)))) h2.symm), trivial⟩ rfl
    refine SL.norm [(0, pt s 0), (2, Value.slice none 0 0), (3, iw ((readF A 6).1.1)), (18, iw ((readF A 6).1.1)), (19, iw (IntKind.i64.wrap (Int.tdiv ((readF A 6).1.1) 4))), (20, iw (Int.tmod (IntKind.i64.wrap (Int.tdiv ((readF A 6).1.1) 4)) 2)), (21, bo false), (22, bo false)] _ ⟨rfl, rfl, rfl, rfl, rfl, rfl, (congrArg (fun x => some (Value.bool x)) h2), (congrArg (fun x => some (Value.bool x)) h2), trivial⟩ rfl ?_
    refine SL.oo ?_
    refine SL.oo ?_
    refine SL.oo ?_
    refine SL.oo ?_
    refine SL.oo ?_
    refine SL.oo ?_
    refine SL.oo ?_
    refine SL.oo ?_
    refine SL.oo ?_
    refine SL.uu (ru_pick (u := undef) (v := bo false) rfl rfl rfl rfl) ?_
    exact SL.joined hK ⟨rfl, rfl, rfl, rfl, rfl, rfl, (congrArg (fun x => some (Value.bool x)) h2.symm), (congrArg (fun x => some (Value.bool x)) h2.symm), (congrArg (fun bx => some (Value.bool (bx && (((((readF A 6).2).r 1) : Int) == 0)))) h2.symm), trivial⟩ rfl
  skip
  refine SL.nn [(0, pt s 0), (2, Value.slice none 0 0), (32, bo ((((Int.tmod (IntKind.i64.wrap (Int.tdiv ((readF A 6).1.1) 4)) 2) : Int) == 1) && (((((readF A 6).2).r 1) : Int) == 0)))] _ ⟨rfl, rfl, rfl, trivial⟩ ?_
  refine SC.both ((((Int.tmod (IntKind.i64.wrap (Int.tdiv ((readF A 6).1.1) 4)) 2) : Int) == 1) && (((((readF A 6).2).r 1) : Int) == 0)) rfl (fun h3 => ?_) (fun h3 => ?_)
  · skip
    refine SC.sr ?_
    refine SL.mv ?_
    refine SL.call (ζ := RefS × (Nat → Prop) × (Nat → Prop) × Option Addr × Nat × Option Addr × Nat) (fun z => Value.tuple #[]) (fun z => [rBlk s [pt e 0, pt q 0, Value.slice z.2.2.2.1 z.1.T.length z.2.2.2.2.1, Value.slice z.2.2.2.2.2.1 z.1.C.length z.2.2.2.2.2.2, iw z.1.next, iw z.1.fill] 122, rDevQ e z.2.1 z.1.A, rRefP q rb z.2.2.1 z.1.L, rRowO (.slice z.2.2.2.1 z.1.T.length z.2.2.2.2.1) (ivs z.1.T) 3, rRowO (.slice z.2.2.2.2.2.1 z.1.C.length z.2.2.2.2.2.2) (ivs z.1.C) 3]) (fun z => RB (B + 1) z.1 ∧ (∀ b, z.2.1 b → G b ∨ w.heap.size ≤ b) ∧ (∀ b, z.2.2.1 b → G b ∨ w.heap.size ≤ b) ∧ (∀ b, (Value.slice z.2.2.2.1 z.1.T.length z.2.2.2.2.1).ownBlock = some b → G b ∨ w.heap.size ≤ b) ∧ (∀ b, (Value.slice z.2.2.2.2.2.1 z.1.C.length z.2.2.2.2.2.2).ownBlock = some b → G b ∨ w.heap.size ≤ b)) rfl rfl co48 rfl rfl rfl (lt_b rfl) (fun w9 hI => (rreset_any (G := fun b => G b ∨ w.heap.size ≤ b) (read_ok hk _) hL h1B hB hn hf ht hc (.inl hs) (.inl he) (.inl hrb) (fun b hb => .inl (hF1 b hb)) (fun b hb => .inl (hFQ b hb)) (fun b hb => .inl (hTo b hb)) (fun b hb => .inl (hCo b hb)) hI.1).mono fun e2 w2 ⟨Z9, h1, h3, h2⟩ => by obtain ⟨z, k1, k2, k3, k4, k5⟩ := RRTo.inv (G := G) (fun b hb => hb) hI h2; exact ⟨(Z9, z), h1, k1, h3, k2, k3, k4, k5⟩) ?_
    rintro ⟨Z10, FE4, FQ5, qt6, ct7, qc8, cc9⟩ ⟨hZ10, hFE4, hFQ5, hqt6, hqc8⟩
    refine SL.nn [(0, pt s 0), (2, Value.slice none 0 0)] [rBlk s [pt e 0, pt q 0, Value.slice qt6 Z10.T.length ct7, Value.slice qc8 Z10.C.length cc9, iw Z10.next, iw Z10.fill] 122, rDevQ e FE4 Z10.A, rRefP q rb FQ5 Z10.L, rRowO (.slice qt6 Z10.T.length ct7) (ivs Z10.T) 3, rRowO (.slice qc8 Z10.C.length cc9) (ivs Z10.C) 3] ⟨rfl, rfl, trivial⟩ ?_
    refine SC.sr ?_
    refine SL.as ?_
    refine SL.nn [(0, pt s 0), (2, Value.slice none 0 0)] _ ⟨rfl, rfl, trivial⟩ ?_
    refine SC.ret ?_
    refine SE.passr ?_
    refine SE.res (.inl rfl) (res1 Try.results74 rfl) fun w1 hI => ⟨none, 0, [], Z10, fps (RR5 s e q rb FE4 FQ5 qt6 ct7 qc8 cc9 Z10), rfl, hZ10, ((Inv.packRef (Z := Z10) (l := []) hI).add (Only.refl _ _) (r := rRowN (.slice none 0 0) (comeV []) 67 2) (rowN_nil _ _ _) (fun b hb => by cases hb)).1, fps_in hFE4 hFQ5 (.inl hs) (.inl he) (.inl hq) (.inl hrb) hqt6 hqc8, fun b hb => by simp [Value.ownBlock] at hb, by simp, hI.2⟩
  refine SC.skip ?_
  refine SC.of_SE ?_
  refine SC.norm [(0, pt s 0), (2, Value.slice none 0 0)] _ ⟨rfl, rfl, trivial⟩ rfl ?_
  refine SC.seq ?_
  refine SC.block ?_
  refine SC.loop (γ := (Nat → Prop) × List Bf × List Int × Option Addr × Nat) (fun n z => [(0, pt s 0), (2, Value.slice none 0 0)]) (fun n z => [rBlk s [pt e 0, pt q 0, Value.slice z.2.2.2.1 z.2.2.1.length z.2.2.2.2, Value.slice qc C.length cc, iw nx, iw fi] 122, rDevQ e F1 ((readF A 6).2), rRefP q rb z.1 z.2.1, rRowO (.slice z.2.2.2.1 z.2.2.1.length z.2.2.2.2) (ivs z.2.2.1) 3, rRowO (.slice qc C.length cc) (ivs C) 3]) (fun n z => n = z.2.2.1.length ∧ n ≤ 15 ∧ Lim B z.2.1 ∧ (∀ b, z.1 b → G b ∨ w.heap.size ≤ b) ∧ (∀ b, (Value.slice z.2.2.2.1 z.2.2.1.length z.2.2.2.2).ownBlock = some b → G b ∨ w.heap.size ≤ b)) T.length (FQ, L, T, qt, ct) ⟨rfl, ht, hL, hFQ, hTo⟩ ⟨rfl, rfl, trivial⟩ rfl ?_
  rintro n ⟨FQ, L, T, qt, ct⟩ ⟨hni, ht, hL, hFQ, hTo⟩
  simp only at hni ht hL hFQ hTo
  rw [hni] at ht
  refine SC.seq ?_
  refine SC.seq ?_
  refine SC.region_mk_tail 22 [(21, Mk.val (iw (((((readF A 6).2).r 5) - (((readF A 6).2).r 4) + 16) % 16)))] [] rfl rfl (by kernel_rfl) (by kernel_rfl) (by kernel_rfl) ?_
  refine SM.ru rfl rfl rfl (w_all rfl) rfl (lt_b rfl) (ru_move rfl rfl) ?_
  refine SM.ru rfl rfl rfl (w_all rfl) rfl (lt_b rfl) (ru_nilCheck rfl rfl) ?_
  refine SM.ru rfl rfl rfl (w_all rfl) rfl (lt_b rfl) (ru_fieldAddr (o2 := 2) fd122_2 rfl rfl rfl) ?_
  refine SM.ru rfl rfl rfl (w_all rfl) rfl (lt_b rfl) (ru_load (i := 0) ts26 rfl rfl rfl rfl) ?_
  refine SM.ru rfl rfl rfl (w_all rfl) rfl (lt_b rfl) (ru_len Try.underlying26 rfl rfl) ?_
  refine SM.ru rfl rfl rfl (w_all rfl) rfl (lt_b rfl) (ru_move rfl rfl) ?_
  refine SM.ru rfl rfl rfl (w_all rfl) rfl (lt_b rfl) (ru_nilCheck rfl rfl) ?_
  refine SM.ru rfl rfl rfl (w_all rfl) rfl (lt_b rfl) (ru_fieldAddr (o2 := 0) fd122_0 rfl rfl rfl) ?_
  refine SM.ru rfl rfl rfl (w_all rfl) rfl (lt_b rfl) (ru_load (i := 0) ts39 rfl rfl rfl rfl) ?_
  refine SM.ru rfl rfl rfl (w_all rfl) rfl (lt_b rfl) (ru_nilCheck rfl rfl) ?_
  refine SM.ru rfl rfl rfl (w_all rfl) rfl (lt_b rfl) (ru_fieldAddr (o2 := 0) fd108_0 rfl rfl rfl) ?_
  refine SM.ru rfl rfl rfl (w_all rfl) rfl (lt_b rfl) (ru_indexA (o2 := 4) ar91 rfl rfl rfl (by decide) (by decide) rfl) ?_
  refine SM.ru rfl rfl rfl (w_all rfl) rfl (lt_b rfl) (ru_nic_r (q := 4) (i := 1) (by decide) ts3 rfl rfl rfl) ?_
  refine SM.ru rfl rfl rfl (w_all rfl) rfl (lt_b rfl) (ru_move rfl rfl) ?_
  refine SM.ru rfl rfl rfl (w_all rfl) rfl (lt_b rfl) (ru_nilCheck rfl rfl) ?_
  refine SM.ru rfl rfl rfl (w_all rfl) rfl (lt_b rfl) (ru_fieldAddr (o2 := 0) fd122_0 rfl rfl rfl) ?_
  refine SM.ru rfl rfl rfl (w_all rfl) rfl (lt_b rfl) (ru_load (i := 0) ts39 rfl rfl rfl rfl) ?_
  refine SM.ru rfl rfl rfl (w_all rfl) rfl (lt_b rfl) (ru_nilCheck rfl rfl) ?_
  refine SM.ru rfl rfl rfl (w_all rfl) rfl (lt_b rfl) (ru_fieldAddr (o2 := 0) fd108_0 rfl rfl rfl) ?_
  refine SM.ru rfl rfl rfl (w_all rfl) rfl (lt_b rfl) (ru_indexA (o2 := 5) ar91 rfl rfl rfl (by decide) (by decide) rfl) ?_
  refine SM.ru rfl rfl rfl (w_all rfl) rfl (lt_b rfl) (ru_nic_r (q := 5) (i := 1) (by decide) ts3 rfl rfl rfl) ?_
  refine SM.call rfl rfl rfl rfl (w_all rfl) rfl (lt_b rfl) (iw (((((readF A 6).2).r 5) - (((readF A 6).2).r 4) + 16) % 16)) rfl rfl co85 rfl rfl (fun l' w hI => (rmany_any w (read_ok hk _).h4 (read_ok hk _).h5).mono fun e w2 ⟨h1, h2⟩ => ⟨h1, hI.only h2⟩) ?_
  refine SM.nilL (l' := [rBlk s [pt e 0, pt q 0, Value.slice qt T.length ct, Value.slice qc C.length cc, iw nx, iw fi] 122, rDevQ e F1 ((readF A 6).2), rRefP q rb FQ L, rRowO (.slice qt T.length ct) (ivs T) 3, rRowO (.slice qc C.length cc) (ivs C) 3]) rfl ?_
  refine SL.uu (ru_gt (b := (decide (((((((readF A 6).2).r 5) - (((readF A 6).2).r 4) + 16) % 16) : Int) < (T.length : Int)))) rfl rfl rfl rfl) ?_
  refine SL.nn [(0, pt s 0), (2, Value.slice none 0 0), (57, bo (decide (((((((readF A 6).2).r 5) - (((readF A 6).2).r 4) + 16) % 16) : Int) < (T.length : Int))))] _ ⟨rfl, rfl, rfl, trivial⟩ ?_
  refine SC.both (decide (((((((readF A 6).2).r 5) - (((readF A 6).2).r 4) + 16) % 16) : Int) < (T.length : Int))) rfl (fun h11 => ?_) (fun h11 => ?_)
  · skip
    have hl := of_decide_eq_true h11
    refine SC.skip ?_
    refine SC.of_SE ?_
    refine SC.norm [(0, pt s 0), (2, Value.slice none 0 0)] _ ⟨rfl, rfl, trivial⟩ rfl ?_
    refine SC.block ?_
    refine SC.seq ?_
    refine SC.region_tail 10 (by kernel_rfl) (by kernel_rfl) ?_
    refine SQ.uu (ru_move rfl rfl) ?_
    refine SQ.uu (ru_nilCheck rfl rfl) ?_
    refine SQ.uu (ru_fieldAddr (o2 := 1) fd122_1 rfl rfl rfl) ?_
    refine SQ.uu (ru_load (i := 0) ts40 rfl rfl rfl rfl) ?_
    refine SQ.uu (ru_move rfl rfl) ?_
    refine SQ.uu (ru_nilCheck rfl rfl) ?_
    refine SQ.uu (ru_fieldAddr (o2 := 2) fd122_2 rfl rfl rfl) ?_
    refine SQ.uu (ru_load (i := 0) ts26 rfl rfl rfl rfl) ?_
    refine SQ.uu (ru_index_rowO (ri := 3) si26 rfl rfl rfl rfl (by omega) (by omega)) ?_
    refine SQ.uu (ru_load_rowO (ri := 3) (i := (0 : Int).toNat) ts3 rfl rfl rfl (ivs_get0 (by omega))) ?_
    refine SQ.nilL ?_
    refine SL.call (ζ := Nat → Prop) (fun F12 => iw ((freeF L (T.getD 0 0)).1)) (fun F12 => [rBlk s [pt e 0, pt q 0, Value.slice qt T.length ct, Value.slice qc C.length cc, iw nx, iw fi] 122, rDevQ e F1 ((readF A 6).2), rRefP q rb F12 ((freeF L (T.getD 0 0)).2), rRowO (.slice qt T.length ct) (ivs T) 3, rRowO (.slice qc C.length cc) (ivs C) 3]) (fun F12 => (∀ b, F12 b → G b ∨ w.heap.size ≤ b)) rfl rfl co76 rfl rfl rfl (lt_b rfl) (fun w hI => (rfree_any (refp_at hI (i := 2) rfl) (T.getD 0 0) (lim_few hL (by omega))).mono fun e w2 ⟨h1, h2⟩ => by obtain ⟨F2, k1, k2⟩ := hI.refPTo (F0 := G) (i := 2) rfl (.inl hrb) h2 hFQ; exact ⟨F2, h1, k1, k2⟩) ?_
    intro F12 hF12
    refine SL.nn [(0, pt s 0), (2, Value.slice none 0 0)] [rBlk s [pt e 0, pt q 0, Value.slice qt T.length ct, Value.slice qc C.length cc, iw nx, iw fi] 122, rDevQ e F1 ((readF A 6).2), rRefP q rb F12 ((freeF L (T.getD 0 0)).2), rRowO (.slice qt T.length ct) (ivs T) 3, rRowO (.slice qc C.length cc) (ivs C) 3] ⟨rfl, rfl, trivial⟩ ?_
    refine SC.fact (p := T.length ≤ ct) (fun w hI => rowO_le (hI.1.get (i := 3) rfl)) fun hle => ?_
    refine SC.region ?_
    refine SL.mv ?_
    refine SL.mv ?_
    refine SL.nk ?_
    refine SL.uu (ru_fieldAddr (o2 := 2) fd122_2 rfl rfl rfl) ?_
    refine SL.uu (ru_load (i := 0) ts26 rfl rfl rfl rfl) ?_
    refine SL.uu (ru_sliceV (size := 1) (l0 := 1) (h0 := T.length) (m0 := ct) (v := Value.slice (tq qt ct) (T.length - 1) (ct - 1)) rfl si26 rfl rfl rfl rfl rfl (by simp) (by omega) (by omega) (by omega)) ?_
    refine SL.nk ?_
    refine SL.uu (ru_fieldAddr (o2 := 2) fd122_2 rfl rfl rfl) ?_
    refine SL.store (i := 0) (c' := [pt e 0, pt q 0, Value.slice (tq qt ct) (T.length - 1) (ct - 1), Value.slice qc C.length cc, iw nx, iw fi]) rfl rfl ts26 rfl rfl rfl rfl rfl (lt_b rfl) (.inl hs) rfl ?_
    refine SL.nil ?_
    refine SE.weak (i := 3) (rRowO (.slice (tq qt ct) (T.length - 1) (ct - 1)) ((ivs T).drop 1) 3) rfl (fun w h => (RowO.tail (n := T.length) (c := ct) (xs := ivs T) h (by clear h; omega)).1) (fun b hb => tq_own hb) ?_
    refine SE.blkn ?_
    refine SE.again (n - 1) (F12, (freeF L (T.getD 0 0)).2, T.drop 1, tq qt ct, ct - 1) (by omega) ⟨by simp; omega, by omega, (lim_free hL _), hF12, fun b hb => hTo b (tq_own hb)⟩ ⟨rfl, rfl, trivial⟩ (by simp only [List.length_drop, ivs_drop1]; rfl)
  refine SC.exit ?_
  refine SE.passe ?_
  refine SE.passe ?_
  refine SE.blke ?_
  refine SC.of_SE ?_
  refine SC.norm [(0, pt s 0), (2, Value.slice none 0 0)] _ ⟨rfl, rfl, trivial⟩ rfl ?_
  refine SC.sr ?_
  refine SL.as ?_
  refine SL.nn [(0, pt s 0), (2, Value.slice none 0 0), (5, Value.slice none 0 0)] _ ⟨rfl, rfl, rfl, trivial⟩ ?_
  refine SC.seq ?_
  refine SC.block ?_
  refine SC.rows (rRowN (.slice none 0 0) (comeV []) 67 2) (fun b hb => by cases hb) (fun w => rowN_nil w 67 2) ?_
  refine SC.loop (γ := (Nat → Prop) × List Bf × List Int × Option Addr × Nat × List (Int × Bool) × Option Addr × Nat) (fun n z => [(0, pt s 0), (2, Value.slice none 0 0), (5, Value.slice z.2.2.2.2.2.2.1 z.2.2.2.2.2.1.length z.2.2.2.2.2.2.2)]) (fun n z => [rBlk s [pt e 0, pt q 0, Value.slice qt T.length ct, Value.slice z.2.2.2.1 z.2.2.1.length z.2.2.2.2.1, iw nx, iw fi] 122, rDevQ e F1 ((readF A 6).2), rRefP q rb z.1 z.2.1, rRowO (.slice qt T.length ct) (ivs T) 3, rRowO (.slice z.2.2.2.1 z.2.2.1.length z.2.2.2.2.1) (ivs z.2.2.1) 3, rRowN (.slice z.2.2.2.2.2.2.1 z.2.2.2.2.2.1.length z.2.2.2.2.2.2.2) (comeV z.2.2.2.2.2.1) 67 2]) (fun n z => n = z.2.2.1.length ∧ z.2.2.2.2.2.1.length + n ≤ 15 ∧ Lim B z.2.1 ∧ (∀ b, z.1 b → G b ∨ w.heap.size ≤ b) ∧ (∀ b, (Value.slice z.2.2.2.1 z.2.2.1.length z.2.2.2.2.1).ownBlock = some b → G b ∨ w.heap.size ≤ b) ∧ (∀ b, (Value.slice z.2.2.2.2.2.2.1 z.2.2.2.2.2.1.length z.2.2.2.2.2.2.2).ownBlock = some b → G b ∨ w.heap.size ≤ b)) C.length (FQ, L, C, qc, cc, [], none, 0) ⟨rfl, by simpa using hc, hL, hFQ, hCo, fun b hb => by simp [Value.ownBlock] at hb⟩ ⟨rfl, rfl, rfl, trivial⟩ rfl ?_
  rintro n ⟨FQ, L, C, qc, cc, o, qo, co⟩ ⟨hni, ho, hL, hFQ, hCo, hqo⟩
  simp only at hni ho hL hFQ hCo hqo
  rw [hni] at ho
  refine SC.seq ?_
  refine SC.seq ?_
  refine SC.region_mk_tail 22 [(21, Mk.val (iw (((((readF A 6).2).r 3) - (((readF A 6).2).r 2) + 16) % 16)))] [] rfl rfl (by kernel_rfl) (by kernel_rfl) (by kernel_rfl) ?_
  refine SM.ru rfl rfl rfl (w_all rfl) rfl (lt_b rfl) (ru_move rfl rfl) ?_
  refine SM.ru rfl rfl rfl (w_all rfl) rfl (lt_b rfl) (ru_nilCheck rfl rfl) ?_
  refine SM.ru rfl rfl rfl (w_all rfl) rfl (lt_b rfl) (ru_fieldAddr (o2 := 3) fd122_3 rfl rfl rfl) ?_
  refine SM.ru rfl rfl rfl (w_all rfl) rfl (lt_b rfl) (ru_load (i := 0) ts26 rfl rfl rfl rfl) ?_
  refine SM.ru rfl rfl rfl (w_all rfl) rfl (lt_b rfl) (ru_len Try.underlying26 rfl rfl) ?_
  refine SM.ru rfl rfl rfl (w_all rfl) rfl (lt_b rfl) (ru_move rfl rfl) ?_
  refine SM.ru rfl rfl rfl (w_all rfl) rfl (lt_b rfl) (ru_nilCheck rfl rfl) ?_
  refine SM.ru rfl rfl rfl (w_all rfl) rfl (lt_b rfl) (ru_fieldAddr (o2 := 0) fd122_0 rfl rfl rfl) ?_
  refine SM.ru rfl rfl rfl (w_all rfl) rfl (lt_b rfl) (ru_load (i := 0) ts39 rfl rfl rfl rfl) ?_
  refine SM.ru rfl rfl rfl (w_all rfl) rfl (lt_b rfl) (ru_nilCheck rfl rfl) ?_
  refine SM.ru rfl rfl rfl (w_all rfl) rfl (lt_b rfl) (ru_fieldAddr (o2 := 0) fd108_0 rfl rfl rfl) ?_
  refine SM.ru rfl rfl rfl (w_all rfl) rfl (lt_b rfl) (ru_indexA (o2 := 2) ar91 rfl rfl rfl (by decide) (by decide) rfl) ?_
  refine SM.ru rfl rfl rfl (w_all rfl) rfl (lt_b rfl) (ru_nic_r (q := 2) (i := 1) (by decide) ts3 rfl rfl rfl) ?_
  refine SM.ru rfl rfl rfl (w_all rfl) rfl (lt_b rfl) (ru_move rfl rfl) ?_
  refine SM.ru rfl rfl rfl (w_all rfl) rfl (lt_b rfl) (ru_nilCheck rfl rfl) ?_
  refine SM.ru rfl rfl rfl (w_all rfl) rfl (lt_b rfl) (ru_fieldAddr (o2 := 0) fd122_0 rfl rfl rfl) ?_
  refine SM.ru rfl rfl rfl (w_all rfl) rfl (lt_b rfl) (ru_load (i := 0) ts39 rfl rfl rfl rfl) ?_
  refine SM.ru rfl rfl rfl (w_all rfl) rfl (lt_b rfl) (ru_nilCheck rfl rfl) ?_
  refine SM.ru rfl rfl rfl (w_all rfl) rfl (lt_b rfl) (ru_fieldAddr (o2 := 0) fd108_0 rfl rfl rfl) ?_
  refine SM.ru rfl rfl rfl (w_all rfl) rfl (lt_b rfl) (ru_indexA (o2 := 3) ar91 rfl rfl rfl (by decide) (by decide) rfl) ?_
  refine SM.ru rfl rfl rfl (w_all rfl) rfl (lt_b rfl) (ru_nic_r (q := 3) (i := 1) (by decide) ts3 rfl rfl rfl) ?_
  refine SM.call rfl rfl rfl rfl (w_all rfl) rfl (lt_b rfl) (iw (((((readF A 6).2).r 3) - (((readF A 6).2).r 2) + 16) % 16)) rfl rfl co85 rfl rfl (fun l' w hI => (rmany_any w (read_ok hk _).h2 (read_ok hk _).h3).mono fun e w2 ⟨h1, h2⟩ => ⟨h1, hI.only h2⟩) ?_
  refine SM.nilL (l' := [rBlk s [pt e 0, pt q 0, Value.slice qt T.length ct, Value.slice qc C.length cc, iw nx, iw fi] 122, rDevQ e F1 ((readF A 6).2), rRefP q rb FQ L, rRowO (.slice qt T.length ct) (ivs T) 3, rRowO (.slice qc C.length cc) (ivs C) 3, rRowN (.slice qo o.length co) (comeV o) 67 2]) rfl ?_
  refine SL.uu (ru_gt (b := (decide (((((((readF A 6).2).r 3) - (((readF A 6).2).r 2) + 16) % 16) : Int) < (C.length : Int)))) rfl rfl rfl rfl) ?_
  refine SL.nn [(0, pt s 0), (2, Value.slice none 0 0), (5, Value.slice qo o.length co), (99, bo (decide (((((((readF A 6).2).r 3) - (((readF A 6).2).r 2) + 16) % 16) : Int) < (C.length : Int))))] [rBlk s [pt e 0, pt q 0, Value.slice qt T.length ct, Value.slice qc C.length cc, iw nx, iw fi] 122, rDevQ e F1 ((readF A 6).2), rRefP q rb FQ L, rRowO (.slice qt T.length ct) (ivs T) 3, rRowO (.slice qc C.length cc) (ivs C) 3, rRowN (.slice qo o.length co) (comeV o) 67 2] ⟨rfl, rfl, rfl, rfl, trivial⟩ ?_
  refine SC.both (decide (((((((readF A 6).2).r 3) - (((readF A 6).2).r 2) + 16) % 16) : Int) < (C.length : Int))) rfl (fun h13 => ?_) (fun h13 => ?_)
  · skip
    have hl := of_decide_eq_true h13
    refine SC.skip ?_
    refine SC.of_SE ?_
    refine SC.norm [(0, pt s 0), (2, Value.slice none 0 0), (5, Value.slice qo o.length co)] _ ⟨rfl, rfl, rfl, trivial⟩ rfl ?_
    refine SC.block ?_
    refine SC.seq ?_
    refine SC.region_quiet (by kernel_rfl) (by kernel_rfl) ?_
    refine SQ.uu (ru_move rfl rfl) ?_
    refine SQ.uu (ru_nilCheck rfl rfl) ?_
    refine SQ.uu (ru_fieldAddr (o2 := 5) fd122_5 rfl rfl rfl) ?_
    refine SQ.uu (ru_load (i := 0) ts3 rfl rfl rfl rfl) ?_
    refine SQ.uu (ru_move rfl rfl) ?_
    refine SQ.uu (ru_nilCheck rfl rfl) ?_
    refine SQ.uu (ru_fieldAddr (o2 := 3) fd122_3 rfl rfl rfl) ?_
    refine SQ.uu (ru_load (i := 0) ts26 rfl rfl rfl rfl) ?_
    refine SQ.uu (ru_len Try.underlying26 rfl rfl) ?_
    refine SQ.uu (ru_sub (r := (IntKind.i64.wrap (fi - (C.length : Int)))) rfl rfl rfl rfl) ?_
    refine SQ.uu (ru_add (r := (IntKind.i64.wrap ((IntKind.i64.wrap (fi - (C.length : Int))) + 32))) rfl rfl rfl rfl) ?_
    refine SQ.uu (ru_rem (r := ((fi - (C.length : Int) + 32) % 16)) rfl rfl rfl (by decide) ((many32_eq (by omega) (by omega)))) ?_
    refine SQ.uu (ru_assign rfl rfl) ?_
    refine SQ.nilE ?_
    refine SC.of_SE ?_
    refine SC.norm [(0, pt s 0), (2, Value.slice none 0 0), (5, Value.slice qo o.length co), (6, iw ((fi - (C.length : Int) + 32) % 16))] _ ⟨rfl, rfl, rfl, rfl, trivial⟩ rfl ?_
    refine SC.sr ?_
    refine SL.mv ?_
    refine SL.nk ?_
    refine SL.uu (ru_fieldAddr (o2 := 0) fd122_0 rfl rfl rfl) ?_
    refine SL.uu (ru_load (i := 0) ts39 rfl rfl rfl rfl) ?_
    refine SL.mv ?_
    refine SL.call (ζ := Option Addr × Nat) (fun z => Value.tuple #[Value.slice z.1 ((rxR ((readF A 6).2) ((fi - (C.length : Int) + 32) % 16)).1.1.length) z.2, bo ((rxR ((readF A 6).2) ((fi - (C.length : Int) + 32) % 16)).1.2), iw ((rxR ((readF A 6).2) ((fi - (C.length : Int) + 32) % 16)).2)]) (fun z => [rBlk s [pt e 0, pt q 0, Value.slice qt T.length ct, Value.slice qc C.length cc, iw nx, iw fi] 122, rNicL 108 e F1 ((readF A 6).2) (.slice z.1 (rxR ((readF A 6).2) ((fi - (C.length : Int) + 32) % 16)).1.1.length z.2) (rxR ((readF A 6).2) ((fi - (C.length : Int) + 32) % 16)).1.1, rRefP q rb FQ L, rRowO (.slice qt T.length ct) (ivs T) 3, rRowO (.slice qc C.length cc) (ivs C) 3, rRowN (.slice qo o.length co) (comeV o) 67 2]) (fun z => True) rfl rfl co86 rfl rfl rfl (lt_b rfl) (fun w hI => (q_rx (read_ok hk _) (nic_at hI (i := 1) rfl) ((fi - (C.length : Int) + 32) % 16)).mono fun e w2 ⟨v, h1, h3, h4⟩ => by obtain ⟨qa, qc, rfl, k1⟩ := hI.lent (i := 1) rfl (.inl he) (NicAt.only (nic_at hI (i := 1) rfl) h3) (h3.mono (fun b hb => hb.elim)) h4; exact ⟨(qa, qc), h1, k1, trivial⟩) ?_
    rintro ⟨a14, c15⟩ _
    refine SL.mv ?_
    refine SL.uu (ru_extract rfl rfl rfl) ?_
    refine SL.uu (ru_extract rfl rfl rfl) ?_
    refine SL.uu (ru_extract rfl rfl rfl) ?_
    refine SL.as ?_
    refine SL.as ?_
    refine SL.as ?_
    refine SL.nn [(0, pt s 0), (2, Value.slice none 0 0), (5, Value.slice qo o.length co), (7, Value.slice a14 ((rxR ((readF A 6).2) ((fi - (C.length : Int) + 32) % 16)).1.1.length) c15), (8, bo ((rxR ((readF A 6).2) ((fi - (C.length : Int) + 32) % 16)).1.2))] [rBlk s [pt e 0, pt q 0, Value.slice qt T.length ct, Value.slice qc C.length cc, iw nx, iw fi] 122, rNicL 108 e F1 ((readF A 6).2) (.slice a14 (rxR ((readF A 6).2) ((fi - (C.length : Int) + 32) % 16)).1.1.length c15) (rxR ((readF A 6).2) ((fi - (C.length : Int) + 32) % 16)).1.1, rRefP q rb FQ L, rRowO (.slice qt T.length ct) (ivs T) 3, rRowO (.slice qc C.length cc) (ivs C) 3, rRowN (.slice qo o.length co) (comeV o) 67 2] ⟨rfl, rfl, rfl, rfl, rfl, trivial⟩ ?_
    refine SC.seq ?_
    refine SC.region_tail 11 (by kernel_rfl) (by kernel_rfl) ?_
    refine SQ.uu (ru_move rfl rfl) ?_
    refine SQ.uu (ru_nilCheck rfl rfl) ?_
    refine SQ.uu (ru_fieldAddr (o2 := 1) fd122_1 rfl rfl rfl) ?_
    refine SQ.uu (ru_load (i := 0) ts40 rfl rfl rfl rfl) ?_
    refine SQ.uu (ru_move rfl rfl) ?_
    refine SQ.uu (ru_nilCheck rfl rfl) ?_
    refine SQ.uu (ru_fieldAddr (o2 := 3) fd122_3 rfl rfl rfl) ?_
    refine SQ.uu (ru_load (i := 0) ts26 rfl rfl rfl rfl) ?_
    refine SQ.uu (ru_index_rowO (ri := 4) si26 rfl rfl rfl rfl (by omega) (by omega)) ?_
    refine SQ.uu (ru_load_rowO (ri := 4) (i := (0 : Int).toNat) ts3 rfl rfl rfl (ivs_get0 (by omega))) ?_
    refine SQ.uu (ru_move rfl rfl) ?_
    refine SQ.nilL ?_
    refine SL.call (ζ := Nat → Prop) (fun F16 => iw ((ownF L (C.getD 0 0) (setF ((rxR ((readF A 6).2) ((fi - (C.length : Int) + 32) % 16)).1.1))).1)) (fun F16 => [rBlk s [pt e 0, pt q 0, Value.slice qt T.length ct, Value.slice qc C.length cc, iw nx, iw fi] 122, rNicL 108 e F1 ((readF A 6).2) (.slice a14 (rxR ((readF A 6).2) ((fi - (C.length : Int) + 32) % 16)).1.1.length c15) (rxR ((readF A 6).2) ((fi - (C.length : Int) + 32) % 16)).1.1, rRefP q rb F16 ((ownF L (C.getD 0 0) (setF ((rxR ((readF A 6).2) ((fi - (C.length : Int) + 32) % 16)).1.1))).2), rRowO (.slice qt T.length ct) (ivs T) 3, rRowO (.slice qc C.length cc) (ivs C) 3, rRowN (.slice qo o.length co) (comeV o) 67 2]) (fun F16 => (∀ b, F16 b → G b ∨ w.heap.size ≤ b)) rfl rfl co67 rfl rfl rfl (lt_b rfl) (fun w hI => (rset_any (refp_at hI (i := 2) rfl) (C.getD 0 0) (hI.1.get (i := 1) rfl).2.1).mono fun e w2 ⟨h1, h2⟩ => by obtain ⟨F2, k1, k2⟩ := hI.refPTo (F0 := G) (i := 2) rfl (.inl hrb) h2 hFQ; exact ⟨F2, h1, k1, k2⟩) ?_
    intro F16 hF16
    refine SL.nil ?_
    refine SE.weak (i := 1) (rDevQ e F1 ((readF A 6).2)) rfl (fun w h => h.1) (fun b hb => hb) ?_
    refine SC.of_SE ?_
    refine SC.norm [(0, pt s 0), (2, Value.slice none 0 0), (5, Value.slice qo o.length co), (8, bo ((rxR ((readF A 6).2) ((fi - (C.length : Int) + 32) % 16)).1.2))] [rBlk s [pt e 0, pt q 0, Value.slice qt T.length ct, Value.slice qc C.length cc, iw nx, iw fi] 122, rDevQ e F1 ((readF A 6).2), rRefP q rb F16 ((ownF L (C.getD 0 0) (setF ((rxR ((readF A 6).2) ((fi - (C.length : Int) + 32) % 16)).1.1))).2), rRowO (.slice qt T.length ct) (ivs T) 3, rRowO (.slice qc C.length cc) (ivs C) 3, rRowN (.slice qo o.length co) (comeV o) 67 2] ⟨rfl, rfl, rfl, rfl, trivial⟩ rfl ?_
    refine SC.sr ?_
    refine SL.mv ?_
    refine SL.mv ?_
    refine SL.nk ?_
    refine SL.uu (ru_fieldAddr (o2 := 3) fd122_3 rfl rfl rfl) ?_
    refine SL.uu (ru_load (i := 0) ts26 rfl rfl rfl rfl) ?_
    refine SL.uu (ru_index_rowO (ri := 4) si26 rfl rfl rfl rfl (by omega) (by omega)) ?_
    refine SL.uu (ru_load_rowO (ri := 4) (i := (0 : Int).toNat) ts3 rfl rfl rfl (ivs_get0 (by omega))) ?_
    refine SL.mv ?_
    refine SL.uu (ru_build (vals := [(0, iw (C.getD 0 0)), (1, bo ((rxR ((readF A 6).2) ((fi - (C.length : Int) + 32) % 16)).1.2))]) (cells := [iw (C.getD 0 0), bo ((rxR ((readF A 6).2) ((fi - (C.length : Int) + 32) % 16)).1.2)]) rfl rfl (by kernel_rfl)) ?_
    refine SL.buildSlice (size := 2) (vals := [(0, Value.agg #[iw (C.getD 0 0), bo ((rxR ((readF A 6).2) ((fi - (C.length : Int) + 32) % 16)).1.2)])]) (z := [iw 0, bo false]) (cs := [iw (C.getD 0 0), bo ((rxR ((readF A 6).2) ((fi - (C.length : Int) + 32) % 16)).1.2)]) rfl rfl (lt_b rfl) rfl Try.underlying61 (by kernel_rfl) rfl rfl (by kernel_rfl) fun b17 hb17 => ?_
    refine SL.append_rowN (ri := 5) (rj := 6) (size := 2) (r := [iw (C.getD 0 0), bo ((rxR ((readF A 6).2) ((fi - (C.length : Int) + 32) % 16)).1.2)]) (z := Value.agg #[iw 0, bo false]) (bytes := 16) rfl rfl (lt_b rfl) rfl (by decide) Try.underlying61 (by kernel_rfl) rfl rfl rfl rfl rfl rfl rfl (by rw [comeV_len]; omega) (by unfold maxLen; rw [comeV_len]; omega) (fun b hb => hqo b hb) fun q18 c19 hq20 => ?_
    refine SL.as ?_
    refine SL.nn [(0, pt s 0), (2, Value.slice none 0 0), (5, Value.slice q18 (o.length + 1) c19)] [rBlk s [pt e 0, pt q 0, Value.slice qt T.length ct, Value.slice qc C.length cc, iw nx, iw fi] 122, rDevQ e F1 ((readF A 6).2), rRefP q rb F16 ((ownF L (C.getD 0 0) (setF ((rxR ((readF A 6).2) ((fi - (C.length : Int) + 32) % 16)).1.1))).2), rRowO (.slice qt T.length ct) (ivs T) 3, rRowO (.slice qc C.length cc) (ivs C) 3, rRowN (.slice q18 (o.length + 1) c19) (comeV o ++ [[iw (C.getD 0 0), bo ((rxR ((readF A 6).2) ((fi - (C.length : Int) + 32) % 16)).1.2)]]) 67 2, rBlk b17 [iw (C.getD 0 0), bo ((rxR ((readF A 6).2) ((fi - (C.length : Int) + 32) % 16)).1.2)] 67] ⟨rfl, rfl, rfl, trivial⟩ ?_
    refine SC.fact (p := C.length ≤ cc) (fun w hI => rowO_le (hI.1.get (i := 4) rfl)) fun hle => ?_
    refine SC.region ?_
    refine SL.mv ?_
    refine SL.mv ?_
    refine SL.nk ?_
    refine SL.uu (ru_fieldAddr (o2 := 3) fd122_3 rfl rfl rfl) ?_
    refine SL.uu (ru_load (i := 0) ts26 rfl rfl rfl rfl) ?_
    refine SL.uu (ru_sliceV (size := 1) (l0 := 1) (h0 := C.length) (m0 := cc) (v := Value.slice (tq qc cc) (C.length - 1) (cc - 1)) rfl si26 rfl rfl rfl rfl rfl (by simp) (by omega) (by omega) (by omega)) ?_
    refine SL.nk ?_
    refine SL.uu (ru_fieldAddr (o2 := 3) fd122_3 rfl rfl rfl) ?_
    refine SL.store (i := 0) (c' := [pt e 0, pt q 0, Value.slice qt T.length ct, Value.slice (tq qc cc) (C.length - 1) (cc - 1), iw nx, iw fi]) rfl rfl ts26 rfl rfl rfl rfl rfl (lt_b rfl) (.inl hs) rfl ?_
    refine SL.nil ?_
    refine SE.weak (i := 4) (rRowO (.slice (tq qc cc) (C.length - 1) (cc - 1)) ((ivs C).drop 1) 3) rfl (fun w h => (RowO.tail (n := C.length) (c := cc) (xs := ivs C) h (by clear h; omega)).1) (fun b hb => tq_own hb) ?_
    refine SE.blkn ?_
    refine SE.keep 6 ?_
    refine SE.again (n - 1) (F16, (ownF L (C.getD 0 0) (setF ((rxR ((readF A 6).2) ((fi - (C.length : Int) + 32) % 16)).1.1))).2, C.drop 1, tq qc cc, cc - 1, o ++ [((C.getD 0 0), ((rxR ((readF A 6).2) ((fi - (C.length : Int) + 32) % 16)).1.2))], q18, c19) (by omega) ⟨by simp; omega, by simp; omega, (lim_own hL h1B _ (setF_lim _)), hF16, fun b hb => hCo b (tq_own hb), by simpa only [List.length_append, List.length_singleton] using hq20⟩ ⟨rfl, rfl, (congrArg (fun x => some (Value.slice q18 x c19)) (by simp)), trivial⟩ (by simp only [List.length_drop, ivs_drop1, comeV_snoc, List.length_append, List.length_singleton]; rfl)
  refine SC.exit ?_
  refine SE.passe ?_
  refine SE.passe ?_
  refine SE.blke ?_
  refine SC.of_SE ?_
  refine SC.norm [(0, pt s 0), (2, Value.slice none 0 0), (5, Value.slice qo o.length co)] _ ⟨rfl, rfl, rfl, trivial⟩ rfl ?_
  refine SC.seq ?_
  refine SC.packRef (Z := (RefS.mk ((readF A 6).2) L T C nx fi)) (l := [rRowN (.slice qo o.length co) (comeV o) 67 2]) ?_
  have hfp := fps_in (w := w) (Z := (RefS.mk ((readF A 6).2) L T C nx fi)) (qt := qt) (ct := ct) (qc := qc) (cc := cc) (q := q) (rb := rb) hF1 hFQ (.inl hs) (.inl he) (.inl hq) (.inl hrb) hTo hCo
  refine SC.region ?_
  refine SL.mv ?_
  refine SL.call (ζ := Unit × RefS × (Nat → Prop)) (fun z => Value.tuple #[]) (fun z => [rRefR s e q z.2.2 z.2.1, rRowN (.slice qo o.length co) (comeV o) 67 2]) (fun z => RB B z.2.1 ∧ ∀ b, z.2.2 b → G b ∨ w.heap.size ≤ b) rfl rfl co80 rfl rfl rfl (lt_b rfl) (fun w9 hI => ref_call (α := Unit) (j := 0) (val := fun _ => .tuple #[]) (B' := B) hI rfl hfp (fun rb2 FE2 FQ2 qt2 ct2 qc2 cc2 k1 k2 k3 k4 k5 k6 k7 k8 k9 => (rfillT_any (Z := (RefS.mk ((readF A 6).2) L T C nx fi)) (⟨(read_ok hk _), hn, hf, by simp only; omega, by simp only; omega⟩ : RefOk (RefS.mk ((readF A 6).2) L T C nx fi)) (lim_few hL (by omega)) k2 k3 k5 k6 k7 k8 k9 k1).mono fun e2 w2 ⟨h1, h2⟩ => ⟨(), rfillF (RefS.mk ((readF A 6).2) L T C nx fi), h1, ⟨(rfill_ok (Z := (RefS.mk ((readF A 6).2) L T C nx fi)) (⟨(read_ok hk _), hn, hf, by simp only; omega, by simp only; omega⟩ : RefOk (RefS.mk ((readF A 6).2) L T C nx fi)) (lim_few hL (by omega))).1, lim_rfill (Z := (RefS.mk ((readF A 6).2) L T C nx fi)) hL h1B⟩, h2⟩)) ?_
  rintro ⟨_, Z3, G3⟩ ⟨hRB, hG3⟩
  refine SL.nn [(2, Value.slice none 0 0), (5, Value.slice qo o.length co)] [rRefR s e q G3 Z3, rRowN (.slice qo o.length co) (comeV o) 67 2] ⟨rfl, rfl, trivial⟩ ?_
  refine SC.sr ?_
  refine SL.mv ?_
  refine SL.as ?_
  refine SL.nn [(2, Value.slice qo o.length co)] _ ⟨rfl, trivial⟩ ?_
  refine SC.ret ?_
  refine SE.res (.inl rfl) (res1 Try.results74 rfl) fun w1 hI => ⟨qo, co, o, Z3, G3, rfl, hRB.up, hI.1, hG3, hqo, by omega, hI.2⟩

end Go.Proofs.Ytghfkgcaglabpaa

/-
  Send, of the document's ring.
-/
namespace Go.Proofs.Ytghfkgcaglabpaa
open Go.RowKit
set_option maxRecDepth 100000
set_option maxHeartbeats 4000000
theorem rsend_any {w : World} {s e q rb B : Nat} {FE FQ G : Nat → Prop} {A : NicA} {L : List Bf} {T C : List Int} {nx fi : Int} {qt qc : Option Addr} {ct cc : Nat} (hk : NicOk A) (hL : Lim B L) (h1B : 1 ≤ B) (hB : B ≤ 10000000000000) (hn : 0 ≤ nx ∧ nx < 16) (hf : 0 ≤ fi ∧ fi < 16) (ht : T.length ≤ 15) (hc : C.length ≤ 15) (hs : G s) (he : G e) (hrb : G rb) (hFE : ∀ b, FE b → G b ∨ w.heap.size ≤ b) (hFQ : ∀ b, FQ b → G b ∨ w.heap.size ≤ b) (hTo : ∀ b, (Value.slice qt T.length ct).ownBlock = some b → G b ∨ w.heap.size ≤ b) (hCo : ∀ b, (Value.slice qc C.length cc).ownBlock = some b → G b ∨ w.heap.size ≤ b) (id : Int) (h : Sep w [rs6 s e q (.slice qt T.length ct) (.slice qc C.length cc) nx fi, rDevQ e FE A, rRefP q rb FQ L, rRowO (.slice qt T.length ct) (ivs T) 3, rRowO (.slice qc C.length cc) (ivs C) 3]) : Calls Try.prog 45 #[pt s 0, iw id] w fun e' w' => ∃ x Z', e' = .returned (iw x) ∧ RB (B + 1) Z' ∧ RRTo w s e q rb G Z' w' := by
  refine calls_sc (l0 := [rs6 s e q (.slice qt T.length ct) (.slice qc C.length cc) nx fi, rDevQ e FE A, rRefP q rb FQ L, rRowO (.slice qt T.length ct) (ivs T) 3, rRowO (.slice qc C.length cc) (ivs C) 3]) (args := [pt s 0, iw id]) G Try.func45 rfl 90 Try.ntmps45 (le_b rfl) ⟨h, Only.refl _ _⟩ ?_
  show SC _ _ _ _ [(0, pt s 0), (1, iw id)] [rs6 s e q (.slice qt T.length ct) (.slice qc C.length cc) nx fi, rDevQ e FE A, rRefP q rb FQ L, rRowO (.slice qt T.length ct) (ivs T) 3, rRowO (.slice qc C.length cc) (ivs C) 3]
  refine SC.sr ?_
  refine SL.as ?_
  refine SL.nn [(0, pt s 0), (1, iw id), (4, iw 0)] [rBlk s [pt e 0, pt q 0, Value.slice qt T.length ct, Value.slice qc C.length cc, iw nx, iw fi] 122, rDevQ e FE A, rRefP q rb FQ L, rRowO (.slice qt T.length ct) (ivs T) 3, rRowO (.slice qc C.length cc) (ivs C) 3] ⟨rfl, rfl, rfl, trivial⟩ ?_
  refine SC.sr ?_
  refine SL.mv ?_
  refine SL.nk ?_
  refine SL.uu (ru_fieldAddr (o2 := 1) fd122_1 rfl rfl rfl) ?_
  refine SL.uu (ru_load (i := 0) ts40 rfl rfl rfl rfl) ?_
  refine SL.mv ?_
  refine SL.call (ζ := Option Addr × Nat × Option Addr × Nat) (fun z => Value.tuple #[Value.agg #[iw ((seeF L id).1.refs : Int), Value.slice z.1 ((seeF L id).1.head.length) z.2.1, Value.slice z.2.2.1 ((seeF L id).1.data.length) z.2.2.2], iw ((seeF L id).2)]) (fun z => [rBlk s [pt e 0, pt q 0, Value.slice qt T.length ct, Value.slice qc C.length cc, iw nx, iw fi] 122, rDevQ e FE A, rRefPS q rb FQ L (.slice z.1 (seeF L id).1.head.length z.2.1) (seeF L id).1.head (.slice z.2.2.1 (seeF L id).1.data.length z.2.2.2) (seeF L id).1.data, rRowO (.slice qt T.length ct) (ivs T) 3, rRowO (.slice qc C.length cc) (ivs C) 3]) (fun z => True) rfl rfl co70 rfl rfl rfl (lt_b rfl) (fun w hI => (rsee_any (refp_at hI (i := 2) rfl) id).mono fun e w2 ⟨qh, ch, qd, cd, h1, h2, h3, h4, h5, h6⟩ => ⟨(qh, ch, qd, cd), h1, hI.seen (i := 2) rfl h2 h3 h4 h5 h6, trivial⟩) ?_
  rintro ⟨qh1, ch2, qd3, cd4⟩ _
  refine SL.mv ?_
  refine SL.uu (ru_extract rfl rfl rfl) ?_
  refine SL.uu (ru_extract rfl rfl rfl) ?_
  refine SL.alloca rfl rfl (lt_b rfl) ta33 rfl fun b5 hb5 => ?_
  refine SL.storea (i := 5) (vs := [iw ((seeF L id).1.refs : Int), Value.slice qh1 ((seeF L id).1.head.length) ch2, Value.slice qd3 ((seeF L id).1.data.length) cd4]) (c' := [iw ((seeF L id).1.refs : Int), Value.slice qh1 ((seeF L id).1.head.length) ch2, Value.slice qd3 ((seeF L id).1.data.length) cd4]) rfl rfl ta33 rfl rfl rfl rfl rfl rfl (le_b rfl) (.inr hb5) rfl ?_
  refine SL.as ?_
  refine SL.nn [(0, pt s 0), (1, iw id), (4, iw 0), (5, pt b5 0), (6, iw ((seeF L id).2))] [rBlk s [pt e 0, pt q 0, Value.slice qt T.length ct, Value.slice qc C.length cc, iw nx, iw fi] 122, rDevQ e FE A, rRefPS q rb FQ L (.slice qh1 (seeF L id).1.head.length ch2) (seeF L id).1.head (.slice qd3 (seeF L id).1.data.length cd4) (seeF L id).1.data, rRowO (.slice qt T.length ct) (ivs T) 3, rRowO (.slice qc C.length cc) (ivs C) 3, rBlk b5 [iw ((seeF L id).1.refs : Int), Value.slice qh1 ((seeF L id).1.head.length) ch2, Value.slice qd3 ((seeF L id).1.data.length) cd4] 33] ⟨rfl, rfl, rfl, rfl, rfl, trivial⟩ ?_
  refine SC.seq ?_
  refine SC.sr ?_
  refine SL.mv ?_
  refine SL.uu (ru_ne (b := ((((seeF L id).2) : Int) != 0)) rfl rfl rfl rfl) ?_
  refine SL.nn [(0, pt s 0), (1, iw id), (4, iw 0), (5, pt b5 0), (6, iw ((seeF L id).2)), (19, bo ((((seeF L id).2) : Int) != 0))] _ ⟨rfl, rfl, rfl, rfl, rfl, rfl, trivial⟩ ?_
  refine SC.both ((((seeF L id).2) : Int) != 0) rfl (fun h6 => ?_) (fun h6 => ?_)
  · skip
    refine SC.sr ?_
    refine SL.mv ?_
    refine SL.as ?_
    refine SL.nn [(0, pt s 0), (1, iw id), (4, iw ((seeF L id).2)), (5, pt b5 0)] _ ⟨rfl, rfl, rfl, rfl, trivial⟩ ?_
    refine SC.ret ?_
    refine SE.passr ?_
    refine SE.weak (i := 2) (rRefP q rb FQ L) rfl (fun w h => h.1) (fun b hb => hb) ?_
    refine SE.res (.inl rfl) (res1 Try.results45 rfl) fun w1 hI => ⟨(seeF L id).2, ⟨A, L, T, C, nx, fi⟩, rfl, ⟨⟨hk, by first | exact hn | (simp only; omega), by first | exact hf | (simp only; omega), by first | (simp only; omega) | (simp only [List.length_append, List.length_cons, List.length_nil]; omega), by first | (simp only; omega) | (simp only [List.length_append, List.length_cons, List.length_nil]; omega)⟩, (lim_up hL)⟩, FE, FQ, qt, ct, qc, cc, ?_, hFE, hFQ, ?_, ?_, hI.2⟩
    · exact (hI.pick (js := [0, 1, 2, 3, 4]) rfl).1
    · exact hTo
    · exact hCo
  refine SC.skip ?_
  refine SC.of_SE ?_
  refine SC.norm [(0, pt s 0), (1, iw id), (4, iw 0), (5, pt b5 0)] _ ⟨rfl, rfl, rfl, rfl, trivial⟩ rfl ?_
  refine SC.seq ?_
  refine SC.sr ?_
  refine SL.mv ?_
  refine SL.nk ?_
  refine SL.uu (ru_fieldAddr (o2 := 0) fd122_0 rfl rfl rfl) ?_
  refine SL.uu (ru_load (i := 0) ts39 rfl rfl rfl rfl) ?_
  refine SL.nk ?_
  refine SL.uu (ru_fieldAddr (o2 := 0) fd108_0 rfl rfl rfl) ?_
  refine SL.uu (ru_indexA (o2 := 1) ar91 rfl rfl rfl (by decide) (by decide) rfl) ?_
  refine SL.uu (ru_nic_r (q := 1) (i := 1) (by decide) ts3 rfl rfl rfl) ?_
  refine SL.uu (ru_eq (b := (((A.r 1) : Int) == 0)) rfl rfl rfl rfl) ?_
  refine SL.nn [(0, pt s 0), (1, iw id), (4, iw 0), (5, pt b5 0), (29, bo (((A.r 1) : Int) == 0))] _ ⟨rfl, rfl, rfl, rfl, rfl, trivial⟩ ?_
  refine SC.both (((A.r 1) : Int) == 0) rfl (fun h7 => ?_) (fun h7 => ?_)
  · skip
    refine SC.sr ?_
    refine SL.as ?_
    refine SL.nn [(0, pt s 0), (1, iw id), (4, iw 20), (5, pt b5 0)] _ ⟨rfl, rfl, rfl, rfl, trivial⟩ ?_
    refine SC.ret ?_
    refine SE.passr ?_
    refine SE.weak (i := 2) (rRefP q rb FQ L) rfl (fun w h => h.1) (fun b hb => hb) ?_
    refine SE.res (.inl rfl) (res1 Try.results45 rfl) fun w1 hI => ⟨20, ⟨A, L, T, C, nx, fi⟩, rfl, ⟨⟨hk, by first | exact hn | (simp only; omega), by first | exact hf | (simp only; omega), by first | (simp only; omega) | (simp only [List.length_append, List.length_cons, List.length_nil]; omega), by first | (simp only; omega) | (simp only [List.length_append, List.length_cons, List.length_nil]; omega)⟩, (lim_up hL)⟩, FE, FQ, qt, ct, qc, cc, ?_, hFE, hFQ, ?_, ?_, hI.2⟩
    · exact (hI.pick (js := [0, 1, 2, 3, 4]) rfl).1
    · exact hTo
    · exact hCo
  refine SC.skip ?_
  refine SC.of_SE ?_
  refine SC.norm [(0, pt s 0), (1, iw id), (4, iw 0), (5, pt b5 0)] _ ⟨rfl, rfl, rfl, rfl, trivial⟩ rfl ?_
  refine SC.seq ?_
  refine SC.sr ?_
  refine SL.mv ?_
  refine SL.nk ?_
  refine SL.uu (ru_fieldAddr (o2 := 2) fd122_2 rfl rfl rfl) ?_
  refine SL.uu (ru_load (i := 0) ts26 rfl rfl rfl rfl) ?_
  refine SL.uu (ru_len Try.underlying26 rfl rfl) ?_
  refine SL.uu (ru_eq (b := (((T.length : Int) : Int) == 15)) rfl rfl rfl rfl) ?_
  refine SL.nn [(0, pt s 0), (1, iw id), (4, iw 0), (5, pt b5 0), (35, bo (((T.length : Int) : Int) == 15))] _ ⟨rfl, rfl, rfl, rfl, rfl, trivial⟩ ?_
  refine SC.both (((T.length : Int) : Int) == 15) rfl (fun h8 => ?_) (fun h8 => ?_)
  · skip
    refine SC.sr ?_
    refine SL.as ?_
    refine SL.nn [(0, pt s 0), (1, iw id), (4, iw 21), (5, pt b5 0)] _ ⟨rfl, rfl, rfl, rfl, trivial⟩ ?_
    refine SC.ret ?_
    refine SE.passr ?_
    refine SE.weak (i := 2) (rRefP q rb FQ L) rfl (fun w h => h.1) (fun b hb => hb) ?_
    refine SE.res (.inl rfl) (res1 Try.results45 rfl) fun w1 hI => ⟨21, ⟨A, L, T, C, nx, fi⟩, rfl, ⟨⟨hk, by first | exact hn | (simp only; omega), by first | exact hf | (simp only; omega), by first | (simp only; omega) | (simp only [List.length_append, List.length_cons, List.length_nil]; omega), by first | (simp only; omega) | (simp only [List.length_append, List.length_cons, List.length_nil]; omega)⟩, (lim_up hL)⟩, FE, FQ, qt, ct, qc, cc, ?_, hFE, hFQ, ?_, ?_, hI.2⟩
    · exact (hI.pick (js := [0, 1, 2, 3, 4]) rfl).1
    · exact hTo
    · exact hCo
  have hT15 := eq_f h8
  refine SC.skip ?_
  refine SC.of_SE ?_
  refine SC.norm [(0, pt s 0), (1, iw id), (4, iw 0), (5, pt b5 0)] _ ⟨rfl, rfl, rfl, rfl, trivial⟩ rfl ?_
  refine SC.sr ?_
  refine SL.uu (ru_fieldAddr (o2 := 1) fd33_1 rfl rfl rfl) ?_
  refine SL.uu (ru_load (i := 5) ts28 rfl rfl rfl rfl) ?_
  refine SL.append0 (f := ((seeF L id).1.head)) rfl rfl (lt_b rfl) rfl Try.underlying28 (by kernel_rfl) rfl rfl (fun w hI => (hI.1.get (i := 2) rfl).2.1.1) fun q9 c10 hq11 => ?_
  refine SL.as ?_
  refine SL.nn [(0, pt s 0), (1, iw id), (4, iw 0), (5, pt b5 0), (7, Value.slice q9 ((seeF L id).1.head.length) c10)] [rBlk s [pt e 0, pt q 0, Value.slice qt T.length ct, Value.slice qc C.length cc, iw nx, iw fi] 122, rDevQ e FE A, rRefPS q rb FQ L (.slice qh1 (seeF L id).1.head.length ch2) (seeF L id).1.head (.slice qd3 (seeF L id).1.data.length cd4) (seeF L id).1.data, rRowO (.slice qt T.length ct) (ivs T) 3, rRowO (.slice qc C.length cc) (ivs C) 3, rBlk b5 [iw ((seeF L id).1.refs : Int), Value.slice qh1 ((seeF L id).1.head.length) ch2, Value.slice qd3 ((seeF L id).1.data.length) cd4] 33, rMine (.slice q9 (seeF L id).1.head.length c10) ((seeF L id).1.head) 5] ⟨rfl, rfl, rfl, rfl, rfl, trivial⟩ ?_
  refine SC.sr ?_
  refine SL.mv ?_
  refine SL.uu (ru_fieldAddr (o2 := 2) fd33_2 rfl rfl rfl) ?_
  refine SL.uu (ru_load (i := 5) ts28 rfl rfl rfl rfl) ?_
  refine SL.append_mine (ri := 6) (h := ((seeF L id).1.data)) rfl rfl (lt_b rfl) rfl Try.underlying28 (by kernel_rfl) rfl rfl rfl (fun w hI => (hI.1.get (i := 2) rfl).2.2.1) (by have := (see_lim hL id); omega) (fun b hb => .inr (hq11 b hb)) fun q12 c13 hq14 => ?_
  refine SL.as ?_
  refine SL.nil ?_
  refine SE.weak (i := 2) (rRefP q rb FQ L) rfl (fun w h => h.1) (fun b hb => hb) ?_
  refine SC.of_SE ?_
  refine SC.norm [(0, pt s 0), (1, iw id), (4, iw 0), (7, Value.slice q12 (((seeF L id).1.head ++ (seeF L id).1.data).length) c13)] [rBlk s [pt e 0, pt q 0, Value.slice qt T.length ct, Value.slice qc C.length cc, iw nx, iw fi] 122, rDevQ e FE A, rRefP q rb FQ L, rRowO (.slice qt T.length ct) (ivs T) 3, rRowO (.slice qc C.length cc) (ivs C) 3, rBlk b5 [iw ((seeF L id).1.refs : Int), Value.slice qh1 ((seeF L id).1.head.length) ch2, Value.slice qd3 ((seeF L id).1.data.length) cd4] 33, rMine (.slice q12 ((seeF L id).1.head ++ (seeF L id).1.data).length c13) ((seeF L id).1.head ++ (seeF L id).1.data) 5] ⟨rfl, rfl, rfl, rfl, trivial⟩ rfl ?_
  refine SC.seq ?_
  refine SC.region_tail 9 (by kernel_rfl) (by kernel_rfl) ?_
  refine SQ.uu (ru_move rfl rfl) ?_
  refine SQ.uu (ru_nilCheck rfl rfl) ?_
  refine SQ.uu (ru_fieldAddr (o2 := 0) fd122_0 rfl rfl rfl) ?_
  refine SQ.uu (ru_load (i := 0) ts39 rfl rfl rfl rfl) ?_
  refine SQ.uu (ru_move rfl rfl) ?_
  refine SQ.uu (ru_nilCheck rfl rfl) ?_
  refine SQ.uu (ru_fieldAddr (o2 := 4) fd122_4 rfl rfl rfl) ?_
  refine SQ.uu (ru_load (i := 0) ts3 rfl rfl rfl rfl) ?_
  refine SQ.uu (ru_move rfl rfl) ?_
  refine SQ.nilL ?_
  refine SL.call (ζ := Nat → Prop) (fun F15 => iw ((setTxF A nx ((seeF L id).1.head ++ (seeF L id).1.data)).1)) (fun F15 => [rBlk s [pt e 0, pt q 0, Value.slice qt T.length ct, Value.slice qc C.length cc, iw nx, iw fi] 122, rDevQ e F15 ((setTxF A nx ((seeF L id).1.head ++ (seeF L id).1.data)).2), rRefP q rb FQ L, rRowO (.slice qt T.length ct) (ivs T) 3, rRowO (.slice qc C.length cc) (ivs C) 3, rBlk b5 [iw ((seeF L id).1.refs : Int), Value.slice qh1 ((seeF L id).1.head.length) ch2, Value.slice qd3 ((seeF L id).1.data.length) cd4] 33, rMine (.slice q12 ((seeF L id).1.head ++ (seeF L id).1.data).length c13) ((seeF L id).1.head ++ (seeF L id).1.data) 5]) (fun F15 => (∀ b, F15 b → G b ∨ w.heap.size ≤ b)) rfl rfl co71 rfl rfl rfl (lt_b rfl) (fun w hI => (q_settx hk (nic_at hI (i := 1) rfl) (mine_bytes hI (j := 6) rfl (by rw [List.length_append]; have := (see_lim hL id); omega)) ((mineIn hI (j := 6) (i := 1) rfl rfl (by decide)).mono (fun b hb e1 => hb (.inl e1))) nx).mono fun e w2 ⟨h1, h2⟩ => by obtain ⟨F2, k1, k2⟩ := hI.nicB (F0 := G) (i := 1) rfl (.inl he) h2 hFE; exact ⟨F2, h1, k1, k2⟩) ?_
  intro F15 hF15
  refine SL.as ?_
  refine SL.nn [(0, pt s 0), (1, iw id), (4, iw 0), (8, iw ((setTxF A nx ((seeF L id).1.head ++ (seeF L id).1.data)).1))] [rBlk s [pt e 0, pt q 0, Value.slice qt T.length ct, Value.slice qc C.length cc, iw nx, iw fi] 122, rDevQ e F15 ((setTxF A nx ((seeF L id).1.head ++ (seeF L id).1.data)).2), rRefP q rb FQ L, rRowO (.slice qt T.length ct) (ivs T) 3, rRowO (.slice qc C.length cc) (ivs C) 3, rBlk b5 [iw ((seeF L id).1.refs : Int), Value.slice qh1 ((seeF L id).1.head.length) ch2, Value.slice qd3 ((seeF L id).1.data.length) cd4] 33, rMine (.slice q12 ((seeF L id).1.head ++ (seeF L id).1.data).length c13) ((seeF L id).1.head ++ (seeF L id).1.data) 5] ⟨rfl, rfl, rfl, rfl, trivial⟩ ?_
  refine SC.seq ?_
  refine SC.sr ?_
  refine SL.mv ?_
  refine SL.uu (ru_ne (b := ((((setTxF A nx ((seeF L id).1.head ++ (seeF L id).1.data)).1) : Int) != 0)) rfl rfl rfl rfl) ?_
  refine SL.nn [(0, pt s 0), (1, iw id), (4, iw 0), (8, iw ((setTxF A nx ((seeF L id).1.head ++ (seeF L id).1.data)).1)), (54, bo ((((setTxF A nx ((seeF L id).1.head ++ (seeF L id).1.data)).1) : Int) != 0))] _ ⟨rfl, rfl, rfl, rfl, rfl, trivial⟩ ?_
  refine SC.both ((((setTxF A nx ((seeF L id).1.head ++ (seeF L id).1.data)).1) : Int) != 0) rfl (fun h16 => ?_) (fun h16 => ?_)
  · skip
    refine SC.sr ?_
    refine SL.mv ?_
    refine SL.as ?_
    refine SL.nn [(0, pt s 0), (1, iw id), (4, iw ((setTxF A nx ((seeF L id).1.head ++ (seeF L id).1.data)).1))] _ ⟨rfl, rfl, rfl, trivial⟩ ?_
    refine SC.ret ?_
    refine SE.passr ?_
    refine SE.res (.inl rfl) (res1 Try.results45 rfl) fun w1 hI => ⟨(setTxF A nx ((seeF L id).1.head ++ (seeF L id).1.data)).1, ⟨(setTxF A nx ((seeF L id).1.head ++ (seeF L id).1.data)).2, L, T, C, nx, fi⟩, rfl, ⟨⟨(setTx_ok hk _ _), by first | exact hn | (simp only; omega), by first | exact hf | (simp only; omega), by first | (simp only; omega) | (simp only [List.length_append, List.length_cons, List.length_nil]; omega), by first | (simp only; omega) | (simp only [List.length_append, List.length_cons, List.length_nil]; omega)⟩, (lim_up hL)⟩, F15, FQ, qt, ct, qc, cc, ?_, hF15, hFQ, ?_, ?_, hI.2⟩
    · exact (hI.pick (js := [0, 1, 2, 3, 4]) rfl).1
    · exact hTo
    · exact hCo
  refine SC.skip ?_
  refine SC.of_SE ?_
  refine SC.norm [(0, pt s 0), (1, iw id), (4, iw 0)] _ ⟨rfl, rfl, rfl, trivial⟩ rfl ?_
  refine SC.sr ?_
  refine SL.mv ?_
  refine SL.mv ?_
  refine SL.nk ?_
  refine SL.uu (ru_fieldAddr (o2 := 4) fd122_4 rfl rfl rfl) ?_
  refine SL.uu (ru_load (i := 0) ts3 rfl rfl rfl rfl) ?_
  refine SL.uu (ru_add (r := (IntKind.i64.wrap (nx + 1))) rfl rfl rfl rfl) ?_
  refine SL.uu (ru_rem (r := ((nx + 1) % 16)) rfl rfl rfl (by decide) ((at_eq hn (by omega)))) ?_
  refine SL.nk ?_
  refine SL.uu (ru_fieldAddr (o2 := 4) fd122_4 rfl rfl rfl) ?_
  refine SL.store (i := 0) (c' := [pt e 0, pt q 0, Value.slice qt T.length ct, Value.slice qc C.length cc, iw ((nx + 1) % 16), iw fi]) rfl rfl ts3 rfl rfl rfl rfl rfl (lt_b rfl) (.inl hs) rfl ?_
  refine SL.nn [(0, pt s 0), (1, iw id), (4, iw 0)] [rBlk s [pt e 0, pt q 0, Value.slice qt T.length ct, Value.slice qc C.length cc, iw ((nx + 1) % 16), iw fi] 122, rDevQ e F15 ((setTxF A nx ((seeF L id).1.head ++ (seeF L id).1.data)).2), rRefP q rb FQ L, rRowO (.slice qt T.length ct) (ivs T) 3, rRowO (.slice qc C.length cc) (ivs C) 3, rBlk b5 [iw ((seeF L id).1.refs : Int), Value.slice qh1 ((seeF L id).1.head.length) ch2, Value.slice qd3 ((seeF L id).1.data.length) cd4] 33, rMine (.slice q12 ((seeF L id).1.head ++ (seeF L id).1.data).length c13) ((seeF L id).1.head ++ (seeF L id).1.data) 5] ⟨rfl, rfl, rfl, trivial⟩ ?_
  refine SC.seq ?_
  refine SC.region_tail 8 (by kernel_rfl) (by kernel_rfl) ?_
  refine SQ.uu (ru_move rfl rfl) ?_
  refine SQ.uu (ru_nilCheck rfl rfl) ?_
  refine SQ.uu (ru_fieldAddr (o2 := 0) fd122_0 rfl rfl rfl) ?_
  refine SQ.uu (ru_load (i := 0) ts39 rfl rfl rfl rfl) ?_
  refine SQ.uu (ru_move rfl rfl) ?_
  refine SQ.uu (ru_nilCheck rfl rfl) ?_
  refine SQ.uu (ru_fieldAddr (o2 := 4) fd122_4 rfl rfl rfl) ?_
  refine SQ.uu (ru_load (i := 0) ts3 rfl rfl rfl rfl) ?_
  refine SQ.nilL ?_
  refine SL.call (ζ := Nat → Prop) (fun F17 => iw ((writeF ((setTxF A nx ((seeF L id).1.head ++ (seeF L id).1.data)).2) 5 ((nx + 1) % 16)).1)) (fun F17 => [rBlk s [pt e 0, pt q 0, Value.slice qt T.length ct, Value.slice qc C.length cc, iw ((nx + 1) % 16), iw fi] 122, rDevQ e F17 ((writeF ((setTxF A nx ((seeF L id).1.head ++ (seeF L id).1.data)).2) 5 ((nx + 1) % 16)).2), rRefP q rb FQ L, rRowO (.slice qt T.length ct) (ivs T) 3, rRowO (.slice qc C.length cc) (ivs C) 3, rBlk b5 [iw ((seeF L id).1.refs : Int), Value.slice qh1 ((seeF L id).1.head.length) ch2, Value.slice qd3 ((seeF L id).1.data.length) cd4] 33, rMine (.slice q12 ((seeF L id).1.head ++ (seeF L id).1.data).length c13) ((seeF L id).1.head ++ (seeF L id).1.data) 5]) (fun F17 => (∀ b, F17 b → G b ∨ w.heap.size ≤ b)) rfl rfl co72 rfl rfl rfl (lt_b rfl) (fun w hI => (q_write (setTx_ok hk _ _) (nic_at hI (i := 1) rfl) 5 ((nx + 1) % 16)).mono fun e w2 ⟨h1, h2⟩ => by obtain ⟨F2, k1, k2⟩ := hI.nicB (F0 := G) (i := 1) rfl (.inl he) (NicTo.of h2) hF15; exact ⟨F2, h1, k1, k2⟩) ?_
  intro F17 hF17
  refine SL.nn [(0, pt s 0), (1, iw id), (4, iw 0)] [rBlk s [pt e 0, pt q 0, Value.slice qt T.length ct, Value.slice qc C.length cc, iw ((nx + 1) % 16), iw fi] 122, rDevQ e F17 ((writeF ((setTxF A nx ((seeF L id).1.head ++ (seeF L id).1.data)).2) 5 ((nx + 1) % 16)).2), rRefP q rb FQ L, rRowO (.slice qt T.length ct) (ivs T) 3, rRowO (.slice qc C.length cc) (ivs C) 3, rBlk b5 [iw ((seeF L id).1.refs : Int), Value.slice qh1 ((seeF L id).1.head.length) ch2, Value.slice qd3 ((seeF L id).1.data.length) cd4] 33, rMine (.slice q12 ((seeF L id).1.head ++ (seeF L id).1.data).length c13) ((seeF L id).1.head ++ (seeF L id).1.data) 5] ⟨rfl, rfl, rfl, trivial⟩ ?_
  refine SC.sr ?_
  refine SL.mv ?_
  refine SL.nk ?_
  refine SL.uu (ru_fieldAddr (o2 := 1) fd122_1 rfl rfl rfl) ?_
  refine SL.uu (ru_load (i := 0) ts40 rfl rfl rfl rfl) ?_
  refine SL.mv ?_
  refine SL.call (ζ := Nat → Prop) (fun F18 => iw ((holdF L id).1)) (fun F18 => [rBlk s [pt e 0, pt q 0, Value.slice qt T.length ct, Value.slice qc C.length cc, iw ((nx + 1) % 16), iw fi] 122, rDevQ e F17 ((writeF ((setTxF A nx ((seeF L id).1.head ++ (seeF L id).1.data)).2) 5 ((nx + 1) % 16)).2), rRefP q rb F18 ((holdF L id).2), rRowO (.slice qt T.length ct) (ivs T) 3, rRowO (.slice qc C.length cc) (ivs C) 3, rBlk b5 [iw ((seeF L id).1.refs : Int), Value.slice qh1 ((seeF L id).1.head.length) ch2, Value.slice qd3 ((seeF L id).1.data.length) cd4] 33, rMine (.slice q12 ((seeF L id).1.head ++ (seeF L id).1.data).length c13) ((seeF L id).1.head ++ (seeF L id).1.data) 5]) (fun F18 => (∀ b, F18 b → G b ∨ w.heap.size ≤ b)) rfl rfl co73 rfl rfl rfl (lt_b rfl) (fun w hI => (rhold_any (refp_at hI (i := 2) rfl) id (lim_few hL (by omega))).mono fun e w2 ⟨h1, h2⟩ => by obtain ⟨F2, k1, k2⟩ := hI.refPTo (F0 := G) (i := 2) rfl (.inl hrb) h2 hFQ; exact ⟨F2, h1, k1, k2⟩) ?_
  intro F18 hF18
  refine SL.nn [(0, pt s 0), (1, iw id), (4, iw 0)] [rBlk s [pt e 0, pt q 0, Value.slice qt T.length ct, Value.slice qc C.length cc, iw ((nx + 1) % 16), iw fi] 122, rDevQ e F17 ((writeF ((setTxF A nx ((seeF L id).1.head ++ (seeF L id).1.data)).2) 5 ((nx + 1) % 16)).2), rRefP q rb F18 ((holdF L id).2), rRowO (.slice qt T.length ct) (ivs T) 3, rRowO (.slice qc C.length cc) (ivs C) 3, rBlk b5 [iw ((seeF L id).1.refs : Int), Value.slice qh1 ((seeF L id).1.head.length) ch2, Value.slice qd3 ((seeF L id).1.data.length) cd4] 33, rMine (.slice q12 ((seeF L id).1.head ++ (seeF L id).1.data).length c13) ((seeF L id).1.head ++ (seeF L id).1.data) 5] ⟨rfl, rfl, rfl, trivial⟩ ?_
  refine SC.sr ?_
  refine SL.mv ?_
  refine SL.mv ?_
  refine SL.nk ?_
  refine SL.uu (ru_fieldAddr (o2 := 2) fd122_2 rfl rfl rfl) ?_
  refine SL.uu (ru_load (i := 0) ts26 rfl rfl rfl rfl) ?_
  refine SL.mv ?_
  refine SL.buildSlice (size := 1) (vals := [(0, iw id)]) (z := [iw 0]) (cs := [iw id]) rfl rfl (lt_b rfl) rfl Try.underlying26 (by kernel_rfl) rfl rfl (by kernel_rfl) fun b19 hb19 => ?_
  refine SL.append_rowO (ri := 3) (rj := 7) (z := iw 0) (bytes := 8) rfl rfl (lt_b rfl) rfl Try.underlying26 (by kernel_rfl) rfl rfl rfl rfl rfl rfl (by first | omega | (rw [ivs_len]; omega)) (by unfold maxLen; first | omega | (rw [ivs_len]; omega)) (fun b hb => hTo b hb) fun q20 c21 hq22 => ?_
  refine SL.nk ?_
  refine SL.uu (ru_fieldAddr (o2 := 2) fd122_2 rfl rfl rfl) ?_
  refine SL.store (i := 0) (c' := [pt e 0, pt q 0, Value.slice q20 (T.length + 1) c21, Value.slice qc C.length cc, iw ((nx + 1) % 16), iw fi]) rfl rfl ts26 rfl rfl rfl rfl rfl (lt_b rfl) (.inl hs) rfl ?_
  refine SL.nn [(4, iw 0)] [rBlk s [pt e 0, pt q 0, Value.slice q20 (T.length + 1) c21, Value.slice qc C.length cc, iw ((nx + 1) % 16), iw fi] 122, rDevQ e F17 ((writeF ((setTxF A nx ((seeF L id).1.head ++ (seeF L id).1.data)).2) 5 ((nx + 1) % 16)).2), rRefP q rb F18 ((holdF L id).2), rRowO (.slice q20 (T.length + 1) c21) (ivs T ++ [iw id]) 3, rRowO (.slice qc C.length cc) (ivs C) 3, rBlk b5 [iw ((seeF L id).1.refs : Int), Value.slice qh1 ((seeF L id).1.head.length) ch2, Value.slice qd3 ((seeF L id).1.data.length) cd4] 33, rMine (.slice q12 ((seeF L id).1.head ++ (seeF L id).1.data).length c13) ((seeF L id).1.head ++ (seeF L id).1.data) 5, rBlk b19 [iw id] 3] ⟨rfl, trivial⟩ ?_
  refine SC.sr ?_
  refine SL.as ?_
  refine SL.nn [(4, iw 0)] _ ⟨rfl, trivial⟩ ?_
  refine SC.ret ?_
  refine SE.res (.inl rfl) (res1 Try.results45 rfl) fun w1 hI => ⟨0, ⟨(writeF ((setTxF A nx ((seeF L id).1.head ++ (seeF L id).1.data)).2) 5 ((nx + 1) % 16)).2, (holdF L id).2, T ++ [id], C, (nx + 1) % 16, fi⟩, rfl, ⟨⟨(write_ok (setTx_ok hk _ _) _ _), by first | exact hn | (simp only; omega), by first | exact hf | (simp only; omega), by first | (simp only; omega) | (simp only [List.length_append, List.length_cons, List.length_nil]; omega), by first | (simp only; omega) | (simp only [List.length_append, List.length_cons, List.length_nil]; omega)⟩, (lim_hold hL _)⟩, F17, F18, q20, c21, qc, cc, ?_, hF17, hF18, ?_, ?_, hI.2⟩
  · have e1 : T.length + 1 = (T ++ [id]).length := by simp
    rw [ivs_snoc, e1] at hI
    exact (hI.pick (js := [0, 1, 2, 3, 4]) rfl).1
  · simpa only [List.length_append, List.length_singleton] using hq22
  · exact hCo

end Go.Proofs.Ytghfkgcaglabpaa

/-
  For the count: a row of whole numbers copied to a place of its own; its plain functions step by step.
-/
namespace Go.Proofs.Ytghfkgcaglabpaa
open Go.RowKit
def ivz (l : List Int) (zs : List Value) : List Value := ivs l ++ zs
section
variable {P : Program} {X : Cx} {ops : Array Oper} {Q : Exit → Act → World → Prop} {rest : List Oper} {o : Oper} {m : List (Nat × Value)} {l : List Res} {d : Nat}
end
theorem inc_len : ∀ (l refs : List Int), (incL l refs).2.length = refs.length
  | [], _ => rfl
  | x :: l, refs => by
    unfold incL; split
    · rfl
    · rw [inc_len l]; simp
end Go.Proofs.Ytghfkgcaglabpaa

/-
  A region that draws its order: an operation that but picks apart what lies in slots may be taken ahead of another, as soon as it is ready. No program is named here.
-/
namespace Go.Proofs.Ytghfkgcaglabpaa
open Go.RowKit
def addE1 (k0 i0 : Nat) : Nat → List Oper → List Oper
  | _, [] => []
  | k, o :: r => (bif Nat.beq k k0 then { o with after := o.after.push ⟨i0, .data⟩ } else o) :: addE1 k0 i0 (k + 1) r
def addEs : List (Nat × Nat) → List Oper → List Oper
  | [], L => L
  | (k0, i0) :: r, L => addEs r (addE1 k0 i0 0 L)
def onlyN (Q : Exit → Act → World → Prop) : Exit → Act → World → Prop
  | .normal, a, w => Q .normal a w
  | _, _, _ => False
def pureB : Op → Bool
  | .extract _ _ => true
  | .move _ => true
  | _ => false
def edgeOk (L : List Oper) (k0 i0 : Nat) : Bool :=
  Region.noSelect L.toArray && !Nat.beq k0 i0 && (match L[i0]? with
    | some oi => pureB oi.op && oi.guard.isNone && (oi.after.all fun e => !Region.binds .any e || reachB .any L.toArray 3 k0 e.on) &&
      (List.range L.length).all fun j => Nat.beq j i0 || reachB .any L.toArray 3 i0 j || (match L[j]? with
        | some oj => oj.after.any (fun e => Region.binds .any e && Nat.beq e.on i0) || oi.apart L.toArray oj
        | none => true)
    | none => false)
def edgesOk : List (Nat × Nat) → List Oper → Bool
  | [], _ => true
  | (k0, i0) :: r, L => edgeOk L k0 i0 && edgesOk r (addE1 k0 i0 0 L)
theorem addE1_get (k0 i0 : Nat) : ∀ (L : List Oper) (k j : Nat), (addE1 k0 i0 k L)[j]? = (L[j]?).map fun o => bif Nat.beq (k + j) k0 then { o with after := o.after.push ⟨i0, .data⟩ } else o
  | [], _, _ => by simp [addE1]
  | o :: r, k, 0 => by simp [addE1]
  | o :: r, k, j + 1 => by
    simp only [addE1, List.getElem?_cons_succ]
    rw [addE1_get k0 i0 r (k + 1) j, show k + 1 + j = k + (j + 1) by omega]
theorem addE1_len (k0 i0 : Nat) : ∀ (L : List Oper) (k : Nat), (addE1 k0 i0 k L).length = L.length
  | [], _ => rfl
  | o :: r, k => by simp [addE1, addE1_len k0 i0 r (k + 1)]
section
variable {P : Program} {L : List Oper} {k0 i0 : Nat} {Q : Exit → Act → World → Prop}
theorem get1 {j : Nat} {o : Oper} (h : L[j]? = some o) : ∃ e, (addE1 k0 i0 0 L)[j]? = some { o with after := e } ∧ (j ≠ k0 → e = o.after) ∧ (j = k0 → e = o.after.push ⟨i0, .data⟩) := by
  have h1 := addE1_get k0 i0 L 0 j
  rw [h, Nat.zero_add] at h1
  cases hb : Nat.beq j k0
  · rw [hb] at h1
    have hne : j ≠ k0 := fun e => by subst e; simp at hb
    exact ⟨o.after, h1, fun _ => rfl, fun e => absurd e hne⟩
  · rw [hb] at h1
    have e : j = k0 := Nat.eq_of_beq_eq_true hb
    exact ⟨_, h1, fun hne => absurd e hne, fun _ => rfl⟩
theorem yielded1 (tm : Array Value) : yielded (addE1 k0 i0 0 L).toArray tm = yielded L.toArray tm := by
  funext j
  unfold yielded
  have : ((addE1 k0 i0 0 L).toArray[j]?).bind (·.dst) = (L.toArray[j]?).bind (·.dst) := by
    simp only [List.getElem?_toArray]
    rw [addE1_get, Nat.zero_add]
    cases L[j]? with
    | none => rfl
    | some o => cases hb : Nat.beq j k0 <;> simp [hb]
  rw [this]
theorem wpOp1 {i : Nat} {K : Act → World → Prop} {a : Act} {w : World} (h : wpOp P (addE1 k0 i0 0 L).toArray Q i K a w) : wpOp P L.toArray Q i K a w := by
  unfold wpOp at h ⊢
  simp only [List.getElem?_toArray] at h ⊢
  cases ho : L[i]? with
  | none =>
    have : (addE1 k0 i0 0 L)[i]? = none := by rw [addE1_get, ho]; rfl
    rw [this] at h
    exact h
  | some o =>
    obtain ⟨e, h1, _⟩ := get1 (k0 := k0) (i0 := i0) ho
    rw [h1] at h
    simp only [yielded1] at h
    exact h
theorem pure_run {o : Oper} (h : pureB o.op = true) (ρ : Operand → Value) : (∃ v, ∀ w, (execOp ρ o).run P w = .ok (.value v) w) ∨ ∀ w, ∃ x, (execOp ρ o).run P w = .halt x w := by
  cases ho : o.op <;> rw [ho] at h <;> simp only [pureB, Bool.false_eq_true] at h
  case extract x i =>
    unfold execOp
    rw [ho]
    simp only
    cases hx : ρ x <;> simp only [Instr.extract] <;> try exact .inr fun w => ⟨_, rfl⟩
    rename_i vs
    cases hv : vs[i]? with
    | none => exact .inr fun w => by simp only [hv]; exact ⟨_, rfl⟩
    | some v => exact .inl ⟨v, fun w => by simp only [hv]; rfl⟩
  case move x =>
    refine .inl ⟨ρ x, fun w => ?_⟩
    unfold execOp; rw [ho]; rfl
theorem onlyN_mono {ops : Array Oper} : ∀ (fuel : Nat) (listed : Array Bool) (a : Act) (w : World), wpAny P .any ops (onlyN Q) fuel listed a w → wpAny P .any ops Q fuel listed a w := by
  have up : ∀ {o : Oper} {a : Act} {w : World} {K K' : Act → World → Prop}, (∀ a w, K a w → K' a w) → (o.wp P a w K (onlyN Q) ∨ (o.asks P a w ∧ LetsOut (onlyN Q))) → (o.wp P a w K' Q ∨ (o.asks P a w ∧ LetsOut Q)) := by
    intro o a w K K' hK h
    rcases h with h | ⟨_, ⟨a, w, h⟩⟩
    · left
      unfold Oper.wp at h ⊢
      generalize (execOp a.eval o).run P w = r at *
      cases r with
      | ok n w' =>
        cases n <;> simp only [Oper.upon] at h ⊢ <;> first | exact hK _ _ h | exact h.elim | skip
        · refine h.mono fun e w'' he => ?_
          cases e with
          | returned v => exact hK _ _ he
          | panicked c => exact he.elim
          | outgrown => obtain ⟨a, w, h⟩ := he; exact h.elim
        · exact h.mono fun v w'' he => hK _ _ he
      | halt x w' => cases x <;> simp only [Oper.upon] at h ⊢ <;> exact h.elim
    · exact h.elim
  have opm : ∀ {i : Nat} {a : Act} {w : World} {K K' : Act → World → Prop}, (∀ a w, K a w → K' a w) → wpOp P ops (onlyN Q) i K a w → wpOp P ops Q i K' a w := by
    intro i a w K K' hK h
    unfold wpOp at *
    split
    · rename_i ho; simp only [ho] at h; exact hK _ _ h
    · rename_i o ho
      simp only [ho] at h
      split
      · rename_i hw; simp only [hw, if_true] at h; exact up hK h
      · rename_i hw; simp only [hw] at h; exact hK _ _ h
  intro fuel
  induction fuel with
  | zero => intro listed a w h; exact h
  | succ f ih => intro listed a w h; exact ⟨fun h0 => h.1 h0, fun i hi => opm (ih _) (h.2 i hi)⟩
theorem wpAny_edge (hok : edgeOk L k0 i0 = true) : ∀ (fuel : Nat) (listed : Array Bool) (a : Act) (w : World), listed.size = L.length → ShutM .any L.toArray listed → wpAny P .any (addE1 k0 i0 0 L).toArray (onlyN Q) fuel listed a w → wpAny P .any L.toArray (onlyN Q) fuel listed a w := by
  simp only [edgeOk, Bool.and_eq_true, Bool.not_eq_true'] at hok
  obtain ⟨⟨hsel, hne⟩, hrest⟩ := hok
  have hki : k0 ≠ i0 := fun e => by subst e; simp at hne
  cases hoi : L[i0]? with
  | none => rw [hoi] at hrest; simp at hrest
  | some oi =>
    rw [hoi] at hrest
    simp only [Bool.and_eq_true] at hrest
    obtain ⟨⟨⟨hpure, hguard⟩, hpre⟩, hfree⟩ := hrest
    have hoi' : L.toArray[i0]? = some oi := by simpa using hoi
    have ready_of : ∀ (listed : Array Bool) (j : Nat), j ∈ Region.ready .any (addE1 k0 i0 0 L).toArray listed → j ∈ Region.ready .any L.toArray listed := by
      intro listed j hj
      obtain ⟨h1, o', h2, h3⟩ := mem_ready.1 hj
      simp only [List.getElem?_toArray] at h2
      cases hoj : L[j]? with
      | none => rw [addE1_get, hoj] at h2; cases h2
      | some oj =>
        obtain ⟨e, g1, g2, g3⟩ := get1 (k0 := k0) (i0 := i0) hoj
        rw [g1] at h2; cases h2
        refine mem_ready.2 ⟨h1, oj, by simpa using hoj, fun x hx hb => h3 x ?_ hb⟩
        by_cases ejk : j = k0
        · rw [g3 ejk]; simp [hx]
        · rw [g2 ejk]; exact hx
    have ready_if : ∀ (listed : Array Bool) (j : Nat), j ∈ Region.ready .any L.toArray listed → (j = k0 → listed.getD i0 false = true) → j ∈ Region.ready .any (addE1 k0 i0 0 L).toArray listed := by
      intro listed j hj hjk
      obtain ⟨h1, oj, h2, h3⟩ := mem_ready.1 hj
      simp only [List.getElem?_toArray] at h2
      obtain ⟨e, g1, g2, g3⟩ := get1 (k0 := k0) (i0 := i0) h2
      refine mem_ready.2 ⟨h1, _, by simpa using g1, fun x hx hb => ?_⟩
      by_cases ejk : j = k0
      · simp only [g3 ejk, Array.mem_push] at hx
        rcases hx with hx | rfl
        · exact h3 x hx hb
        · exact hjk ejk
      · simp only [g2 ejk] at hx
        exact h3 x hx hb
    have hblock : ∀ (listed : Array Bool) (j : Nat), listed.size = L.length → ShutM .any L.toArray listed → j ∈ Region.ready .any L.toArray listed → i0 ∉ Region.ready .any L.toArray listed → j = k0 → listed.getD i0 false = true := by
      intro listed j hsz hs hj hni ejk
      subst ejk
      obtain ⟨_, ok, hok, hall⟩ := mem_ready.1 hj
      have hilt : i0 < L.length := (List.getElem?_eq_some_iff.1 hoi).1
      cases hl : listed.getD i0 false with
      | true => rfl
      | false =>
        exfalso
        refine hni (mem_ready.2 ⟨?_, oi, hoi', fun e he hb => ?_⟩)
        · have hlt : i0 < listed.size := by omega
          simpa [hlt] using hl
        · have h1 := Array.all_eq_true_iff_forall_mem.1 hpre e he
          simp only [Bool.or_eq_true, Bool.not_eq_true'] at h1
          rcases h1 with h1 | h1
          · rw [h1] at hb; cases hb
          · exact reach_listed hs 3 _ _ ok hok hall h1
    intro fuel
    induction fuel with
    | zero =>
      intro listed a w hsz hs h
      refine ⟨?_, h.2⟩
      by_cases hnil : Region.ready .any L.toArray listed = []
      · exact hnil
      · obtain ⟨j, hj⟩ := List.exists_mem_of_ne_nil _ hnil
        exfalso
        by_cases hi : i0 ∈ Region.ready .any L.toArray listed
        · have := ready_if listed i0 hi (fun e => absurd e.symm hki)
          rw [h.1] at this; cases this
        · have := ready_if listed j hj (hblock listed j hsz hs hj hi)
          rw [h.1] at this; cases this
    | succ f ih =>
      intro listed a w hsz hs h
      by_cases hi : i0 ∈ Region.ready .any L.toArray listed
      · have h1 := wpOp1 (h.2 i0 (ready_if listed i0 hi (fun e => absurd e.symm hki)))
        unfold wpOp at h1
        have hw : Region.wanted oi (yielded L.toArray a.tmps) = true := by
          cases hg : oi.guard with
          | none => simp [Region.wanted, hg]
          | some g => rw [hg] at hguard; simp at hguard
        simp only [hoi', hw, if_true] at h1
        rcases h1 with h1 | ⟨_, ⟨a, w, h1⟩⟩
        · rcases pure_run (P := P) hpure a.eval with ⟨v, hv⟩ | hv
          · unfold Oper.wp at h1
            rw [hv w, Oper.upon_value] at h1
            refine wpAny_first hoi' (Region.noSelect_spec hsel) (fun c a w h => h.elim) f listed a w (fun j oj hj hji hun hno => ?_) hi (.inl ⟨hw, hv⟩) (ih _ _ _ (by simpa using hsz) (hs.set hi) h1)
            have hjl : j < L.length := by have := (Array.getElem?_eq_some_iff.1 hj).1; simpa using this
            have h2 := List.all_eq_true.1 hfree j (List.mem_range.2 hjl)
            simp only [List.getElem?_toArray] at hj
            rw [hj] at h2
            simp only [Bool.or_eq_true, Array.any_eq_true, Bool.and_eq_true] at h2
            rcases h2 with (h2 | h2) | ⟨q, hq, h2, h3⟩ | h2
            · exact absurd (Nat.eq_of_beq_eq_true h2) hji
            · obtain ⟨_, o', ho', hall⟩ := mem_ready.1 hi
              have h4 := reach_listed hs 3 _ _ o' ho' hall h2
              have hjl' : j < listed.size := by omega
              simp [hjl'] at h4 hun
              rw [h4] at hun; cases hun
            · exact absurd (Nat.eq_of_beq_eq_true h3) (hno _ (Array.getElem_mem hq) h2)
            · exact h2
          · obtain ⟨x, hx⟩ := hv w
            unfold Oper.wp at h1
            rw [hx] at h1
            cases x <;> simp only [Oper.upon] at h1 <;> exact h1.elim
        · exact h1.elim
      · refine ⟨fun h0 => h.1 ?_, fun i hi' => ?_⟩
        · cases hr : Region.ready .any (addE1 k0 i0 0 L).toArray listed with
          | nil => rfl
          | cons x xs =>
            have := ready_of listed x (by rw [hr]; simp)
            rw [h0] at this; cases this
        · exact wpOp_mono (fun a w hh => ih (listed.setIfInBounds i true) a w (by simpa using hsz) (hs.set hi') hh) (wpOp1 (h.2 i (ready_if listed i hi' (hblock listed i hsz hs hi' hi))))
theorem addEs_len : ∀ (ex : List (Nat × Nat)) (L : List Oper), (addEs ex L).length = L.length
  | [], _ => rfl
  | (k0, i0) :: r, L => by unfold addEs; rw [addEs_len r, addE1_len]
theorem wpAny_edges : ∀ (ex : List (Nat × Nat)) (L : List Oper), edgesOk ex L = true → ∀ (fuel : Nat) (a : Act) (w : World), wpAny P .any (addEs ex L).toArray (onlyN Q) fuel (Array.replicate L.length false) a w → wpAny P .any L.toArray (onlyN Q) fuel (Array.replicate L.length false) a w
  | [], L, _, _, _, _, h => h
  | (k0, i0) :: r, L, hok, fuel, a, w, h => by
    simp only [edgesOk, Bool.and_eq_true] at hok
    unfold addEs at h
    have h1 := wpAny_edges r (addE1 k0 i0 0 L) hok.2 fuel a w (by rw [addE1_len]; exact h)
    rw [addE1_len] at h1
    exact wpAny_edge hok.1 fuel _ a w (by simp) shut0 h1
end
section
variable {P : Program} {X : Cx} {Q : Exit → Act → World → Prop} {m : List (Nat × Value)} {l : List Res}
theorem wp_region_mk_tailE {id : Nat} {a : Act} {w : World} {L : List Oper} (ex : List (Nat × Nat)) (n : Nat) (sp : List Nat) (C : Got → World → Prop) (V : Nat → Value → Prop) (ds : List (Nat × List Nat)) (hm : P.follows .mixedOrders = true) (hok : edgesOk ex L = true) (hB : Region.lexTailB .any (addEs ex L).toArray n = true)
    (hd : depB .any (addEs ex L).toArray ds = true) (hdown : ∀ D j u w, C (updD D j u) w → D j = none → (∀ k, D k ≠ none → j ∉ depOf ds k) → C D w) (hC : C noD { w with drawn := w.drawn + 1 })
    (h : wpMk P (addEs ex L).toArray sp C V (depOf ds) (fun a' D => ∀ w', C D w' → wpList P (addEs ex L).toArray (onlyN Q) ((addEs ex L).drop n) a' w') 0 ((addEs ex L).take n) a noD) : (Code.region id L.toArray true).wp P Q a w := by
  refine wp_region_any hm ?_
  refine onlyN_mono _ _ _ _ ?_
  have key := wpAny_edges (P := P) (Q := Q) ex L hok L.toArray.size a { w with drawn := w.drawn + 1 }
  simp only [List.size_toArray] at key ⊢
  refine key ?_
  have := wpAny_mk_tail (Q := onlyN Q) n sp C V ds hB hd hdown hC h
  rw [addEs_len] at this
  exact this
theorem SC.region_mk_tailE {id : Nat} {L : List Oper} (ex : List (Nat × Nat)) (n : Nat) (ms : List (Nat × Mk)) (ds : List (Nat × List Nat)) (hnd : mNodup ms = true) (hdp : dpOk ms ds = true) (hde : depB .any (addEs ex L).toArray ds = true) (hm : P.follows .mixedOrders = true) (hok : edgesOk ex L = true) (hB : Region.lexTailB .any (addEs ex L).toArray n = true)
    (h : SM P X (addEs ex L).toArray (ms.map (·.1)) (CM X l ms) (mV ms) ds (fun a' D => ∀ w', CM X l ms D w' → wpList P (addEs ex L).toArray (onlyN Q) ((addEs ex L).drop n) a' w') 0 ((addEs ex L).take n) m noD) : SC P X (.region id L.toArray true) Q m l := fun a w hf hi => by
  refine wp_region_mk_tailE ex n (ms.map (·.1)) (CM X l ms) (mV ms) ds hm hok hB hde (CM.down hnd hdp) ?_ (h a hf)
  · unfold CM
    have : mNews ms noD = [] := by
      clear h hi hnd hdp
      induction ms with
      | nil => rfl
      | cons x r ih => obtain ⟨j, s⟩ := x; simp only [mNews, noD, List.nil_append]; exact ih
    rw [this, List.append_nil]
    exact ⟨hi.draw1, fun x _ hne => absurd rfl hne⟩
theorem SE.onlyN (h : SE X Q .normal m l) : SE X (onlyN Q) .normal m l := h
end
end Go.Proofs.Ytghfkgcaglabpaa

/-
  told.
-/
namespace Go.Proofs.Ytghfkgcaglabpaa
open Go.RowKit
set_option maxRecDepth 100000
set_option maxHeartbeats 4000000
theorem SE.pick {X : Cx} {e : Exit} {Q : Exit → Act → World → Prop} {m : List (Nat × Value)} {l : List Res} (js : List Nat) (hs : incB js = true) (h : SE X Q e m (js.filterMap (l[·]?))) : SE X Q e m l := fun a w hf hI => h a w hf (hI.pick hs)
end Go.Proofs.Ytghfkgcaglabpaa

/-
  counted.
-/
namespace Go.Proofs.Ytghfkgcaglabpaa
open Go.RowKit
set_option maxRecDepth 100000
set_option maxHeartbeats 4000000
end Go.Proofs.Ytghfkgcaglabpaa

/-
  The law's calls on the device of a ring; what begun makes, known.
-/
namespace Go.Proofs.Ytghfkgcaglabpaa
open Go.RowKit
variable {X : Cx} {l : List Res} {w w' : World} {r d p ab : Nat} {F F' F0 : Nat → Prop} {S : RingA}
theorem RingAt.tookW {U : TypeId} {A' : NicA} {v : Value} {f : List UInt8} (h : RingAt w r d p ab F S) (hl : f.length ≤ 140737488351232) (h2 : NicAt 99 w' d F A') (h3 : Only (fun b => b = d) w w') (h4 : Out U w w' v f) :
    ∃ qa qc, v = .slice qa f.length qc ∧ RingToW w r d p ab F { S with A := A' } [rMine (.slice qa f.length qc) f U] w' := by
  obtain ⟨qa, qc, rfl, h5, h6⟩ := (h.inv0 (rS r d p ab)).took (i := 1) rfl (.inl (.inr (.inl rfl))) hl h2 h3 h4
  refine ⟨qa, qc, rfl, F, ?_, fun b hb => .inl hb, fun q hq b hb => ?_, h5.2.mono (fun b hb => .inl hb)⟩
  · have h7 := h5.1
    have h8 : RingAt w' r d p ab F { S with A := A' } := ⟨fun x hx => h7.1 x (by simp only [List.mem_cons, List.not_mem_nil, or_false] at hx; simp only [List.set, List.mem_append, List.mem_cons, List.not_mem_nil, or_false]; exact .inl hx), (List.pairwise_append.1 h7.2).1⟩
    refine ⟨fun x hx => ?_, List.pairwise_cons.2 ⟨fun x hx b hb hc => ?_, List.pairwise_singleton _ _⟩⟩
    · rcases List.mem_cons.1 hx with rfl | hx
      · exact h8
      · exact h7.1 x (List.mem_append_right _ hx)
    · have hp := (List.pairwise_append.1 h7.2).2.2
      rcases hb with e | e | e | e | e
      · exact hp (rBlkRing r d p S.T S.R) (by simp) x hx b e hc
      · exact hp (rDev d F A') (by simp) x hx b (.inl e) hc
      · exact hp (rDev d F A') (by simp) x hx b (.inr e) hc
      · exact hp (rPool p ab S.L) (by simp) x hx b (.inl e) hc
      · exact hp (rPool p ab S.L) (by simp) x hx b (.inr e) hc
  · simp only [List.mem_cons, List.not_mem_nil, or_false] at hq
    subst hq
    exact h6 b hb
theorem beg0_ok {n : Nat} : RingOk (beg0 n) ∧ Few (beg0 n).L := begin_ok newA_ok few0
theorem Rig.two {n g : Nat} {l' : List Res} (h : Rig w n g l' w') (hI : Inv X w []) (hO : Only (fun _ => False) w w') (G : Nat → Prop) : ∃ d p ab r e q s F, Inv X w' [rBlk g [pt d 0, pt p 0, pt r 0, pt e 0, pt q 0, pt s 0, .slice none 0 0, .slice none 0 0] 43, rRing r d p ab F (beg0 n)] ∧
    (X.w0.heap.size ≤ g) ∧ (∀ b, rS r d p ab b → G b ∨ X.w0.heap.size ≤ b) ∧ ∀ b, F b → G b ∨ X.w0.heap.size ≤ b := by
  obtain ⟨d, p, ab, r, e, q, s, F, K, rfl, h2, h3⟩ := h
  have hsz := hI.2.size
  have big : ∀ b, rfp r d p ab F b → X.w0.heap.size ≤ b := fun b hb => Nat.le_trans hsz (h3 (rRing r d p ab F (beg0 n)) (by simp) b hb)
  have h9 : Inv X w' [rBlk g [pt d 0, pt p 0, pt r 0, pt e 0, pt q 0, pt s 0, .slice none 0 0, .slice none 0 0] 43, rRing r d p ab F (beg0 n), rRefR s e q K (ref0 n)] := ⟨h2, hI.2.trans' hO (fun _ h => h.elim)⟩
  refine ⟨d, p, ab, r, e, q, s, F, Inv.pick (js := [0, 1]) h9 rfl, Nat.le_trans hsz (h3 _ List.mem_cons_self g rfl), fun b hb => .inr (big b ?_), fun b hb => .inr (big b (.inr (.inr (.inl hb))))⟩
  rcases hb with e | e | e | e
  · exact .inl e
  · exact .inr (.inl e)
  · exact .inr (.inr (.inr (.inl e)))
  · exact .inr (.inr (.inr (.inr e)))
theorem RingAt.ring (h : RingAt w r d p ab F S) : Blk w r (rc d p S.T S.R) 86 := h.1 (rBlkRing r d p S.T S.R) (by simp)
theorem send_okR {S : RingA} (h : RingOk S) (id : Int) : RingOk (sendF S id).2 := by
  unfold sendF
  simp only
  split
  · exact h
  · split
    · exact h
    · split
      · exact h
      · rename_i h1
        have hm := h.t.m
        split
        · exact ⟨setTx_ok h.a _ _, h.t, h.r⟩
        · exact ⟨write_ok (setTx_ok h.a _ _) _ _, putL_ok h.t (by omega) id, h.r⟩
end Go.Proofs.Ytghfkgcaglabpaa

/-
  awake.
-/
namespace Go.Proofs.Ytghfkgcaglabpaa
open Go.RowKit
set_option maxRecDepth 100000
set_option maxHeartbeats 4000000
def aw0 : RingA := beg0 20
def aw1 : RingA := { aw0 with L := (getF aw0.L).2 }
def aw2 : RingA := { aw1 with L := (ownF aw1.L ((getF aw0.L).1.1) (setF ([120]))).2 }
def aw3 : RingA := (sendF aw2 ((getF aw0.L).1.1)).2
def aw4 : RingA := { aw3 with L := (freeF aw3.L ((getF aw0.L).1.1)).2 }
def aw5 : RingA := { aw4 with A := (takeR aw4.A).2 }
def aw6 : RingA := { aw5 with A := (giveF aw5.A ([121]) false).2 }
theorem aw0_ok : RingOk aw0 ∧ Few aw0.L := beg0_ok
theorem awake_g (w : World) (G : Nat → Prop) : Calls Try.prog 6 #[] w fun e w' => e = .returned (bo true) ∧ Only G w w' := by
  have hpl1 : (pollF aw6).2.length = 1 := by decide +kernel
  refine calls_sc (l0 := []) (args := []) G Try.func6 rfl 190 Try.ntmps6 (le_b rfl) ⟨⟨by simp, List.Pairwise.nil⟩, Only.refl _ _⟩ ?_
  show SC _ _ _ _ [] []
  refine SC.sr ?_
  refine SL.as ?_
  refine SL.nn [(0, bo false)] [] ⟨rfl, trivial⟩ ?_
  refine SC.sr ?_
  refine SL.call (ζ := Nat × Nat × Nat × Nat × Nat × Nat × Nat × Nat × (Nat → Prop)) (fun z => pt z.1 0) (fun z => [rBlk z.1 [pt z.2.1 0, pt z.2.2.1 0, pt z.2.2.2.2.1 0, pt z.2.2.2.2.2.1 0, pt z.2.2.2.2.2.2.1 0, pt z.2.2.2.2.2.2.2.1 0, Value.slice none 0 0, Value.slice none 0 0] 43, rRing z.2.2.2.2.1 z.2.1 z.2.2.1 z.2.2.2.1 z.2.2.2.2.2.2.2.2 aw0]) (fun z => w.heap.size ≤ z.1 ∧ (∀ b, rS z.2.2.2.2.1 z.2.1 z.2.2.1 z.2.2.2.1 b → G b ∨ w.heap.size ≤ b) ∧ ∀ b, z.2.2.2.2.2.2.2.2 b → G b ∨ w.heap.size ≤ b) rfl rfl co7 rfl rfl rfl (lt_b rfl) (fun w9 hI => (begun_in (n := 20) (by decide) (by decide)).mono fun e2 w2 ⟨g, h1, l3, h2, h3⟩ => by obtain ⟨d, p, ab, r, e, q, s, F, k1, k2, k3, k4⟩ := h2.two hI h3 G; exact ⟨(g, d, p, ab, r, e, q, s, F), h1, k1, k2, k3, k4⟩) ?_
  rintro ⟨g, d, p, ab, r, e, q, s, F⟩ ⟨hg, hG, hF⟩
  dsimp only at hg hG hF
  refine SL.as ?_
  refine SL.nn [(0, bo false), (1, pt g 0)] [rBlk g [pt d 0, pt p 0, pt r 0, pt e 0, pt q 0, pt s 0, Value.slice none 0 0, Value.slice none 0 0] 43, rRing r d p ab F aw0] ⟨rfl, rfl, trivial⟩ ?_
  refine SC.seq ?_
  refine SC.sr ?_
  refine SL.mv ?_
  refine SL.uu (ru_eqnil Try.underlying24 rfl rfl rfl rfl) ?_
  refine SL.mv ?_
  refine SL.gg (ru_move rfl rfl) ?_
  refine SL.gg (ru_nilCheck rfl rfl) ?_
  refine SL.gg (ru_fieldAddr (o2 := 1) fd43_1 rfl rfl rfl) ?_
  refine SL.gg (ru_load (i := 0) ts37 rfl rfl rfl rfl) ?_
  refine SL.callvg (iw (nfree aw0.L : Int)) rfl rfl rfl rfl co25 rfl rfl rfl (lt_b rfl) (fun w hI => (left_any (ring_at hI (i := 1) rfl).pool).mono fun e w2 ⟨h1, h2⟩ => ⟨h1, h2 ▸ hI⟩) ?_
  refine SL.gg (ru_ne (b := (((nfree aw0.L : Int) : Int) != 5)) rfl rfl rfl rfl) ?_
  refine SL.uu (ru_pick (u := bo true) (v := bo (((nfree aw0.L : Int) : Int) != 5)) rfl rfl rfl rfl) ?_
  refine SL.mv ?_
  refine SL.norm [(0, bo false), (1, pt g 0), (17, pt g 0), (18, bo false), (19, bo false), (20, pt g 0), (21, pt g 0), (22, pt g 1), (23, pt p 0), (24, iw (nfree aw0.L : Int)), (25, bo false), (26, bo false), (27, bo false)] _ ⟨rfl, rfl, rfl, rfl, rfl, rfl, rfl, rfl, rfl, rfl, (congrArg (fun bx => some (Value.bool bx)) (show (((nfree aw0.L : Int) : Int) != 5) = false from (by decide +kernel))), (congrArg (fun bx => some (Value.bool bx)) (show (((nfree aw0.L : Int) : Int) != 5) = false from (by decide +kernel))), (congrArg (fun bx => some (Value.bool bx)) (show (((nfree aw0.L : Int) : Int) != 5) = false from (by decide +kernel))), trivial⟩ rfl ?_
  refine SL.gg (ru_move rfl rfl) ?_
  refine SL.gg (ru_nilCheck rfl rfl) ?_
  refine SL.gg (ru_fieldAddr (o2 := 2) fd43_2 rfl rfl rfl) ?_
  refine SL.gg (ru_load (i := 0) ts38 rfl rfl rfl rfl) ?_
  refine SL.mk (Mk.ints ⟨190, w, G⟩ (allV aw0.R) 3) (w_yes rfl rfl rfl) rfl co24 rfl rfl rfl (lt_b rfl) (fun l' w hI => (coming_any aw0_ok.1.t aw0_ok.1.r (ring_at hI (i := 1) rfl)).mono fun e w2 ⟨q, c, h1, h2, h3, h4⟩ => ⟨_, h1, ⟨q, c, fun b hb => Nat.le_trans hI.2.size (h3 b hb), rfl⟩, hI.add h4 h2 h3⟩) ?_
  rintro _ ⟨q1, c2, hq1, rfl⟩
  refine SL.norm [(0, bo false), (1, pt g 0), (17, pt g 0), (18, bo false), (19, bo false), (20, pt g 0), (21, pt g 0), (22, pt g 1), (23, pt p 0), (24, iw (nfree aw0.L : Int)), (25, bo false), (26, bo false), (27, bo false), (28, pt g 0), (29, pt g 0), (30, pt g 2), (31, pt r 0), (32, Value.slice q1 ((allV aw0.R).length) c2)] [rBlk g [pt d 0, pt p 0, pt r 0, pt e 0, pt q 0, pt s 0, Value.slice none 0 0, Value.slice none 0 0] 43, rRing r d p ab F aw0, rRow (.slice q1 ((allV aw0.R).length) c2) (allV aw0.R) 3] ⟨rfl, rfl, rfl, rfl, rfl, rfl, rfl, rfl, rfl, rfl, rfl, rfl, rfl, rfl, rfl, rfl, rfl, rfl, trivial⟩ rfl ?_
  refine SL.gg (ru_len Try.underlying26 rfl rfl) ?_
  refine SL.gg (ru_ne (b := ((((allV aw0.R).length : Int) : Int) != 15)) rfl rfl rfl rfl) ?_
  refine SL.uu (ru_pick (u := bo true) (v := bo ((((allV aw0.R).length : Int) : Int) != 15)) rfl rfl rfl rfl) ?_
  refine SL.nn [(0, bo false), (1, pt g 0), (35, bo ((((allV aw0.R).length : Int) : Int) != 15))] _ ⟨rfl, rfl, rfl, trivial⟩ ?_
  refine SC.no (show some (Value.bool ((((allV aw0.R).length : Int) : Int) != 15)) = some (Value.bool false) from congrArg (fun x => some (Value.bool x)) (by decide +kernel)) ?_
  refine SC.skip ?_
  refine SC.of_SE ?_
  refine SC.norm [(0, bo false), (1, pt g 0)] _ ⟨rfl, rfl, trivial⟩ rfl ?_
  refine SC.sr ?_
  refine SL.mv ?_
  refine SL.nk ?_
  refine SL.uu (ru_fieldAddr (o2 := 1) fd43_1 rfl rfl rfl) ?_
  refine SL.uu (ru_load (i := 0) ts37 rfl rfl rfl rfl) ?_
  have ho4 : RingOk aw1 := (show RingOk aw1 from ⟨aw0_ok.1.a, aw0_ok.1.t, aw0_ok.1.r⟩)
  have hw5 : Few (aw1).L := (get_few aw0_ok.2)
  refine SL.call (ζ := Nat → Prop) (fun F3 => Value.tuple #[iw ((getF aw0.L).1.1), iw ((getF aw0.L).1.2)]) (fun F3 => [rBlk g [pt d 0, pt p 0, pt r 0, pt e 0, pt q 0, pt s 0, Value.slice none 0 0, Value.slice none 0 0] 43, rRing r d p ab F3 aw1, rRow (.slice q1 ((allV aw0.R).length) c2) (allV aw0.R) 3]) (fun F3 => (∀ b, F3 b → G b ∨ w.heap.size ≤ b)) rfl rfl co17 rfl rfl rfl (lt_b rfl) (fun w hI => (get_any (ring_at hI (i := 1) rfl).pool).mono fun e w2 ⟨h1, h2⟩ => by obtain ⟨F2, k1, k2⟩ := hI.ringTo (F0 := G) (i := 1) rfl hG ((ring_at hI (i := 1) rfl).poolTo h2) hF; exact ⟨F2, h1, k1, k2⟩) ?_
  intro F3 hF3
  refine SL.mv ?_
  refine SL.uu (ru_extract rfl rfl rfl) ?_
  refine SL.uu (ru_extract rfl rfl rfl) ?_
  refine SL.as ?_
  refine SL.as ?_
  refine SL.nn [(0, bo false), (1, pt g 0), (2, iw ((getF aw0.L).1.1)), (3, iw ((getF aw0.L).1.2))] [rBlk g [pt d 0, pt p 0, pt r 0, pt e 0, pt q 0, pt s 0, Value.slice none 0 0, Value.slice none 0 0] 43, rRing r d p ab F3 aw1, rRow (.slice q1 ((allV aw0.R).length) c2) (allV aw0.R) 3] ⟨rfl, rfl, rfl, rfl, trivial⟩ ?_
  refine SC.sr ?_
  refine SL.mv ?_
  refine SL.nk ?_
  refine SL.uu (ru_fieldAddr (o2 := 1) fd43_1 rfl rfl rfl) ?_
  refine SL.uu (ru_load (i := 0) ts37 rfl rfl rfl rfl) ?_
  refine SL.mv ?_
  refine SL.buildSlice (size := 1) (vals := [(0, Value.int .u8 120)]) (z := [Value.int .u8 0]) (cs := [Value.int .u8 120]) rfl rfl (lt_b rfl) rfl Try.underlying28 (by kernel_rfl) rfl rfl (by kernel_rfl) fun b6 hb6 => ?_
  refine SL.mark (i := 3) rfl rfl (lt_b rfl) rfl Try.underlying28 Try.underlying5 rfl rfl (.inr hb6) ?_
  have ho8 : RingOk aw2 := (show RingOk aw2 from ⟨ho4.a, ho4.t, ho4.r⟩)
  have hw9 : Few (aw2).L := (set_few hw5 _ _)
  refine SL.call (ζ := Nat → Prop) (fun F7 => iw ((ownF aw1.L ((getF aw0.L).1.1) (setF ([120]))).1)) (fun F7 => [rBlk g [pt d 0, pt p 0, pt r 0, pt e 0, pt q 0, pt s 0, Value.slice none 0 0, Value.slice none 0 0] 43, rRing r d p ab F7 aw2, rRow (.slice q1 ((allV aw0.R).length) c2) (allV aw0.R) 3, rFz b6 [Value.int .u8 120] 5]) (fun F7 => (∀ b, F7 b → G b ∨ w.heap.size ≤ b)) rfl rfl co18 rfl rfl rfl (lt_b rfl) (fun w hI => (set_any (ring_at hI (i := 1) rfl).pool ((getF aw0.L).1.1) (fz_bytes (l := [120]) (hI.1.get (i := 3) rfl) (by decide)) (mine_in fun b hb e => hI.apart (i := 3) (j := 1) rfl rfl (by decide) b (by cases hb; rfl) (.inr (.inr (.inr (.inr e)))))).mono fun e w2 ⟨h1, h2⟩ => by obtain ⟨F2, k1, k2⟩ := hI.ringTo (F0 := G) (i := 1) rfl hG ((ring_at hI (i := 1) rfl).poolTo h2) hF3; exact ⟨F2, h1, k1, k2⟩) ?_
  intro F7 hF7
  refine SL.as ?_
  refine SL.nn [(0, bo false), (1, pt g 0), (2, iw ((getF aw0.L).1.1)), (3, iw ((getF aw0.L).1.2)), (4, iw ((ownF aw1.L ((getF aw0.L).1.1) (setF ([120]))).1))] [rBlk g [pt d 0, pt p 0, pt r 0, pt e 0, pt q 0, pt s 0, Value.slice none 0 0, Value.slice none 0 0] 43, rRing r d p ab F7 aw2, rRow (.slice q1 ((allV aw0.R).length) c2) (allV aw0.R) 3, rFz b6 [Value.int .u8 120] 5] ⟨rfl, rfl, rfl, rfl, rfl, trivial⟩ ?_
  refine SC.sr ?_
  refine SL.mv ?_
  refine SL.nk ?_
  refine SL.uu (ru_fieldAddr (o2 := 2) fd43_2 rfl rfl rfl) ?_
  refine SL.uu (ru_load (i := 0) ts38 rfl rfl rfl rfl) ?_
  refine SL.mv ?_
  have ho11 : RingOk aw3 := (show RingOk aw3 from send_okR ho8 ((getF aw0.L).1.1))
  have hw12 : Few (aw3).L := (show ∀ b ∈ (sendF aw2 ((getF aw0.L).1.1)).2.L, b.refs < 1000000000000000 by decide +kernel)
  refine SL.call (ζ := Nat → Prop) (fun F10 => iw ((sendF aw2 ((getF aw0.L).1.1)).1)) (fun F10 => [rBlk g [pt d 0, pt p 0, pt r 0, pt e 0, pt q 0, pt s 0, Value.slice none 0 0, Value.slice none 0 0] 43, rRing r d p ab F10 aw3, rRow (.slice q1 ((allV aw0.R).length) c2) (allV aw0.R) 3, rFz b6 [Value.int .u8 120] 5]) (fun F10 => (∀ b, F10 b → G b ∨ w.heap.size ≤ b)) rfl rfl co10 rfl rfl rfl (lt_b rfl) (fun w hI => (send_any ho8.a ho8.t ho8.r hw9 (ring_at hI (i := 1) rfl) ((getF aw0.L).1.1)).mono fun e w2 ⟨h1, h2⟩ => by obtain ⟨F2, k1, k2⟩ := hI.ringTo (F0 := G) (i := 1) rfl hG h2 hF7; exact ⟨F2, h1, k1, k2⟩) ?_
  intro F10 hF10
  refine SL.as ?_
  refine SL.nn [(0, bo false), (1, pt g 0), (2, iw ((getF aw0.L).1.1)), (3, iw ((getF aw0.L).1.2)), (4, iw ((ownF aw1.L ((getF aw0.L).1.1) (setF ([120]))).1)), (5, iw ((sendF aw2 ((getF aw0.L).1.1)).1))] [rBlk g [pt d 0, pt p 0, pt r 0, pt e 0, pt q 0, pt s 0, Value.slice none 0 0, Value.slice none 0 0] 43, rRing r d p ab F10 aw3, rRow (.slice q1 ((allV aw0.R).length) c2) (allV aw0.R) 3, rFz b6 [Value.int .u8 120] 5] ⟨rfl, rfl, rfl, rfl, rfl, rfl, trivial⟩ ?_
  refine SC.sr ?_
  refine SL.mv ?_
  refine SL.nk ?_
  refine SL.uu (ru_fieldAddr (o2 := 1) fd43_1 rfl rfl rfl) ?_
  refine SL.uu (ru_load (i := 0) ts37 rfl rfl rfl rfl) ?_
  refine SL.mv ?_
  have ho14 : RingOk aw4 := (show RingOk aw4 from ⟨ho11.a, ho11.t, ho11.r⟩)
  have hw15 : Few (aw4).L := (free_few hw12 _)
  refine SL.call (ζ := Nat → Prop) (fun F13 => iw ((freeF aw3.L ((getF aw0.L).1.1)).1)) (fun F13 => [rBlk g [pt d 0, pt p 0, pt r 0, pt e 0, pt q 0, pt s 0, Value.slice none 0 0, Value.slice none 0 0] 43, rRing r d p ab F13 aw4, rRow (.slice q1 ((allV aw0.R).length) c2) (allV aw0.R) 3, rFz b6 [Value.int .u8 120] 5]) (fun F13 => (∀ b, F13 b → G b ∨ w.heap.size ≤ b)) rfl rfl co26 rfl rfl rfl (lt_b rfl) (fun w hI => (free_any (ring_at hI (i := 1) rfl).pool ((getF aw0.L).1.1) hw12).mono fun e w2 ⟨h1, h2⟩ => by obtain ⟨F2, k1, k2⟩ := hI.ringTo (F0 := G) (i := 1) rfl hG ((ring_at hI (i := 1) rfl).poolTo h2) hF10; exact ⟨F2, h1, k1, k2⟩) ?_
  intro F13 hF13
  refine SL.as ?_
  refine SL.nn [(0, bo false), (1, pt g 0), (2, iw ((getF aw0.L).1.1)), (3, iw ((getF aw0.L).1.2)), (4, iw ((ownF aw1.L ((getF aw0.L).1.1) (setF ([120]))).1)), (5, iw ((sendF aw2 ((getF aw0.L).1.1)).1)), (6, iw ((freeF aw3.L ((getF aw0.L).1.1)).1))] [rBlk g [pt d 0, pt p 0, pt r 0, pt e 0, pt q 0, pt s 0, Value.slice none 0 0, Value.slice none 0 0] 43, rRing r d p ab F13 aw4, rRow (.slice q1 ((allV aw0.R).length) c2) (allV aw0.R) 3, rFz b6 [Value.int .u8 120] 5] ⟨rfl, rfl, rfl, rfl, rfl, rfl, rfl, trivial⟩ ?_
  refine SC.sr ?_
  refine SL.mv ?_
  refine SL.nk ?_
  refine SL.uu (ru_fieldAddr (o2 := 1) fd43_1 rfl rfl rfl) ?_
  refine SL.uu (ru_load (i := 0) ts37 rfl rfl rfl rfl) ?_
  refine SL.mv ?_
  refine SL.mk (Mk.see ⟨190, w, G⟩ (seeF aw4.L ((getF aw0.L).1.1)).1.refs (seeF aw4.L ((getF aw0.L).1.1)).1.head (seeF aw4.L ((getF aw0.L).1.1)).1.data (seeF aw4.L ((getF aw0.L).1.1)).2 5) (w_all rfl) rfl co9 rfl rfl rfl (lt_b rfl) (fun l' w hI => (see_any (ring_at hI (i := 1) rfl).pool ((getF aw0.L).1.1)).mono fun e w2 ⟨qh, ch, qd, cd, h1, h2, h3, h4, h5, h6, h7⟩ => ⟨_, h1, ⟨qh, ch, qd, cd, fun b hb => Nat.le_trans hI.2.size (h4 b hb), fun b hb => Nat.le_trans hI.2.size (h5 b hb), rfl⟩, hI.saw2 h2 h3 h4 h5 h6 h7⟩) ?_
  rintro _ ⟨qh16, ch17, qd18, cd19, hqh16, hqd18, rfl⟩
  refine SL.norm [(0, bo false), (1, pt g 0), (2, iw ((getF aw0.L).1.1)), (3, iw ((getF aw0.L).1.2)), (4, iw ((ownF aw1.L ((getF aw0.L).1.1) (setF ([120]))).1)), (5, iw ((sendF aw2 ((getF aw0.L).1.1)).1)), (6, iw ((freeF aw3.L ((getF aw0.L).1.1)).1)), (65, pt g 0), (66, pt g 0), (67, pt g 1), (68, pt p 0), (69, iw ((getF aw0.L).1.1)), (70, Value.tuple #[Value.agg #[iw ((seeF aw4.L ((getF aw0.L).1.1)).1.refs : Int), Value.slice qh16 ((seeF aw4.L ((getF aw0.L).1.1)).1.head.length) ch17, Value.slice qd18 ((seeF aw4.L ((getF aw0.L).1.1)).1.data.length) cd19], iw ((seeF aw4.L ((getF aw0.L).1.1)).2)])] [rBlk g [pt d 0, pt p 0, pt r 0, pt e 0, pt q 0, pt s 0, Value.slice none 0 0, Value.slice none 0 0] 43, rRing r d p ab F13 aw4, rRow (.slice q1 ((allV aw0.R).length) c2) (allV aw0.R) 3, rFz b6 [Value.int .u8 120] 5, rMine (.slice qh16 ((seeF aw4.L ((getF aw0.L).1.1)).1.head).length ch17) ((seeF aw4.L ((getF aw0.L).1.1)).1.head) 5, rMine (.slice qd18 ((seeF aw4.L ((getF aw0.L).1.1)).1.data).length cd19) ((seeF aw4.L ((getF aw0.L).1.1)).1.data) 5] ⟨rfl, rfl, rfl, rfl, rfl, rfl, rfl, rfl, rfl, rfl, rfl, rfl, rfl, trivial⟩ rfl ?_
  refine SL.mv ?_
  refine SL.uu (ru_extract rfl rfl rfl) ?_
  refine SL.uu (ru_extract rfl rfl rfl) ?_
  refine SL.alloca rfl rfl (lt_b rfl) ta33 rfl fun b20 hb20 => ?_
  refine SL.storea (i := 6) (vs := [iw ((seeF aw4.L ((getF aw0.L).1.1)).1.refs : Int), Value.slice qh16 ((seeF aw4.L ((getF aw0.L).1.1)).1.head.length) ch17, Value.slice qd18 ((seeF aw4.L ((getF aw0.L).1.1)).1.data.length) cd19]) (c' := [iw ((seeF aw4.L ((getF aw0.L).1.1)).1.refs : Int), Value.slice qh16 ((seeF aw4.L ((getF aw0.L).1.1)).1.head.length) ch17, Value.slice qd18 ((seeF aw4.L ((getF aw0.L).1.1)).1.data.length) cd19]) rfl rfl ta33 rfl rfl rfl rfl rfl rfl (le_b rfl) (.inr hb20) rfl ?_
  refine SL.as ?_
  refine SL.nn [(0, bo false), (1, pt g 0), (3, iw ((getF aw0.L).1.2)), (4, iw ((ownF aw1.L ((getF aw0.L).1.1) (setF ([120]))).1)), (5, iw ((sendF aw2 ((getF aw0.L).1.1)).1)), (6, iw ((freeF aw3.L ((getF aw0.L).1.1)).1)), (7, pt b20 0), (8, iw ((seeF aw4.L ((getF aw0.L).1.1)).2))] [rBlk g [pt d 0, pt p 0, pt r 0, pt e 0, pt q 0, pt s 0, Value.slice none 0 0, Value.slice none 0 0] 43, rRing r d p ab F13 aw4, rRow (.slice q1 ((allV aw0.R).length) c2) (allV aw0.R) 3, rFz b6 [Value.int .u8 120] 5, rMine (.slice qh16 ((seeF aw4.L ((getF aw0.L).1.1)).1.head).length ch17) ((seeF aw4.L ((getF aw0.L).1.1)).1.head) 5, rMine (.slice qd18 ((seeF aw4.L ((getF aw0.L).1.1)).1.data).length cd19) ((seeF aw4.L ((getF aw0.L).1.1)).1.data) 5, rBlk b20 [iw ((seeF aw4.L ((getF aw0.L).1.1)).1.refs : Int), Value.slice qh16 ((seeF aw4.L ((getF aw0.L).1.1)).1.head.length) ch17, Value.slice qd18 ((seeF aw4.L ((getF aw0.L).1.1)).1.data.length) cd19] 33] ⟨rfl, rfl, rfl, rfl, rfl, rfl, rfl, rfl, trivial⟩ ?_
  refine SC.sr ?_
  refine SL.mv ?_
  refine SL.nk ?_
  refine SL.uu (ru_fieldAddr (o2 := 0) fd43_0 rfl rfl rfl) ?_
  refine SL.uu (ru_load (i := 0) ts36 rfl rfl rfl rfl) ?_
  have ho24 : RingOk aw5 := (show RingOk aw5 from ⟨takeR_ok ho14.a, ho14.t, ho14.r⟩)
  have hw25 : Few (aw5).L := hw15
  refine SL.call (ζ := (Nat → Prop) × Option Addr × Nat) (fun z => Value.tuple #[Value.agg #[Value.slice z.2.1 ((takeR aw4.A).1.1.1.length) z.2.2, bo false, iw ((takeR aw4.A).1.1.2)], iw ((takeR aw4.A).1.2)]) (fun z => [rBlk g [pt d 0, pt p 0, pt r 0, pt e 0, pt q 0, pt s 0, Value.slice none 0 0, Value.slice none 0 0] 43, rRing r d p ab z.1 aw5, rRow (.slice q1 ((allV aw0.R).length) c2) (allV aw0.R) 3, rFz b6 [Value.int .u8 120] 5, rMine (.slice qh16 ((seeF aw4.L ((getF aw0.L).1.1)).1.head).length ch17) ((seeF aw4.L ((getF aw0.L).1.1)).1.head) 5, rMine (.slice qd18 ((seeF aw4.L ((getF aw0.L).1.1)).1.data).length cd19) ((seeF aw4.L ((getF aw0.L).1.1)).1.data) 5, rBlk b20 [iw ((seeF aw4.L ((getF aw0.L).1.1)).1.refs : Int), Value.slice qh16 ((seeF aw4.L ((getF aw0.L).1.1)).1.head.length) ch17, Value.slice qd18 ((seeF aw4.L ((getF aw0.L).1.1)).1.data.length) cd19] 33, rMine (.slice z.2.1 ((takeR aw4.A).1.1.1).length z.2.2) ((takeR aw4.A).1.1.1) 5]) (fun z => (∀ b, z.1 b → G b ∨ w.heap.size ≤ b) ∧ ∀ b, (Value.slice z.2.1 (takeR aw4.A).1.1.1.length z.2.2).ownBlock = some b → w.heap.size ≤ b) rfl rfl co12 rfl rfl rfl (lt_b rfl) (fun w hI => (p_take ho14.a (ring_at hI (i := 1) rfl).dev).mono fun e w2 ⟨v, h1, h2, h3, h4⟩ => by obtain ⟨qa, qc, rfl, k0⟩ := (ring_at hI (i := 1) rfl).tookW (take_len ho14.a) h2 h3 h4; obtain ⟨F2, k1, k2, k3⟩ := hI.ringToW (F0 := G) (i := 1) rfl hG k0 hF13; exact ⟨(F2, qa, qc), h1, k1, k2, fun b hb => k3 _ List.mem_cons_self b hb⟩) ?_
  rintro ⟨F23, a21, c22⟩ ⟨hF23, hoa21⟩
  refine SL.mv ?_
  refine SL.uu (ru_extract rfl rfl rfl) ?_
  refine SL.uu (ru_extract rfl rfl rfl) ?_
  refine SL.alloca rfl rfl (lt_b rfl) ta49 rfl fun b26 hb26 => ?_
  refine SL.storea (i := 8) (vs := [Value.slice a21 ((takeR aw4.A).1.1.1.length) c22, bo false, iw ((takeR aw4.A).1.1.2)]) (c' := [Value.slice a21 ((takeR aw4.A).1.1.1.length) c22, bo false, iw ((takeR aw4.A).1.1.2)]) rfl rfl ta49 rfl rfl rfl rfl rfl rfl (le_b rfl) (.inr hb26) rfl ?_
  refine SL.as ?_
  refine SL.nn [(0, bo false), (1, pt g 0), (3, iw ((getF aw0.L).1.2)), (4, iw ((ownF aw1.L ((getF aw0.L).1.1) (setF ([120]))).1)), (5, iw ((sendF aw2 ((getF aw0.L).1.1)).1)), (6, iw ((freeF aw3.L ((getF aw0.L).1.1)).1)), (7, pt b20 0), (8, iw ((seeF aw4.L ((getF aw0.L).1.1)).2)), (9, pt b26 0), (10, iw ((takeR aw4.A).1.2))] [rBlk g [pt d 0, pt p 0, pt r 0, pt e 0, pt q 0, pt s 0, Value.slice none 0 0, Value.slice none 0 0] 43, rRing r d p ab F23 aw5, rRow (.slice q1 ((allV aw0.R).length) c2) (allV aw0.R) 3, rFz b6 [Value.int .u8 120] 5, rMine (.slice qh16 ((seeF aw4.L ((getF aw0.L).1.1)).1.head).length ch17) ((seeF aw4.L ((getF aw0.L).1.1)).1.head) 5, rMine (.slice qd18 ((seeF aw4.L ((getF aw0.L).1.1)).1.data).length cd19) ((seeF aw4.L ((getF aw0.L).1.1)).1.data) 5, rBlk b20 [iw ((seeF aw4.L ((getF aw0.L).1.1)).1.refs : Int), Value.slice qh16 ((seeF aw4.L ((getF aw0.L).1.1)).1.head.length) ch17, Value.slice qd18 ((seeF aw4.L ((getF aw0.L).1.1)).1.data.length) cd19] 33, rMine (.slice a21 ((takeR aw4.A).1.1.1).length c22) ((takeR aw4.A).1.1.1) 5, rBlk b26 [Value.slice a21 ((takeR aw4.A).1.1.1.length) c22, bo false, iw ((takeR aw4.A).1.1.2)] 49] ⟨rfl, rfl, rfl, rfl, rfl, rfl, rfl, rfl, rfl, rfl, trivial⟩ ?_
  refine SC.sr ?_
  refine SL.mv ?_
  refine SL.nk ?_
  refine SL.uu (ru_fieldAddr (o2 := 0) fd43_0 rfl rfl rfl) ?_
  refine SL.uu (ru_load (i := 0) ts36 rfl rfl rfl rfl) ?_
  refine SL.buildSlice (size := 1) (vals := [(0, Value.int .u8 121)]) (z := [Value.int .u8 0]) (cs := [Value.int .u8 121]) rfl rfl (lt_b rfl) rfl Try.underlying28 (by kernel_rfl) rfl rfl (by kernel_rfl) fun b27 hb27 => ?_
  refine SL.mark (i := 9) rfl rfl (lt_b rfl) rfl Try.underlying28 Try.underlying5 rfl rfl (.inr hb27) ?_
  have ho29 : RingOk aw6 := (show RingOk aw6 from ⟨give_ok ho24.a ([121]) false, ho24.t, ho24.r⟩)
  have hw30 : Few (aw6).L := hw25
  refine SL.call (ζ := Nat → Prop) (fun F28 => iw ((giveF aw5.A ([121]) false).1)) (fun F28 => [rBlk g [pt d 0, pt p 0, pt r 0, pt e 0, pt q 0, pt s 0, Value.slice none 0 0, Value.slice none 0 0] 43, rRing r d p ab F28 aw6, rRow (.slice q1 ((allV aw0.R).length) c2) (allV aw0.R) 3, rFz b6 [Value.int .u8 120] 5, rMine (.slice qh16 ((seeF aw4.L ((getF aw0.L).1.1)).1.head).length ch17) ((seeF aw4.L ((getF aw0.L).1.1)).1.head) 5, rMine (.slice qd18 ((seeF aw4.L ((getF aw0.L).1.1)).1.data).length cd19) ((seeF aw4.L ((getF aw0.L).1.1)).1.data) 5, rBlk b20 [iw ((seeF aw4.L ((getF aw0.L).1.1)).1.refs : Int), Value.slice qh16 ((seeF aw4.L ((getF aw0.L).1.1)).1.head.length) ch17, Value.slice qd18 ((seeF aw4.L ((getF aw0.L).1.1)).1.data.length) cd19] 33, rMine (.slice a21 ((takeR aw4.A).1.1.1).length c22) ((takeR aw4.A).1.1.1) 5, rBlk b26 [Value.slice a21 ((takeR aw4.A).1.1.1.length) c22, bo false, iw ((takeR aw4.A).1.1.2)] 49, rFz b27 [Value.int .u8 121] 5]) (fun F28 => (∀ b, F28 b → G b ∨ w.heap.size ≤ b)) rfl rfl co13 rfl rfl rfl (lt_b rfl) (fun w hI => (p_give ho24.a (ring_at hI (i := 1) rfl).dev (fz_bytes (l := [121]) (hI.1.get (i := 9) rfl) (by decide)) (mine_in fun b hb e => hI.apart (i := 9) (j := 1) rfl rfl (by decide) b (by cases hb; rfl) (.inr (.inl e))) false).mono fun e w2 ⟨h1, h2⟩ => by obtain ⟨F2, k1, k2⟩ := hI.ringTo (F0 := G) (i := 1) rfl hG ((ring_at hI (i := 1) rfl).devTo h2) hF23; exact ⟨F2, h1, k1, k2⟩) ?_
  intro F28 hF28
  refine SL.as ?_
  refine SL.nn [(0, bo false), (1, pt g 0), (3, iw ((getF aw0.L).1.2)), (4, iw ((ownF aw1.L ((getF aw0.L).1.1) (setF ([120]))).1)), (5, iw ((sendF aw2 ((getF aw0.L).1.1)).1)), (6, iw ((freeF aw3.L ((getF aw0.L).1.1)).1)), (7, pt b20 0), (8, iw ((seeF aw4.L ((getF aw0.L).1.1)).2)), (9, pt b26 0), (10, iw ((takeR aw4.A).1.2)), (11, iw ((giveF aw5.A ([121]) false).1))] [rBlk g [pt d 0, pt p 0, pt r 0, pt e 0, pt q 0, pt s 0, Value.slice none 0 0, Value.slice none 0 0] 43, rRing r d p ab F28 aw6, rRow (.slice q1 ((allV aw0.R).length) c2) (allV aw0.R) 3, rFz b6 [Value.int .u8 120] 5, rMine (.slice qh16 ((seeF aw4.L ((getF aw0.L).1.1)).1.head).length ch17) ((seeF aw4.L ((getF aw0.L).1.1)).1.head) 5, rMine (.slice qd18 ((seeF aw4.L ((getF aw0.L).1.1)).1.data).length cd19) ((seeF aw4.L ((getF aw0.L).1.1)).1.data) 5, rBlk b20 [iw ((seeF aw4.L ((getF aw0.L).1.1)).1.refs : Int), Value.slice qh16 ((seeF aw4.L ((getF aw0.L).1.1)).1.head.length) ch17, Value.slice qd18 ((seeF aw4.L ((getF aw0.L).1.1)).1.data.length) cd19] 33, rMine (.slice a21 ((takeR aw4.A).1.1.1).length c22) ((takeR aw4.A).1.1.1) 5, rBlk b26 [Value.slice a21 ((takeR aw4.A).1.1.1.length) c22, bo false, iw ((takeR aw4.A).1.1.2)] 49, rFz b27 [Value.int .u8 121] 5] ⟨rfl, rfl, rfl, rfl, rfl, rfl, rfl, rfl, rfl, rfl, rfl, trivial⟩ ?_
  refine SC.sr ?_
  refine SL.mv ?_
  refine SL.nk ?_
  refine SL.uu (ru_fieldAddr (o2 := 2) fd43_2 rfl rfl rfl) ?_
  refine SL.uu (ru_load (i := 0) ts38 rfl rfl rfl rfl) ?_
  have ho34 : RingOk ((pollF aw6).1) := (poll_ok ho29 hw30).1
  have hw35 : Few ((pollF aw6).1).L := (poll_ok ho29 hw30).2
  refine SL.call (ζ := (Nat → Prop) × Option Addr × Nat) (fun z => Value.slice z.2.1 ((pollF aw6).2.length) z.2.2) (fun z => [rBlk g [pt d 0, pt p 0, pt r 0, pt e 0, pt q 0, pt s 0, Value.slice none 0 0, Value.slice none 0 0] 43, rRing r d p ab z.1 ((pollF aw6).1), rRow (.slice q1 ((allV aw0.R).length) c2) (allV aw0.R) 3, rFz b6 [Value.int .u8 120] 5, rMine (.slice qh16 ((seeF aw4.L ((getF aw0.L).1.1)).1.head).length ch17) ((seeF aw4.L ((getF aw0.L).1.1)).1.head) 5, rMine (.slice qd18 ((seeF aw4.L ((getF aw0.L).1.1)).1.data).length cd19) ((seeF aw4.L ((getF aw0.L).1.1)).1.data) 5, rBlk b20 [iw ((seeF aw4.L ((getF aw0.L).1.1)).1.refs : Int), Value.slice qh16 ((seeF aw4.L ((getF aw0.L).1.1)).1.head.length) ch17, Value.slice qd18 ((seeF aw4.L ((getF aw0.L).1.1)).1.data.length) cd19] 33, rMine (.slice a21 ((takeR aw4.A).1.1.1).length c22) ((takeR aw4.A).1.1.1) 5, rBlk b26 [Value.slice a21 ((takeR aw4.A).1.1.1.length) c22, bo false, iw ((takeR aw4.A).1.1.2)] 49, rFz b27 [Value.int .u8 121] 5, rRowN (.slice z.2.1 (pollF aw6).2.length z.2.2) (comeV (pollF aw6).2) 67 2]) (fun z => (∀ b, z.1 b → G b ∨ w.heap.size ≤ b)) rfl rfl co20 rfl rfl rfl (lt_b rfl) (fun w hI => (poll_any ho29.a ho29.t ho29.r hw30 (ring_at hI (i := 1) rfl)).mono fun e w2 ⟨q, c, h1, h2⟩ => by obtain ⟨F2, k1, k2, k3⟩ := hI.ringToW (F0 := G) (i := 1) rfl hG h2 hF28; exact ⟨(F2, q, c), h1, k1, k2⟩) ?_
  rintro ⟨F33, q31, c32⟩ hF33
  refine SL.as ?_
  refine SL.nn [(0, bo false), (1, pt g 0), (3, iw ((getF aw0.L).1.2)), (4, iw ((ownF aw1.L ((getF aw0.L).1.1) (setF ([120]))).1)), (5, iw ((sendF aw2 ((getF aw0.L).1.1)).1)), (6, iw ((freeF aw3.L ((getF aw0.L).1.1)).1)), (7, pt b20 0), (8, iw ((seeF aw4.L ((getF aw0.L).1.1)).2)), (9, pt b26 0), (10, iw ((takeR aw4.A).1.2)), (11, iw ((giveF aw5.A ([121]) false).1)), (12, Value.slice q31 ((pollF aw6).2.length) c32)] [rBlk g [pt d 0, pt p 0, pt r 0, pt e 0, pt q 0, pt s 0, Value.slice none 0 0, Value.slice none 0 0] 43, rRing r d p ab F33 ((pollF aw6).1), rRow (.slice q1 ((allV aw0.R).length) c2) (allV aw0.R) 3, rFz b6 [Value.int .u8 120] 5, rMine (.slice qh16 ((seeF aw4.L ((getF aw0.L).1.1)).1.head).length ch17) ((seeF aw4.L ((getF aw0.L).1.1)).1.head) 5, rMine (.slice qd18 ((seeF aw4.L ((getF aw0.L).1.1)).1.data).length cd19) ((seeF aw4.L ((getF aw0.L).1.1)).1.data) 5, rBlk b20 [iw ((seeF aw4.L ((getF aw0.L).1.1)).1.refs : Int), Value.slice qh16 ((seeF aw4.L ((getF aw0.L).1.1)).1.head.length) ch17, Value.slice qd18 ((seeF aw4.L ((getF aw0.L).1.1)).1.data.length) cd19] 33, rMine (.slice a21 ((takeR aw4.A).1.1.1).length c22) ((takeR aw4.A).1.1.1) 5, rBlk b26 [Value.slice a21 ((takeR aw4.A).1.1.1.length) c22, bo false, iw ((takeR aw4.A).1.1.2)] 49, rFz b27 [Value.int .u8 121] 5, rRowN (.slice q31 (pollF aw6).2.length c32) (comeV (pollF aw6).2) 67 2] ⟨rfl, rfl, rfl, rfl, rfl, rfl, rfl, rfl, rfl, rfl, rfl, rfl, trivial⟩ ?_
  refine SC.sr ?_
  refine SL.mv ?_
  refine SL.uu (ru_eq (b := ((((getF aw0.L).1.2) : Int) == 0)) rfl rfl rfl rfl) ?_
  refine SL.mv ?_
  refine SL.norm [(0, bo false), (1, pt g 0), (3, iw ((getF aw0.L).1.2)), (4, iw ((ownF aw1.L ((getF aw0.L).1.1) (setF ([120]))).1)), (5, iw ((sendF aw2 ((getF aw0.L).1.1)).1)), (6, iw ((freeF aw3.L ((getF aw0.L).1.1)).1)), (7, pt b20 0), (8, iw ((seeF aw4.L ((getF aw0.L).1.1)).2)), (9, pt b26 0), (10, iw ((takeR aw4.A).1.2)), (11, iw ((giveF aw5.A ([121]) false).1)), (12, Value.slice q31 ((pollF aw6).2.length) c32), (93, iw ((getF aw0.L).1.2)), (94, bo true), (95, bo true)] _ ⟨rfl, rfl, rfl, rfl, rfl, rfl, rfl, rfl, rfl, rfl, rfl, rfl, rfl, (congrArg (fun bx => some (Value.bool bx)) (show ((((getF aw0.L).1.2) : Int) == 0) = true from (by decide +kernel))), (congrArg (fun bx => some (Value.bool bx)) (show ((((getF aw0.L).1.2) : Int) == 0) = true from (by decide +kernel))), trivial⟩ rfl ?_
  refine SL.gg (ru_move rfl rfl) ?_
  refine SL.gg (ru_eq (b := ((((ownF aw1.L ((getF aw0.L).1.1) (setF ([120]))).1) : Int) == 0)) rfl rfl rfl rfl) ?_
  refine SL.uu (ru_pick (u := bo ((((ownF aw1.L ((getF aw0.L).1.1) (setF ([120]))).1) : Int) == 0)) (v := bo false) rfl rfl rfl rfl) ?_
  refine SL.mv ?_
  refine SL.norm [(0, bo false), (1, pt g 0), (3, iw ((getF aw0.L).1.2)), (4, iw ((ownF aw1.L ((getF aw0.L).1.1) (setF ([120]))).1)), (5, iw ((sendF aw2 ((getF aw0.L).1.1)).1)), (6, iw ((freeF aw3.L ((getF aw0.L).1.1)).1)), (7, pt b20 0), (8, iw ((seeF aw4.L ((getF aw0.L).1.1)).2)), (9, pt b26 0), (10, iw ((takeR aw4.A).1.2)), (11, iw ((giveF aw5.A ([121]) false).1)), (12, Value.slice q31 ((pollF aw6).2.length) c32), (93, iw ((getF aw0.L).1.2)), (94, bo true), (95, bo true), (96, iw ((ownF aw1.L ((getF aw0.L).1.1) (setF ([120]))).1)), (97, bo true), (98, bo true), (99, bo true)] _ ⟨rfl, rfl, rfl, rfl, rfl, rfl, rfl, rfl, rfl, rfl, rfl, rfl, rfl, rfl, rfl, rfl, (congrArg (fun bx => some (Value.bool bx)) (show ((((ownF aw1.L ((getF aw0.L).1.1) (setF ([120]))).1) : Int) == 0) = true from (by decide +kernel))), (congrArg (fun bx => some (Value.bool bx)) (show ((((ownF aw1.L ((getF aw0.L).1.1) (setF ([120]))).1) : Int) == 0) = true from (by decide +kernel))), (congrArg (fun bx => some (Value.bool bx)) (show ((((ownF aw1.L ((getF aw0.L).1.1) (setF ([120]))).1) : Int) == 0) = true from (by decide +kernel))), trivial⟩ rfl ?_
  refine SL.gg (ru_move rfl rfl) ?_
  refine SL.gg (ru_eq (b := ((((sendF aw2 ((getF aw0.L).1.1)).1) : Int) == 0)) rfl rfl rfl rfl) ?_
  refine SL.uu (ru_pick (u := bo ((((sendF aw2 ((getF aw0.L).1.1)).1) : Int) == 0)) (v := bo false) rfl rfl rfl rfl) ?_
  refine SL.mv ?_
  refine SL.norm [(0, bo false), (1, pt g 0), (3, iw ((getF aw0.L).1.2)), (4, iw ((ownF aw1.L ((getF aw0.L).1.1) (setF ([120]))).1)), (5, iw ((sendF aw2 ((getF aw0.L).1.1)).1)), (6, iw ((freeF aw3.L ((getF aw0.L).1.1)).1)), (7, pt b20 0), (8, iw ((seeF aw4.L ((getF aw0.L).1.1)).2)), (9, pt b26 0), (10, iw ((takeR aw4.A).1.2)), (11, iw ((giveF aw5.A ([121]) false).1)), (12, Value.slice q31 ((pollF aw6).2.length) c32), (93, iw ((getF aw0.L).1.2)), (94, bo true), (95, bo true), (96, iw ((ownF aw1.L ((getF aw0.L).1.1) (setF ([120]))).1)), (97, bo true), (98, bo true), (99, bo true), (100, iw ((sendF aw2 ((getF aw0.L).1.1)).1)), (101, bo true), (102, bo true), (103, bo true)] _ ⟨rfl, rfl, rfl, rfl, rfl, rfl, rfl, rfl, rfl, rfl, rfl, rfl, rfl, rfl, rfl, rfl, rfl, rfl, rfl, rfl, (congrArg (fun bx => some (Value.bool bx)) (show ((((sendF aw2 ((getF aw0.L).1.1)).1) : Int) == 0) = true from (by decide +kernel))), (congrArg (fun bx => some (Value.bool bx)) (show ((((sendF aw2 ((getF aw0.L).1.1)).1) : Int) == 0) = true from (by decide +kernel))), (congrArg (fun bx => some (Value.bool bx)) (show ((((sendF aw2 ((getF aw0.L).1.1)).1) : Int) == 0) = true from (by decide +kernel))), trivial⟩ rfl ?_
  refine SL.gg (ru_move rfl rfl) ?_
  refine SL.gg (ru_eq (b := ((((freeF aw3.L ((getF aw0.L).1.1)).1) : Int) == 0)) rfl rfl rfl rfl) ?_
  refine SL.uu (ru_pick (u := bo ((((freeF aw3.L ((getF aw0.L).1.1)).1) : Int) == 0)) (v := bo false) rfl rfl rfl rfl) ?_
  refine SL.mv ?_
  refine SL.norm [(0, bo false), (1, pt g 0), (3, iw ((getF aw0.L).1.2)), (4, iw ((ownF aw1.L ((getF aw0.L).1.1) (setF ([120]))).1)), (5, iw ((sendF aw2 ((getF aw0.L).1.1)).1)), (6, iw ((freeF aw3.L ((getF aw0.L).1.1)).1)), (7, pt b20 0), (8, iw ((seeF aw4.L ((getF aw0.L).1.1)).2)), (9, pt b26 0), (10, iw ((takeR aw4.A).1.2)), (11, iw ((giveF aw5.A ([121]) false).1)), (12, Value.slice q31 ((pollF aw6).2.length) c32), (93, iw ((getF aw0.L).1.2)), (94, bo true), (95, bo true), (96, iw ((ownF aw1.L ((getF aw0.L).1.1) (setF ([120]))).1)), (97, bo true), (98, bo true), (99, bo true), (100, iw ((sendF aw2 ((getF aw0.L).1.1)).1)), (101, bo true), (102, bo true), (103, bo true), (104, iw ((freeF aw3.L ((getF aw0.L).1.1)).1)), (105, bo true), (106, bo true), (107, bo true)] _ ⟨rfl, rfl, rfl, rfl, rfl, rfl, rfl, rfl, rfl, rfl, rfl, rfl, rfl, rfl, rfl, rfl, rfl, rfl, rfl, rfl, rfl, rfl, rfl, rfl, (congrArg (fun bx => some (Value.bool bx)) (show ((((freeF aw3.L ((getF aw0.L).1.1)).1) : Int) == 0) = true from (by decide +kernel))), (congrArg (fun bx => some (Value.bool bx)) (show ((((freeF aw3.L ((getF aw0.L).1.1)).1) : Int) == 0) = true from (by decide +kernel))), (congrArg (fun bx => some (Value.bool bx)) (show ((((freeF aw3.L ((getF aw0.L).1.1)).1) : Int) == 0) = true from (by decide +kernel))), trivial⟩ rfl ?_
  refine SL.gg (ru_move rfl rfl) ?_
  refine SL.gg (ru_eq (b := ((((seeF aw4.L ((getF aw0.L).1.1)).2) : Int) == 0)) rfl rfl rfl rfl) ?_
  refine SL.uu (ru_pick (u := bo ((((seeF aw4.L ((getF aw0.L).1.1)).2) : Int) == 0)) (v := bo false) rfl rfl rfl rfl) ?_
  refine SL.mv ?_
  refine SL.norm [(0, bo false), (1, pt g 0), (3, iw ((getF aw0.L).1.2)), (4, iw ((ownF aw1.L ((getF aw0.L).1.1) (setF ([120]))).1)), (5, iw ((sendF aw2 ((getF aw0.L).1.1)).1)), (6, iw ((freeF aw3.L ((getF aw0.L).1.1)).1)), (7, pt b20 0), (8, iw ((seeF aw4.L ((getF aw0.L).1.1)).2)), (9, pt b26 0), (10, iw ((takeR aw4.A).1.2)), (11, iw ((giveF aw5.A ([121]) false).1)), (12, Value.slice q31 ((pollF aw6).2.length) c32), (93, iw ((getF aw0.L).1.2)), (94, bo true), (95, bo true), (96, iw ((ownF aw1.L ((getF aw0.L).1.1) (setF ([120]))).1)), (97, bo true), (98, bo true), (99, bo true), (100, iw ((sendF aw2 ((getF aw0.L).1.1)).1)), (101, bo true), (102, bo true), (103, bo true), (104, iw ((freeF aw3.L ((getF aw0.L).1.1)).1)), (105, bo true), (106, bo true), (107, bo true), (108, iw ((seeF aw4.L ((getF aw0.L).1.1)).2)), (109, bo true), (110, bo true), (111, bo true)] _ ⟨rfl, rfl, rfl, rfl, rfl, rfl, rfl, rfl, rfl, rfl, rfl, rfl, rfl, rfl, rfl, rfl, rfl, rfl, rfl, rfl, rfl, rfl, rfl, rfl, rfl, rfl, rfl, rfl, (congrArg (fun bx => some (Value.bool bx)) (show ((((seeF aw4.L ((getF aw0.L).1.1)).2) : Int) == 0) = true from (by decide +kernel))), (congrArg (fun bx => some (Value.bool bx)) (show ((((seeF aw4.L ((getF aw0.L).1.1)).2) : Int) == 0) = true from (by decide +kernel))), (congrArg (fun bx => some (Value.bool bx)) (show ((((seeF aw4.L ((getF aw0.L).1.1)).2) : Int) == 0) = true from (by decide +kernel))), trivial⟩ rfl ?_
  refine SL.gg (ru_move rfl rfl) ?_
  refine SL.gg (ru_eq (b := ((((takeR aw4.A).1.2) : Int) == 0)) rfl rfl rfl rfl) ?_
  refine SL.uu (ru_pick (u := bo ((((takeR aw4.A).1.2) : Int) == 0)) (v := bo false) rfl rfl rfl rfl) ?_
  refine SL.mv ?_
  refine SL.norm [(0, bo false), (1, pt g 0), (3, iw ((getF aw0.L).1.2)), (4, iw ((ownF aw1.L ((getF aw0.L).1.1) (setF ([120]))).1)), (5, iw ((sendF aw2 ((getF aw0.L).1.1)).1)), (6, iw ((freeF aw3.L ((getF aw0.L).1.1)).1)), (7, pt b20 0), (8, iw ((seeF aw4.L ((getF aw0.L).1.1)).2)), (9, pt b26 0), (10, iw ((takeR aw4.A).1.2)), (11, iw ((giveF aw5.A ([121]) false).1)), (12, Value.slice q31 ((pollF aw6).2.length) c32), (93, iw ((getF aw0.L).1.2)), (94, bo true), (95, bo true), (96, iw ((ownF aw1.L ((getF aw0.L).1.1) (setF ([120]))).1)), (97, bo true), (98, bo true), (99, bo true), (100, iw ((sendF aw2 ((getF aw0.L).1.1)).1)), (101, bo true), (102, bo true), (103, bo true), (104, iw ((freeF aw3.L ((getF aw0.L).1.1)).1)), (105, bo true), (106, bo true), (107, bo true), (108, iw ((seeF aw4.L ((getF aw0.L).1.1)).2)), (109, bo true), (110, bo true), (111, bo true), (112, iw ((takeR aw4.A).1.2)), (113, bo true), (114, bo true), (115, bo true)] _ ⟨rfl, rfl, rfl, rfl, rfl, rfl, rfl, rfl, rfl, rfl, rfl, rfl, rfl, rfl, rfl, rfl, rfl, rfl, rfl, rfl, rfl, rfl, rfl, rfl, rfl, rfl, rfl, rfl, rfl, rfl, rfl, rfl, (congrArg (fun bx => some (Value.bool bx)) (show ((((takeR aw4.A).1.2) : Int) == 0) = true from (by decide +kernel))), (congrArg (fun bx => some (Value.bool bx)) (show ((((takeR aw4.A).1.2) : Int) == 0) = true from (by decide +kernel))), (congrArg (fun bx => some (Value.bool bx)) (show ((((takeR aw4.A).1.2) : Int) == 0) = true from (by decide +kernel))), trivial⟩ rfl ?_
  refine SL.gg (ru_move rfl rfl) ?_
  refine SL.gg (ru_eq (b := ((((giveF aw5.A ([121]) false).1) : Int) == 0)) rfl rfl rfl rfl) ?_
  refine SL.uu (ru_pick (u := bo ((((giveF aw5.A ([121]) false).1) : Int) == 0)) (v := bo false) rfl rfl rfl rfl) ?_
  refine SL.as ?_
  refine SL.nn [(0, bo false), (1, pt g 0), (7, pt b20 0), (9, pt b26 0), (12, Value.slice q31 ((pollF aw6).2.length) c32), (13, bo ((((giveF aw5.A ([121]) false).1) : Int) == 0))] _ ⟨rfl, rfl, rfl, rfl, rfl, rfl, trivial⟩ ?_
  refine SC.seq ?_
  refine SC.sr ?_
  refine SL.mv ?_
  refine SL.uu (ru_not (c := (!((((giveF aw5.A ([121]) false).1) : Int) == 0))) rfl rfl rfl) ?_
  refine SL.mv ?_
  refine SL.norm [(0, bo false), (1, pt g 0), (7, pt b20 0), (9, pt b26 0), (12, Value.slice q31 ((pollF aw6).2.length) c32), (13, bo ((((giveF aw5.A ([121]) false).1) : Int) == 0)), (119, bo ((((giveF aw5.A ([121]) false).1) : Int) == 0)), (120, bo false), (121, bo false)] _ ⟨rfl, rfl, rfl, rfl, rfl, rfl, rfl, (congrArg (fun bx => some (Value.bool bx)) (show (!((((giveF aw5.A ([121]) false).1) : Int) == 0)) = false from (by decide +kernel))), (congrArg (fun bx => some (Value.bool bx)) (show (!((((giveF aw5.A ([121]) false).1) : Int) == 0)) = false from (by decide +kernel))), trivial⟩ rfl ?_
  refine SL.gg (ru_move rfl rfl) ?_
  refine SL.gg (ru_len Try.underlying61 rfl rfl) ?_
  refine SL.gg (ru_ne (b := ((((pollF aw6).2.length : Int) : Int) != 1)) rfl rfl rfl rfl) ?_
  refine SL.uu (ru_pick (u := bo true) (v := bo ((((pollF aw6).2.length : Int) : Int) != 1)) rfl rfl rfl rfl) ?_
  refine SL.nn [(0, bo false), (1, pt g 0), (7, pt b20 0), (9, pt b26 0), (12, Value.slice q31 ((pollF aw6).2.length) c32), (125, bo ((((pollF aw6).2.length : Int) : Int) != 1))] _ ⟨rfl, rfl, rfl, rfl, rfl, rfl, trivial⟩ ?_
  refine SC.no (show some (Value.bool ((((pollF aw6).2.length : Int) : Int) != 1)) = some (Value.bool false) from congrArg (fun x => some (Value.bool x)) (by decide +kernel)) ?_
  refine SC.skip ?_
  refine SC.of_SE ?_
  refine SC.norm [(0, bo false), (1, pt g 0), (7, pt b20 0), (9, pt b26 0), (12, Value.slice q31 ((pollF aw6).2.length) c32)] _ ⟨rfl, rfl, rfl, rfl, rfl, trivial⟩ rfl ?_
  refine SC.seq ?_
  refine SC.region_mk_tailE [(13, 11)] 13 [(8, Mk.see ⟨190, w, G⟩ (seeF ((pollF aw6).1).L (0 : Int)).1.refs (seeF ((pollF aw6).1).L (0 : Int)).1.head (seeF ((pollF aw6).1).L (0 : Int)).1.data (seeF ((pollF aw6).1).L (0 : Int)).2 5), (12, Mk.blk ⟨190, w, G⟩ [iw 0, Value.slice none 0 0, Value.slice none 0 0] 33)] [(9, [8]), (10, [8]), (11, [8])] rfl rfl (by kernel_rfl) (by kernel_rfl) (by kernel_rfl) (by kernel_rfl) ?_
  refine SM.ru rfl rfl rfl (w_all rfl) rfl (lt_b rfl) (ru_move rfl rfl) ?_
  refine SM.ru rfl rfl rfl (w_all rfl) rfl (lt_b rfl) (ru_nilCheck rfl rfl) ?_
  refine SM.ru rfl rfl rfl (w_all rfl) rfl (lt_b rfl) (ru_fieldAddr (o2 := 1) fd43_1 rfl rfl rfl) ?_
  refine SM.ru rfl rfl rfl (w_all rfl) rfl (lt_b rfl) (ru_load (i := 0) ts37 rfl rfl rfl rfl) ?_
  refine SM.ru rfl rfl rfl (w_all rfl) rfl (lt_b rfl) (ru_move rfl rfl) ?_
  refine SM.ru rfl rfl rfl (w_all rfl) rfl (lt_b rfl) (ru_index_rowN (ri := 10) si61 rfl rfl rfl rfl (by omega) (by omega)) ?_
  refine SM.ru rfl rfl rfl (w_all rfl) rfl (lt_b rfl) (ru_fieldAddr (o2 := ((0 : Int).toNat * 2 + 0)) fd67_0 rfl rfl rfl) ?_
  refine SM.ru rfl rfl rfl (w_all rfl) rfl (lt_b rfl) (ru_load_rowN (ri := 10) (i := (0 : Int).toNat) (k := 0) (size := 2) ts3 rfl rfl rfl (come_get (i := 0) (x := (0, false)) (by decide +kernel)) (by decide) rfl) ?_
  refine SM.mkcall (s := Mk.see ⟨190, w, G⟩ (seeF ((pollF aw6).1).L (0 : Int)).1.refs (seeF ((pollF aw6).1).L (0 : Int)).1.head (seeF ((pollF aw6).1).L (0 : Int)).1.data (seeF ((pollF aw6).1).L (0 : Int)).2 5) rfl rfl rfl rfl (w_all rfl) rfl (lt_b rfl) rfl rfl rfl co9 rfl rfl (fun l' w hI => (see_any (ring_at hI (i := 1) rfl).pool (0 : Int)).mono fun e w2 ⟨qh, ch, qd, cd, h1, h2, h3, h4, h5, h6, h7⟩ => ⟨_, h1, ⟨qh, ch, qd, cd, fun b hb => Nat.le_trans hI.2.size (h4 b hb), fun b hb => Nat.le_trans hI.2.size (h5 b hb), rfl⟩, hI.saw2 h2 h3 h4 h5 h6 h7⟩) ?_
  rintro _ ⟨qh36, ch37, qd38, cd39, hqh36, hqd38, rfl⟩
  refine SM.ru rfl rfl rfl (w_all rfl) rfl (lt_b rfl) (ru_move rfl rfl) ?_
  refine SM.ru rfl rfl rfl (w_all rfl) rfl (lt_b rfl) (ru_extract rfl rfl rfl) ?_
  refine SM.ru rfl rfl rfl (w_all rfl) rfl (lt_b rfl) (ru_extract rfl rfl rfl) ?_
  refine SM.alloca rfl rfl rfl rfl (w_all rfl) rfl (lt_b rfl) rfl ta33 rfl fun b40 hb40 => ?_
  refine SM.nilL (l' := [rBlk g [pt d 0, pt p 0, pt r 0, pt e 0, pt q 0, pt s 0, Value.slice none 0 0, Value.slice none 0 0] 43, rRing r d p ab F33 ((pollF aw6).1), rRow (.slice q1 ((allV aw0.R).length) c2) (allV aw0.R) 3, rFz b6 [Value.int .u8 120] 5, rMine (.slice qh16 ((seeF aw4.L ((getF aw0.L).1.1)).1.head).length ch17) ((seeF aw4.L ((getF aw0.L).1.1)).1.head) 5, rMine (.slice qd18 ((seeF aw4.L ((getF aw0.L).1.1)).1.data).length cd19) ((seeF aw4.L ((getF aw0.L).1.1)).1.data) 5, rBlk b20 [iw ((seeF aw4.L ((getF aw0.L).1.1)).1.refs : Int), Value.slice qh16 ((seeF aw4.L ((getF aw0.L).1.1)).1.head.length) ch17, Value.slice qd18 ((seeF aw4.L ((getF aw0.L).1.1)).1.data.length) cd19] 33, rMine (.slice a21 ((takeR aw4.A).1.1.1).length c22) ((takeR aw4.A).1.1.1) 5, rBlk b26 [Value.slice a21 ((takeR aw4.A).1.1.1.length) c22, bo false, iw ((takeR aw4.A).1.1.2)] 49, rFz b27 [Value.int .u8 121] 5, rRowN (.slice q31 (pollF aw6).2.length c32) (comeV (pollF aw6).2) 67 2, rMine (.slice qh36 ((seeF ((pollF aw6).1).L (0 : Int)).1.head).length ch37) ((seeF ((pollF aw6).1).L (0 : Int)).1.head) 5, rMine (.slice qd38 ((seeF ((pollF aw6).1).L (0 : Int)).1.data).length cd39) ((seeF ((pollF aw6).1).L (0 : Int)).1.data) 5, rBlk b40 [iw 0, Value.slice none 0 0, Value.slice none 0 0] 33]) rfl ?_
  refine SL.storea (i := 13) (vs := [iw ((seeF ((pollF aw6).1).L (0 : Int)).1.refs : Int), Value.slice qh36 ((seeF ((pollF aw6).1).L (0 : Int)).1.head.length) ch37, Value.slice qd38 ((seeF ((pollF aw6).1).L (0 : Int)).1.data.length) cd39]) (c' := [iw ((seeF ((pollF aw6).1).L (0 : Int)).1.refs : Int), Value.slice qh36 ((seeF ((pollF aw6).1).L (0 : Int)).1.head.length) ch37, Value.slice qd38 ((seeF ((pollF aw6).1).L (0 : Int)).1.data.length) cd39]) rfl rfl ta33 rfl rfl rfl rfl rfl rfl (le_b rfl) (.inr hb40) rfl ?_
  refine SL.as ?_
  refine SL.nil ?_
  refine SE.onlyN ?_
  refine SC.of_SE ?_
  refine SC.norm [(0, bo false), (1, pt g 0), (7, pt b20 0), (9, pt b26 0), (12, Value.slice q31 ((pollF aw6).2.length) c32), (14, pt b40 0), (15, iw ((seeF ((pollF aw6).1).L (0 : Int)).2))] [rBlk g [pt d 0, pt p 0, pt r 0, pt e 0, pt q 0, pt s 0, Value.slice none 0 0, Value.slice none 0 0] 43, rRing r d p ab F33 ((pollF aw6).1), rRow (.slice q1 ((allV aw0.R).length) c2) (allV aw0.R) 3, rFz b6 [Value.int .u8 120] 5, rMine (.slice qh16 ((seeF aw4.L ((getF aw0.L).1.1)).1.head).length ch17) ((seeF aw4.L ((getF aw0.L).1.1)).1.head) 5, rMine (.slice qd18 ((seeF aw4.L ((getF aw0.L).1.1)).1.data).length cd19) ((seeF aw4.L ((getF aw0.L).1.1)).1.data) 5, rBlk b20 [iw ((seeF aw4.L ((getF aw0.L).1.1)).1.refs : Int), Value.slice qh16 ((seeF aw4.L ((getF aw0.L).1.1)).1.head.length) ch17, Value.slice qd18 ((seeF aw4.L ((getF aw0.L).1.1)).1.data.length) cd19] 33, rMine (.slice a21 ((takeR aw4.A).1.1.1).length c22) ((takeR aw4.A).1.1.1) 5, rBlk b26 [Value.slice a21 ((takeR aw4.A).1.1.1.length) c22, bo false, iw ((takeR aw4.A).1.1.2)] 49, rFz b27 [Value.int .u8 121] 5, rRowN (.slice q31 (pollF aw6).2.length c32) (comeV (pollF aw6).2) 67 2, rMine (.slice qh36 ((seeF ((pollF aw6).1).L (0 : Int)).1.head).length ch37) ((seeF ((pollF aw6).1).L (0 : Int)).1.head) 5, rMine (.slice qd38 ((seeF ((pollF aw6).1).L (0 : Int)).1.data).length cd39) ((seeF ((pollF aw6).1).L (0 : Int)).1.data) 5, rBlk b40 [iw ((seeF ((pollF aw6).1).L (0 : Int)).1.refs : Int), Value.slice qh36 ((seeF ((pollF aw6).1).L (0 : Int)).1.head.length) ch37, Value.slice qd38 ((seeF ((pollF aw6).1).L (0 : Int)).1.data.length) cd39] 33] ⟨rfl, rfl, rfl, rfl, rfl, rfl, rfl, trivial⟩ rfl ?_
  refine SC.sr ?_
  refine SL.uu (ru_fieldAddr (o2 := 0) fd33_0 rfl rfl rfl) ?_
  refine SL.uu (ru_load (i := 6) ts3 rfl rfl rfl rfl) ?_
  refine SL.uu (ru_eq (b := ((((seeF aw4.L ((getF aw0.L).1.1)).1.refs : Int) : Int) == 1)) rfl rfl rfl rfl) ?_
  refine SL.mv ?_
  refine SL.norm [(0, bo false), (1, pt g 0), (7, pt b20 0), (9, pt b26 0), (12, Value.slice q31 ((pollF aw6).2.length) c32), (14, pt b40 0), (15, iw ((seeF ((pollF aw6).1).L (0 : Int)).2)), (138, pt b20 0), (139, iw ((seeF aw4.L ((getF aw0.L).1.1)).1.refs : Int)), (140, bo true), (141, bo true)] _ ⟨rfl, rfl, rfl, rfl, rfl, rfl, rfl, rfl, rfl, (congrArg (fun bx => some (Value.bool bx)) (show ((((seeF aw4.L ((getF aw0.L).1.1)).1.refs : Int) : Int) == 1) = true from (by decide +kernel))), (congrArg (fun bx => some (Value.bool bx)) (show ((((seeF aw4.L ((getF aw0.L).1.1)).1.refs : Int) : Int) == 1) = true from (by decide +kernel))), trivial⟩ rfl ?_
  refine SL.gg (ru_fieldAddr (o2 := 0) fd49_0 rfl rfl rfl) ?_
  refine SL.gg (ru_load (i := 8) ts28 rfl rfl rfl rfl) ?_
  refine SL.gg (ru_str (f := ((takeR aw4.A).1.1.1)) Try.underlying28 Try.underlying5 Try.underlying9 rfl rfl (fun w hI => mine_bytes hI (j := 7) rfl (take_len ho14.a))) ?_
  refine SL.gg (ru_streq (f := (takeR aw4.A).1.1.1) (h := [120]) (b := (decide ((takeR aw4.A).1.1.1 = [120]))) Try.underlying9 rfl rfl rfl rfl) ?_
  refine SL.uu (ru_pick (u := bo (decide ((takeR aw4.A).1.1.1 = [120]))) (v := bo false) rfl rfl rfl rfl) ?_
  refine SL.mv ?_
  refine SL.norm [(0, bo false), (1, pt g 0), (7, pt b20 0), (9, pt b26 0), (12, Value.slice q31 ((pollF aw6).2.length) c32), (14, pt b40 0), (15, iw ((seeF ((pollF aw6).1).L (0 : Int)).2)), (138, pt b20 0), (139, iw ((seeF aw4.L ((getF aw0.L).1.1)).1.refs : Int)), (140, bo true), (141, bo true), (142, pt b26 0), (143, Value.slice a21 ((takeR aw4.A).1.1.1.length) c22), (144, Value.string ⟨((takeR aw4.A).1.1.1).toArray⟩), (145, bo true), (146, bo true), (147, bo true)] _ ⟨rfl, rfl, rfl, rfl, rfl, rfl, rfl, rfl, rfl, rfl, rfl, rfl, rfl, rfl, (congrArg (fun bx => some (Value.bool bx)) (show (decide ((takeR aw4.A).1.1.1 = [120])) = true from (by decide +kernel))), (congrArg (fun bx => some (Value.bool bx)) (show (decide ((takeR aw4.A).1.1.1 = [120])) = true from (by decide +kernel))), (congrArg (fun bx => some (Value.bool bx)) (show (decide ((takeR aw4.A).1.1.1 = [120])) = true from (by decide +kernel))), trivial⟩ rfl ?_
  refine SL.gg (ru_move rfl rfl) ?_
  refine SL.gg (ru_eq (b := ((((seeF ((pollF aw6).1).L (0 : Int)).2) : Int) == 0)) rfl rfl rfl rfl) ?_
  refine SL.uu (ru_pick (u := bo ((((seeF ((pollF aw6).1).L (0 : Int)).2) : Int) == 0)) (v := bo false) rfl rfl rfl rfl) ?_
  refine SL.mv ?_
  refine SL.norm [(0, bo false), (1, pt g 0), (7, pt b20 0), (9, pt b26 0), (12, Value.slice q31 ((pollF aw6).2.length) c32), (14, pt b40 0), (15, iw ((seeF ((pollF aw6).1).L (0 : Int)).2)), (138, pt b20 0), (139, iw ((seeF aw4.L ((getF aw0.L).1.1)).1.refs : Int)), (140, bo true), (141, bo true), (142, pt b26 0), (143, Value.slice a21 ((takeR aw4.A).1.1.1.length) c22), (144, Value.string ⟨((takeR aw4.A).1.1.1).toArray⟩), (145, bo true), (146, bo true), (147, bo true), (148, iw ((seeF ((pollF aw6).1).L (0 : Int)).2)), (149, bo true), (150, bo true), (151, bo true)] _ ⟨rfl, rfl, rfl, rfl, rfl, rfl, rfl, rfl, rfl, rfl, rfl, rfl, rfl, rfl, rfl, rfl, rfl, rfl, (congrArg (fun bx => some (Value.bool bx)) (show ((((seeF ((pollF aw6).1).L (0 : Int)).2) : Int) == 0) = true from (by decide +kernel))), (congrArg (fun bx => some (Value.bool bx)) (show ((((seeF ((pollF aw6).1).L (0 : Int)).2) : Int) == 0) = true from (by decide +kernel))), (congrArg (fun bx => some (Value.bool bx)) (show ((((seeF ((pollF aw6).1).L (0 : Int)).2) : Int) == 0) = true from (by decide +kernel))), trivial⟩ rfl ?_
  refine SL.gg (ru_fieldAddr (o2 := 2) fd33_2 rfl rfl rfl) ?_
  refine SL.gg (ru_load (i := 13) ts28 rfl rfl rfl rfl) ?_
  refine SL.gg (ru_str (f := ((seeF ((pollF aw6).1).L (0 : Int)).1.data)) Try.underlying28 Try.underlying5 Try.underlying9 rfl rfl (fun w hI => mine_bytes hI (j := 12) rfl (Nat.le_trans (see_sizes (ring_at hI (i := 1) rfl).pool (0 : Int)).2 (by decide)))) ?_
  refine SL.gg (ru_streq (f := (seeF ((pollF aw6).1).L (0 : Int)).1.data) (h := [121]) (b := (decide ((seeF ((pollF aw6).1).L (0 : Int)).1.data = [121]))) Try.underlying9 rfl rfl rfl rfl) ?_
  refine SL.uu (ru_pick (u := bo (decide ((seeF ((pollF aw6).1).L (0 : Int)).1.data = [121]))) (v := bo false) rfl rfl rfl rfl) ?_
  refine SL.mv ?_
  refine SL.norm [(0, bo false), (1, pt g 0), (7, pt b20 0), (9, pt b26 0), (12, Value.slice q31 ((pollF aw6).2.length) c32), (14, pt b40 0), (15, iw ((seeF ((pollF aw6).1).L (0 : Int)).2)), (138, pt b20 0), (139, iw ((seeF aw4.L ((getF aw0.L).1.1)).1.refs : Int)), (140, bo true), (141, bo true), (142, pt b26 0), (143, Value.slice a21 ((takeR aw4.A).1.1.1.length) c22), (144, Value.string ⟨((takeR aw4.A).1.1.1).toArray⟩), (145, bo true), (146, bo true), (147, bo true), (148, iw ((seeF ((pollF aw6).1).L (0 : Int)).2)), (149, bo true), (150, bo true), (151, bo true), (152, pt b40 2), (153, Value.slice qd38 ((seeF ((pollF aw6).1).L (0 : Int)).1.data.length) cd39), (154, Value.string ⟨((seeF ((pollF aw6).1).L (0 : Int)).1.data).toArray⟩), (155, bo true), (156, bo true), (157, bo true)] _ ⟨rfl, rfl, rfl, rfl, rfl, rfl, rfl, rfl, rfl, rfl, rfl, rfl, rfl, rfl, rfl, rfl, rfl, rfl, rfl, rfl, rfl, rfl, rfl, rfl, (congrArg (fun bx => some (Value.bool bx)) (show (decide ((seeF ((pollF aw6).1).L (0 : Int)).1.data = [121])) = true from (by decide +kernel))), (congrArg (fun bx => some (Value.bool bx)) (show (decide ((seeF ((pollF aw6).1).L (0 : Int)).1.data = [121])) = true from (by decide +kernel))), (congrArg (fun bx => some (Value.bool bx)) (show (decide ((seeF ((pollF aw6).1).L (0 : Int)).1.data = [121])) = true from (by decide +kernel))), trivial⟩ rfl ?_
  refine SL.gg (ru_move rfl rfl) ?_
  refine SL.gg (ru_index_rowN (ri := 10) si61 rfl rfl rfl rfl (by omega) (by omega)) ?_
  refine SL.gg (ru_fieldAddr (o2 := ((0 : Int).toNat * 2 + 1)) fd67_1 rfl rfl rfl) ?_
  refine SL.gg (ru_load_rowN (ri := 10) (i := (0 : Int).toNat) (k := 1) (size := 2) ts4 rfl rfl rfl (come_get (i := 0) (x := (0, false)) (by decide +kernel)) (by decide) rfl) ?_
  refine SL.gg (ru_not (c := true) rfl rfl rfl) ?_
  refine SL.uu (ru_pick (u := bo true) (v := bo false) rfl rfl rfl rfl) ?_
  refine SL.mv ?_
  refine SL.gg (ru_move rfl rfl) ?_
  refine SL.gg (ru_nilCheck rfl rfl) ?_
  refine SL.gg (ru_fieldAddr (o2 := 2) fd43_2 rfl rfl rfl) ?_
  refine SL.gg (ru_load (i := 0) ts38 rfl rfl rfl rfl) ?_
  refine SL.mk (Mk.ints ⟨190, w, G⟩ (allV (((pollF aw6).1).T)) 3) (w_yes rfl rfl rfl) rfl co21 rfl rfl rfl (lt_b rfl) (fun l' w hI => (sending_any ho34.t ho34.r (ring_at hI (i := 1) rfl)).mono fun e w2 ⟨q, c, h1, h2, h3, h4⟩ => ⟨_, h1, ⟨q, c, fun b hb => Nat.le_trans hI.2.size (h3 b hb), rfl⟩, hI.add h4 h2 h3⟩) ?_
  rintro _ ⟨q41, c42, hq41, rfl⟩
  refine SL.norm [(0, bo false), (1, pt g 0), (7, pt b20 0), (9, pt b26 0), (12, Value.slice q31 ((pollF aw6).2.length) c32), (14, pt b40 0), (15, iw ((seeF ((pollF aw6).1).L (0 : Int)).2)), (138, pt b20 0), (139, iw ((seeF aw4.L ((getF aw0.L).1.1)).1.refs : Int)), (140, bo true), (141, bo true), (142, pt b26 0), (143, Value.slice a21 ((takeR aw4.A).1.1.1.length) c22), (144, Value.string ⟨((takeR aw4.A).1.1.1).toArray⟩), (145, bo true), (146, bo true), (147, bo true), (148, iw ((seeF ((pollF aw6).1).L (0 : Int)).2)), (149, bo true), (150, bo true), (151, bo true), (152, pt b40 2), (153, Value.slice qd38 ((seeF ((pollF aw6).1).L (0 : Int)).1.data.length) cd39), (154, Value.string ⟨((seeF ((pollF aw6).1).L (0 : Int)).1.data).toArray⟩), (155, bo true), (156, bo true), (157, bo true), (158, Value.slice q31 ((pollF aw6).2.length) c32), (159, pt (rowB q31) ((0 : Int).toNat * 2)), (160, pt (rowB q31) ((0 : Int).toNat * 2 + 1)), (161, bo false), (162, bo true), (163, bo true), (164, bo true), (165, pt g 0), (166, pt g 0), (167, pt g 2), (168, pt r 0), (169, Value.slice q41 ((allV (((pollF aw6).1).T)).length) c42)] [rBlk g [pt d 0, pt p 0, pt r 0, pt e 0, pt q 0, pt s 0, Value.slice none 0 0, Value.slice none 0 0] 43, rRing r d p ab F33 ((pollF aw6).1), rRow (.slice q1 ((allV aw0.R).length) c2) (allV aw0.R) 3, rFz b6 [Value.int .u8 120] 5, rMine (.slice qh16 ((seeF aw4.L ((getF aw0.L).1.1)).1.head).length ch17) ((seeF aw4.L ((getF aw0.L).1.1)).1.head) 5, rMine (.slice qd18 ((seeF aw4.L ((getF aw0.L).1.1)).1.data).length cd19) ((seeF aw4.L ((getF aw0.L).1.1)).1.data) 5, rBlk b20 [iw ((seeF aw4.L ((getF aw0.L).1.1)).1.refs : Int), Value.slice qh16 ((seeF aw4.L ((getF aw0.L).1.1)).1.head.length) ch17, Value.slice qd18 ((seeF aw4.L ((getF aw0.L).1.1)).1.data.length) cd19] 33, rMine (.slice a21 ((takeR aw4.A).1.1.1).length c22) ((takeR aw4.A).1.1.1) 5, rBlk b26 [Value.slice a21 ((takeR aw4.A).1.1.1.length) c22, bo false, iw ((takeR aw4.A).1.1.2)] 49, rFz b27 [Value.int .u8 121] 5, rRowN (.slice q31 (pollF aw6).2.length c32) (comeV (pollF aw6).2) 67 2, rMine (.slice qh36 ((seeF ((pollF aw6).1).L (0 : Int)).1.head).length ch37) ((seeF ((pollF aw6).1).L (0 : Int)).1.head) 5, rMine (.slice qd38 ((seeF ((pollF aw6).1).L (0 : Int)).1.data).length cd39) ((seeF ((pollF aw6).1).L (0 : Int)).1.data) 5, rBlk b40 [iw ((seeF ((pollF aw6).1).L (0 : Int)).1.refs : Int), Value.slice qh36 ((seeF ((pollF aw6).1).L (0 : Int)).1.head.length) ch37, Value.slice qd38 ((seeF ((pollF aw6).1).L (0 : Int)).1.data.length) cd39] 33, rRow (.slice q41 ((allV (((pollF aw6).1).T)).length) c42) (allV (((pollF aw6).1).T)) 3] ⟨rfl, rfl, rfl, rfl, rfl, rfl, rfl, rfl, rfl, rfl, rfl, rfl, rfl, rfl, rfl, rfl, rfl, rfl, rfl, rfl, rfl, rfl, rfl, rfl, rfl, rfl, rfl, rfl, rfl, rfl, rfl, rfl, rfl, rfl, rfl, rfl, rfl, rfl, rfl, trivial⟩ rfl ?_
  refine SL.gg (ru_len Try.underlying26 rfl rfl) ?_
  refine SL.gg (ru_eq (b := ((((allV (((pollF aw6).1).T)).length : Int) : Int) == 0)) rfl rfl rfl rfl) ?_
  refine SL.uu (ru_pick (u := bo ((((allV (((pollF aw6).1).T)).length : Int) : Int) == 0)) (v := bo false) rfl rfl rfl rfl) ?_
  refine SL.mv ?_
  refine SL.norm [(0, bo false), (1, pt g 0), (7, pt b20 0), (9, pt b26 0), (12, Value.slice q31 ((pollF aw6).2.length) c32), (14, pt b40 0), (15, iw ((seeF ((pollF aw6).1).L (0 : Int)).2)), (138, pt b20 0), (139, iw ((seeF aw4.L ((getF aw0.L).1.1)).1.refs : Int)), (140, bo true), (141, bo true), (142, pt b26 0), (143, Value.slice a21 ((takeR aw4.A).1.1.1.length) c22), (144, Value.string ⟨((takeR aw4.A).1.1.1).toArray⟩), (145, bo true), (146, bo true), (147, bo true), (148, iw ((seeF ((pollF aw6).1).L (0 : Int)).2)), (149, bo true), (150, bo true), (151, bo true), (152, pt b40 2), (153, Value.slice qd38 ((seeF ((pollF aw6).1).L (0 : Int)).1.data.length) cd39), (154, Value.string ⟨((seeF ((pollF aw6).1).L (0 : Int)).1.data).toArray⟩), (155, bo true), (156, bo true), (157, bo true), (158, Value.slice q31 ((pollF aw6).2.length) c32), (159, pt (rowB q31) ((0 : Int).toNat * 2)), (160, pt (rowB q31) ((0 : Int).toNat * 2 + 1)), (161, bo false), (162, bo true), (163, bo true), (164, bo true), (165, pt g 0), (166, pt g 0), (167, pt g 2), (168, pt r 0), (169, Value.slice q41 ((allV (((pollF aw6).1).T)).length) c42), (170, iw ((allV (((pollF aw6).1).T)).length : Int)), (171, bo true), (172, bo true), (173, bo true)] _ ⟨rfl, rfl, rfl, rfl, rfl, rfl, rfl, rfl, rfl, rfl, rfl, rfl, rfl, rfl, rfl, rfl, rfl, rfl, rfl, rfl, rfl, rfl, rfl, rfl, rfl, rfl, rfl, rfl, rfl, rfl, rfl, rfl, rfl, rfl, rfl, rfl, rfl, rfl, rfl, rfl, (congrArg (fun bx => some (Value.bool bx)) (show ((((allV (((pollF aw6).1).T)).length : Int) : Int) == 0) = true from (by decide +kernel))), (congrArg (fun bx => some (Value.bool bx)) (show ((((allV (((pollF aw6).1).T)).length : Int) : Int) == 0) = true from (by decide +kernel))), (congrArg (fun bx => some (Value.bool bx)) (show ((((allV (((pollF aw6).1).T)).length : Int) : Int) == 0) = true from (by decide +kernel))), trivial⟩ rfl ?_
  refine SL.gg (ru_move rfl rfl) ?_
  refine SL.gg (ru_nilCheck rfl rfl) ?_
  refine SL.gg (ru_fieldAddr (o2 := 2) fd43_2 rfl rfl rfl) ?_
  refine SL.gg (ru_load (i := 0) ts38 rfl rfl rfl rfl) ?_
  refine SL.mk (Mk.ints ⟨190, w, G⟩ (allV (((pollF aw6).1).R)) 3) (w_yes rfl rfl rfl) rfl co24 rfl rfl rfl (lt_b rfl) (fun l' w hI => (coming_any ho34.t ho34.r (ring_at hI (i := 1) rfl)).mono fun e w2 ⟨q, c, h1, h2, h3, h4⟩ => ⟨_, h1, ⟨q, c, fun b hb => Nat.le_trans hI.2.size (h3 b hb), rfl⟩, hI.add h4 h2 h3⟩) ?_
  rintro _ ⟨q43, c44, hq43, rfl⟩
  refine SL.norm [(0, bo false), (1, pt g 0), (7, pt b20 0), (9, pt b26 0), (12, Value.slice q31 ((pollF aw6).2.length) c32), (14, pt b40 0), (15, iw ((seeF ((pollF aw6).1).L (0 : Int)).2)), (138, pt b20 0), (139, iw ((seeF aw4.L ((getF aw0.L).1.1)).1.refs : Int)), (140, bo true), (141, bo true), (142, pt b26 0), (143, Value.slice a21 ((takeR aw4.A).1.1.1.length) c22), (144, Value.string ⟨((takeR aw4.A).1.1.1).toArray⟩), (145, bo true), (146, bo true), (147, bo true), (148, iw ((seeF ((pollF aw6).1).L (0 : Int)).2)), (149, bo true), (150, bo true), (151, bo true), (152, pt b40 2), (153, Value.slice qd38 ((seeF ((pollF aw6).1).L (0 : Int)).1.data.length) cd39), (154, Value.string ⟨((seeF ((pollF aw6).1).L (0 : Int)).1.data).toArray⟩), (155, bo true), (156, bo true), (157, bo true), (158, Value.slice q31 ((pollF aw6).2.length) c32), (159, pt (rowB q31) ((0 : Int).toNat * 2)), (160, pt (rowB q31) ((0 : Int).toNat * 2 + 1)), (161, bo false), (162, bo true), (163, bo true), (164, bo true), (165, pt g 0), (166, pt g 0), (167, pt g 2), (168, pt r 0), (169, Value.slice q41 ((allV (((pollF aw6).1).T)).length) c42), (170, iw ((allV (((pollF aw6).1).T)).length : Int)), (171, bo true), (172, bo true), (173, bo true), (174, pt g 0), (175, pt g 0), (176, pt g 2), (177, pt r 0), (178, Value.slice q43 ((allV (((pollF aw6).1).R)).length) c44)] [rBlk g [pt d 0, pt p 0, pt r 0, pt e 0, pt q 0, pt s 0, Value.slice none 0 0, Value.slice none 0 0] 43, rRing r d p ab F33 ((pollF aw6).1), rRow (.slice q1 ((allV aw0.R).length) c2) (allV aw0.R) 3, rFz b6 [Value.int .u8 120] 5, rMine (.slice qh16 ((seeF aw4.L ((getF aw0.L).1.1)).1.head).length ch17) ((seeF aw4.L ((getF aw0.L).1.1)).1.head) 5, rMine (.slice qd18 ((seeF aw4.L ((getF aw0.L).1.1)).1.data).length cd19) ((seeF aw4.L ((getF aw0.L).1.1)).1.data) 5, rBlk b20 [iw ((seeF aw4.L ((getF aw0.L).1.1)).1.refs : Int), Value.slice qh16 ((seeF aw4.L ((getF aw0.L).1.1)).1.head.length) ch17, Value.slice qd18 ((seeF aw4.L ((getF aw0.L).1.1)).1.data.length) cd19] 33, rMine (.slice a21 ((takeR aw4.A).1.1.1).length c22) ((takeR aw4.A).1.1.1) 5, rBlk b26 [Value.slice a21 ((takeR aw4.A).1.1.1.length) c22, bo false, iw ((takeR aw4.A).1.1.2)] 49, rFz b27 [Value.int .u8 121] 5, rRowN (.slice q31 (pollF aw6).2.length c32) (comeV (pollF aw6).2) 67 2, rMine (.slice qh36 ((seeF ((pollF aw6).1).L (0 : Int)).1.head).length ch37) ((seeF ((pollF aw6).1).L (0 : Int)).1.head) 5, rMine (.slice qd38 ((seeF ((pollF aw6).1).L (0 : Int)).1.data).length cd39) ((seeF ((pollF aw6).1).L (0 : Int)).1.data) 5, rBlk b40 [iw ((seeF ((pollF aw6).1).L (0 : Int)).1.refs : Int), Value.slice qh36 ((seeF ((pollF aw6).1).L (0 : Int)).1.head.length) ch37, Value.slice qd38 ((seeF ((pollF aw6).1).L (0 : Int)).1.data.length) cd39] 33, rRow (.slice q41 ((allV (((pollF aw6).1).T)).length) c42) (allV (((pollF aw6).1).T)) 3, rRow (.slice q43 ((allV (((pollF aw6).1).R)).length) c44) (allV (((pollF aw6).1).R)) 3] ⟨rfl, rfl, rfl, rfl, rfl, rfl, rfl, rfl, rfl, rfl, rfl, rfl, rfl, rfl, rfl, rfl, rfl, rfl, rfl, rfl, rfl, rfl, rfl, rfl, rfl, rfl, rfl, rfl, rfl, rfl, rfl, rfl, rfl, rfl, rfl, rfl, rfl, rfl, rfl, rfl, rfl, rfl, rfl, rfl, rfl, rfl, rfl, rfl, trivial⟩ rfl ?_
  refine SL.gg (ru_len Try.underlying26 rfl rfl) ?_
  refine SL.gg (ru_eq (b := ((((allV (((pollF aw6).1).R)).length : Int) : Int) == 15)) rfl rfl rfl rfl) ?_
  refine SL.uu (ru_pick (u := bo ((((allV (((pollF aw6).1).R)).length : Int) : Int) == 15)) (v := bo false) rfl rfl rfl rfl) ?_
  refine SL.mv ?_
  refine SL.norm [(0, bo false), (1, pt g 0), (7, pt b20 0), (9, pt b26 0), (12, Value.slice q31 ((pollF aw6).2.length) c32), (14, pt b40 0), (15, iw ((seeF ((pollF aw6).1).L (0 : Int)).2)), (138, pt b20 0), (139, iw ((seeF aw4.L ((getF aw0.L).1.1)).1.refs : Int)), (140, bo true), (141, bo true), (142, pt b26 0), (143, Value.slice a21 ((takeR aw4.A).1.1.1.length) c22), (144, Value.string ⟨((takeR aw4.A).1.1.1).toArray⟩), (145, bo true), (146, bo true), (147, bo true), (148, iw ((seeF ((pollF aw6).1).L (0 : Int)).2)), (149, bo true), (150, bo true), (151, bo true), (152, pt b40 2), (153, Value.slice qd38 ((seeF ((pollF aw6).1).L (0 : Int)).1.data.length) cd39), (154, Value.string ⟨((seeF ((pollF aw6).1).L (0 : Int)).1.data).toArray⟩), (155, bo true), (156, bo true), (157, bo true), (158, Value.slice q31 ((pollF aw6).2.length) c32), (159, pt (rowB q31) ((0 : Int).toNat * 2)), (160, pt (rowB q31) ((0 : Int).toNat * 2 + 1)), (161, bo false), (162, bo true), (163, bo true), (164, bo true), (165, pt g 0), (166, pt g 0), (167, pt g 2), (168, pt r 0), (169, Value.slice q41 ((allV (((pollF aw6).1).T)).length) c42), (170, iw ((allV (((pollF aw6).1).T)).length : Int)), (171, bo true), (172, bo true), (173, bo true), (174, pt g 0), (175, pt g 0), (176, pt g 2), (177, pt r 0), (178, Value.slice q43 ((allV (((pollF aw6).1).R)).length) c44), (179, iw ((allV (((pollF aw6).1).R)).length : Int)), (180, bo true), (181, bo true), (182, bo true)] _ ⟨rfl, rfl, rfl, rfl, rfl, rfl, rfl, rfl, rfl, rfl, rfl, rfl, rfl, rfl, rfl, rfl, rfl, rfl, rfl, rfl, rfl, rfl, rfl, rfl, rfl, rfl, rfl, rfl, rfl, rfl, rfl, rfl, rfl, rfl, rfl, rfl, rfl, rfl, rfl, rfl, rfl, rfl, rfl, rfl, rfl, rfl, rfl, rfl, rfl, (congrArg (fun bx => some (Value.bool bx)) (show ((((allV (((pollF aw6).1).R)).length : Int) : Int) == 15) = true from (by decide +kernel))), (congrArg (fun bx => some (Value.bool bx)) (show ((((allV (((pollF aw6).1).R)).length : Int) : Int) == 15) = true from (by decide +kernel))), (congrArg (fun bx => some (Value.bool bx)) (show ((((allV (((pollF aw6).1).R)).length : Int) : Int) == 15) = true from (by decide +kernel))), trivial⟩ rfl ?_
  refine SL.gg (ru_move rfl rfl) ?_
  refine SL.gg (ru_nilCheck rfl rfl) ?_
  refine SL.gg (ru_fieldAddr (o2 := 2) fd43_2 rfl rfl rfl) ?_
  refine SL.gg (ru_load (i := 0) ts38 rfl rfl rfl rfl) ?_
  refine SL.callvg (iw (15 - ((pollF aw6).1).T.many)) rfl rfl rfl rfl co22 rfl rfl rfl (lt_b rfl) (fun w hI => (room_any ho34.t (ring_at hI (i := 1) rfl).ring).mono fun e w2 ⟨h1, h2⟩ => ⟨h1, hI.only h2⟩) ?_
  refine SL.gg (ru_eq (b := (((15 - ((pollF aw6).1).T.many) : Int) == 15)) rfl rfl rfl rfl) ?_
  refine SL.uu (ru_pick (u := bo (((15 - ((pollF aw6).1).T.many) : Int) == 15)) (v := bo false) rfl rfl rfl rfl) ?_
  refine SL.as ?_
  refine SL.nn [(0, bo (((15 - ((pollF aw6).1).T.many) : Int) == 15))] _ ⟨rfl, trivial⟩ ?_
  refine SC.ret ?_
  refine SE.res (.inl rfl) (res1 Try.results6 rfl) fun w1 hI => ⟨ret_bo (Eq.symm (by decide +kernel)), hI.2⟩
theorem awake_any (w : World) : Calls Try.prog 6 #[] w fun e w' => e = .returned (bo true) ∧ Only (fun _ => False) w w' := awake_g w _

end Go.Proofs.Ytghfkgcaglabpaa

/-
  gets.
-/
namespace Go.Proofs.Ytghfkgcaglabpaa
open Go.RowKit
set_option maxRecDepth 100000
set_option maxHeartbeats 4000000
end Go.Proofs.Ytghfkgcaglabpaa
