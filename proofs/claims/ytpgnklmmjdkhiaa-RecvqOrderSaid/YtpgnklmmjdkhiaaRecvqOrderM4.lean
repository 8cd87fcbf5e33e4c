/-
  What the proof of RecvqOrder stands on, part 4: each theorem by itself, under the conditions that it names.
-/
import Derived.Test.YtpgnklmmjdkhiaaRecvqOrderM3
/-
  RecvqOrder answers true.
-/
namespace Go.Proofs.Ytpgnklmmjdkhiaa
open Go.RowKit
set_option maxRecDepth 100000
set_option maxHeartbeats 4000000
theorem order_in {w : World} {tv vv : Value} {text : List UInt8} {l : List OpZ} (ht : BytesAt w tv text) (hts : sliceIn tv (fun b => b < w.heap.size)) (h : OpsZ w vv l) (G : Nat → Prop) (hGf : ∀ b, ¬ G b) : Calls Try.prog 3 #[tv, vv] w fun e w' => e = .returned (bo true) ∧ Only G w w' := by
  obtain ⟨oa, oc, rfl, hlen, hops⟩ := h
  obtain ⟨tq, tc, rfl⟩ := ht.form
  have htx := ht
  obtain ⟨_, hcap⟩ := bytes_cap ht
  refine calls_sc (l0 := []) (args := [Value.slice tq text.length tc, Value.slice oa l.length oc]) G Try.func3 rfl 196 Try.ntmps3 (le_b rfl) ⟨⟨by simp, List.Pairwise.nil⟩, Only.refl _ _⟩ ?_
  show SC _ _ _ _ [(0, Value.slice tq text.length tc), (1, Value.slice oa l.length oc)] []
  refine SC.seq ?_
  refine SC.region ?_
  refine SL.ru rfl rfl (lt_b rfl) (ru_assign rfl rfl) ?_
  refine SL.nil ?_
  refine SC.of_SE ?_
  refine SC.norm [(0, Value.slice tq text.length tc), (1, Value.slice oa l.length oc), (4, bo false)] [] ⟨rfl, rfl, rfl, trivial⟩ rfl ?_
  refine SC.seq ?_
  refine SC.region ?_
  refine SL.callv (bo true) rfl rfl co5 rfl rfl rfl (lt_b rfl) (fun w hI => H_only hI (awake_any _)) ?_
  refine SL.ru rfl rfl (lt_b rfl) (ru_assign rfl rfl) ?_
  refine SL.nil ?_
  refine SC.of_SE ?_
  refine SC.norm [(0, Value.slice tq text.length tc), (1, Value.slice oa l.length oc), (4, bo false), (5, bo true)] [] ⟨rfl, rfl, rfl, rfl, trivial⟩ rfl ?_
  refine SC.seq ?_
  refine SC.seq ?_
  refine SC.region ?_
  refine SL.ru rfl rfl (lt_b rfl) (ru_move rfl rfl) ?_
  refine SL.ru rfl rfl (lt_b rfl) (ru_len Try.underlying22 rfl rfl) ?_
  refine SL.ru rfl rfl (lt_b rfl) (ru_gt (b := (decide ((1000 : Int) < (text.length : Int)))) rfl rfl rfl rfl) ?_
  refine SL.nil ?_
  refine SC.of_SE ?_
  refine SC.norm [(0, Value.slice tq text.length tc), (1, Value.slice oa l.length oc), (4, bo false), (5, bo true), (22, bo (decide ((1000 : Int) < (text.length : Int))))] [] ⟨rfl, rfl, rfl, rfl, rfl, trivial⟩ rfl ?_
  refine SC.both (decide ((1000 : Int) < (text.length : Int))) rfl (fun h1 => ?_) (fun h1 => ?_)
  · skip
    refine SC.seq ?_
    refine SC.region ?_
    refine SL.ru rfl rfl (lt_b rfl) (ru_move rfl rfl) ?_
    refine SL.ru rfl rfl (lt_b rfl) (ru_assign rfl rfl) ?_
    refine SL.nil ?_
    refine SC.of_SE ?_
    refine SC.norm [(0, Value.slice tq text.length tc), (1, Value.slice oa l.length oc), (4, bo true), (5, bo true)] [] ⟨rfl, rfl, rfl, rfl, trivial⟩ rfl ?_
    refine SC.ret ?_
    refine SE.passr ?_
    refine SE.res (.inl rfl) (res1 Try.results3 rfl) fun w1 hI => ⟨rfl, hI.2⟩
  · skip
    have hlen1 : text.length ≤ 1000 := by have := of_decide_eq_false h1; omega
    obtain ⟨K, hK⟩ : ∃ K, K = text.length / 100 := ⟨_, rfl⟩
    refine SC.skip ?_
    refine SC.of_SE ?_
    refine SC.norm [(0, Value.slice tq text.length tc), (1, Value.slice oa l.length oc), (4, bo false), (5, bo true)] [] ⟨rfl, rfl, rfl, rfl, trivial⟩ rfl ?_
    refine SC.seq ?_
    refine SC.region ?_
    refine SL.call (ζ := Nat × Nat) (fun z => Value.tuple #[pt z.1 0, iw 0]) (fun z => [rPool z.1 z.2 (q0 60).L]) (fun z => w.heap.size ≤ z.1 ∧ w.heap.size ≤ z.2) rfl rfl co6 rfl rfl rfl (lt_b rfl) (fun w1 hI => (new_in (n := 60) (by decide) (by decide)).mono fun e w2 ⟨p, ab, k1, k2, k3, k4, k5⟩ => ⟨(p, ab), k1, hI.add (r := rPool p ab (q0 60).L) k5 k2 (fun b hb => hb.elim (fun e => e ▸ k3) (fun e => e ▸ k4)), Nat.le_trans hI.2.size k3, Nat.le_trans hI.2.size k4⟩) ?_
    rintro ⟨p, ab⟩ ⟨hp, hab⟩
    dsimp only at hp hab
    refine SL.ru rfl rfl (lt_b rfl) (ru_move rfl rfl) ?_
    refine SL.ru rfl rfl (lt_b rfl) (ru_extract rfl rfl rfl) ?_
    refine SL.ru rfl rfl (lt_b rfl) (ru_extract rfl rfl rfl) ?_
    refine SL.ru rfl rfl (lt_b rfl) (ru_assign rfl rfl) ?_
    refine SL.ru rfl rfl (lt_b rfl) (ru_assign rfl rfl) ?_
    refine SL.nil ?_
    refine SC.of_SE ?_
    refine SC.norm [(0, Value.slice tq text.length tc), (1, Value.slice oa l.length oc), (4, bo false), (5, bo true), (6, pt p 0), (7, iw 0)] [rPool p ab (q0 60).L] ⟨rfl, rfl, rfl, rfl, rfl, rfl, trivial⟩ rfl ?_
    refine SC.seq ?_
    refine SC.seq ?_
    refine SC.region ?_
    refine SL.ru rfl rfl (lt_b rfl) (ru_move rfl rfl) ?_
    refine SL.ru rfl rfl (lt_b rfl) (ru_not (c := false) rfl rfl rfl) ?_
    refine SL.ru rfl rfl (lt_b rfl) (ru_move rfl rfl) ?_
    refine SL.rug rfl rfl rfl rfl (lt_b rfl) (ru_move rfl rfl) ?_
    refine SL.rug rfl rfl rfl rfl (lt_b rfl) (ru_ne (b := false) rfl rfl rfl rfl) ?_
    refine SL.ru rfl rfl (lt_b rfl) (ru_pick (u := bo true) (v := bo false) rfl rfl rfl rfl) ?_
    refine SL.ru rfl rfl (lt_b rfl) (ru_move rfl rfl) ?_
    refine SL.rug rfl rfl rfl rfl (lt_b rfl) (ru_move rfl rfl) ?_
    refine SL.rug rfl rfl rfl rfl (lt_b rfl) (ru_eqnil Try.underlying25 rfl rfl rfl rfl) ?_
    refine SL.ru rfl rfl (lt_b rfl) (ru_pick (u := bo true) (v := bo false) rfl rfl rfl rfl) ?_
    refine SL.nil ?_
    refine SC.of_SE ?_
    refine SC.norm [(0, Value.slice tq text.length tc), (1, Value.slice oa l.length oc), (4, bo false), (6, pt p 0), (37, bo false)] [rPool p ab (q0 60).L] ⟨rfl, rfl, rfl, rfl, rfl, trivial⟩ rfl ?_
    refine SC.no rfl ?_
    refine SC.skip ?_
    refine SC.of_SE ?_
    refine SC.norm [(0, Value.slice tq text.length tc), (1, Value.slice oa l.length oc), (4, bo false), (6, pt p 0)] [rPool p ab (q0 60).L] ⟨rfl, rfl, rfl, rfl, trivial⟩ rfl ?_
    refine SC.seq ?_
    refine SC.region ?_
    refine SL.ru rfl rfl (lt_b rfl) (ru_move rfl rfl) ?_
    refine SL.call (ζ := Nat) (fun z => pt z 0) (fun z => QR z p ab none 0 none 0 (q0 60)) (fun z => w.heap.size ≤ z) rfl rfl co7 rfl rfl rfl (lt_b rfl) (fun w1 hI => newq_any.mono fun e w2 ⟨d, h1, h2, h3, h4⟩ => ⟨d, h1, Inv.newq hI h2 h3 h4, Nat.le_trans hI.2.size h2⟩) ?_
    intro d hd
    have hG0 : ∀ b, QG d p ab none 0 none 0 (q0 60) b → G b ∨ w.heap.size ≤ b := by rintro b (rfl | rfl | rfl | h | h); exact .inr hd; exact .inr hp; exact .inr hab; cases h; cases h
    refine SL.ru rfl rfl (lt_b rfl) (ru_assign rfl rfl) ?_
    refine SL.nil ?_
    refine SC.of_SE ?_
    refine SC.norm [(0, Value.slice tq text.length tc), (1, Value.slice oa l.length oc), (4, bo false), (6, pt p 0), (8, pt d 0)] [rBlk d [pt p 0, Value.slice none (((q0 60).l).length) 0, Value.slice none (((q0 60).late).length) 0, iw ((q0 60).nxt), iw ((q0 60).hv), iw ((q0 60).last), bo ((q0 60).gone)] 52, rPool p ab ((q0 60).L), rRowN (.slice none (((q0 60).l).length) 0) (pRows ((q0 60).l)) 61 5, rRowN (.slice none (((q0 60).late).length) 0) (pRows ((q0 60).late)) 61 5] ⟨rfl, rfl, rfl, rfl, rfl, trivial⟩ rfl ?_
    refine SC.seq ?_
    refine SC.seq ?_
    refine SC.region ?_
    refine SL.ru rfl rfl (lt_b rfl) (ru_move rfl rfl) ?_
    refine SL.ru rfl rfl (lt_b rfl) (ru_eqnil Try.underlying29 rfl rfl rfl rfl) ?_
    refine SL.nil ?_
    refine SC.of_SE ?_
    refine SC.norm [(0, Value.slice tq text.length tc), (1, Value.slice oa l.length oc), (4, bo false), (6, pt p 0), (8, pt d 0), (41, bo false)] [rBlk d [pt p 0, Value.slice none (((q0 60).l).length) 0, Value.slice none (((q0 60).late).length) 0, iw ((q0 60).nxt), iw ((q0 60).hv), iw ((q0 60).last), bo ((q0 60).gone)] 52, rPool p ab ((q0 60).L), rRowN (.slice none (((q0 60).l).length) 0) (pRows ((q0 60).l)) 61 5, rRowN (.slice none (((q0 60).late).length) 0) (pRows ((q0 60).late)) 61 5] ⟨rfl, rfl, rfl, rfl, rfl, rfl, trivial⟩ rfl ?_
    refine SC.no rfl ?_
    refine SC.skip ?_
    refine SC.of_SE ?_
    refine SC.norm [(0, Value.slice tq text.length tc), (1, Value.slice oa l.length oc), (4, bo false), (6, pt p 0), (8, pt d 0)] [rBlk d [pt p 0, Value.slice none (((q0 60).l).length) 0, Value.slice none (((q0 60).late).length) 0, iw ((q0 60).nxt), iw ((q0 60).hv), iw ((q0 60).last), bo ((q0 60).gone)] 52, rPool p ab ((q0 60).L), rRowN (.slice none (((q0 60).l).length) 0) (pRows ((q0 60).l)) 61 5, rRowN (.slice none (((q0 60).late).length) 0) (pRows ((q0 60).late)) 61 5] ⟨rfl, rfl, rfl, rfl, rfl, trivial⟩ rfl ?_
    refine SC.seq ?_
    refine SC.region ?_
    refine SL.ru rfl rfl (lt_b rfl) (ru_assign rfl rfl) ?_
    refine SL.nil ?_
    refine SC.of_SE ?_
    refine SC.norm [(0, Value.slice tq text.length tc), (1, Value.slice oa l.length oc), (4, bo false), (6, pt p 0), (8, pt d 0), (9, iw 0)] [rBlk d [pt p 0, Value.slice none (((q0 60).l).length) 0, Value.slice none (((q0 60).late).length) 0, iw ((q0 60).nxt), iw ((q0 60).hv), iw ((q0 60).last), bo ((q0 60).gone)] 52, rPool p ab ((q0 60).L), rRowN (.slice none (((q0 60).l).length) 0) (pRows ((q0 60).l)) 61 5, rRowN (.slice none (((q0 60).late).length) 0) (pRows ((q0 60).late)) 61 5] ⟨rfl, rfl, rfl, rfl, rfl, rfl, trivial⟩ rfl ?_
    refine SC.seq ?_
    refine SC.seq ?_
    refine SC.region ?_
    refine SL.ru rfl rfl (lt_b rfl) (ru_assign rfl rfl) ?_
    refine SL.nil ?_
    refine SC.of_SE ?_
    refine SC.norm [(0, Value.slice tq text.length tc), (1, Value.slice oa l.length oc), (4, bo false), (6, pt p 0), (8, pt d 0), (9, iw 0), (10, iw 0)] [rBlk d [pt p 0, Value.slice none (((q0 60).l).length) 0, Value.slice none (((q0 60).late).length) 0, iw ((q0 60).nxt), iw ((q0 60).hv), iw ((q0 60).last), bo ((q0 60).gone)] 52, rPool p ab ((q0 60).L), rRowN (.slice none (((q0 60).l).length) 0) (pRows ((q0 60).l)) 61 5, rRowN (.slice none (((q0 60).late).length) 0) (pRows ((q0 60).late)) 61 5] ⟨rfl, rfl, rfl, rfl, rfl, rfl, rfl, trivial⟩ rfl ?_
    refine SC.block ?_
    refine SC.loop (γ := Nat × Int × Rq × Option Addr × Nat × Option Addr × Nat) (fun k z => [(0, Value.slice tq text.length tc), (1, Value.slice oa l.length oc), (4, bo false), (6, pt p 0), (8, pt d 0), (9, iw z.2.1), (10, iw (z.1 : Int))]) (fun k z => [rBlk d [pt p 0, Value.slice z.2.2.2.1 z.2.2.1.l.length z.2.2.2.2.1, Value.slice z.2.2.2.2.2.1 z.2.2.1.late.length z.2.2.2.2.2.2, iw z.2.2.1.nxt, iw z.2.2.1.hv, iw z.2.2.1.last, bo z.2.2.1.gone] 52, rPool p ab z.2.2.1.L, rRowN (.slice z.2.2.2.1 z.2.2.1.l.length z.2.2.2.2.1) (pRows z.2.2.1.l) 61 5, rRowN (.slice z.2.2.2.2.2.1 z.2.2.1.late.length z.2.2.2.2.2.2) (pRows z.2.2.1.late) 61 5]) (fun k z => k + z.1 = l.length + K + 1 ∧ RO text z.2.1 z.2.2.1 [] ∧ (l.length ≤ z.1 → min (((z.1 : Int) - (l.length : Int)) * 100) (text.length : Int) ≤ z.2.2.1.nxt) ∧ (z.1 = l.length + K + 1 → endedF z.2.2.1 = true) ∧ ∀ b, QG d p ab z.2.2.2.1 z.2.2.2.2.1 z.2.2.2.2.2.1 z.2.2.2.2.2.2 z.2.2.1 b → G b ∨ w.heap.size ≤ b) (l.length + K + 1) (0, 0, q0 60, none, 0, none, 0) ⟨rfl, ro0 text, fun h => by show _ ≤ (0 : Int); simp only at h ⊢; omega, fun h => by simp only at h; omega, hG0⟩ ⟨rfl, rfl, rfl, rfl, rfl, rfl, rfl, trivial⟩ rfl ?_
    rintro N ⟨i, c, S, q1, c1, q2, c2⟩ ⟨hn, hR, hpr, hend, hG⟩
    dsimp only at hn hR hpr hend hG
    have hc0 := hR.ri.c0
    have hat := hR.ri.at'
    have hsnx := hR.tx.nx
    have hnx0 := hR.ri.qv.nx
    have hfc := hR.ri.facts
    rcases N with _ | N
    · skip
      have hend := hend (by omega)
      refine SC.seq ?_
      refine SC.seq ?_
      refine SC.region ?_
      refine SL.ru rfl rfl (lt_b rfl) (ru_move rfl rfl) ?_
      refine SL.ru rfl rfl (lt_b rfl) (ru_move rfl rfl) ?_
      refine SL.ru rfl rfl (lt_b rfl) (ru_len Try.underlying23 rfl rfl) ?_
      refine SL.ru rfl rfl (lt_b rfl) (ru_move rfl rfl) ?_
      refine SL.ru rfl rfl (lt_b rfl) (ru_len Try.underlying22 rfl rfl) ?_
      refine SL.ru rfl rfl (lt_b rfl) (ru_quo (r := (K : Int)) rfl rfl rfl (by decide) ((show IntKind.i64.wrap (Int.tdiv (text.length : Int) 100) = (K : Int) by rw [Int.tdiv_eq_ediv_of_nonneg (by omega), IntKind.wrap_i64]; omega))) ?_
      refine SL.ru rfl rfl (lt_b rfl) (ru_add (r := ((l.length : Int) + (K : Int))) rfl rfl rfl ((by rw [IntKind.wrap_i64]; omega))) ?_
      refine SL.ru rfl rfl (lt_b rfl) (ru_add (r := (((l.length : Int) + (K : Int)) + 1)) rfl rfl rfl ((by rw [IntKind.wrap_i64]; omega))) ?_
      refine SL.ru rfl rfl (lt_b rfl) (ru_lt (b := (decide (((i : Int) : Int) < (((l.length : Int) + (K : Int)) + 1)))) rfl rfl rfl rfl) ?_
      refine SL.nil ?_
      refine SC.of_SE ?_
      refine SC.norm [(0, Value.slice tq text.length tc), (1, Value.slice oa l.length oc), (4, bo false), (6, pt p 0), (8, pt d 0), (9, iw c), (10, iw (i : Int)), (50, bo (decide (((i : Int) : Int) < (((l.length : Int) + (K : Int)) + 1))))] [rBlk d [pt p 0, Value.slice q1 S.l.length c1, Value.slice q2 S.late.length c2, iw S.nxt, iw S.hv, iw S.last, bo S.gone] 52, rPool p ab S.L, rRowN (.slice q1 S.l.length c1) (pRows S.l) 61 5, rRowN (.slice q2 S.late.length c2) (pRows S.late) 61 5] ⟨rfl, rfl, rfl, rfl, rfl, rfl, rfl, rfl, trivial⟩ rfl ?_
      refine SC.no (show some (Value.bool (decide (((i : Int) : Int) < (((l.length : Int) + (K : Int)) + 1)))) = some (Value.bool false) from congrArg (fun x => some (Value.bool x)) (decide_eq_false (by omega))) ?_
      refine SC.exit ?_
      refine SE.passe ?_
      refine SE.passe ?_
      refine SE.blke ?_
      refine SC.of_SE ?_
      refine SC.norm [(0, Value.slice tq text.length tc), (4, bo false), (6, pt p 0), (8, pt d 0), (9, iw c)] [rBlk d [pt p 0, Value.slice q1 S.l.length c1, Value.slice q2 S.late.length c2, iw S.nxt, iw S.hv, iw S.last, bo S.gone] 52, rPool p ab S.L, rRowN (.slice q1 S.l.length c1) (pRows S.l) 61 5, rRowN (.slice q2 S.late.length c2) (pRows S.late) 61 5] ⟨rfl, rfl, rfl, rfl, rfl, trivial⟩ rfl ?_
      refine SC.seq ?_
      refine SC.region ?_
      refine SL.ru rfl rfl (lt_b rfl) (ru_move rfl rfl) ?_
      have hc9 : c ≤ 900000000000000000 := by have := hR.tx.nx; have := hR.ri.at'; have := hR.ri.facts; omega
      refine SL.call (ζ := Rq × List UInt8 × Option Addr × Nat) (fun z => Value.slice z.2.2.1 z.2.1.length z.2.2.2) (fun z => QR d p ab q1 c1 q2 c2 z.1 ++ rMine (.slice z.2.2.1 z.2.1.length z.2.2.2) z.2.1 5 :: []) (fun z => endedF z.1 = true ∧ c + (z.2.1.length : Int) = (text.length : Int) ∧ z.2.1 = text.drop c.toNat ∧ nfree z.1.L = 60 ∧ ∀ b, QG d p ab q1 c1 q2 c2 z.1 b → G b ∨ w.heap.size ≤ b) rfl rfl co11 rfl rfl rfl (lt_b rfl) (fun w5 hI => (read_ri hR.ri hc9 (show IntKind.i64.wrap 2000 = 2000 by decide) (Inv.four hI)).mono fun e w2 ⟨q, c9, h1, h2, h3, h4⟩ => by obtain ⟨k1, k2⟩ := Inv.rdto (l := []) hI h2 h3 h4 hG rfl; exact ⟨(readS 2000 S, readO 2000 S, q, c9), h1, k1, (hR.all hlen1 hend).1, (hR.all hlen1 hend).2.1, (hR.all hlen1 hend).2.2.1, (hR.all hlen1 hend).2.2.2, k2⟩) ?_
      rintro ⟨S2, o5, q6, c7⟩ ⟨henS2, hclo5, htoo5, hnfS2, hG4⟩
      dsimp only at henS2 hclo5 htoo5 hnfS2 hG4
      have htxo5 : o5 = (text.drop c.toNat).take (text.length - c.toNat) := htoo5.trans (List.take_of_length_le (by rw [List.length_drop]; exact Nat.le_refl _)).symm
      refine SL.ru rfl rfl (lt_b rfl) (ru_assign rfl rfl) ?_
      refine SL.nil ?_
      refine SC.of_SE ?_
      refine SC.norm [(0, Value.slice tq text.length tc), (4, bo false), (6, pt p 0), (8, pt d 0), (9, iw c), (18, Value.slice q6 o5.length c7)] [rBlk d [pt p 0, Value.slice q1 S2.l.length c1, Value.slice q2 S2.late.length c2, iw S2.nxt, iw S2.hv, iw S2.last, bo S2.gone] 52, rPool p ab S2.L, rRowN (.slice q1 S2.l.length c1) (pRows S2.l) 61 5, rRowN (.slice q2 S2.late.length c2) (pRows S2.late) 61 5, rMine (.slice q6 o5.length c7) o5 5] ⟨rfl, rfl, rfl, rfl, rfl, rfl, trivial⟩ rfl ?_
      refine SC.seq ?_
      refine SC.region_mk_tail 18 [(1, Mk.val (bo true))] [(2, [1]), (3, [1]), (4, [1]), (5, [1]), (6, [1]), (7, [1]), (8, [1]), (9, [1]), (10, [1]), (11, [1]), (12, [1]), (13, [1]), (14, [1]), (15, [1]), (16, [1]), (17, [1])] rfl rfl (by kernel_rfl) (by kernel_rfl) (by kernel_rfl) ?_
      refine SM.ru rfl rfl rfl (w_all rfl) rfl (lt_b rfl) (ru_move rfl rfl) ?_
      refine SM.call rfl rfl rfl rfl (w_all rfl) rfl (lt_b rfl) (bo true) rfl rfl co12 rfl rfl (fun l' w hI => H_only hI ((ended_any (hI.1.get (i := 0) rfl)).mono fun e w2 ⟨h1, h2⟩ => ⟨h1.trans (congrArg (fun b => Ending.returned (bo b)) henS2), h2⟩)) ?_
      refine SM.ru rfl rfl rfl (w_all rfl) rfl (lt_b rfl) (ru_move rfl rfl) ?_
      refine SM.ru rfl rfl rfl (w_yes rfl rfl rfl) rfl (lt_b rfl) (ru_move rfl rfl) ?_
      refine SM.ru rfl rfl rfl (w_yes rfl rfl rfl) rfl (lt_b rfl) (ru_move rfl rfl) ?_
      refine SM.ru rfl rfl rfl (w_yes rfl rfl rfl) rfl (lt_b rfl) (ru_len Try.underlying22 rfl rfl) ?_
      refine SM.ru rfl rfl rfl (w_yes rfl rfl rfl) rfl (lt_b rfl) (ru_add (r := (c + (o5.length : Int))) rfl rfl rfl ((by rw [IntKind.wrap_i64]; omega))) ?_
      refine SM.ru rfl rfl rfl (w_yes rfl rfl rfl) rfl (lt_b rfl) (ru_move rfl rfl) ?_
      refine SM.ru rfl rfl rfl (w_yes rfl rfl rfl) rfl (lt_b rfl) (ru_len Try.underlying22 rfl rfl) ?_
      refine SM.ru rfl rfl rfl (w_yes rfl rfl rfl) rfl (lt_b rfl) (ru_eq (b := (((c + (o5.length : Int)) : Int) == (text.length : Int))) rfl rfl rfl rfl) ?_
      refine SM.ru rfl rfl rfl (w_all rfl) rfl (lt_b rfl) (ru_pick (u := bo (((c + (o5.length : Int)) : Int) == (text.length : Int))) (v := bo false) rfl rfl rfl rfl) ?_
      refine SM.ru rfl rfl rfl (w_all rfl) rfl (lt_b rfl) (ru_move rfl rfl) ?_
      refine SM.norm [(0, Value.slice tq text.length tc), (4, bo false), (6, pt p 0), (8, pt d 0), (9, iw c), (18, Value.slice q6 o5.length c7), (171, pt d 0), (172, bo true), (173, bo true), (174, iw c), (175, Value.slice q6 o5.length c7), (176, iw (o5.length : Int)), (177, iw (c + (o5.length : Int))), (178, Value.slice tq text.length tc), (179, iw (text.length : Int)), (180, bo true), (181, bo true), (182, bo true)] ⟨rfl, rfl, rfl, rfl, rfl, rfl, rfl, rfl, rfl, rfl, rfl, rfl, rfl, rfl, rfl, (congrArg (fun bx => some (Value.bool bx)) (show (((c + (o5.length : Int)) : Int) == (text.length : Int)) = true from (by simp only [beq_iff_eq]; omega))), (congrArg (fun bx => some (Value.bool bx)) (show (((c + (o5.length : Int)) : Int) == (text.length : Int)) = true from (by simp only [beq_iff_eq]; omega))), (congrArg (fun bx => some (Value.bool bx)) (show (((c + (o5.length : Int)) : Int) == (text.length : Int)) = true from (by simp only [beq_iff_eq]; omega))), trivial⟩ ?_
      refine SM.ru rfl rfl rfl (w_yes rfl rfl rfl) rfl (lt_b rfl) (ru_move rfl rfl) ?_
      refine SM.ru rfl rfl rfl (w_yes rfl rfl rfl) rfl (lt_b rfl) (ru_str (f := o5) Try.underlying22 Try.underlying5 Try.underlying9 rfl rfl (fun w hI => mine_bytes hI (j := 4) rfl (by omega))) ?_
      refine SM.ru rfl rfl rfl (w_yes rfl rfl rfl) rfl (lt_b rfl) (ru_move rfl rfl) ?_
      refine SM.ru rfl rfl rfl (w_yes rfl rfl rfl) rfl (lt_b rfl) (ru_move rfl rfl) ?_
      refine SM.ru rfl rfl rfl (w_yes rfl rfl rfl) rfl (lt_b rfl) (ru_sliceV (size := 1) (l0 := (c).toNat) (h0 := text.length) (m0 := tc) (v := Value.slice (if tc = (c).toNat then tq else tq.map (·.add ((c).toNat * 1))) (text.length - (c).toNat) (tc - (c).toNat)) rfl si22 rfl rfl rfl rfl (show some (iw (c)) = some (iw (((c).toNat : Nat) : Int)) by rw [Int.toNat_of_nonneg (by omega)]) (by simp) (by omega) (by omega) (by omega)) ?_
      refine SM.ru rfl rfl rfl (w_yes rfl rfl rfl) rfl (lt_b rfl) (ru_str (f := (text.drop (c).toNat).take (text.length - (c).toNat)) Try.underlying22 Try.underlying5 Try.underlying9 rfl rfl (fun w hI => BytesAt.slice (c).toNat text.length tc (htx.only hI.2 (fun b _ _ _ _ _ h => hGf b h)) (by omega) (by omega) (by omega) (Nat.le_refl _))) ?_
      refine SM.nilL (l' := [rBlk d [pt p 0, Value.slice q1 S2.l.length c1, Value.slice q2 S2.late.length c2, iw S2.nxt, iw S2.hv, iw S2.last, bo S2.gone] 52, rPool p ab S2.L, rRowN (.slice q1 S2.l.length c1) (pRows S2.l) 61 5, rRowN (.slice q2 S2.late.length c2) (pRows S2.late) 61 5, rMine (.slice q6 o5.length c7) o5 5]) rfl ?_
      refine SL.rug rfl rfl rfl rfl (lt_b rfl) (ru_streq (f := o5) (h := (text.drop (c).toNat).take (text.length - (c).toNat)) (b := (decide (o5 = (text.drop (c).toNat).take (text.length - (c).toNat)))) Try.underlying9 rfl rfl rfl rfl) ?_
      refine SL.ru rfl rfl (lt_b rfl) (ru_pick (u := bo (decide (o5 = (text.drop (c).toNat).take (text.length - (c).toNat)))) (v := bo false) rfl rfl rfl rfl) ?_
      refine SL.ru rfl rfl (lt_b rfl) (ru_move rfl rfl) ?_
      refine SL.norm [(0, Value.slice tq text.length tc), (4, bo false), (6, pt p 0), (8, pt d 0), (9, iw c), (18, Value.slice q6 o5.length c7), (171, pt d 0), (172, bo true), (173, bo true), (174, iw c), (175, Value.slice q6 o5.length c7), (176, iw (o5.length : Int)), (177, iw (c + (o5.length : Int))), (178, Value.slice tq text.length tc), (179, iw (text.length : Int)), (180, bo true), (181, bo true), (182, bo true), (183, Value.slice q6 o5.length c7), (184, Value.string ⟨o5.toArray⟩), (185, Value.slice tq text.length tc), (186, iw c), (187, Value.slice (if tc = (c).toNat then tq else tq.map (·.add ((c).toNat * 1))) (text.length - (c).toNat) (tc - (c).toNat)), (188, Value.string ⟨((text.drop (c).toNat).take (text.length - (c).toNat)).toArray⟩), (189, bo true), (190, bo true), (191, bo true)] [rBlk d [pt p 0, Value.slice q1 S2.l.length c1, Value.slice q2 S2.late.length c2, iw S2.nxt, iw S2.hv, iw S2.last, bo S2.gone] 52, rPool p ab S2.L, rRowN (.slice q1 S2.l.length c1) (pRows S2.l) 61 5, rRowN (.slice q2 S2.late.length c2) (pRows S2.late) 61 5, rMine (.slice q6 o5.length c7) o5 5] ⟨rfl, rfl, rfl, rfl, rfl, rfl, rfl, rfl, rfl, rfl, rfl, rfl, rfl, rfl, rfl, rfl, rfl, rfl, rfl, rfl, rfl, rfl, rfl, rfl, (congrArg (fun bx => some (Value.bool bx)) (show (decide (o5 = (text.drop (c).toNat).take (text.length - (c).toNat))) = true from (decide_eq_true htxo5))), (congrArg (fun bx => some (Value.bool bx)) (show (decide (o5 = (text.drop (c).toNat).take (text.length - (c).toNat))) = true from (decide_eq_true htxo5))), (congrArg (fun bx => some (Value.bool bx)) (show (decide (o5 = (text.drop (c).toNat).take (text.length - (c).toNat))) = true from (decide_eq_true htxo5))), trivial⟩ rfl ?_
      refine SL.rug rfl rfl rfl rfl (lt_b rfl) (ru_move rfl rfl) ?_
      refine SL.callvg (iw 60) rfl rfl rfl rfl co13 rfl rfl rfl (lt_b rfl) (fun w hI => H_only hI ((left_any (hI.1.get (i := 1) rfl)).mono fun e w2 ⟨h1, h2⟩ => ⟨by rw [h1, hnfS2]; rfl, h2 ▸ Only.refl _ _⟩)) ?_
      refine SL.rug rfl rfl rfl rfl (lt_b rfl) (ru_eq (b := true) rfl rfl rfl rfl) ?_
      refine SL.ru rfl rfl (lt_b rfl) (ru_pick (u := bo true) (v := bo false) rfl rfl rfl rfl) ?_
      refine SL.ru rfl rfl (lt_b rfl) (ru_assign rfl rfl) ?_
      refine SL.nil ?_
      refine SC.of_SE ?_
      refine SC.norm [(4, bo true)] [rBlk d [pt p 0, Value.slice q1 S2.l.length c1, Value.slice q2 S2.late.length c2, iw S2.nxt, iw S2.hv, iw S2.last, bo S2.gone] 52, rPool p ab S2.L, rRowN (.slice q1 S2.l.length c1) (pRows S2.l) 61 5, rRowN (.slice q2 S2.late.length c2) (pRows S2.late) 61 5, rMine (.slice q6 o5.length c7) o5 5] ⟨rfl, trivial⟩ rfl ?_
      refine SC.ret ?_
      refine SE.res (.inl rfl) (res1 Try.results3 rfl) fun w1 hI => ⟨rfl, hI.2⟩
    · skip
      refine SC.seq ?_
      refine SC.seq ?_
      refine SC.region ?_
      refine SL.ru rfl rfl (lt_b rfl) (ru_move rfl rfl) ?_
      refine SL.ru rfl rfl (lt_b rfl) (ru_move rfl rfl) ?_
      refine SL.ru rfl rfl (lt_b rfl) (ru_len Try.underlying23 rfl rfl) ?_
      refine SL.ru rfl rfl (lt_b rfl) (ru_move rfl rfl) ?_
      refine SL.ru rfl rfl (lt_b rfl) (ru_len Try.underlying22 rfl rfl) ?_
      refine SL.ru rfl rfl (lt_b rfl) (ru_quo (r := (K : Int)) rfl rfl rfl (by decide) ((show IntKind.i64.wrap (Int.tdiv (text.length : Int) 100) = (K : Int) by rw [Int.tdiv_eq_ediv_of_nonneg (by omega), IntKind.wrap_i64]; omega))) ?_
      refine SL.ru rfl rfl (lt_b rfl) (ru_add (r := ((l.length : Int) + (K : Int))) rfl rfl rfl ((by rw [IntKind.wrap_i64]; omega))) ?_
      refine SL.ru rfl rfl (lt_b rfl) (ru_add (r := (((l.length : Int) + (K : Int)) + 1)) rfl rfl rfl ((by rw [IntKind.wrap_i64]; omega))) ?_
      refine SL.ru rfl rfl (lt_b rfl) (ru_lt (b := (decide (((i : Int) : Int) < (((l.length : Int) + (K : Int)) + 1)))) rfl rfl rfl rfl) ?_
      refine SL.nil ?_
      refine SC.of_SE ?_
      refine SC.norm [(0, Value.slice tq text.length tc), (1, Value.slice oa l.length oc), (4, bo false), (6, pt p 0), (8, pt d 0), (9, iw c), (10, iw (i : Int)), (50, bo (decide (((i : Int) : Int) < (((l.length : Int) + (K : Int)) + 1))))] [rBlk d [pt p 0, Value.slice q1 S.l.length c1, Value.slice q2 S.late.length c2, iw S.nxt, iw S.hv, iw S.last, bo S.gone] 52, rPool p ab S.L, rRowN (.slice q1 S.l.length c1) (pRows S.l) 61 5, rRowN (.slice q2 S.late.length c2) (pRows S.late) 61 5] ⟨rfl, rfl, rfl, rfl, rfl, rfl, rfl, rfl, trivial⟩ rfl ?_
      refine SC.yes (show some (Value.bool (decide (((i : Int) : Int) < (((l.length : Int) + (K : Int)) + 1)))) = some (Value.bool true) from congrArg (fun x => some (Value.bool x)) (decide_eq_true (by omega))) ?_
      refine SC.skip ?_
      refine SC.of_SE ?_
      refine SC.norm [(0, Value.slice tq text.length tc), (1, Value.slice oa l.length oc), (4, bo false), (6, pt p 0), (8, pt d 0), (9, iw c), (10, iw (i : Int))] [rBlk d [pt p 0, Value.slice q1 S.l.length c1, Value.slice q2 S.late.length c2, iw S.nxt, iw S.hv, iw S.last, bo S.gone] 52, rPool p ab S.L, rRowN (.slice q1 S.l.length c1) (pRows S.l) 61 5, rRowN (.slice q2 S.late.length c2) (pRows S.late) 61 5] ⟨rfl, rfl, rfl, rfl, rfl, rfl, rfl, trivial⟩ rfl ?_
      refine SC.seq ?_
      refine SC.block ?_
      refine SC.seq ?_
      refine SC.region ?_
      refine SL.ru rfl rfl (lt_b rfl) (ru_move rfl rfl) ?_
      refine SL.ru rfl rfl (lt_b rfl) (ru_move rfl rfl) ?_
      refine SL.ru rfl rfl (lt_b rfl) (ru_len Try.underlying23 rfl rfl) ?_
      refine SL.ru rfl rfl (lt_b rfl) (ru_sub (r := ((i : Int) - (l.length : Int))) rfl rfl rfl ((by rw [IntKind.wrap_i64]; omega))) ?_
      refine SL.ru rfl rfl (lt_b rfl) (ru_mul (r := (((i : Int) - (l.length : Int)) * 100)) rfl rfl rfl ((by rw [IntKind.wrap_i64]; omega))) ?_
      refine SL.ru rfl rfl (lt_b rfl) (ru_assign rfl rfl) ?_
      refine SL.nil ?_
      refine SC.of_SE ?_
      refine SC.norm [(0, Value.slice tq text.length tc), (1, Value.slice oa l.length oc), (4, bo false), (6, pt p 0), (8, pt d 0), (9, iw c), (10, iw (i : Int)), (11, iw (((i : Int) - (l.length : Int)) * 100))] [rBlk d [pt p 0, Value.slice q1 S.l.length c1, Value.slice q2 S.late.length c2, iw S.nxt, iw S.hv, iw S.last, bo S.gone] 52, rPool p ab S.L, rRowN (.slice q1 S.l.length c1) (pRows S.l) 61 5, rRowN (.slice q2 S.late.length c2) (pRows S.late) 61 5] ⟨rfl, rfl, rfl, rfl, rfl, rfl, rfl, rfl, trivial⟩ rfl ?_
      refine SC.seq ?_
      refine SC.region ?_
      refine SL.ru rfl rfl (lt_b rfl) (ru_assign rfl rfl) ?_
      refine SL.nil ?_
      refine SC.of_SE ?_
      refine SC.norm [(0, Value.slice tq text.length tc), (1, Value.slice oa l.length oc), (4, bo false), (6, pt p 0), (8, pt d 0), (9, iw c), (10, iw (i : Int)), (11, iw (((i : Int) - (l.length : Int)) * 100)), (12, iw 100)] [rBlk d [pt p 0, Value.slice q1 S.l.length c1, Value.slice q2 S.late.length c2, iw S.nxt, iw S.hv, iw S.last, bo S.gone] 52, rPool p ab S.L, rRowN (.slice q1 S.l.length c1) (pRows S.l) 61 5, rRowN (.slice q2 S.late.length c2) (pRows S.late) 61 5] ⟨rfl, rfl, rfl, rfl, rfl, rfl, rfl, rfl, rfl, trivial⟩ rfl ?_
      refine SC.seq ?_
      refine SC.seq ?_
      refine SC.region ?_
      refine SL.ru rfl rfl (lt_b rfl) (ru_move rfl rfl) ?_
      refine SL.ru rfl rfl (lt_b rfl) (ru_move rfl rfl) ?_
      refine SL.ru rfl rfl (lt_b rfl) (ru_len Try.underlying23 rfl rfl) ?_
      refine SL.ru rfl rfl (lt_b rfl) (ru_lt (b := (decide (((i : Int) : Int) < (l.length : Int)))) rfl rfl rfl rfl) ?_
      refine SL.nil ?_
      refine SC.of_SE ?_
      refine SC.norm [(0, Value.slice tq text.length tc), (1, Value.slice oa l.length oc), (4, bo false), (6, pt p 0), (8, pt d 0), (9, iw c), (10, iw (i : Int)), (11, iw (((i : Int) - (l.length : Int)) * 100)), (12, iw 100), (61, bo (decide (((i : Int) : Int) < (l.length : Int))))] [rBlk d [pt p 0, Value.slice q1 S.l.length c1, Value.slice q2 S.late.length c2, iw S.nxt, iw S.hv, iw S.last, bo S.gone] 52, rPool p ab S.L, rRowN (.slice q1 S.l.length c1) (pRows S.l) 61 5, rRowN (.slice q2 S.late.length c2) (pRows S.late) 61 5] ⟨rfl, rfl, rfl, rfl, rfl, rfl, rfl, rfl, rfl, rfl, trivial⟩ rfl ?_
      refine SC.both (decide (((i : Int) : Int) < (l.length : Int))) rfl (fun h8 => ?_) (fun h8 => ?_)
      · skip
        have hil : i < l.length := by have := of_decide_eq_true h8; omega
        obtain ⟨ob, oo, ea, hop⟩ := hops i (by omega)
        obtain ⟨⟨k9, o9, ov, f, s9, t9, b9, n9⟩, hl⟩ : ∃ op : OpZ, op = l[i]'(by omega) := ⟨_, rfl⟩
        rw [← hl] at hop
        obtain ⟨hc, hb0, hs0, hn9⟩ := hop
        simp only at hc hb0 hs0 hn9
        obtain ⟨fa, fc, rfl⟩ := hb0.form
        subst ea
        refine SC.seq ?_
        refine SC.seq ?_
        refine SC.region ?_
        refine SL.ru rfl rfl (lt_b rfl) (ru_move rfl rfl) ?_
        refine SL.ru rfl rfl (lt_b rfl) (ru_len Try.underlying22 rfl rfl) ?_
        refine SL.ru rfl rfl (lt_b rfl) (ru_eq (b := (((text.length : Int) : Int) == 0)) rfl rfl rfl rfl) ?_
        refine SL.nil ?_
        refine SC.of_SE ?_
        refine SC.norm [(0, Value.slice tq text.length tc), (1, sl ob oo l.length oc), (4, bo false), (6, pt p 0), (8, pt d 0), (9, iw c), (10, iw (i : Int)), (11, iw (((i : Int) - (l.length : Int)) * 100)), (12, iw 100), (64, bo (((text.length : Int) : Int) == 0))] [rBlk d [pt p 0, Value.slice q1 S.l.length c1, Value.slice q2 S.late.length c2, iw S.nxt, iw S.hv, iw S.last, bo S.gone] 52, rPool p ab S.L, rRowN (.slice q1 S.l.length c1) (pRows S.l) 61 5, rRowN (.slice q2 S.late.length c2) (pRows S.late) 61 5] ⟨rfl, rfl, rfl, rfl, rfl, rfl, rfl, rfl, rfl, rfl, trivial⟩ rfl ?_
        refine SC.both (((text.length : Int) : Int) == 0) rfl (fun h9 => ?_) (fun h9 => ?_)
        · skip
          refine SC.exit ?_
          refine SE.passe ?_
          refine SE.passe ?_
          refine SE.blke ?_
          refine SC.of_SE ?_
          refine SC.norm [(0, Value.slice tq text.length tc), (1, sl ob oo l.length oc), (4, bo false), (6, pt p 0), (8, pt d 0), (9, iw c), (10, iw (i : Int))] [rBlk d [pt p 0, Value.slice q1 S.l.length c1, Value.slice q2 S.late.length c2, iw S.nxt, iw S.hv, iw S.last, bo S.gone] 52, rPool p ab S.L, rRowN (.slice q1 S.l.length c1) (pRows S.l) 61 5, rRowN (.slice q2 S.late.length c2) (pRows S.late) 61 5] ⟨rfl, rfl, rfl, rfl, rfl, rfl, rfl, trivial⟩ rfl ?_
          refine SC.region ?_
          refine SL.ru rfl rfl (lt_b rfl) (ru_move rfl rfl) ?_
          refine SL.ru rfl rfl (lt_b rfl) (ru_add (r := ((i : Int) + 1)) rfl rfl rfl ((by rw [IntKind.wrap_i64]; omega))) ?_
          refine SL.ru rfl rfl (lt_b rfl) (ru_assign rfl rfl) ?_
          refine SL.nil ?_
          refine SE.keep 4 ?_
          refine SE.again N (i + 1, c, S, q1, c1, q2, c2) (by omega) ⟨by simp only; omega, hR, fun h => by simp only at h ⊢; omega, fun h => by simp only at h; omega, hG⟩ ⟨rfl, rfl, rfl, rfl, rfl, rfl, (congrArg (fun x => some (iw x)) (show (i : Int) + 1 = ((i + 1 : Nat) : Int) by omega)), trivial⟩ rfl
        · skip
          have hne : 0 < text.length := by have h8 : ¬ ((text.length : Int) = 0) := (by simpa using h9); omega
          obtain ⟨a, ha⟩ : ∃ a : Int, Int.tmod (Int.tmod o9 (text.length : Int) + (text.length : Int)) (text.length : Int) = a := ⟨_, rfl⟩
          obtain ⟨z9, hz⟩ : ∃ a : Int, Int.tmod (Int.tmod t9 280 + 280) 280 = a := ⟨_, rfl⟩
          have ha9 : 0 ≤ a ∧ a < (text.length : Int) := by have := rem_in o9 (n := (text.length : Int)) (by omega); rw [ha] at this; exact this.2.2
          have hz9 : 0 ≤ z9 ∧ z9 < 280 := by have := rem_in t9 (n := 280) (by decide); rw [hz] at this; exact this.2.2
          refine SC.skip ?_
          refine SC.of_SE ?_
          refine SC.norm [(0, Value.slice tq text.length tc), (1, sl ob oo l.length oc), (4, bo false), (6, pt p 0), (8, pt d 0), (9, iw c), (10, iw (i : Int)), (11, iw (((i : Int) - (l.length : Int)) * 100)), (12, iw 100)] [rBlk d [pt p 0, Value.slice q1 S.l.length c1, Value.slice q2 S.late.length c2, iw S.nxt, iw S.hv, iw S.last, bo S.gone] 52, rPool p ab S.L, rRowN (.slice q1 S.l.length c1) (pRows S.l) 61 5, rRowN (.slice q2 S.late.length c2) (pRows S.late) 61 5] ⟨rfl, rfl, rfl, rfl, rfl, rfl, rfl, rfl, rfl, trivial⟩ rfl ?_
          refine SC.seq ?_
          refine SC.region ?_
          refine SL.ru rfl rfl (lt_b rfl) (ru_move rfl rfl) ?_
          refine SL.ru rfl rfl (lt_b rfl) (ru_move rfl rfl) ?_
          refine SL.ru rfl rfl (lt_b rfl) (ru_indexS (o2 := oo + (i : Int).toNat * 7) si23 rfl rfl rfl (by omega) (by omega) rfl) ?_
          refine SL.ru rfl rfl (lt_b rfl) (ru_fieldAddr (o2 := (oo + (i : Int).toNat * 7 + 1)) fd32_1 rfl rfl rfl) ?_
          refine SL.ru rfl rfl (lt_b rfl) (ru_load_old (u := iw o9) hGf ts3 rfl rfl (by rw [Int.toNat_natCast]; exact hc 1 _ rfl)) ?_
          refine SL.ru rfl rfl (lt_b rfl) (ru_move rfl rfl) ?_
          refine SL.ru rfl rfl (lt_b rfl) (ru_len Try.underlying22 rfl rfl) ?_
          refine SL.ru rfl rfl (lt_b rfl) (ru_rem (r := (Int.tmod o9 (text.length : Int))) rfl rfl rfl (by omega) rfl) ?_
          refine SL.ru rfl rfl (lt_b rfl) (ru_move rfl rfl) ?_
          refine SL.ru rfl rfl (lt_b rfl) (ru_len Try.underlying22 rfl rfl) ?_
          refine SL.ru rfl rfl (lt_b rfl) (ru_add (r := (Int.tmod o9 (text.length : Int) + (text.length : Int))) rfl rfl rfl ((by have := rem_in o9 (n := (text.length : Int)) (by omega); rw [IntKind.wrap_i64]; omega))) ?_
          refine SL.ru rfl rfl (lt_b rfl) (ru_move rfl rfl) ?_
          refine SL.ru rfl rfl (lt_b rfl) (ru_len Try.underlying22 rfl rfl) ?_
          refine SL.ru rfl rfl (lt_b rfl) (ru_rem (r := a) rfl rfl rfl (by omega) ha) ?_
          refine SL.ru rfl rfl (lt_b rfl) (ru_assign rfl rfl) ?_
          refine SL.nil ?_
          refine SC.of_SE ?_
          refine SC.norm [(0, Value.slice tq text.length tc), (1, sl ob oo l.length oc), (4, bo false), (6, pt p 0), (8, pt d 0), (9, iw c), (10, iw (i : Int)), (11, iw a), (12, iw 100)] [rBlk d [pt p 0, Value.slice q1 S.l.length c1, Value.slice q2 S.late.length c2, iw S.nxt, iw S.hv, iw S.last, bo S.gone] 52, rPool p ab S.L, rRowN (.slice q1 S.l.length c1) (pRows S.l) 61 5, rRowN (.slice q2 S.late.length c2) (pRows S.late) 61 5] ⟨rfl, rfl, rfl, rfl, rfl, rfl, rfl, rfl, rfl, trivial⟩ rfl ?_
          refine SC.region ?_
          refine SL.ru rfl rfl (lt_b rfl) (ru_move rfl rfl) ?_
          refine SL.ru rfl rfl (lt_b rfl) (ru_move rfl rfl) ?_
          refine SL.ru rfl rfl (lt_b rfl) (ru_indexS (o2 := oo + (i : Int).toNat * 7) si23 rfl rfl rfl (by omega) (by omega) rfl) ?_
          refine SL.ru rfl rfl (lt_b rfl) (ru_fieldAddr (o2 := (oo + (i : Int).toNat * 7 + 4)) fd32_4 rfl rfl rfl) ?_
          refine SL.ru rfl rfl (lt_b rfl) (ru_load_old (u := iw t9) hGf ts3 rfl rfl (by rw [Int.toNat_natCast]; exact hc 4 _ rfl)) ?_
          refine SL.ru rfl rfl (lt_b rfl) (ru_rem (r := (Int.tmod t9 280)) rfl rfl rfl (by decide) rfl) ?_
          refine SL.ru rfl rfl (lt_b rfl) (ru_add (r := (Int.tmod t9 280 + 280)) rfl rfl rfl ((by have := rem_in t9 (n := 280) (by decide); rw [IntKind.wrap_i64]; omega))) ?_
          refine SL.ru rfl rfl (lt_b rfl) (ru_rem (r := z9) rfl rfl rfl (by decide) hz) ?_
          refine SL.ru rfl rfl (lt_b rfl) (ru_assign rfl rfl) ?_
          refine SL.nil ?_
          refine SC.of_SE ?_
          refine SC.norm [(0, Value.slice tq text.length tc), (1, sl ob oo l.length oc), (4, bo false), (6, pt p 0), (8, pt d 0), (9, iw c), (10, iw (i : Int)), (11, iw a), (12, iw z9)] [rBlk d [pt p 0, Value.slice q1 S.l.length c1, Value.slice q2 S.late.length c2, iw S.nxt, iw S.hv, iw S.last, bo S.gone] 52, rPool p ab S.L, rRowN (.slice q1 S.l.length c1) (pRows S.l) 61 5, rRowN (.slice q2 S.late.length c2) (pRows S.late) 61 5] ⟨rfl, rfl, rfl, rfl, rfl, rfl, rfl, rfl, rfl, trivial⟩ rfl ?_
          refine SC.seq ?_
          refine SC.region ?_
          refine SL.ru rfl rfl (lt_b rfl) (ru_move rfl rfl) ?_
          refine SL.ru rfl rfl (lt_b rfl) (ru_move rfl rfl) ?_
          refine SL.ru rfl rfl (lt_b rfl) (ru_add (r := (a + z9)) rfl rfl rfl ((by rw [IntKind.wrap_i64]; omega))) ?_
          refine SL.ru rfl rfl (lt_b rfl) (ru_assign rfl rfl) ?_
          refine SL.nil ?_
          refine SC.of_SE ?_
          refine SC.norm [(0, Value.slice tq text.length tc), (1, sl ob oo l.length oc), (4, bo false), (6, pt p 0), (8, pt d 0), (9, iw c), (10, iw (i : Int)), (11, iw a), (13, iw (a + z9))] [rBlk d [pt p 0, Value.slice q1 S.l.length c1, Value.slice q2 S.late.length c2, iw S.nxt, iw S.hv, iw S.last, bo S.gone] 52, rPool p ab S.L, rRowN (.slice q1 S.l.length c1) (pRows S.l) 61 5, rRowN (.slice q2 S.late.length c2) (pRows S.late) 61 5] ⟨rfl, rfl, rfl, rfl, rfl, rfl, rfl, rfl, rfl, trivial⟩ rfl ?_
          refine SC.seq ?_
          refine SC.seq ?_
          refine SC.region ?_
          refine SL.ru rfl rfl (lt_b rfl) (ru_move rfl rfl) ?_
          refine SL.ru rfl rfl (lt_b rfl) (ru_move rfl rfl) ?_
          refine SL.ru rfl rfl (lt_b rfl) (ru_len Try.underlying22 rfl rfl) ?_
          refine SL.ru rfl rfl (lt_b rfl) (ru_gt (b := (decide (((text.length : Int) : Int) < (a + z9)))) rfl rfl rfl rfl) ?_
          refine SL.nil ?_
          refine SC.of_SE ?_
          refine SC.norm [(0, Value.slice tq text.length tc), (1, sl ob oo l.length oc), (4, bo false), (6, pt p 0), (8, pt d 0), (9, iw c), (10, iw (i : Int)), (11, iw a), (13, iw (a + z9)), (93, bo (decide (((text.length : Int) : Int) < (a + z9))))] [rBlk d [pt p 0, Value.slice q1 S.l.length c1, Value.slice q2 S.late.length c2, iw S.nxt, iw S.hv, iw S.last, bo S.gone] 52, rPool p ab S.L, rRowN (.slice q1 S.l.length c1) (pRows S.l) 61 5, rRowN (.slice q2 S.late.length c2) (pRows S.late) 61 5] ⟨rfl, rfl, rfl, rfl, rfl, rfl, rfl, rfl, rfl, rfl, trivial⟩ rfl ?_
          refine SC.both (decide (((text.length : Int) : Int) < (a + z9))) rfl (fun h10 => ?_) (fun h10 => ?_)
          · skip
            have hto9 := of_decide_eq_true h10
            refine SC.region ?_
            refine SL.ru rfl rfl (lt_b rfl) (ru_move rfl rfl) ?_
            refine SL.ru rfl rfl (lt_b rfl) (ru_len Try.underlying22 rfl rfl) ?_
            refine SL.ru rfl rfl (lt_b rfl) (ru_assign rfl rfl) ?_
            refine SL.nil ?_
            refine SC.of_SE ?_
            refine SC.norm [(0, Value.slice tq text.length tc), (1, sl ob oo l.length oc), (4, bo false), (6, pt p 0), (8, pt d 0), (9, iw c), (10, iw (i : Int)), (11, iw a), (13, iw (text.length : Int))] [rBlk d [pt p 0, Value.slice q1 S.l.length c1, Value.slice q2 S.late.length c2, iw S.nxt, iw S.hv, iw S.last, bo S.gone] 52, rPool p ab S.L, rRowN (.slice q1 S.l.length c1) (pRows S.l) 61 5, rRowN (.slice q2 S.late.length c2) (pRows S.late) 61 5] ⟨rfl, rfl, rfl, rfl, rfl, rfl, rfl, rfl, rfl, trivial⟩ rfl ?_
            refine SC.seq ?_
            refine SC.region ?_
            refine SL.ru rfl rfl (lt_b rfl) (ru_move rfl rfl) ?_
            refine SL.call (ζ := Int × Rq) (fun z => Value.tuple #[iw z.1, iw 0]) (fun z => QR d p ab q1 c1 q2 c2 z.2 ++ []) (fun z => (RO text c z.2 [z.1]) ∧ z.2.nxt = S.nxt ∧ ∀ b, QG d p ab q1 c1 q2 c2 z.2 b → G b ∨ w.heap.size ≤ b) rfl rfl co8 rfl rfl rfl (lt_b rfl) (fun w1 hI => by obtain ⟨j, e9, k9⟩ := hR.get hR.free; exact (get_any (hI.1.get (i := 1) rfl)).mono fun e w2 ⟨h1, h2⟩ => ⟨(j, { S with L := (getF S.L).2 }), by rw [h1, e9], hI.poolTo (i := 1) rfl (fun b hb => hG b (hb.elim (fun e => .inr (.inl e)) (fun e => .inr (.inr (.inl e))))) h2, k9, rfl, hG⟩) ?_
            rintro ⟨j11, S12⟩ ⟨hR13, hnS12, hG14⟩
            dsimp only at hR13 hG14 hnS12
            refine SL.ru rfl rfl (lt_b rfl) (ru_move rfl rfl) ?_
            refine SL.ru rfl rfl (lt_b rfl) (ru_extract rfl rfl rfl) ?_
            refine SL.ru rfl rfl (lt_b rfl) (ru_extract rfl rfl rfl) ?_
            refine SL.ru rfl rfl (lt_b rfl) (ru_assign rfl rfl) ?_
            refine SL.ru rfl rfl (lt_b rfl) (ru_assign rfl rfl) ?_
            refine SL.nil ?_
            refine SC.of_SE ?_
            refine SC.norm [(0, Value.slice tq text.length tc), (1, sl ob oo l.length oc), (4, bo false), (6, pt p 0), (8, pt d 0), (9, iw c), (10, iw (i : Int)), (11, iw a), (13, iw (text.length : Int)), (14, iw j11), (15, iw 0)] [rBlk d [pt p 0, Value.slice q1 S12.l.length c1, Value.slice q2 S12.late.length c2, iw S12.nxt, iw S12.hv, iw S12.last, bo S12.gone] 52, rPool p ab S12.L, rRowN (.slice q1 S12.l.length c1) (pRows S12.l) 61 5, rRowN (.slice q2 S12.late.length c2) (pRows S12.late) 61 5] ⟨rfl, rfl, rfl, rfl, rfl, rfl, rfl, rfl, rfl, rfl, rfl, trivial⟩ rfl ?_
            refine SC.seq ?_
            refine SC.region ?_
            refine SL.ru rfl rfl (lt_b rfl) (ru_move rfl rfl) ?_
            refine SL.ru rfl rfl (lt_b rfl) (ru_move rfl rfl) ?_
            refine SL.ru rfl rfl (lt_b rfl) (ru_move rfl rfl) ?_
            refine SL.ru rfl rfl (lt_b rfl) (ru_move rfl rfl) ?_
            refine SL.ru rfl rfl (lt_b rfl) (ru_move rfl rfl) ?_
            refine SL.ru rfl rfl (lt_b rfl) (ru_sliceV (size := 1) (l0 := (a).toNat) (h0 := ((text.length : Int)).toNat) (m0 := tc) (v := Value.slice (if tc = (a).toNat then tq else tq.map (·.add ((a).toNat * 1))) (((text.length : Int)).toNat - (a).toNat) (tc - (a).toNat)) rfl si22 rfl rfl rfl (show some (iw ((text.length : Int))) = some (iw ((((text.length : Int)).toNat : Nat) : Int)) by rw [Int.toNat_of_nonneg (by omega)]) (show some (iw (a)) = some (iw (((a).toNat : Nat) : Int)) by rw [Int.toNat_of_nonneg (by omega)]) (by simp) (by omega) (by omega) (by omega)) ?_
            refine SL.call (ζ := Rq) (fun z => iw 0) (fun z => QR d p ab q1 c1 q2 c2 z ++ []) (fun z => (RO text c z [j11]) ∧ dt z.L j11 = ((text.drop (a).toNat).take (((text.length : Int)).toNat - (a).toNat)) ∧ z.nxt = S12.nxt ∧ ∀ b, QG d p ab q1 c1 q2 c2 z b → G b ∨ w.heap.size ≤ b) rfl rfl co9 rfl rfl rfl (lt_b rfl) (fun w1 hI => (set_any (hI.1.get (i := 1) rfl) j11 (BytesAt.slice (a).toNat ((text.length : Int)).toNat tc (htx.only hI.2 (fun b _ _ _ _ _ h => hGf b h)) (by omega) (by omega) (by omega) (Nat.le_refl _)) (cut_in ht (fun b o9 n9 c9 h1 h2 e => by have hlt := hts b o9 n9 c9 h1 h2; have := (hG14 b (.inr (.inr (.inl e)))).resolve_left (hGf b); omega) (by omega))).mono fun e w2 ⟨h1, h2⟩ => ⟨{ S12 with L := (ownF S12.L j11 (setF ((text.drop (a).toNat).take (((text.length : Int)).toNat - (a).toNat)))).2 }, by rw [h1, (hR13.set (show ((text.drop (a).toNat).take (((text.length : Int)).toNat - (a).toNat)).length ≤ 288 by rw [List.length_take, List.length_drop]; omega)).1], hI.poolTo (i := 1) rfl (fun b hb => hG14 b (hb.elim (fun e => .inr (.inl e)) (fun e => .inr (.inr (.inl e))))) h2, (hR13.set (show ((text.drop (a).toNat).take (((text.length : Int)).toNat - (a).toNat)).length ≤ 288 by rw [List.length_take, List.length_drop]; omega)).2.1, (hR13.set (show ((text.drop (a).toNat).take (((text.length : Int)).toNat - (a).toNat)).length ≤ 288 by rw [List.length_take, List.length_drop]; omega)).2.2, rfl, hG14⟩) ?_
            rintro S15 ⟨hR16, hd18, hnS15, hG17⟩
            refine SL.ru rfl rfl (lt_b rfl) (ru_assign rfl rfl) ?_
            refine SL.nil ?_
            refine SC.of_SE ?_
            refine SC.norm [(0, Value.slice tq text.length tc), (1, sl ob oo l.length oc), (4, bo false), (6, pt p 0), (8, pt d 0), (9, iw c), (10, iw (i : Int)), (11, iw a), (13, iw (text.length : Int)), (14, iw j11), (15, iw 0), (16, iw 0)] [rBlk d [pt p 0, Value.slice q1 S15.l.length c1, Value.slice q2 S15.late.length c2, iw S15.nxt, iw S15.hv, iw S15.last, bo S15.gone] 52, rPool p ab S15.L, rRowN (.slice q1 S15.l.length c1) (pRows S15.l) 61 5, rRowN (.slice q2 S15.late.length c2) (pRows S15.late) 61 5] ⟨rfl, rfl, rfl, rfl, rfl, rfl, rfl, rfl, rfl, rfl, rfl, rfl, trivial⟩ rfl ?_
            refine SC.seq ?_
            refine SC.seq ?_
            refine SC.region ?_
            refine SL.ru rfl rfl (lt_b rfl) (ru_move rfl rfl) ?_
            refine SL.ru rfl rfl (lt_b rfl) (ru_ne (b := false) rfl rfl rfl rfl) ?_
            refine SL.ru rfl rfl (lt_b rfl) (ru_move rfl rfl) ?_
            refine SL.rug rfl rfl rfl rfl (lt_b rfl) (ru_move rfl rfl) ?_
            refine SL.rug rfl rfl rfl rfl (lt_b rfl) (ru_ne (b := false) rfl rfl rfl rfl) ?_
            refine SL.ru rfl rfl (lt_b rfl) (ru_pick (u := bo true) (v := bo false) rfl rfl rfl rfl) ?_
            refine SL.nil ?_
            refine SC.of_SE ?_
            refine SC.norm [(0, Value.slice tq text.length tc), (1, sl ob oo l.length oc), (4, bo false), (6, pt p 0), (8, pt d 0), (9, iw c), (10, iw (i : Int)), (11, iw a), (13, iw (text.length : Int)), (14, iw j11), (113, bo false)] [rBlk d [pt p 0, Value.slice q1 S15.l.length c1, Value.slice q2 S15.late.length c2, iw S15.nxt, iw S15.hv, iw S15.last, bo S15.gone] 52, rPool p ab S15.L, rRowN (.slice q1 S15.l.length c1) (pRows S15.l) 61 5, rRowN (.slice q2 S15.late.length c2) (pRows S15.late) 61 5] ⟨rfl, rfl, rfl, rfl, rfl, rfl, rfl, rfl, rfl, rfl, rfl, trivial⟩ rfl ?_
            refine SC.no rfl ?_
            refine SC.skip ?_
            refine SC.of_SE ?_
            refine SC.norm [(0, Value.slice tq text.length tc), (1, sl ob oo l.length oc), (4, bo false), (6, pt p 0), (8, pt d 0), (9, iw c), (10, iw (i : Int)), (11, iw a), (13, iw (text.length : Int)), (14, iw j11)] [rBlk d [pt p 0, Value.slice q1 S15.l.length c1, Value.slice q2 S15.late.length c2, iw S15.nxt, iw S15.hv, iw S15.last, bo S15.gone] 52, rPool p ab S15.L, rRowN (.slice q1 S15.l.length c1) (pRows S15.l) 61 5, rRowN (.slice q2 S15.late.length c2) (pRows S15.late) 61 5] ⟨rfl, rfl, rfl, rfl, rfl, rfl, rfl, rfl, rfl, rfl, trivial⟩ rfl ?_
            refine SC.seq ?_
            refine SC.region ?_
            refine SL.ru rfl rfl (lt_b rfl) (ru_move rfl rfl) ?_
            refine SL.ru rfl rfl (lt_b rfl) (ru_move rfl rfl) ?_
            refine SL.ru rfl rfl (lt_b rfl) (ru_move rfl rfl) ?_
            refine SL.ru rfl rfl (lt_b rfl) (ru_move rfl rfl) ?_
            refine SL.ru rfl rfl (lt_b rfl) (ru_move rfl rfl) ?_
            refine SL.ru rfl rfl (lt_b rfl) (ru_sub (r := ((text.length : Int) - a)) rfl rfl rfl ((by rw [IntKind.wrap_i64]; omega))) ?_
            refine SL.ru rfl rfl (lt_b rfl) (ru_move rfl rfl) ?_
            refine SL.ru rfl rfl (lt_b rfl) (ru_move rfl rfl) ?_
            refine SL.ru rfl rfl (lt_b rfl) (ru_len Try.underlying22 rfl rfl) ?_
            refine SL.ru rfl rfl (lt_b rfl) (ru_eq (b := true) rfl rfl rfl (by simp)) ?_
            refine SL.call (ζ := Rq × Option Addr × Nat × Option Addr × Nat) (fun z => bo ((qPutF S15 (⟨a, j11, 0, (text.length : Int) - a, true⟩ : Pc)).1)) (fun z => QR d p ab z.2.1 z.2.2.1 z.2.2.2.1 z.2.2.2.2 z.1 ++ []) (fun z => (RO text c z.1 []) ∧ (a ≤ S15.nxt → (text.length : Int) ≤ z.1.nxt ∧ ((text.length : Int) = (text.length : Int) → endedF z.1 = true)) ∧ ∀ b, QG d p ab z.2.1 z.2.2.1 z.2.2.2.1 z.2.2.2.2 z.1 b → G b ∨ w.heap.size ≤ b) rfl rfl co10 rfl rfl rfl (lt_b rfl) (fun w5 hI => (put_ri (x := (⟨a, j11, 0, (text.length : Int) - a, true⟩ : Pc)) hR16.ri (Inv.four hI)).mono fun e w2 ⟨h1, k⟩ => by obtain ⟨a1, a2, a3, a4, k1, k2⟩ := Inv.qto (l := []) hI k hG17; have k9 := RO.put (a := a) (b := (text.length : Int)) (fin := true) hR16 hlen1 (by omega) (by omega) (by omega) hd18 (by simp); exact ⟨(_, a1, a2, a3, a4), h1, k1, k9.1, k9.2, k2⟩) ?_
            rintro ⟨S19, qa23, ca24, qb25, cb26⟩ ⟨hR20, hP22, hG21⟩
            dsimp only at hR20 hP22 hG21
            refine SL.nil ?_
            refine SC.of_SE ?_
            refine SC.norm [(0, Value.slice tq text.length tc), (1, sl ob oo l.length oc), (4, bo false), (6, pt p 0), (8, pt d 0), (9, iw c), (10, iw (i : Int))] [rBlk d [pt p 0, Value.slice qa23 S19.l.length ca24, Value.slice qb25 S19.late.length cb26, iw S19.nxt, iw S19.hv, iw S19.last, bo S19.gone] 52, rPool p ab S19.L, rRowN (.slice qa23 S19.l.length ca24) (pRows S19.l) 61 5, rRowN (.slice qb25 S19.late.length cb26) (pRows S19.late) 61 5] ⟨rfl, rfl, rfl, rfl, rfl, rfl, rfl, trivial⟩ rfl ?_
            refine SC.seq ?_
            refine SC.region ?_
            refine SL.ru rfl rfl (lt_b rfl) (ru_move rfl rfl) ?_
            refine SL.ru rfl rfl (lt_b rfl) (ru_move rfl rfl) ?_
            refine SL.ru rfl rfl (lt_b rfl) (ru_len Try.underlying23 rfl rfl) ?_
            refine SL.ru rfl rfl (lt_b rfl) (ru_lt (b := (decide (((i : Int) : Int) < (l.length : Int)))) rfl rfl rfl rfl) ?_
            refine SL.ru rfl rfl (lt_b rfl) (ru_move rfl rfl) ?_
            refine SL.norm [(0, Value.slice tq text.length tc), (1, sl ob oo l.length oc), (4, bo false), (6, pt p 0), (8, pt d 0), (9, iw c), (10, iw (i : Int)), (125, iw (i : Int)), (126, sl ob oo l.length oc), (127, iw (l.length : Int)), (128, bo true), (129, bo true)] [rBlk d [pt p 0, Value.slice qa23 S19.l.length ca24, Value.slice qb25 S19.late.length cb26, iw S19.nxt, iw S19.hv, iw S19.last, bo S19.gone] 52, rPool p ab S19.L, rRowN (.slice qa23 S19.l.length ca24) (pRows S19.l) 61 5, rRowN (.slice qb25 S19.late.length cb26) (pRows S19.late) 61 5] ⟨rfl, rfl, rfl, rfl, rfl, rfl, rfl, rfl, rfl, rfl, (congrArg (fun bx => some (Value.bool bx)) (show (decide (((i : Int) : Int) < (l.length : Int))) = true from h8)), (congrArg (fun bx => some (Value.bool bx)) (show (decide (((i : Int) : Int) < (l.length : Int))) = true from h8)), trivial⟩ rfl ?_
            refine SL.rug rfl rfl rfl rfl (lt_b rfl) (ru_move rfl rfl) ?_
            refine SL.rug rfl rfl rfl rfl (lt_b rfl) (ru_move rfl rfl) ?_
            refine SL.rug rfl rfl rfl rfl (lt_b rfl) (ru_indexS (o2 := oo + (i : Int).toNat * 7) si23 rfl rfl rfl (by omega) (by omega) rfl) ?_
            refine SL.rug rfl rfl rfl rfl (lt_b rfl) (ru_fieldAddr (o2 := (oo + (i : Int).toNat * 7 + 6)) fd32_6 rfl rfl rfl) ?_
            refine SL.rug rfl rfl rfl rfl (lt_b rfl) (ru_load_old (u := iw n9) hGf ts3 rfl rfl (by rw [Int.toNat_natCast]; exact hc 6 _ rfl)) ?_
            refine SL.rug rfl rfl rfl rfl (lt_b rfl) (ru_gt (b := (decide ((0 : Int) < n9))) rfl rfl rfl rfl) ?_
            refine SL.ru rfl rfl (lt_b rfl) (ru_pick (u := bo (decide ((0 : Int) < n9))) (v := bo false) rfl rfl rfl rfl) ?_
            refine SL.nil ?_
            refine SC.of_SE ?_
            refine SC.norm [(0, Value.slice tq text.length tc), (1, sl ob oo l.length oc), (4, bo false), (6, pt p 0), (8, pt d 0), (9, iw c), (10, iw (i : Int)), (136, bo (decide ((0 : Int) < n9)))] [rBlk d [pt p 0, Value.slice qa23 S19.l.length ca24, Value.slice qb25 S19.late.length cb26, iw S19.nxt, iw S19.hv, iw S19.last, bo S19.gone] 52, rPool p ab S19.L, rRowN (.slice qa23 S19.l.length ca24) (pRows S19.l) 61 5, rRowN (.slice qb25 S19.late.length cb26) (pRows S19.late) 61 5] ⟨rfl, rfl, rfl, rfl, rfl, rfl, rfl, rfl, trivial⟩ rfl ?_
            refine SC.both (decide ((0 : Int) < n9)) rfl (fun h27 => ?_) (fun h27 => ?_)
            · skip
              refine SC.seq ?_
              refine SC.region ?_
              refine SL.ru rfl rfl (lt_b rfl) (ru_move rfl rfl) ?_
              refine SL.ru rfl rfl (lt_b rfl) (ru_move rfl rfl) ?_
              refine SL.ru rfl rfl (lt_b rfl) (ru_move rfl rfl) ?_
              refine SL.ru rfl rfl (lt_b rfl) (ru_indexS (o2 := oo + (i : Int).toNat * 7) si23 rfl rfl rfl (by omega) (by omega) rfl) ?_
              refine SL.ru rfl rfl (lt_b rfl) (ru_fieldAddr (o2 := (oo + (i : Int).toNat * 7 + 6)) fd32_6 rfl rfl rfl) ?_
              refine SL.ru rfl rfl (lt_b rfl) (ru_load_old (u := iw n9) hGf ts3 rfl rfl (by rw [Int.toNat_natCast]; exact hc 6 _ rfl)) ?_
              refine SL.ru rfl rfl (lt_b rfl) (ru_rem (r := (Int.tmod n9 400)) rfl rfl rfl (by decide) rfl) ?_
              have hc9 : c ≤ 900000000000000000 := by have := hR20.tx.nx; have := hR20.ri.at'; have := hR20.ri.facts; omega
              refine SL.call (ζ := Rq × List UInt8 × Option Addr × Nat) (fun z => Value.slice z.2.2.1 z.2.1.length z.2.2.2) (fun z => QR d p ab qa23 ca24 qb25 cb26 z.1 ++ rMine (.slice z.2.2.1 z.2.1.length z.2.2.2) z.2.1 5 :: []) (fun z => (RO text (c + (z.2.1.length : Int)) z.1 []) ∧ z.2.1 = (text.drop c.toNat).take z.2.1.length ∧ c + (z.2.1.length : Int) ≤ (text.length : Int) ∧ z.1.nxt = S19.nxt ∧ ∀ b, QG d p ab qa23 ca24 qb25 cb26 z.1 b → G b ∨ w.heap.size ≤ b) rfl rfl co11 rfl rfl rfl (lt_b rfl) (fun w5 hI => (read_ri hR20.ri hc9 (show IntKind.i64.wrap (Int.tmod n9 400) = Int.tmod n9 400 by have := rem_in n9 (n := 400) (by decide); rw [IntKind.wrap_i64]; omega) (Inv.four hI)).mono fun e w2 ⟨q, c9, h1, h2, h3, h4⟩ => by obtain ⟨k1, k2⟩ := Inv.rdto (l := []) hI h2 h3 h4 hG21 rfl; exact ⟨(readS (Int.tmod n9 400) S19, readO (Int.tmod n9 400) S19, q, c9), h1, k1, (hR20.read hlen1 (show IntKind.i64.wrap (Int.tmod n9 400) = Int.tmod n9 400 by have := rem_in n9 (n := 400) (by decide); rw [IntKind.wrap_i64]; omega)).1, (hR20.read hlen1 (show IntKind.i64.wrap (Int.tmod n9 400) = Int.tmod n9 400 by have := rem_in n9 (n := 400) (by decide); rw [IntKind.wrap_i64]; omega)).2.1, (hR20.read hlen1 (show IntKind.i64.wrap (Int.tmod n9 400) = Int.tmod n9 400 by have := rem_in n9 (n := 400) (by decide); rw [IntKind.wrap_i64]; omega)).2.2.1, (hR20.read hlen1 (show IntKind.i64.wrap (Int.tmod n9 400) = Int.tmod n9 400 by have := rem_in n9 (n := 400) (by decide); rw [IntKind.wrap_i64]; omega)).2.2.2.1, k2⟩) ?_
              rintro ⟨S28, o31, q32, c33⟩ ⟨hR29, htoo31, hclo31, hnS28, hG30⟩
              dsimp only at hR29 htoo31 hclo31 hnS28 hG30
              have htoo31 : o31 = (text.drop c.toNat).take ((c + (o31.length : Int)).toNat - c.toNat) := by rw [show (c + (o31.length : Int)).toNat - c.toNat = o31.length by omega]; exact htoo31
              refine SL.ru rfl rfl (lt_b rfl) (ru_assign rfl rfl) ?_
              refine SL.nil ?_
              refine SC.of_SE ?_
              refine SC.norm [(0, Value.slice tq text.length tc), (1, sl ob oo l.length oc), (4, bo false), (6, pt p 0), (8, pt d 0), (9, iw c), (10, iw (i : Int)), (17, Value.slice q32 o31.length c33)] [rBlk d [pt p 0, Value.slice qa23 S28.l.length ca24, Value.slice qb25 S28.late.length cb26, iw S28.nxt, iw S28.hv, iw S28.last, bo S28.gone] 52, rPool p ab S28.L, rRowN (.slice qa23 S28.l.length ca24) (pRows S28.l) 61 5, rRowN (.slice qb25 S28.late.length cb26) (pRows S28.late) 61 5, rMine (.slice q32 o31.length c33) o31 5] ⟨rfl, rfl, rfl, rfl, rfl, rfl, rfl, rfl, trivial⟩ rfl ?_
              refine SC.seq ?_
              refine SC.seq ?_
              refine SC.region_quiet (by kernel_rfl) (by kernel_rfl) ?_
              refine SQ.ru rfl rfl (lt_b rfl) (ru_move rfl rfl) ?_
              refine SQ.ru rfl rfl (lt_b rfl) (ru_len Try.underlying22 rfl rfl) ?_
              refine SQ.ru rfl rfl (lt_b rfl) (ru_move rfl rfl) ?_
              refine SQ.ru rfl rfl (lt_b rfl) (ru_len Try.underlying22 rfl rfl) ?_
              refine SQ.ru rfl rfl (lt_b rfl) (ru_move rfl rfl) ?_
              refine SQ.ru rfl rfl (lt_b rfl) (ru_sub (r := ((text.length : Int) - c)) rfl rfl rfl ((by rw [IntKind.wrap_i64]; omega))) ?_
              refine SQ.ru rfl rfl (lt_b rfl) (ru_gt (b := (decide ((((text.length : Int) - c) : Int) < (o31.length : Int)))) rfl rfl rfl rfl) ?_
              refine SQ.ru rfl rfl (lt_b rfl) (ru_move rfl rfl) ?_
              refine SQ.norm [(0, Value.slice tq text.length tc), (1, sl ob oo l.length oc), (4, bo false), (6, pt p 0), (8, pt d 0), (9, iw c), (10, iw (i : Int)), (17, Value.slice q32 o31.length c33), (145, Value.slice q32 o31.length c33), (146, iw (o31.length : Int)), (147, Value.slice tq text.length tc), (148, iw (text.length : Int)), (149, iw c), (150, iw ((text.length : Int) - c)), (151, bo false), (152, bo false)] ⟨rfl, rfl, rfl, rfl, rfl, rfl, rfl, rfl, rfl, rfl, rfl, rfl, rfl, rfl, (congrArg (fun bx => some (Value.bool bx)) (show (decide ((((text.length : Int) - c) : Int) < (o31.length : Int))) = false from decide_eq_false (by omega))), (congrArg (fun bx => some (Value.bool bx)) (show (decide ((((text.length : Int) - c) : Int) < (o31.length : Int))) = false from decide_eq_false (by omega))), trivial⟩ ?_
              refine SQ.rug rfl rfl rfl rfl (lt_b rfl) (ru_move rfl rfl) ?_
              refine SQ.rug rfl rfl rfl rfl (lt_b rfl) (ru_str (f := o31) Try.underlying22 Try.underlying5 Try.underlying9 rfl rfl (fun w hI => mine_bytes hI (j := 4) rfl (by omega))) ?_
              refine SQ.rug rfl rfl rfl rfl (lt_b rfl) (ru_move rfl rfl) ?_
              refine SQ.rug rfl rfl rfl rfl (lt_b rfl) (ru_move rfl rfl) ?_
              refine SQ.rug rfl rfl rfl rfl (lt_b rfl) (ru_move rfl rfl) ?_
              refine SQ.rug rfl rfl rfl rfl (lt_b rfl) (ru_move rfl rfl) ?_
              refine SQ.rug rfl rfl rfl rfl (lt_b rfl) (ru_len Try.underlying22 rfl rfl) ?_
              refine SQ.rug rfl rfl rfl rfl (lt_b rfl) (ru_add (r := (c + (o31.length : Int))) rfl rfl rfl ((by rw [IntKind.wrap_i64]; omega))) ?_
              refine SQ.rug rfl rfl rfl rfl (lt_b rfl) (ru_sliceV (size := 1) (l0 := (c).toNat) (h0 := (c + (o31.length : Int)).toNat) (m0 := tc) (v := Value.slice (if tc = (c).toNat then tq else tq.map (·.add ((c).toNat * 1))) ((c + (o31.length : Int)).toNat - (c).toNat) (tc - (c).toNat)) rfl si22 rfl rfl rfl (show some (iw (c + (o31.length : Int))) = some (iw (((c + (o31.length : Int)).toNat : Nat) : Int)) by rw [Int.toNat_of_nonneg (by omega)]) (show some (iw (c)) = some (iw (((c).toNat : Nat) : Int)) by rw [Int.toNat_of_nonneg (by omega)]) (by simp) (by omega) (by omega) (by omega)) ?_
              refine SQ.rug rfl rfl rfl rfl (lt_b rfl) (ru_str (f := (text.drop (c).toNat).take ((c + (o31.length : Int)).toNat - (c).toNat)) Try.underlying22 Try.underlying5 Try.underlying9 rfl rfl (fun w hI => BytesAt.slice (c).toNat (c + (o31.length : Int)).toNat tc (htx.only hI.2 (fun b _ _ _ _ _ h => hGf b h)) (by omega) (by omega) (by omega) (Nat.le_refl _))) ?_
              refine SQ.rug rfl rfl rfl rfl (lt_b rfl) (ru_strne (f := o31) (h := (text.drop (c).toNat).take ((c + (o31.length : Int)).toNat - (c).toNat)) (b := (!decide (o31 = (text.drop (c).toNat).take ((c + (o31.length : Int)).toNat - (c).toNat)))) Try.underlying9 rfl rfl rfl rfl) ?_
              refine SQ.ru rfl rfl (lt_b rfl) (ru_pick (u := bo true) (v := bo (!decide (o31 = (text.drop (c).toNat).take ((c + (o31.length : Int)).toNat - (c).toNat)))) rfl rfl rfl rfl) ?_
              refine SQ.nilE ?_
              refine SC.of_SE ?_
              refine SC.norm [(0, Value.slice tq text.length tc), (1, sl ob oo l.length oc), (4, bo false), (6, pt p 0), (8, pt d 0), (9, iw c), (10, iw (i : Int)), (17, Value.slice q32 o31.length c33), (164, bo (!decide (o31 = (text.drop (c).toNat).take ((c + (o31.length : Int)).toNat - (c).toNat))))] [rBlk d [pt p 0, Value.slice qa23 S28.l.length ca24, Value.slice qb25 S28.late.length cb26, iw S28.nxt, iw S28.hv, iw S28.last, bo S28.gone] 52, rPool p ab S28.L, rRowN (.slice qa23 S28.l.length ca24) (pRows S28.l) 61 5, rRowN (.slice qb25 S28.late.length cb26) (pRows S28.late) 61 5, rMine (.slice q32 o31.length c33) o31 5] ⟨rfl, rfl, rfl, rfl, rfl, rfl, rfl, rfl, rfl, trivial⟩ rfl ?_
              refine SC.no (show some (Value.bool (!decide (o31 = (text.drop (c).toNat).take ((c + (o31.length : Int)).toNat - (c).toNat)))) = some (Value.bool false) from congrArg (fun x => some (Value.bool x)) (by rw [← htoo31]; simp)) ?_
              refine SC.skip ?_
              refine SC.of_SE ?_
              refine SC.norm [(0, Value.slice tq text.length tc), (1, sl ob oo l.length oc), (4, bo false), (6, pt p 0), (8, pt d 0), (9, iw c), (10, iw (i : Int)), (17, Value.slice q32 o31.length c33)] [rBlk d [pt p 0, Value.slice qa23 S28.l.length ca24, Value.slice qb25 S28.late.length cb26, iw S28.nxt, iw S28.hv, iw S28.last, bo S28.gone] 52, rPool p ab S28.L, rRowN (.slice qa23 S28.l.length ca24) (pRows S28.l) 61 5, rRowN (.slice qb25 S28.late.length cb26) (pRows S28.late) 61 5, rMine (.slice q32 o31.length c33) o31 5] ⟨rfl, rfl, rfl, rfl, rfl, rfl, rfl, rfl, trivial⟩ rfl ?_
              refine SC.region ?_
              refine SL.ru rfl rfl (lt_b rfl) (ru_move rfl rfl) ?_
              refine SL.ru rfl rfl (lt_b rfl) (ru_move rfl rfl) ?_
              refine SL.ru rfl rfl (lt_b rfl) (ru_len Try.underlying22 rfl rfl) ?_
              refine SL.ru rfl rfl (lt_b rfl) (ru_add (r := (c + (o31.length : Int))) rfl rfl rfl ((by rw [IntKind.wrap_i64]; omega))) ?_
              refine SL.ru rfl rfl (lt_b rfl) (ru_assign rfl rfl) ?_
              refine SL.nil ?_
              refine SE.blkn ?_
              refine SC.of_SE ?_
              refine SC.norm [(0, Value.slice tq text.length tc), (1, sl ob oo l.length oc), (4, bo false), (6, pt p 0), (8, pt d 0), (9, iw (c + (o31.length : Int))), (10, iw (i : Int))] [rBlk d [pt p 0, Value.slice qa23 S28.l.length ca24, Value.slice qb25 S28.late.length cb26, iw S28.nxt, iw S28.hv, iw S28.last, bo S28.gone] 52, rPool p ab S28.L, rRowN (.slice qa23 S28.l.length ca24) (pRows S28.l) 61 5, rRowN (.slice qb25 S28.late.length cb26) (pRows S28.late) 61 5, rMine (.slice q32 o31.length c33) o31 5] ⟨rfl, rfl, rfl, rfl, rfl, rfl, rfl, trivial⟩ rfl ?_
              refine SC.region ?_
              refine SL.ru rfl rfl (lt_b rfl) (ru_move rfl rfl) ?_
              refine SL.ru rfl rfl (lt_b rfl) (ru_add (r := ((i : Int) + 1)) rfl rfl rfl ((by rw [IntKind.wrap_i64]; omega))) ?_
              refine SL.ru rfl rfl (lt_b rfl) (ru_assign rfl rfl) ?_
              refine SL.nil ?_
              refine SE.keep 4 ?_
              have hnz := hR29.ri.qv.nx
              refine SE.again N (i + 1, (c + (o31.length : Int)), S28, qa23, ca24, qb25, cb26) (by omega) ⟨by simp only; omega, hR29, fun h => by simp only at h ⊢; omega, fun h => by simp only at h; omega, hG30⟩ ⟨rfl, rfl, rfl, rfl, rfl, rfl, (congrArg (fun x => some (iw x)) (show (i : Int) + 1 = ((i + 1 : Nat) : Int) by omega)), trivial⟩ rfl
            · skip
              refine SC.skip ?_
              refine SE.blkn ?_
              refine SC.of_SE ?_
              refine SC.norm [(0, Value.slice tq text.length tc), (1, sl ob oo l.length oc), (4, bo false), (6, pt p 0), (8, pt d 0), (9, iw c), (10, iw (i : Int))] [rBlk d [pt p 0, Value.slice qa23 S19.l.length ca24, Value.slice qb25 S19.late.length cb26, iw S19.nxt, iw S19.hv, iw S19.last, bo S19.gone] 52, rPool p ab S19.L, rRowN (.slice qa23 S19.l.length ca24) (pRows S19.l) 61 5, rRowN (.slice qb25 S19.late.length cb26) (pRows S19.late) 61 5] ⟨rfl, rfl, rfl, rfl, rfl, rfl, rfl, trivial⟩ rfl ?_
              refine SC.region ?_
              refine SL.ru rfl rfl (lt_b rfl) (ru_move rfl rfl) ?_
              refine SL.ru rfl rfl (lt_b rfl) (ru_add (r := ((i : Int) + 1)) rfl rfl rfl ((by rw [IntKind.wrap_i64]; omega))) ?_
              refine SL.ru rfl rfl (lt_b rfl) (ru_assign rfl rfl) ?_
              refine SL.nil ?_
              refine SE.keep 4 ?_
              have hnz := hR20.ri.qv.nx
              refine SE.again N (i + 1, c, S19, qa23, ca24, qb25, cb26) (by omega) ⟨by simp only; omega, hR20, fun h => by simp only at h ⊢; omega, fun h => by simp only at h; omega, hG21⟩ ⟨rfl, rfl, rfl, rfl, rfl, rfl, (congrArg (fun x => some (iw x)) (show (i : Int) + 1 = ((i + 1 : Nat) : Int) by omega)), trivial⟩ rfl
          · skip
            have hto9 := of_decide_eq_false h10
            refine SC.skip ?_
            refine SC.of_SE ?_
            refine SC.norm [(0, Value.slice tq text.length tc), (1, sl ob oo l.length oc), (4, bo false), (6, pt p 0), (8, pt d 0), (9, iw c), (10, iw (i : Int)), (11, iw a), (13, iw (a + z9))] [rBlk d [pt p 0, Value.slice q1 S.l.length c1, Value.slice q2 S.late.length c2, iw S.nxt, iw S.hv, iw S.last, bo S.gone] 52, rPool p ab S.L, rRowN (.slice q1 S.l.length c1) (pRows S.l) 61 5, rRowN (.slice q2 S.late.length c2) (pRows S.late) 61 5] ⟨rfl, rfl, rfl, rfl, rfl, rfl, rfl, rfl, rfl, trivial⟩ rfl ?_
            refine SC.seq ?_
            refine SC.region ?_
            refine SL.ru rfl rfl (lt_b rfl) (ru_move rfl rfl) ?_
            refine SL.call (ζ := Int × Rq) (fun z => Value.tuple #[iw z.1, iw 0]) (fun z => QR d p ab q1 c1 q2 c2 z.2 ++ []) (fun z => (RO text c z.2 [z.1]) ∧ z.2.nxt = S.nxt ∧ ∀ b, QG d p ab q1 c1 q2 c2 z.2 b → G b ∨ w.heap.size ≤ b) rfl rfl co8 rfl rfl rfl (lt_b rfl) (fun w1 hI => by obtain ⟨j, e9, k9⟩ := hR.get hR.free; exact (get_any (hI.1.get (i := 1) rfl)).mono fun e w2 ⟨h1, h2⟩ => ⟨(j, { S with L := (getF S.L).2 }), by rw [h1, e9], hI.poolTo (i := 1) rfl (fun b hb => hG b (hb.elim (fun e => .inr (.inl e)) (fun e => .inr (.inr (.inl e))))) h2, k9, rfl, hG⟩) ?_
            rintro ⟨j34, S35⟩ ⟨hR36, hnS35, hG37⟩
            dsimp only at hR36 hG37 hnS35
            refine SL.ru rfl rfl (lt_b rfl) (ru_move rfl rfl) ?_
            refine SL.ru rfl rfl (lt_b rfl) (ru_extract rfl rfl rfl) ?_
            refine SL.ru rfl rfl (lt_b rfl) (ru_extract rfl rfl rfl) ?_
            refine SL.ru rfl rfl (lt_b rfl) (ru_assign rfl rfl) ?_
            refine SL.ru rfl rfl (lt_b rfl) (ru_assign rfl rfl) ?_
            refine SL.nil ?_
            refine SC.of_SE ?_
            refine SC.norm [(0, Value.slice tq text.length tc), (1, sl ob oo l.length oc), (4, bo false), (6, pt p 0), (8, pt d 0), (9, iw c), (10, iw (i : Int)), (11, iw a), (13, iw (a + z9)), (14, iw j34), (15, iw 0)] [rBlk d [pt p 0, Value.slice q1 S35.l.length c1, Value.slice q2 S35.late.length c2, iw S35.nxt, iw S35.hv, iw S35.last, bo S35.gone] 52, rPool p ab S35.L, rRowN (.slice q1 S35.l.length c1) (pRows S35.l) 61 5, rRowN (.slice q2 S35.late.length c2) (pRows S35.late) 61 5] ⟨rfl, rfl, rfl, rfl, rfl, rfl, rfl, rfl, rfl, rfl, rfl, trivial⟩ rfl ?_
            refine SC.seq ?_
            refine SC.region ?_
            refine SL.ru rfl rfl (lt_b rfl) (ru_move rfl rfl) ?_
            refine SL.ru rfl rfl (lt_b rfl) (ru_move rfl rfl) ?_
            refine SL.ru rfl rfl (lt_b rfl) (ru_move rfl rfl) ?_
            refine SL.ru rfl rfl (lt_b rfl) (ru_move rfl rfl) ?_
            refine SL.ru rfl rfl (lt_b rfl) (ru_move rfl rfl) ?_
            refine SL.ru rfl rfl (lt_b rfl) (ru_sliceV (size := 1) (l0 := (a).toNat) (h0 := (a + z9).toNat) (m0 := tc) (v := Value.slice (if tc = (a).toNat then tq else tq.map (·.add ((a).toNat * 1))) ((a + z9).toNat - (a).toNat) (tc - (a).toNat)) rfl si22 rfl rfl rfl (show some (iw (a + z9)) = some (iw (((a + z9).toNat : Nat) : Int)) by rw [Int.toNat_of_nonneg (by omega)]) (show some (iw (a)) = some (iw (((a).toNat : Nat) : Int)) by rw [Int.toNat_of_nonneg (by omega)]) (by simp) (by omega) (by omega) (by omega)) ?_
            refine SL.call (ζ := Rq) (fun z => iw 0) (fun z => QR d p ab q1 c1 q2 c2 z ++ []) (fun z => (RO text c z [j34]) ∧ dt z.L j34 = ((text.drop (a).toNat).take ((a + z9).toNat - (a).toNat)) ∧ z.nxt = S35.nxt ∧ ∀ b, QG d p ab q1 c1 q2 c2 z b → G b ∨ w.heap.size ≤ b) rfl rfl co9 rfl rfl rfl (lt_b rfl) (fun w1 hI => (set_any (hI.1.get (i := 1) rfl) j34 (BytesAt.slice (a).toNat (a + z9).toNat tc (htx.only hI.2 (fun b _ _ _ _ _ h => hGf b h)) (by omega) (by omega) (by omega) (Nat.le_refl _)) (cut_in ht (fun b o9 n9 c9 h1 h2 e => by have hlt := hts b o9 n9 c9 h1 h2; have := (hG37 b (.inr (.inr (.inl e)))).resolve_left (hGf b); omega) (by omega))).mono fun e w2 ⟨h1, h2⟩ => ⟨{ S35 with L := (ownF S35.L j34 (setF ((text.drop (a).toNat).take ((a + z9).toNat - (a).toNat)))).2 }, by rw [h1, (hR36.set (show ((text.drop (a).toNat).take ((a + z9).toNat - (a).toNat)).length ≤ 288 by rw [List.length_take, List.length_drop]; omega)).1], hI.poolTo (i := 1) rfl (fun b hb => hG37 b (hb.elim (fun e => .inr (.inl e)) (fun e => .inr (.inr (.inl e))))) h2, (hR36.set (show ((text.drop (a).toNat).take ((a + z9).toNat - (a).toNat)).length ≤ 288 by rw [List.length_take, List.length_drop]; omega)).2.1, (hR36.set (show ((text.drop (a).toNat).take ((a + z9).toNat - (a).toNat)).length ≤ 288 by rw [List.length_take, List.length_drop]; omega)).2.2, rfl, hG37⟩) ?_
            rintro S38 ⟨hR39, hd41, hnS38, hG40⟩
            refine SL.ru rfl rfl (lt_b rfl) (ru_assign rfl rfl) ?_
            refine SL.nil ?_
            refine SC.of_SE ?_
            refine SC.norm [(0, Value.slice tq text.length tc), (1, sl ob oo l.length oc), (4, bo false), (6, pt p 0), (8, pt d 0), (9, iw c), (10, iw (i : Int)), (11, iw a), (13, iw (a + z9)), (14, iw j34), (15, iw 0), (16, iw 0)] [rBlk d [pt p 0, Value.slice q1 S38.l.length c1, Value.slice q2 S38.late.length c2, iw S38.nxt, iw S38.hv, iw S38.last, bo S38.gone] 52, rPool p ab S38.L, rRowN (.slice q1 S38.l.length c1) (pRows S38.l) 61 5, rRowN (.slice q2 S38.late.length c2) (pRows S38.late) 61 5] ⟨rfl, rfl, rfl, rfl, rfl, rfl, rfl, rfl, rfl, rfl, rfl, rfl, trivial⟩ rfl ?_
            refine SC.seq ?_
            refine SC.seq ?_
            refine SC.region ?_
            refine SL.ru rfl rfl (lt_b rfl) (ru_move rfl rfl) ?_
            refine SL.ru rfl rfl (lt_b rfl) (ru_ne (b := false) rfl rfl rfl rfl) ?_
            refine SL.ru rfl rfl (lt_b rfl) (ru_move rfl rfl) ?_
            refine SL.rug rfl rfl rfl rfl (lt_b rfl) (ru_move rfl rfl) ?_
            refine SL.rug rfl rfl rfl rfl (lt_b rfl) (ru_ne (b := false) rfl rfl rfl rfl) ?_
            refine SL.ru rfl rfl (lt_b rfl) (ru_pick (u := bo true) (v := bo false) rfl rfl rfl rfl) ?_
            refine SL.nil ?_
            refine SC.of_SE ?_
            refine SC.norm [(0, Value.slice tq text.length tc), (1, sl ob oo l.length oc), (4, bo false), (6, pt p 0), (8, pt d 0), (9, iw c), (10, iw (i : Int)), (11, iw a), (13, iw (a + z9)), (14, iw j34), (113, bo false)] [rBlk d [pt p 0, Value.slice q1 S38.l.length c1, Value.slice q2 S38.late.length c2, iw S38.nxt, iw S38.hv, iw S38.last, bo S38.gone] 52, rPool p ab S38.L, rRowN (.slice q1 S38.l.length c1) (pRows S38.l) 61 5, rRowN (.slice q2 S38.late.length c2) (pRows S38.late) 61 5] ⟨rfl, rfl, rfl, rfl, rfl, rfl, rfl, rfl, rfl, rfl, rfl, trivial⟩ rfl ?_
            refine SC.no rfl ?_
            refine SC.skip ?_
            refine SC.of_SE ?_
            refine SC.norm [(0, Value.slice tq text.length tc), (1, sl ob oo l.length oc), (4, bo false), (6, pt p 0), (8, pt d 0), (9, iw c), (10, iw (i : Int)), (11, iw a), (13, iw (a + z9)), (14, iw j34)] [rBlk d [pt p 0, Value.slice q1 S38.l.length c1, Value.slice q2 S38.late.length c2, iw S38.nxt, iw S38.hv, iw S38.last, bo S38.gone] 52, rPool p ab S38.L, rRowN (.slice q1 S38.l.length c1) (pRows S38.l) 61 5, rRowN (.slice q2 S38.late.length c2) (pRows S38.late) 61 5] ⟨rfl, rfl, rfl, rfl, rfl, rfl, rfl, rfl, rfl, rfl, trivial⟩ rfl ?_
            refine SC.seq ?_
            refine SC.region ?_
            refine SL.ru rfl rfl (lt_b rfl) (ru_move rfl rfl) ?_
            refine SL.ru rfl rfl (lt_b rfl) (ru_move rfl rfl) ?_
            refine SL.ru rfl rfl (lt_b rfl) (ru_move rfl rfl) ?_
            refine SL.ru rfl rfl (lt_b rfl) (ru_move rfl rfl) ?_
            refine SL.ru rfl rfl (lt_b rfl) (ru_move rfl rfl) ?_
            refine SL.ru rfl rfl (lt_b rfl) (ru_sub (r := ((a + z9) - a)) rfl rfl rfl ((by rw [IntKind.wrap_i64]; omega))) ?_
            refine SL.ru rfl rfl (lt_b rfl) (ru_move rfl rfl) ?_
            refine SL.ru rfl rfl (lt_b rfl) (ru_move rfl rfl) ?_
            refine SL.ru rfl rfl (lt_b rfl) (ru_len Try.underlying22 rfl rfl) ?_
            refine SL.ru rfl rfl (lt_b rfl) (ru_eq (b := (((a + z9) : Int) == (text.length : Int))) rfl rfl rfl rfl) ?_
            refine SL.call (ζ := Rq × Option Addr × Nat × Option Addr × Nat) (fun z => bo ((qPutF S38 (⟨a, j34, 0, (a + z9) - a, (((a + z9) : Int) == (text.length : Int))⟩ : Pc)).1)) (fun z => QR d p ab z.2.1 z.2.2.1 z.2.2.2.1 z.2.2.2.2 z.1 ++ []) (fun z => (RO text c z.1 []) ∧ (a ≤ S38.nxt → a + z9 ≤ z.1.nxt ∧ (a + z9 = (text.length : Int) → endedF z.1 = true)) ∧ ∀ b, QG d p ab z.2.1 z.2.2.1 z.2.2.2.1 z.2.2.2.2 z.1 b → G b ∨ w.heap.size ≤ b) rfl rfl co10 rfl rfl rfl (lt_b rfl) (fun w5 hI => (put_ri (x := (⟨a, j34, 0, (a + z9) - a, (((a + z9) : Int) == (text.length : Int))⟩ : Pc)) hR39.ri (Inv.four hI)).mono fun e w2 ⟨h1, k⟩ => by obtain ⟨a1, a2, a3, a4, k1, k2⟩ := Inv.qto (l := []) hI k hG40; have k9 := RO.put (a := a) (b := a + z9) (fin := (((a + z9) : Int) == (text.length : Int))) hR39 hlen1 (by omega) (by omega) (by omega) hd41 rfl; exact ⟨(_, a1, a2, a3, a4), h1, k1, k9.1, k9.2, k2⟩) ?_
            rintro ⟨S42, qa46, ca47, qb48, cb49⟩ ⟨hR43, hP45, hG44⟩
            dsimp only at hR43 hP45 hG44
            refine SL.nil ?_
            refine SC.of_SE ?_
            refine SC.norm [(0, Value.slice tq text.length tc), (1, sl ob oo l.length oc), (4, bo false), (6, pt p 0), (8, pt d 0), (9, iw c), (10, iw (i : Int))] [rBlk d [pt p 0, Value.slice qa46 S42.l.length ca47, Value.slice qb48 S42.late.length cb49, iw S42.nxt, iw S42.hv, iw S42.last, bo S42.gone] 52, rPool p ab S42.L, rRowN (.slice qa46 S42.l.length ca47) (pRows S42.l) 61 5, rRowN (.slice qb48 S42.late.length cb49) (pRows S42.late) 61 5] ⟨rfl, rfl, rfl, rfl, rfl, rfl, rfl, trivial⟩ rfl ?_
            refine SC.seq ?_
            refine SC.region ?_
            refine SL.ru rfl rfl (lt_b rfl) (ru_move rfl rfl) ?_
            refine SL.ru rfl rfl (lt_b rfl) (ru_move rfl rfl) ?_
            refine SL.ru rfl rfl (lt_b rfl) (ru_len Try.underlying23 rfl rfl) ?_
            refine SL.ru rfl rfl (lt_b rfl) (ru_lt (b := (decide (((i : Int) : Int) < (l.length : Int)))) rfl rfl rfl rfl) ?_
            refine SL.ru rfl rfl (lt_b rfl) (ru_move rfl rfl) ?_
            refine SL.norm [(0, Value.slice tq text.length tc), (1, sl ob oo l.length oc), (4, bo false), (6, pt p 0), (8, pt d 0), (9, iw c), (10, iw (i : Int)), (125, iw (i : Int)), (126, sl ob oo l.length oc), (127, iw (l.length : Int)), (128, bo true), (129, bo true)] [rBlk d [pt p 0, Value.slice qa46 S42.l.length ca47, Value.slice qb48 S42.late.length cb49, iw S42.nxt, iw S42.hv, iw S42.last, bo S42.gone] 52, rPool p ab S42.L, rRowN (.slice qa46 S42.l.length ca47) (pRows S42.l) 61 5, rRowN (.slice qb48 S42.late.length cb49) (pRows S42.late) 61 5] ⟨rfl, rfl, rfl, rfl, rfl, rfl, rfl, rfl, rfl, rfl, (congrArg (fun bx => some (Value.bool bx)) (show (decide (((i : Int) : Int) < (l.length : Int))) = true from h8)), (congrArg (fun bx => some (Value.bool bx)) (show (decide (((i : Int) : Int) < (l.length : Int))) = true from h8)), trivial⟩ rfl ?_
            refine SL.rug rfl rfl rfl rfl (lt_b rfl) (ru_move rfl rfl) ?_
            refine SL.rug rfl rfl rfl rfl (lt_b rfl) (ru_move rfl rfl) ?_
            refine SL.rug rfl rfl rfl rfl (lt_b rfl) (ru_indexS (o2 := oo + (i : Int).toNat * 7) si23 rfl rfl rfl (by omega) (by omega) rfl) ?_
            refine SL.rug rfl rfl rfl rfl (lt_b rfl) (ru_fieldAddr (o2 := (oo + (i : Int).toNat * 7 + 6)) fd32_6 rfl rfl rfl) ?_
            refine SL.rug rfl rfl rfl rfl (lt_b rfl) (ru_load_old (u := iw n9) hGf ts3 rfl rfl (by rw [Int.toNat_natCast]; exact hc 6 _ rfl)) ?_
            refine SL.rug rfl rfl rfl rfl (lt_b rfl) (ru_gt (b := (decide ((0 : Int) < n9))) rfl rfl rfl rfl) ?_
            refine SL.ru rfl rfl (lt_b rfl) (ru_pick (u := bo (decide ((0 : Int) < n9))) (v := bo false) rfl rfl rfl rfl) ?_
            refine SL.nil ?_
            refine SC.of_SE ?_
            refine SC.norm [(0, Value.slice tq text.length tc), (1, sl ob oo l.length oc), (4, bo false), (6, pt p 0), (8, pt d 0), (9, iw c), (10, iw (i : Int)), (136, bo (decide ((0 : Int) < n9)))] [rBlk d [pt p 0, Value.slice qa46 S42.l.length ca47, Value.slice qb48 S42.late.length cb49, iw S42.nxt, iw S42.hv, iw S42.last, bo S42.gone] 52, rPool p ab S42.L, rRowN (.slice qa46 S42.l.length ca47) (pRows S42.l) 61 5, rRowN (.slice qb48 S42.late.length cb49) (pRows S42.late) 61 5] ⟨rfl, rfl, rfl, rfl, rfl, rfl, rfl, rfl, trivial⟩ rfl ?_
            refine SC.both (decide ((0 : Int) < n9)) rfl (fun h50 => ?_) (fun h50 => ?_)
            · skip
              refine SC.seq ?_
              refine SC.region ?_
              refine SL.ru rfl rfl (lt_b rfl) (ru_move rfl rfl) ?_
              refine SL.ru rfl rfl (lt_b rfl) (ru_move rfl rfl) ?_
              refine SL.ru rfl rfl (lt_b rfl) (ru_move rfl rfl) ?_
              refine SL.ru rfl rfl (lt_b rfl) (ru_indexS (o2 := oo + (i : Int).toNat * 7) si23 rfl rfl rfl (by omega) (by omega) rfl) ?_
              refine SL.ru rfl rfl (lt_b rfl) (ru_fieldAddr (o2 := (oo + (i : Int).toNat * 7 + 6)) fd32_6 rfl rfl rfl) ?_
              refine SL.ru rfl rfl (lt_b rfl) (ru_load_old (u := iw n9) hGf ts3 rfl rfl (by rw [Int.toNat_natCast]; exact hc 6 _ rfl)) ?_
              refine SL.ru rfl rfl (lt_b rfl) (ru_rem (r := (Int.tmod n9 400)) rfl rfl rfl (by decide) rfl) ?_
              have hc9 : c ≤ 900000000000000000 := by have := hR43.tx.nx; have := hR43.ri.at'; have := hR43.ri.facts; omega
              refine SL.call (ζ := Rq × List UInt8 × Option Addr × Nat) (fun z => Value.slice z.2.2.1 z.2.1.length z.2.2.2) (fun z => QR d p ab qa46 ca47 qb48 cb49 z.1 ++ rMine (.slice z.2.2.1 z.2.1.length z.2.2.2) z.2.1 5 :: []) (fun z => (RO text (c + (z.2.1.length : Int)) z.1 []) ∧ z.2.1 = (text.drop c.toNat).take z.2.1.length ∧ c + (z.2.1.length : Int) ≤ (text.length : Int) ∧ z.1.nxt = S42.nxt ∧ ∀ b, QG d p ab qa46 ca47 qb48 cb49 z.1 b → G b ∨ w.heap.size ≤ b) rfl rfl co11 rfl rfl rfl (lt_b rfl) (fun w5 hI => (read_ri hR43.ri hc9 (show IntKind.i64.wrap (Int.tmod n9 400) = Int.tmod n9 400 by have := rem_in n9 (n := 400) (by decide); rw [IntKind.wrap_i64]; omega) (Inv.four hI)).mono fun e w2 ⟨q, c9, h1, h2, h3, h4⟩ => by obtain ⟨k1, k2⟩ := Inv.rdto (l := []) hI h2 h3 h4 hG44 rfl; exact ⟨(readS (Int.tmod n9 400) S42, readO (Int.tmod n9 400) S42, q, c9), h1, k1, (hR43.read hlen1 (show IntKind.i64.wrap (Int.tmod n9 400) = Int.tmod n9 400 by have := rem_in n9 (n := 400) (by decide); rw [IntKind.wrap_i64]; omega)).1, (hR43.read hlen1 (show IntKind.i64.wrap (Int.tmod n9 400) = Int.tmod n9 400 by have := rem_in n9 (n := 400) (by decide); rw [IntKind.wrap_i64]; omega)).2.1, (hR43.read hlen1 (show IntKind.i64.wrap (Int.tmod n9 400) = Int.tmod n9 400 by have := rem_in n9 (n := 400) (by decide); rw [IntKind.wrap_i64]; omega)).2.2.1, (hR43.read hlen1 (show IntKind.i64.wrap (Int.tmod n9 400) = Int.tmod n9 400 by have := rem_in n9 (n := 400) (by decide); rw [IntKind.wrap_i64]; omega)).2.2.2.1, k2⟩) ?_
              rintro ⟨S51, o54, q55, c56⟩ ⟨hR52, htoo54, hclo54, hnS51, hG53⟩
              dsimp only at hR52 htoo54 hclo54 hnS51 hG53
              have htoo54 : o54 = (text.drop c.toNat).take ((c + (o54.length : Int)).toNat - c.toNat) := by rw [show (c + (o54.length : Int)).toNat - c.toNat = o54.length by omega]; exact htoo54
              refine SL.ru rfl rfl (lt_b rfl) (ru_assign rfl rfl) ?_
              refine SL.nil ?_
              refine SC.of_SE ?_
              refine SC.norm [(0, Value.slice tq text.length tc), (1, sl ob oo l.length oc), (4, bo false), (6, pt p 0), (8, pt d 0), (9, iw c), (10, iw (i : Int)), (17, Value.slice q55 o54.length c56)] [rBlk d [pt p 0, Value.slice qa46 S51.l.length ca47, Value.slice qb48 S51.late.length cb49, iw S51.nxt, iw S51.hv, iw S51.last, bo S51.gone] 52, rPool p ab S51.L, rRowN (.slice qa46 S51.l.length ca47) (pRows S51.l) 61 5, rRowN (.slice qb48 S51.late.length cb49) (pRows S51.late) 61 5, rMine (.slice q55 o54.length c56) o54 5] ⟨rfl, rfl, rfl, rfl, rfl, rfl, rfl, rfl, trivial⟩ rfl ?_
              refine SC.seq ?_
              refine SC.seq ?_
              refine SC.region_quiet (by kernel_rfl) (by kernel_rfl) ?_
              refine SQ.ru rfl rfl (lt_b rfl) (ru_move rfl rfl) ?_
              refine SQ.ru rfl rfl (lt_b rfl) (ru_len Try.underlying22 rfl rfl) ?_
              refine SQ.ru rfl rfl (lt_b rfl) (ru_move rfl rfl) ?_
              refine SQ.ru rfl rfl (lt_b rfl) (ru_len Try.underlying22 rfl rfl) ?_
              refine SQ.ru rfl rfl (lt_b rfl) (ru_move rfl rfl) ?_
              refine SQ.ru rfl rfl (lt_b rfl) (ru_sub (r := ((text.length : Int) - c)) rfl rfl rfl ((by rw [IntKind.wrap_i64]; omega))) ?_
              refine SQ.ru rfl rfl (lt_b rfl) (ru_gt (b := (decide ((((text.length : Int) - c) : Int) < (o54.length : Int)))) rfl rfl rfl rfl) ?_
              refine SQ.ru rfl rfl (lt_b rfl) (ru_move rfl rfl) ?_
              refine SQ.norm [(0, Value.slice tq text.length tc), (1, sl ob oo l.length oc), (4, bo false), (6, pt p 0), (8, pt d 0), (9, iw c), (10, iw (i : Int)), (17, Value.slice q55 o54.length c56), (145, Value.slice q55 o54.length c56), (146, iw (o54.length : Int)), (147, Value.slice tq text.length tc), (148, iw (text.length : Int)), (149, iw c), (150, iw ((text.length : Int) - c)), (151, bo false), (152, bo false)] ⟨rfl, rfl, rfl, rfl, rfl, rfl, rfl, rfl, rfl, rfl, rfl, rfl, rfl, rfl, (congrArg (fun bx => some (Value.bool bx)) (show (decide ((((text.length : Int) - c) : Int) < (o54.length : Int))) = false from decide_eq_false (by omega))), (congrArg (fun bx => some (Value.bool bx)) (show (decide ((((text.length : Int) - c) : Int) < (o54.length : Int))) = false from decide_eq_false (by omega))), trivial⟩ ?_
              refine SQ.rug rfl rfl rfl rfl (lt_b rfl) (ru_move rfl rfl) ?_
              refine SQ.rug rfl rfl rfl rfl (lt_b rfl) (ru_str (f := o54) Try.underlying22 Try.underlying5 Try.underlying9 rfl rfl (fun w hI => mine_bytes hI (j := 4) rfl (by omega))) ?_
              refine SQ.rug rfl rfl rfl rfl (lt_b rfl) (ru_move rfl rfl) ?_
              refine SQ.rug rfl rfl rfl rfl (lt_b rfl) (ru_move rfl rfl) ?_
              refine SQ.rug rfl rfl rfl rfl (lt_b rfl) (ru_move rfl rfl) ?_
              refine SQ.rug rfl rfl rfl rfl (lt_b rfl) (ru_move rfl rfl) ?_
              refine SQ.rug rfl rfl rfl rfl (lt_b rfl) (ru_len Try.underlying22 rfl rfl) ?_
              refine SQ.rug rfl rfl rfl rfl (lt_b rfl) (ru_add (r := (c + (o54.length : Int))) rfl rfl rfl ((by rw [IntKind.wrap_i64]; omega))) ?_
              refine SQ.rug rfl rfl rfl rfl (lt_b rfl) (ru_sliceV (size := 1) (l0 := (c).toNat) (h0 := (c + (o54.length : Int)).toNat) (m0 := tc) (v := Value.slice (if tc = (c).toNat then tq else tq.map (·.add ((c).toNat * 1))) ((c + (o54.length : Int)).toNat - (c).toNat) (tc - (c).toNat)) rfl si22 rfl rfl rfl (show some (iw (c + (o54.length : Int))) = some (iw (((c + (o54.length : Int)).toNat : Nat) : Int)) by rw [Int.toNat_of_nonneg (by omega)]) (show some (iw (c)) = some (iw (((c).toNat : Nat) : Int)) by rw [Int.toNat_of_nonneg (by omega)]) (by simp) (by omega) (by omega) (by omega)) ?_
              refine SQ.rug rfl rfl rfl rfl (lt_b rfl) (ru_str (f := (text.drop (c).toNat).take ((c + (o54.length : Int)).toNat - (c).toNat)) Try.underlying22 Try.underlying5 Try.underlying9 rfl rfl (fun w hI => BytesAt.slice (c).toNat (c + (o54.length : Int)).toNat tc (htx.only hI.2 (fun b _ _ _ _ _ h => hGf b h)) (by omega) (by omega) (by omega) (Nat.le_refl _))) ?_
              refine SQ.rug rfl rfl rfl rfl (lt_b rfl) (ru_strne (f := o54) (h := (text.drop (c).toNat).take ((c + (o54.length : Int)).toNat - (c).toNat)) (b := (!decide (o54 = (text.drop (c).toNat).take ((c + (o54.length : Int)).toNat - (c).toNat)))) Try.underlying9 rfl rfl rfl rfl) ?_
              refine SQ.ru rfl rfl (lt_b rfl) (ru_pick (u := bo true) (v := bo (!decide (o54 = (text.drop (c).toNat).take ((c + (o54.length : Int)).toNat - (c).toNat)))) rfl rfl rfl rfl) ?_
              refine SQ.nilE ?_
              refine SC.of_SE ?_
              refine SC.norm [(0, Value.slice tq text.length tc), (1, sl ob oo l.length oc), (4, bo false), (6, pt p 0), (8, pt d 0), (9, iw c), (10, iw (i : Int)), (17, Value.slice q55 o54.length c56), (164, bo (!decide (o54 = (text.drop (c).toNat).take ((c + (o54.length : Int)).toNat - (c).toNat))))] [rBlk d [pt p 0, Value.slice qa46 S51.l.length ca47, Value.slice qb48 S51.late.length cb49, iw S51.nxt, iw S51.hv, iw S51.last, bo S51.gone] 52, rPool p ab S51.L, rRowN (.slice qa46 S51.l.length ca47) (pRows S51.l) 61 5, rRowN (.slice qb48 S51.late.length cb49) (pRows S51.late) 61 5, rMine (.slice q55 o54.length c56) o54 5] ⟨rfl, rfl, rfl, rfl, rfl, rfl, rfl, rfl, rfl, trivial⟩ rfl ?_
              refine SC.no (show some (Value.bool (!decide (o54 = (text.drop (c).toNat).take ((c + (o54.length : Int)).toNat - (c).toNat)))) = some (Value.bool false) from congrArg (fun x => some (Value.bool x)) (by rw [← htoo54]; simp)) ?_
              refine SC.skip ?_
              refine SC.of_SE ?_
              refine SC.norm [(0, Value.slice tq text.length tc), (1, sl ob oo l.length oc), (4, bo false), (6, pt p 0), (8, pt d 0), (9, iw c), (10, iw (i : Int)), (17, Value.slice q55 o54.length c56)] [rBlk d [pt p 0, Value.slice qa46 S51.l.length ca47, Value.slice qb48 S51.late.length cb49, iw S51.nxt, iw S51.hv, iw S51.last, bo S51.gone] 52, rPool p ab S51.L, rRowN (.slice qa46 S51.l.length ca47) (pRows S51.l) 61 5, rRowN (.slice qb48 S51.late.length cb49) (pRows S51.late) 61 5, rMine (.slice q55 o54.length c56) o54 5] ⟨rfl, rfl, rfl, rfl, rfl, rfl, rfl, rfl, trivial⟩ rfl ?_
              refine SC.region ?_
              refine SL.ru rfl rfl (lt_b rfl) (ru_move rfl rfl) ?_
              refine SL.ru rfl rfl (lt_b rfl) (ru_move rfl rfl) ?_
              refine SL.ru rfl rfl (lt_b rfl) (ru_len Try.underlying22 rfl rfl) ?_
              refine SL.ru rfl rfl (lt_b rfl) (ru_add (r := (c + (o54.length : Int))) rfl rfl rfl ((by rw [IntKind.wrap_i64]; omega))) ?_
              refine SL.ru rfl rfl (lt_b rfl) (ru_assign rfl rfl) ?_
              refine SL.nil ?_
              refine SE.blkn ?_
              refine SC.of_SE ?_
              refine SC.norm [(0, Value.slice tq text.length tc), (1, sl ob oo l.length oc), (4, bo false), (6, pt p 0), (8, pt d 0), (9, iw (c + (o54.length : Int))), (10, iw (i : Int))] [rBlk d [pt p 0, Value.slice qa46 S51.l.length ca47, Value.slice qb48 S51.late.length cb49, iw S51.nxt, iw S51.hv, iw S51.last, bo S51.gone] 52, rPool p ab S51.L, rRowN (.slice qa46 S51.l.length ca47) (pRows S51.l) 61 5, rRowN (.slice qb48 S51.late.length cb49) (pRows S51.late) 61 5, rMine (.slice q55 o54.length c56) o54 5] ⟨rfl, rfl, rfl, rfl, rfl, rfl, rfl, trivial⟩ rfl ?_
              refine SC.region ?_
              refine SL.ru rfl rfl (lt_b rfl) (ru_move rfl rfl) ?_
              refine SL.ru rfl rfl (lt_b rfl) (ru_add (r := ((i : Int) + 1)) rfl rfl rfl ((by rw [IntKind.wrap_i64]; omega))) ?_
              refine SL.ru rfl rfl (lt_b rfl) (ru_assign rfl rfl) ?_
              refine SL.nil ?_
              refine SE.keep 4 ?_
              have hnz := hR52.ri.qv.nx
              refine SE.again N (i + 1, (c + (o54.length : Int)), S51, qa46, ca47, qb48, cb49) (by omega) ⟨by simp only; omega, hR52, fun h => by simp only at h ⊢; omega, fun h => by simp only at h; omega, hG53⟩ ⟨rfl, rfl, rfl, rfl, rfl, rfl, (congrArg (fun x => some (iw x)) (show (i : Int) + 1 = ((i + 1 : Nat) : Int) by omega)), trivial⟩ rfl
            · skip
              refine SC.skip ?_
              refine SE.blkn ?_
              refine SC.of_SE ?_
              refine SC.norm [(0, Value.slice tq text.length tc), (1, sl ob oo l.length oc), (4, bo false), (6, pt p 0), (8, pt d 0), (9, iw c), (10, iw (i : Int))] [rBlk d [pt p 0, Value.slice qa46 S42.l.length ca47, Value.slice qb48 S42.late.length cb49, iw S42.nxt, iw S42.hv, iw S42.last, bo S42.gone] 52, rPool p ab S42.L, rRowN (.slice qa46 S42.l.length ca47) (pRows S42.l) 61 5, rRowN (.slice qb48 S42.late.length cb49) (pRows S42.late) 61 5] ⟨rfl, rfl, rfl, rfl, rfl, rfl, rfl, trivial⟩ rfl ?_
              refine SC.region ?_
              refine SL.ru rfl rfl (lt_b rfl) (ru_move rfl rfl) ?_
              refine SL.ru rfl rfl (lt_b rfl) (ru_add (r := ((i : Int) + 1)) rfl rfl rfl ((by rw [IntKind.wrap_i64]; omega))) ?_
              refine SL.ru rfl rfl (lt_b rfl) (ru_assign rfl rfl) ?_
              refine SL.nil ?_
              refine SE.keep 4 ?_
              have hnz := hR43.ri.qv.nx
              refine SE.again N (i + 1, c, S42, qa46, ca47, qb48, cb49) (by omega) ⟨by simp only; omega, hR43, fun h => by simp only at h ⊢; omega, fun h => by simp only at h; omega, hG44⟩ ⟨rfl, rfl, rfl, rfl, rfl, rfl, (congrArg (fun x => some (iw x)) (show (i : Int) + 1 = ((i + 1 : Nat) : Int) by omega)), trivial⟩ rfl
      · skip
        have hil : ¬ i < l.length := by have := of_decide_eq_false h8; omega
        refine SC.skip ?_
        refine SC.of_SE ?_
        refine SC.norm [(0, Value.slice tq text.length tc), (1, Value.slice oa l.length oc), (4, bo false), (6, pt p 0), (8, pt d 0), (9, iw c), (10, iw (i : Int)), (11, iw (((i : Int) - (l.length : Int)) * 100)), (12, iw 100)] [rBlk d [pt p 0, Value.slice q1 S.l.length c1, Value.slice q2 S.late.length c2, iw S.nxt, iw S.hv, iw S.last, bo S.gone] 52, rPool p ab S.L, rRowN (.slice q1 S.l.length c1) (pRows S.l) 61 5, rRowN (.slice q2 S.late.length c2) (pRows S.late) 61 5] ⟨rfl, rfl, rfl, rfl, rfl, rfl, rfl, rfl, rfl, trivial⟩ rfl ?_
        refine SC.seq ?_
        refine SC.region ?_
        refine SL.ru rfl rfl (lt_b rfl) (ru_move rfl rfl) ?_
        refine SL.ru rfl rfl (lt_b rfl) (ru_move rfl rfl) ?_
        refine SL.ru rfl rfl (lt_b rfl) (ru_add (r := ((((i : Int) - (l.length : Int)) * 100) + 100)) rfl rfl rfl ((by rw [IntKind.wrap_i64]; omega))) ?_
        refine SL.ru rfl rfl (lt_b rfl) (ru_assign rfl rfl) ?_
        refine SL.nil ?_
        refine SC.of_SE ?_
        refine SC.norm [(0, Value.slice tq text.length tc), (1, Value.slice oa l.length oc), (4, bo false), (6, pt p 0), (8, pt d 0), (9, iw c), (10, iw (i : Int)), (11, iw (((i : Int) - (l.length : Int)) * 100)), (13, iw ((((i : Int) - (l.length : Int)) * 100) + 100))] [rBlk d [pt p 0, Value.slice q1 S.l.length c1, Value.slice q2 S.late.length c2, iw S.nxt, iw S.hv, iw S.last, bo S.gone] 52, rPool p ab S.L, rRowN (.slice q1 S.l.length c1) (pRows S.l) 61 5, rRowN (.slice q2 S.late.length c2) (pRows S.late) 61 5] ⟨rfl, rfl, rfl, rfl, rfl, rfl, rfl, rfl, rfl, trivial⟩ rfl ?_
        refine SC.seq ?_
        refine SC.seq ?_
        refine SC.region ?_
        refine SL.ru rfl rfl (lt_b rfl) (ru_move rfl rfl) ?_
        refine SL.ru rfl rfl (lt_b rfl) (ru_move rfl rfl) ?_
        refine SL.ru rfl rfl (lt_b rfl) (ru_len Try.underlying22 rfl rfl) ?_
        refine SL.ru rfl rfl (lt_b rfl) (ru_gt (b := (decide (((text.length : Int) : Int) < ((((i : Int) - (l.length : Int)) * 100) + 100)))) rfl rfl rfl rfl) ?_
        refine SL.nil ?_
        refine SC.of_SE ?_
        refine SC.norm [(0, Value.slice tq text.length tc), (1, Value.slice oa l.length oc), (4, bo false), (6, pt p 0), (8, pt d 0), (9, iw c), (10, iw (i : Int)), (11, iw (((i : Int) - (l.length : Int)) * 100)), (13, iw ((((i : Int) - (l.length : Int)) * 100) + 100)), (93, bo (decide (((text.length : Int) : Int) < ((((i : Int) - (l.length : Int)) * 100) + 100))))] [rBlk d [pt p 0, Value.slice q1 S.l.length c1, Value.slice q2 S.late.length c2, iw S.nxt, iw S.hv, iw S.last, bo S.gone] 52, rPool p ab S.L, rRowN (.slice q1 S.l.length c1) (pRows S.l) 61 5, rRowN (.slice q2 S.late.length c2) (pRows S.late) 61 5] ⟨rfl, rfl, rfl, rfl, rfl, rfl, rfl, rfl, rfl, rfl, trivial⟩ rfl ?_
        refine SC.both (decide (((text.length : Int) : Int) < ((((i : Int) - (l.length : Int)) * 100) + 100))) rfl (fun h57 => ?_) (fun h57 => ?_)
        · skip
          have hto9 := of_decide_eq_true h57
          refine SC.region ?_
          refine SL.ru rfl rfl (lt_b rfl) (ru_move rfl rfl) ?_
          refine SL.ru rfl rfl (lt_b rfl) (ru_len Try.underlying22 rfl rfl) ?_
          refine SL.ru rfl rfl (lt_b rfl) (ru_assign rfl rfl) ?_
          refine SL.nil ?_
          refine SC.of_SE ?_
          refine SC.norm [(0, Value.slice tq text.length tc), (1, Value.slice oa l.length oc), (4, bo false), (6, pt p 0), (8, pt d 0), (9, iw c), (10, iw (i : Int)), (11, iw (((i : Int) - (l.length : Int)) * 100)), (13, iw (text.length : Int))] [rBlk d [pt p 0, Value.slice q1 S.l.length c1, Value.slice q2 S.late.length c2, iw S.nxt, iw S.hv, iw S.last, bo S.gone] 52, rPool p ab S.L, rRowN (.slice q1 S.l.length c1) (pRows S.l) 61 5, rRowN (.slice q2 S.late.length c2) (pRows S.late) 61 5] ⟨rfl, rfl, rfl, rfl, rfl, rfl, rfl, rfl, rfl, trivial⟩ rfl ?_
          refine SC.seq ?_
          refine SC.region ?_
          refine SL.ru rfl rfl (lt_b rfl) (ru_move rfl rfl) ?_
          refine SL.call (ζ := Int × Rq) (fun z => Value.tuple #[iw z.1, iw 0]) (fun z => QR d p ab q1 c1 q2 c2 z.2 ++ []) (fun z => (RO text c z.2 [z.1]) ∧ z.2.nxt = S.nxt ∧ ∀ b, QG d p ab q1 c1 q2 c2 z.2 b → G b ∨ w.heap.size ≤ b) rfl rfl co8 rfl rfl rfl (lt_b rfl) (fun w1 hI => by obtain ⟨j, e9, k9⟩ := hR.get hR.free; exact (get_any (hI.1.get (i := 1) rfl)).mono fun e w2 ⟨h1, h2⟩ => ⟨(j, { S with L := (getF S.L).2 }), by rw [h1, e9], hI.poolTo (i := 1) rfl (fun b hb => hG b (hb.elim (fun e => .inr (.inl e)) (fun e => .inr (.inr (.inl e))))) h2, k9, rfl, hG⟩) ?_
          rintro ⟨j58, S59⟩ ⟨hR60, hnS59, hG61⟩
          dsimp only at hR60 hG61 hnS59
          refine SL.ru rfl rfl (lt_b rfl) (ru_move rfl rfl) ?_
          refine SL.ru rfl rfl (lt_b rfl) (ru_extract rfl rfl rfl) ?_
          refine SL.ru rfl rfl (lt_b rfl) (ru_extract rfl rfl rfl) ?_
          refine SL.ru rfl rfl (lt_b rfl) (ru_assign rfl rfl) ?_
          refine SL.ru rfl rfl (lt_b rfl) (ru_assign rfl rfl) ?_
          refine SL.nil ?_
          refine SC.of_SE ?_
          refine SC.norm [(0, Value.slice tq text.length tc), (1, Value.slice oa l.length oc), (4, bo false), (6, pt p 0), (8, pt d 0), (9, iw c), (10, iw (i : Int)), (11, iw (((i : Int) - (l.length : Int)) * 100)), (13, iw (text.length : Int)), (14, iw j58), (15, iw 0)] [rBlk d [pt p 0, Value.slice q1 S59.l.length c1, Value.slice q2 S59.late.length c2, iw S59.nxt, iw S59.hv, iw S59.last, bo S59.gone] 52, rPool p ab S59.L, rRowN (.slice q1 S59.l.length c1) (pRows S59.l) 61 5, rRowN (.slice q2 S59.late.length c2) (pRows S59.late) 61 5] ⟨rfl, rfl, rfl, rfl, rfl, rfl, rfl, rfl, rfl, rfl, rfl, trivial⟩ rfl ?_
          refine SC.seq ?_
          refine SC.region ?_
          refine SL.ru rfl rfl (lt_b rfl) (ru_move rfl rfl) ?_
          refine SL.ru rfl rfl (lt_b rfl) (ru_move rfl rfl) ?_
          refine SL.ru rfl rfl (lt_b rfl) (ru_move rfl rfl) ?_
          refine SL.ru rfl rfl (lt_b rfl) (ru_move rfl rfl) ?_
          refine SL.ru rfl rfl (lt_b rfl) (ru_move rfl rfl) ?_
          refine SL.ru rfl rfl (lt_b rfl) (ru_sliceV (size := 1) (l0 := (((i : Int) - (l.length : Int)) * 100).toNat) (h0 := ((text.length : Int)).toNat) (m0 := tc) (v := Value.slice (if tc = (((i : Int) - (l.length : Int)) * 100).toNat then tq else tq.map (·.add ((((i : Int) - (l.length : Int)) * 100).toNat * 1))) (((text.length : Int)).toNat - (((i : Int) - (l.length : Int)) * 100).toNat) (tc - (((i : Int) - (l.length : Int)) * 100).toNat)) rfl si22 rfl rfl rfl (show some (iw ((text.length : Int))) = some (iw ((((text.length : Int)).toNat : Nat) : Int)) by rw [Int.toNat_of_nonneg (by omega)]) (show some (iw (((i : Int) - (l.length : Int)) * 100)) = some (iw (((((i : Int) - (l.length : Int)) * 100).toNat : Nat) : Int)) by rw [Int.toNat_of_nonneg (by omega)]) (by simp) (by omega) (by omega) (by omega)) ?_
          refine SL.call (ζ := Rq) (fun z => iw 0) (fun z => QR d p ab q1 c1 q2 c2 z ++ []) (fun z => (RO text c z [j58]) ∧ dt z.L j58 = ((text.drop (((i : Int) - (l.length : Int)) * 100).toNat).take (((text.length : Int)).toNat - (((i : Int) - (l.length : Int)) * 100).toNat)) ∧ z.nxt = S59.nxt ∧ ∀ b, QG d p ab q1 c1 q2 c2 z b → G b ∨ w.heap.size ≤ b) rfl rfl co9 rfl rfl rfl (lt_b rfl) (fun w1 hI => (set_any (hI.1.get (i := 1) rfl) j58 (BytesAt.slice (((i : Int) - (l.length : Int)) * 100).toNat ((text.length : Int)).toNat tc (htx.only hI.2 (fun b _ _ _ _ _ h => hGf b h)) (by omega) (by omega) (by omega) (Nat.le_refl _)) (cut_in ht (fun b o9 n9 c9 h1 h2 e => by have hlt := hts b o9 n9 c9 h1 h2; have := (hG61 b (.inr (.inr (.inl e)))).resolve_left (hGf b); omega) (by omega))).mono fun e w2 ⟨h1, h2⟩ => ⟨{ S59 with L := (ownF S59.L j58 (setF ((text.drop (((i : Int) - (l.length : Int)) * 100).toNat).take (((text.length : Int)).toNat - (((i : Int) - (l.length : Int)) * 100).toNat)))).2 }, by rw [h1, (hR60.set (show ((text.drop (((i : Int) - (l.length : Int)) * 100).toNat).take (((text.length : Int)).toNat - (((i : Int) - (l.length : Int)) * 100).toNat)).length ≤ 288 by rw [List.length_take, List.length_drop]; omega)).1], hI.poolTo (i := 1) rfl (fun b hb => hG61 b (hb.elim (fun e => .inr (.inl e)) (fun e => .inr (.inr (.inl e))))) h2, (hR60.set (show ((text.drop (((i : Int) - (l.length : Int)) * 100).toNat).take (((text.length : Int)).toNat - (((i : Int) - (l.length : Int)) * 100).toNat)).length ≤ 288 by rw [List.length_take, List.length_drop]; omega)).2.1, (hR60.set (show ((text.drop (((i : Int) - (l.length : Int)) * 100).toNat).take (((text.length : Int)).toNat - (((i : Int) - (l.length : Int)) * 100).toNat)).length ≤ 288 by rw [List.length_take, List.length_drop]; omega)).2.2, rfl, hG61⟩) ?_
          rintro S62 ⟨hR63, hd65, hnS62, hG64⟩
          refine SL.ru rfl rfl (lt_b rfl) (ru_assign rfl rfl) ?_
          refine SL.nil ?_
          refine SC.of_SE ?_
          refine SC.norm [(0, Value.slice tq text.length tc), (1, Value.slice oa l.length oc), (4, bo false), (6, pt p 0), (8, pt d 0), (9, iw c), (10, iw (i : Int)), (11, iw (((i : Int) - (l.length : Int)) * 100)), (13, iw (text.length : Int)), (14, iw j58), (15, iw 0), (16, iw 0)] [rBlk d [pt p 0, Value.slice q1 S62.l.length c1, Value.slice q2 S62.late.length c2, iw S62.nxt, iw S62.hv, iw S62.last, bo S62.gone] 52, rPool p ab S62.L, rRowN (.slice q1 S62.l.length c1) (pRows S62.l) 61 5, rRowN (.slice q2 S62.late.length c2) (pRows S62.late) 61 5] ⟨rfl, rfl, rfl, rfl, rfl, rfl, rfl, rfl, rfl, rfl, rfl, rfl, trivial⟩ rfl ?_
          refine SC.seq ?_
          refine SC.seq ?_
          refine SC.region ?_
          refine SL.ru rfl rfl (lt_b rfl) (ru_move rfl rfl) ?_
          refine SL.ru rfl rfl (lt_b rfl) (ru_ne (b := false) rfl rfl rfl rfl) ?_
          refine SL.ru rfl rfl (lt_b rfl) (ru_move rfl rfl) ?_
          refine SL.rug rfl rfl rfl rfl (lt_b rfl) (ru_move rfl rfl) ?_
          refine SL.rug rfl rfl rfl rfl (lt_b rfl) (ru_ne (b := false) rfl rfl rfl rfl) ?_
          refine SL.ru rfl rfl (lt_b rfl) (ru_pick (u := bo true) (v := bo false) rfl rfl rfl rfl) ?_
          refine SL.nil ?_
          refine SC.of_SE ?_
          refine SC.norm [(0, Value.slice tq text.length tc), (1, Value.slice oa l.length oc), (4, bo false), (6, pt p 0), (8, pt d 0), (9, iw c), (10, iw (i : Int)), (11, iw (((i : Int) - (l.length : Int)) * 100)), (13, iw (text.length : Int)), (14, iw j58), (113, bo false)] [rBlk d [pt p 0, Value.slice q1 S62.l.length c1, Value.slice q2 S62.late.length c2, iw S62.nxt, iw S62.hv, iw S62.last, bo S62.gone] 52, rPool p ab S62.L, rRowN (.slice q1 S62.l.length c1) (pRows S62.l) 61 5, rRowN (.slice q2 S62.late.length c2) (pRows S62.late) 61 5] ⟨rfl, rfl, rfl, rfl, rfl, rfl, rfl, rfl, rfl, rfl, rfl, trivial⟩ rfl ?_
          refine SC.no rfl ?_
          refine SC.skip ?_
          refine SC.of_SE ?_
          refine SC.norm [(0, Value.slice tq text.length tc), (1, Value.slice oa l.length oc), (4, bo false), (6, pt p 0), (8, pt d 0), (9, iw c), (10, iw (i : Int)), (11, iw (((i : Int) - (l.length : Int)) * 100)), (13, iw (text.length : Int)), (14, iw j58)] [rBlk d [pt p 0, Value.slice q1 S62.l.length c1, Value.slice q2 S62.late.length c2, iw S62.nxt, iw S62.hv, iw S62.last, bo S62.gone] 52, rPool p ab S62.L, rRowN (.slice q1 S62.l.length c1) (pRows S62.l) 61 5, rRowN (.slice q2 S62.late.length c2) (pRows S62.late) 61 5] ⟨rfl, rfl, rfl, rfl, rfl, rfl, rfl, rfl, rfl, rfl, trivial⟩ rfl ?_
          refine SC.seq ?_
          refine SC.region ?_
          refine SL.ru rfl rfl (lt_b rfl) (ru_move rfl rfl) ?_
          refine SL.ru rfl rfl (lt_b rfl) (ru_move rfl rfl) ?_
          refine SL.ru rfl rfl (lt_b rfl) (ru_move rfl rfl) ?_
          refine SL.ru rfl rfl (lt_b rfl) (ru_move rfl rfl) ?_
          refine SL.ru rfl rfl (lt_b rfl) (ru_move rfl rfl) ?_
          refine SL.ru rfl rfl (lt_b rfl) (ru_sub (r := ((text.length : Int) - (((i : Int) - (l.length : Int)) * 100))) rfl rfl rfl ((by rw [IntKind.wrap_i64]; omega))) ?_
          refine SL.ru rfl rfl (lt_b rfl) (ru_move rfl rfl) ?_
          refine SL.ru rfl rfl (lt_b rfl) (ru_move rfl rfl) ?_
          refine SL.ru rfl rfl (lt_b rfl) (ru_len Try.underlying22 rfl rfl) ?_
          refine SL.ru rfl rfl (lt_b rfl) (ru_eq (b := true) rfl rfl rfl (by simp)) ?_
          refine SL.call (ζ := Rq × Option Addr × Nat × Option Addr × Nat) (fun z => bo ((qPutF S62 (⟨((i : Int) - (l.length : Int)) * 100, j58, 0, (text.length : Int) - (((i : Int) - (l.length : Int)) * 100), true⟩ : Pc)).1)) (fun z => QR d p ab z.2.1 z.2.2.1 z.2.2.2.1 z.2.2.2.2 z.1 ++ []) (fun z => (RO text c z.1 []) ∧ (((i : Int) - (l.length : Int)) * 100 ≤ S62.nxt → (text.length : Int) ≤ z.1.nxt ∧ ((text.length : Int) = (text.length : Int) → endedF z.1 = true)) ∧ ∀ b, QG d p ab z.2.1 z.2.2.1 z.2.2.2.1 z.2.2.2.2 z.1 b → G b ∨ w.heap.size ≤ b) rfl rfl co10 rfl rfl rfl (lt_b rfl) (fun w5 hI => (put_ri (x := (⟨((i : Int) - (l.length : Int)) * 100, j58, 0, (text.length : Int) - (((i : Int) - (l.length : Int)) * 100), true⟩ : Pc)) hR63.ri (Inv.four hI)).mono fun e w2 ⟨h1, k⟩ => by obtain ⟨a1, a2, a3, a4, k1, k2⟩ := Inv.qto (l := []) hI k hG64; have k9 := RO.put (a := ((i : Int) - (l.length : Int)) * 100) (b := (text.length : Int)) (fin := true) hR63 hlen1 (by omega) (by omega) (by omega) hd65 (by simp); exact ⟨(_, a1, a2, a3, a4), h1, k1, k9.1, k9.2, k2⟩) ?_
          rintro ⟨S66, qa70, ca71, qb72, cb73⟩ ⟨hR67, hP69, hG68⟩
          dsimp only at hR67 hP69 hG68
          refine SL.nil ?_
          refine SC.of_SE ?_
          refine SC.norm [(0, Value.slice tq text.length tc), (1, Value.slice oa l.length oc), (4, bo false), (6, pt p 0), (8, pt d 0), (9, iw c), (10, iw (i : Int))] [rBlk d [pt p 0, Value.slice qa70 S66.l.length ca71, Value.slice qb72 S66.late.length cb73, iw S66.nxt, iw S66.hv, iw S66.last, bo S66.gone] 52, rPool p ab S66.L, rRowN (.slice qa70 S66.l.length ca71) (pRows S66.l) 61 5, rRowN (.slice qb72 S66.late.length cb73) (pRows S66.late) 61 5] ⟨rfl, rfl, rfl, rfl, rfl, rfl, rfl, trivial⟩ rfl ?_
          refine SC.seq ?_
          refine SC.region ?_
          refine SL.ru rfl rfl (lt_b rfl) (ru_move rfl rfl) ?_
          refine SL.ru rfl rfl (lt_b rfl) (ru_move rfl rfl) ?_
          refine SL.ru rfl rfl (lt_b rfl) (ru_len Try.underlying23 rfl rfl) ?_
          refine SL.ru rfl rfl (lt_b rfl) (ru_lt (b := (decide (((i : Int) : Int) < (l.length : Int)))) rfl rfl rfl rfl) ?_
          refine SL.ru rfl rfl (lt_b rfl) (ru_move rfl rfl) ?_
          refine SL.norm [(0, Value.slice tq text.length tc), (1, Value.slice oa l.length oc), (4, bo false), (6, pt p 0), (8, pt d 0), (9, iw c), (10, iw (i : Int)), (125, iw (i : Int)), (126, Value.slice oa l.length oc), (127, iw (l.length : Int)), (128, bo false), (129, bo false)] [rBlk d [pt p 0, Value.slice qa70 S66.l.length ca71, Value.slice qb72 S66.late.length cb73, iw S66.nxt, iw S66.hv, iw S66.last, bo S66.gone] 52, rPool p ab S66.L, rRowN (.slice qa70 S66.l.length ca71) (pRows S66.l) 61 5, rRowN (.slice qb72 S66.late.length cb73) (pRows S66.late) 61 5] ⟨rfl, rfl, rfl, rfl, rfl, rfl, rfl, rfl, rfl, rfl, (congrArg (fun bx => some (Value.bool bx)) (show (decide (((i : Int) : Int) < (l.length : Int))) = false from h8)), (congrArg (fun bx => some (Value.bool bx)) (show (decide (((i : Int) : Int) < (l.length : Int))) = false from h8)), trivial⟩ rfl ?_
          refine SL.off (b := false) rfl rfl rfl rfl rfl (lt_b rfl) ?_
          refine SL.off (b := false) rfl rfl rfl rfl rfl (lt_b rfl) ?_
          refine SL.off (b := false) rfl rfl rfl rfl rfl (lt_b rfl) ?_
          refine SL.off (b := false) rfl rfl rfl rfl rfl (lt_b rfl) ?_
          refine SL.off (b := false) rfl rfl rfl rfl rfl (lt_b rfl) ?_
          refine SL.off (b := false) rfl rfl rfl rfl rfl (lt_b rfl) ?_
          refine SL.ru rfl rfl (lt_b rfl) (ru_pick (u := undef) (v := bo false) rfl rfl rfl rfl) ?_
          refine SL.nil ?_
          refine SC.of_SE ?_
          refine SC.norm [(0, Value.slice tq text.length tc), (1, Value.slice oa l.length oc), (4, bo false), (6, pt p 0), (8, pt d 0), (9, iw c), (10, iw (i : Int)), (136, bo false)] [rBlk d [pt p 0, Value.slice qa70 S66.l.length ca71, Value.slice qb72 S66.late.length cb73, iw S66.nxt, iw S66.hv, iw S66.last, bo S66.gone] 52, rPool p ab S66.L, rRowN (.slice qa70 S66.l.length ca71) (pRows S66.l) 61 5, rRowN (.slice qb72 S66.late.length cb73) (pRows S66.late) 61 5] ⟨rfl, rfl, rfl, rfl, rfl, rfl, rfl, rfl, trivial⟩ rfl ?_
          refine SC.no rfl ?_
          refine SC.skip ?_
          refine SE.blkn ?_
          refine SC.of_SE ?_
          refine SC.norm [(0, Value.slice tq text.length tc), (1, Value.slice oa l.length oc), (4, bo false), (6, pt p 0), (8, pt d 0), (9, iw c), (10, iw (i : Int))] [rBlk d [pt p 0, Value.slice qa70 S66.l.length ca71, Value.slice qb72 S66.late.length cb73, iw S66.nxt, iw S66.hv, iw S66.last, bo S66.gone] 52, rPool p ab S66.L, rRowN (.slice qa70 S66.l.length ca71) (pRows S66.l) 61 5, rRowN (.slice qb72 S66.late.length cb73) (pRows S66.late) 61 5] ⟨rfl, rfl, rfl, rfl, rfl, rfl, rfl, trivial⟩ rfl ?_
          refine SC.region ?_
          refine SL.ru rfl rfl (lt_b rfl) (ru_move rfl rfl) ?_
          refine SL.ru rfl rfl (lt_b rfl) (ru_add (r := ((i : Int) + 1)) rfl rfl rfl ((by rw [IntKind.wrap_i64]; omega))) ?_
          refine SL.ru rfl rfl (lt_b rfl) (ru_assign rfl rfl) ?_
          refine SL.nil ?_
          refine SE.keep 4 ?_
          have hP9 := hP69 (by omega)
          refine SE.again N (i + 1, c, S66, qa70, ca71, qb72, cb73) (by omega) ⟨by simp only; omega, hR67, fun h => by simp only at h ⊢; omega, fun h => hP9.2 (by simp only at h; omega), hG68⟩ ⟨rfl, rfl, rfl, rfl, rfl, rfl, (congrArg (fun x => some (iw x)) (show (i : Int) + 1 = ((i + 1 : Nat) : Int) by omega)), trivial⟩ rfl
        · skip
          have hto9 := of_decide_eq_false h57
          refine SC.skip ?_
          refine SC.of_SE ?_
          refine SC.norm [(0, Value.slice tq text.length tc), (1, Value.slice oa l.length oc), (4, bo false), (6, pt p 0), (8, pt d 0), (9, iw c), (10, iw (i : Int)), (11, iw (((i : Int) - (l.length : Int)) * 100)), (13, iw ((((i : Int) - (l.length : Int)) * 100) + 100))] [rBlk d [pt p 0, Value.slice q1 S.l.length c1, Value.slice q2 S.late.length c2, iw S.nxt, iw S.hv, iw S.last, bo S.gone] 52, rPool p ab S.L, rRowN (.slice q1 S.l.length c1) (pRows S.l) 61 5, rRowN (.slice q2 S.late.length c2) (pRows S.late) 61 5] ⟨rfl, rfl, rfl, rfl, rfl, rfl, rfl, rfl, rfl, trivial⟩ rfl ?_
          refine SC.seq ?_
          refine SC.region ?_
          refine SL.ru rfl rfl (lt_b rfl) (ru_move rfl rfl) ?_
          refine SL.call (ζ := Int × Rq) (fun z => Value.tuple #[iw z.1, iw 0]) (fun z => QR d p ab q1 c1 q2 c2 z.2 ++ []) (fun z => (RO text c z.2 [z.1]) ∧ z.2.nxt = S.nxt ∧ ∀ b, QG d p ab q1 c1 q2 c2 z.2 b → G b ∨ w.heap.size ≤ b) rfl rfl co8 rfl rfl rfl (lt_b rfl) (fun w1 hI => by obtain ⟨j, e9, k9⟩ := hR.get hR.free; exact (get_any (hI.1.get (i := 1) rfl)).mono fun e w2 ⟨h1, h2⟩ => ⟨(j, { S with L := (getF S.L).2 }), by rw [h1, e9], hI.poolTo (i := 1) rfl (fun b hb => hG b (hb.elim (fun e => .inr (.inl e)) (fun e => .inr (.inr (.inl e))))) h2, k9, rfl, hG⟩) ?_
          rintro ⟨j74, S75⟩ ⟨hR76, hnS75, hG77⟩
          dsimp only at hR76 hG77 hnS75
          refine SL.ru rfl rfl (lt_b rfl) (ru_move rfl rfl) ?_
          refine SL.ru rfl rfl (lt_b rfl) (ru_extract rfl rfl rfl) ?_
          refine SL.ru rfl rfl (lt_b rfl) (ru_extract rfl rfl rfl) ?_
          refine SL.ru rfl rfl (lt_b rfl) (ru_assign rfl rfl) ?_
          refine SL.ru rfl rfl (lt_b rfl) (ru_assign rfl rfl) ?_
          refine SL.nil ?_
          refine SC.of_SE ?_
          refine SC.norm [(0, Value.slice tq text.length tc), (1, Value.slice oa l.length oc), (4, bo false), (6, pt p 0), (8, pt d 0), (9, iw c), (10, iw (i : Int)), (11, iw (((i : Int) - (l.length : Int)) * 100)), (13, iw ((((i : Int) - (l.length : Int)) * 100) + 100)), (14, iw j74), (15, iw 0)] [rBlk d [pt p 0, Value.slice q1 S75.l.length c1, Value.slice q2 S75.late.length c2, iw S75.nxt, iw S75.hv, iw S75.last, bo S75.gone] 52, rPool p ab S75.L, rRowN (.slice q1 S75.l.length c1) (pRows S75.l) 61 5, rRowN (.slice q2 S75.late.length c2) (pRows S75.late) 61 5] ⟨rfl, rfl, rfl, rfl, rfl, rfl, rfl, rfl, rfl, rfl, rfl, trivial⟩ rfl ?_
          refine SC.seq ?_
          refine SC.region ?_
          refine SL.ru rfl rfl (lt_b rfl) (ru_move rfl rfl) ?_
          refine SL.ru rfl rfl (lt_b rfl) (ru_move rfl rfl) ?_
          refine SL.ru rfl rfl (lt_b rfl) (ru_move rfl rfl) ?_
          refine SL.ru rfl rfl (lt_b rfl) (ru_move rfl rfl) ?_
          refine SL.ru rfl rfl (lt_b rfl) (ru_move rfl rfl) ?_
          refine SL.ru rfl rfl (lt_b rfl) (ru_sliceV (size := 1) (l0 := (((i : Int) - (l.length : Int)) * 100).toNat) (h0 := ((((i : Int) - (l.length : Int)) * 100) + 100).toNat) (m0 := tc) (v := Value.slice (if tc = (((i : Int) - (l.length : Int)) * 100).toNat then tq else tq.map (·.add ((((i : Int) - (l.length : Int)) * 100).toNat * 1))) (((((i : Int) - (l.length : Int)) * 100) + 100).toNat - (((i : Int) - (l.length : Int)) * 100).toNat) (tc - (((i : Int) - (l.length : Int)) * 100).toNat)) rfl si22 rfl rfl rfl (show some (iw ((((i : Int) - (l.length : Int)) * 100) + 100)) = some (iw ((((((i : Int) - (l.length : Int)) * 100) + 100).toNat : Nat) : Int)) by rw [Int.toNat_of_nonneg (by omega)]) (show some (iw (((i : Int) - (l.length : Int)) * 100)) = some (iw (((((i : Int) - (l.length : Int)) * 100).toNat : Nat) : Int)) by rw [Int.toNat_of_nonneg (by omega)]) (by simp) (by omega) (by omega) (by omega)) ?_
          refine SL.call (ζ := Rq) (fun z => iw 0) (fun z => QR d p ab q1 c1 q2 c2 z ++ []) (fun z => (RO text c z [j74]) ∧ dt z.L j74 = ((text.drop (((i : Int) - (l.length : Int)) * 100).toNat).take (((((i : Int) - (l.length : Int)) * 100) + 100).toNat - (((i : Int) - (l.length : Int)) * 100).toNat)) ∧ z.nxt = S75.nxt ∧ ∀ b, QG d p ab q1 c1 q2 c2 z b → G b ∨ w.heap.size ≤ b) rfl rfl co9 rfl rfl rfl (lt_b rfl) (fun w1 hI => (set_any (hI.1.get (i := 1) rfl) j74 (BytesAt.slice (((i : Int) - (l.length : Int)) * 100).toNat ((((i : Int) - (l.length : Int)) * 100) + 100).toNat tc (htx.only hI.2 (fun b _ _ _ _ _ h => hGf b h)) (by omega) (by omega) (by omega) (Nat.le_refl _)) (cut_in ht (fun b o9 n9 c9 h1 h2 e => by have hlt := hts b o9 n9 c9 h1 h2; have := (hG77 b (.inr (.inr (.inl e)))).resolve_left (hGf b); omega) (by omega))).mono fun e w2 ⟨h1, h2⟩ => ⟨{ S75 with L := (ownF S75.L j74 (setF ((text.drop (((i : Int) - (l.length : Int)) * 100).toNat).take (((((i : Int) - (l.length : Int)) * 100) + 100).toNat - (((i : Int) - (l.length : Int)) * 100).toNat)))).2 }, by rw [h1, (hR76.set (show ((text.drop (((i : Int) - (l.length : Int)) * 100).toNat).take (((((i : Int) - (l.length : Int)) * 100) + 100).toNat - (((i : Int) - (l.length : Int)) * 100).toNat)).length ≤ 288 by rw [List.length_take, List.length_drop]; omega)).1], hI.poolTo (i := 1) rfl (fun b hb => hG77 b (hb.elim (fun e => .inr (.inl e)) (fun e => .inr (.inr (.inl e))))) h2, (hR76.set (show ((text.drop (((i : Int) - (l.length : Int)) * 100).toNat).take (((((i : Int) - (l.length : Int)) * 100) + 100).toNat - (((i : Int) - (l.length : Int)) * 100).toNat)).length ≤ 288 by rw [List.length_take, List.length_drop]; omega)).2.1, (hR76.set (show ((text.drop (((i : Int) - (l.length : Int)) * 100).toNat).take (((((i : Int) - (l.length : Int)) * 100) + 100).toNat - (((i : Int) - (l.length : Int)) * 100).toNat)).length ≤ 288 by rw [List.length_take, List.length_drop]; omega)).2.2, rfl, hG77⟩) ?_
          rintro S78 ⟨hR79, hd81, hnS78, hG80⟩
          refine SL.ru rfl rfl (lt_b rfl) (ru_assign rfl rfl) ?_
          refine SL.nil ?_
          refine SC.of_SE ?_
          refine SC.norm [(0, Value.slice tq text.length tc), (1, Value.slice oa l.length oc), (4, bo false), (6, pt p 0), (8, pt d 0), (9, iw c), (10, iw (i : Int)), (11, iw (((i : Int) - (l.length : Int)) * 100)), (13, iw ((((i : Int) - (l.length : Int)) * 100) + 100)), (14, iw j74), (15, iw 0), (16, iw 0)] [rBlk d [pt p 0, Value.slice q1 S78.l.length c1, Value.slice q2 S78.late.length c2, iw S78.nxt, iw S78.hv, iw S78.last, bo S78.gone] 52, rPool p ab S78.L, rRowN (.slice q1 S78.l.length c1) (pRows S78.l) 61 5, rRowN (.slice q2 S78.late.length c2) (pRows S78.late) 61 5] ⟨rfl, rfl, rfl, rfl, rfl, rfl, rfl, rfl, rfl, rfl, rfl, rfl, trivial⟩ rfl ?_
          refine SC.seq ?_
          refine SC.seq ?_
          refine SC.region ?_
          refine SL.ru rfl rfl (lt_b rfl) (ru_move rfl rfl) ?_
          refine SL.ru rfl rfl (lt_b rfl) (ru_ne (b := false) rfl rfl rfl rfl) ?_
          refine SL.ru rfl rfl (lt_b rfl) (ru_move rfl rfl) ?_
          refine SL.rug rfl rfl rfl rfl (lt_b rfl) (ru_move rfl rfl) ?_
          refine SL.rug rfl rfl rfl rfl (lt_b rfl) (ru_ne (b := false) rfl rfl rfl rfl) ?_
          refine SL.ru rfl rfl (lt_b rfl) (ru_pick (u := bo true) (v := bo false) rfl rfl rfl rfl) ?_
          refine SL.nil ?_
          refine SC.of_SE ?_
          refine SC.norm [(0, Value.slice tq text.length tc), (1, Value.slice oa l.length oc), (4, bo false), (6, pt p 0), (8, pt d 0), (9, iw c), (10, iw (i : Int)), (11, iw (((i : Int) - (l.length : Int)) * 100)), (13, iw ((((i : Int) - (l.length : Int)) * 100) + 100)), (14, iw j74), (113, bo false)] [rBlk d [pt p 0, Value.slice q1 S78.l.length c1, Value.slice q2 S78.late.length c2, iw S78.nxt, iw S78.hv, iw S78.last, bo S78.gone] 52, rPool p ab S78.L, rRowN (.slice q1 S78.l.length c1) (pRows S78.l) 61 5, rRowN (.slice q2 S78.late.length c2) (pRows S78.late) 61 5] ⟨rfl, rfl, rfl, rfl, rfl, rfl, rfl, rfl, rfl, rfl, rfl, trivial⟩ rfl ?_
          refine SC.no rfl ?_
          refine SC.skip ?_
          refine SC.of_SE ?_
          refine SC.norm [(0, Value.slice tq text.length tc), (1, Value.slice oa l.length oc), (4, bo false), (6, pt p 0), (8, pt d 0), (9, iw c), (10, iw (i : Int)), (11, iw (((i : Int) - (l.length : Int)) * 100)), (13, iw ((((i : Int) - (l.length : Int)) * 100) + 100)), (14, iw j74)] [rBlk d [pt p 0, Value.slice q1 S78.l.length c1, Value.slice q2 S78.late.length c2, iw S78.nxt, iw S78.hv, iw S78.last, bo S78.gone] 52, rPool p ab S78.L, rRowN (.slice q1 S78.l.length c1) (pRows S78.l) 61 5, rRowN (.slice q2 S78.late.length c2) (pRows S78.late) 61 5] ⟨rfl, rfl, rfl, rfl, rfl, rfl, rfl, rfl, rfl, rfl, trivial⟩ rfl ?_
          refine SC.seq ?_
          refine SC.region ?_
          refine SL.ru rfl rfl (lt_b rfl) (ru_move rfl rfl) ?_
          refine SL.ru rfl rfl (lt_b rfl) (ru_move rfl rfl) ?_
          refine SL.ru rfl rfl (lt_b rfl) (ru_move rfl rfl) ?_
          refine SL.ru rfl rfl (lt_b rfl) (ru_move rfl rfl) ?_
          refine SL.ru rfl rfl (lt_b rfl) (ru_move rfl rfl) ?_
          refine SL.ru rfl rfl (lt_b rfl) (ru_sub (r := (((((i : Int) - (l.length : Int)) * 100) + 100) - (((i : Int) - (l.length : Int)) * 100))) rfl rfl rfl ((by rw [IntKind.wrap_i64]; omega))) ?_
          refine SL.ru rfl rfl (lt_b rfl) (ru_move rfl rfl) ?_
          refine SL.ru rfl rfl (lt_b rfl) (ru_move rfl rfl) ?_
          refine SL.ru rfl rfl (lt_b rfl) (ru_len Try.underlying22 rfl rfl) ?_
          refine SL.ru rfl rfl (lt_b rfl) (ru_eq (b := ((((((i : Int) - (l.length : Int)) * 100) + 100) : Int) == (text.length : Int))) rfl rfl rfl rfl) ?_
          refine SL.call (ζ := Rq × Option Addr × Nat × Option Addr × Nat) (fun z => bo ((qPutF S78 (⟨((i : Int) - (l.length : Int)) * 100, j74, 0, ((((i : Int) - (l.length : Int)) * 100) + 100) - (((i : Int) - (l.length : Int)) * 100), ((((((i : Int) - (l.length : Int)) * 100) + 100) : Int) == (text.length : Int))⟩ : Pc)).1)) (fun z => QR d p ab z.2.1 z.2.2.1 z.2.2.2.1 z.2.2.2.2 z.1 ++ []) (fun z => (RO text c z.1 []) ∧ (((i : Int) - (l.length : Int)) * 100 ≤ S78.nxt → (((i : Int) - (l.length : Int)) * 100) + 100 ≤ z.1.nxt ∧ ((((i : Int) - (l.length : Int)) * 100) + 100 = (text.length : Int) → endedF z.1 = true)) ∧ ∀ b, QG d p ab z.2.1 z.2.2.1 z.2.2.2.1 z.2.2.2.2 z.1 b → G b ∨ w.heap.size ≤ b) rfl rfl co10 rfl rfl rfl (lt_b rfl) (fun w5 hI => (put_ri (x := (⟨((i : Int) - (l.length : Int)) * 100, j74, 0, ((((i : Int) - (l.length : Int)) * 100) + 100) - (((i : Int) - (l.length : Int)) * 100), ((((((i : Int) - (l.length : Int)) * 100) + 100) : Int) == (text.length : Int))⟩ : Pc)) hR79.ri (Inv.four hI)).mono fun e w2 ⟨h1, k⟩ => by obtain ⟨a1, a2, a3, a4, k1, k2⟩ := Inv.qto (l := []) hI k hG80; have k9 := RO.put (a := ((i : Int) - (l.length : Int)) * 100) (b := (((i : Int) - (l.length : Int)) * 100) + 100) (fin := ((((((i : Int) - (l.length : Int)) * 100) + 100) : Int) == (text.length : Int))) hR79 hlen1 (by omega) (by omega) (by omega) hd81 rfl; exact ⟨(_, a1, a2, a3, a4), h1, k1, k9.1, k9.2, k2⟩) ?_
          rintro ⟨S82, qa86, ca87, qb88, cb89⟩ ⟨hR83, hP85, hG84⟩
          dsimp only at hR83 hP85 hG84
          refine SL.nil ?_
          refine SC.of_SE ?_
          refine SC.norm [(0, Value.slice tq text.length tc), (1, Value.slice oa l.length oc), (4, bo false), (6, pt p 0), (8, pt d 0), (9, iw c), (10, iw (i : Int))] [rBlk d [pt p 0, Value.slice qa86 S82.l.length ca87, Value.slice qb88 S82.late.length cb89, iw S82.nxt, iw S82.hv, iw S82.last, bo S82.gone] 52, rPool p ab S82.L, rRowN (.slice qa86 S82.l.length ca87) (pRows S82.l) 61 5, rRowN (.slice qb88 S82.late.length cb89) (pRows S82.late) 61 5] ⟨rfl, rfl, rfl, rfl, rfl, rfl, rfl, trivial⟩ rfl ?_
          refine SC.seq ?_
          refine SC.region ?_
          refine SL.ru rfl rfl (lt_b rfl) (ru_move rfl rfl) ?_
          refine SL.ru rfl rfl (lt_b rfl) (ru_move rfl rfl) ?_
          refine SL.ru rfl rfl (lt_b rfl) (ru_len Try.underlying23 rfl rfl) ?_
          refine SL.ru rfl rfl (lt_b rfl) (ru_lt (b := (decide (((i : Int) : Int) < (l.length : Int)))) rfl rfl rfl rfl) ?_
          refine SL.ru rfl rfl (lt_b rfl) (ru_move rfl rfl) ?_
          refine SL.norm [(0, Value.slice tq text.length tc), (1, Value.slice oa l.length oc), (4, bo false), (6, pt p 0), (8, pt d 0), (9, iw c), (10, iw (i : Int)), (125, iw (i : Int)), (126, Value.slice oa l.length oc), (127, iw (l.length : Int)), (128, bo false), (129, bo false)] [rBlk d [pt p 0, Value.slice qa86 S82.l.length ca87, Value.slice qb88 S82.late.length cb89, iw S82.nxt, iw S82.hv, iw S82.last, bo S82.gone] 52, rPool p ab S82.L, rRowN (.slice qa86 S82.l.length ca87) (pRows S82.l) 61 5, rRowN (.slice qb88 S82.late.length cb89) (pRows S82.late) 61 5] ⟨rfl, rfl, rfl, rfl, rfl, rfl, rfl, rfl, rfl, rfl, (congrArg (fun bx => some (Value.bool bx)) (show (decide (((i : Int) : Int) < (l.length : Int))) = false from h8)), (congrArg (fun bx => some (Value.bool bx)) (show (decide (((i : Int) : Int) < (l.length : Int))) = false from h8)), trivial⟩ rfl ?_
          refine SL.off (b := false) rfl rfl rfl rfl rfl (lt_b rfl) ?_
          refine SL.off (b := false) rfl rfl rfl rfl rfl (lt_b rfl) ?_
          refine SL.off (b := false) rfl rfl rfl rfl rfl (lt_b rfl) ?_
          refine SL.off (b := false) rfl rfl rfl rfl rfl (lt_b rfl) ?_
          refine SL.off (b := false) rfl rfl rfl rfl rfl (lt_b rfl) ?_
          refine SL.off (b := false) rfl rfl rfl rfl rfl (lt_b rfl) ?_
          refine SL.ru rfl rfl (lt_b rfl) (ru_pick (u := undef) (v := bo false) rfl rfl rfl rfl) ?_
          refine SL.nil ?_
          refine SC.of_SE ?_
          refine SC.norm [(0, Value.slice tq text.length tc), (1, Value.slice oa l.length oc), (4, bo false), (6, pt p 0), (8, pt d 0), (9, iw c), (10, iw (i : Int)), (136, bo false)] [rBlk d [pt p 0, Value.slice qa86 S82.l.length ca87, Value.slice qb88 S82.late.length cb89, iw S82.nxt, iw S82.hv, iw S82.last, bo S82.gone] 52, rPool p ab S82.L, rRowN (.slice qa86 S82.l.length ca87) (pRows S82.l) 61 5, rRowN (.slice qb88 S82.late.length cb89) (pRows S82.late) 61 5] ⟨rfl, rfl, rfl, rfl, rfl, rfl, rfl, rfl, trivial⟩ rfl ?_
          refine SC.no rfl ?_
          refine SC.skip ?_
          refine SE.blkn ?_
          refine SC.of_SE ?_
          refine SC.norm [(0, Value.slice tq text.length tc), (1, Value.slice oa l.length oc), (4, bo false), (6, pt p 0), (8, pt d 0), (9, iw c), (10, iw (i : Int))] [rBlk d [pt p 0, Value.slice qa86 S82.l.length ca87, Value.slice qb88 S82.late.length cb89, iw S82.nxt, iw S82.hv, iw S82.last, bo S82.gone] 52, rPool p ab S82.L, rRowN (.slice qa86 S82.l.length ca87) (pRows S82.l) 61 5, rRowN (.slice qb88 S82.late.length cb89) (pRows S82.late) 61 5] ⟨rfl, rfl, rfl, rfl, rfl, rfl, rfl, trivial⟩ rfl ?_
          refine SC.region ?_
          refine SL.ru rfl rfl (lt_b rfl) (ru_move rfl rfl) ?_
          refine SL.ru rfl rfl (lt_b rfl) (ru_add (r := ((i : Int) + 1)) rfl rfl rfl ((by rw [IntKind.wrap_i64]; omega))) ?_
          refine SL.ru rfl rfl (lt_b rfl) (ru_assign rfl rfl) ?_
          refine SL.nil ?_
          refine SE.keep 4 ?_
          have hP9 := hP85 (by omega)
          refine SE.again N (i + 1, c, S82, qa86, ca87, qb88, cb89) (by omega) ⟨by simp only; omega, hR83, fun h => by simp only at h ⊢; omega, fun h => hP9.2 (by simp only at h; omega), hG84⟩ ⟨rfl, rfl, rfl, rfl, rfl, rfl, (congrArg (fun x => some (iw x)) (show (i : Int) + 1 = ((i + 1 : Nat) : Int) by omega)), trivial⟩ rfl
theorem order_walk (w : World) {tv : Value} {text : List UInt8} (ht : BytesAt w tv text ∧ sliceIn tv (fun b => b < w.heap.size)) {vv : Value} {l : List OpZ} (h : OpsZ w vv l) : Calls Try.prog 3 #[tv, vv] w fun e w' => e = .returned (.bool true) ∧ Only (fun _ => False) w w' := order_in ht.1 ht.2 h _ (fun _ h => h)

end Go.Proofs.Ytpgnklmmjdkhiaa

/-
  The arguments of the receiver's statements, opened.
-/
namespace Go.Proofs.Ytpgnklmmjdkhiaa
open Go.ChangeShapes Go.WideShapes Go.ChangeAt Go.RowKit Go.Deep
set_option maxRecDepth 100000
variable {H : Type} {enc : TypeId × Value → H} {w : World} {base b0 : Nat} {held : Bool} {r : Reach}

theorem open_bytes_arg {v : Value} {d : DataW H} {p : List MemPlace} (hv : Value.okWide Try.prog w r b0 22 v) (h : DataW.Trod enc Try.prog w base (fun _ => true) held 22 v d p) (hw : ∀ n ∈ DataW.weights Try.prog 22 d, n ≤ reachBytes) :
    ∃ l, BytesAt w v l ∧ sliceIn v (fun b => b < w.heap.size) := by
  obtain ⟨a, n, c, rfl⟩ := okWide_slice Try.underlying22 hv
  obtain ⟨fuel, hf⟩ := h
  obtain ⟨a', n', c', l, e, h1, h2⟩ := open_bytes (x := (d, p)) Try.underlying22 Try.underlying5 (by kernel_rfl) (by kernel_rfl) hf hw
  rw [e]
  exact ⟨l, h1, h2⟩
theorem ops_nil (a : Option Addr) (c : Nat) : OpsZ w (.slice a 0 c) [] := ⟨a, c, rfl, by simp, fun i hi => by simp at hi⟩
theorem open_ops_arg {v : Value} {d : DataW H} {p : List MemPlace} (hv : Value.okWide Try.prog w r b0 23 v) (h : DataW.Trod enc Try.prog w base (fun _ => true) held 23 v d p) (hw : ∀ n ∈ DataW.weights Try.prog 23 d, n ≤ reachBytes) :
    ∃ l, OpsZ w v l := by
  obtain ⟨a0, n0, c0, rfl⟩ := okWide_slice Try.underlying23 hv
  obtain ⟨fuel, hf⟩ := h
  have hB : Try.prog.bytesOf 32 = 72 := by kernel_rfl
  rcases open_slice_fields (x := (d, p)) Try.underlying23 Try.underlying32 (by kernel_rfl) (by kernel_rfl) hf with ⟨hcs, _⟩ | ⟨a, len, cap, m, D, Pl, hcs, _, hl, _, hm, hx, hi⟩
  · simp [Value.cells] at hcs
    obtain ⟨rfl, rfl, rfl⟩ := hcs
    exact ⟨[], ops_nil _ _⟩
  · simp [Value.cells] at hcs
    obtain ⟨rfl, rfl, rfl⟩ := hcs
    simp only [if_true] at hm
    subst hm
    obtain ⟨hx, _⟩ := Prod.mk.inj hx
    subst hx
    by_cases h0 : n0 = 0
    · subst h0; exact ⟨[], ops_nil _ _⟩
    have hlen : n0 * 72 ≤ 140737488351232 := by
      have := hw ((((List.range n0).map D).length + ((List.range (m - n0)).map fun j => D (n0 + j)).length) * 72) (by
        simp only [DataW.weights, Try.underlying23, List.mem_cons, hB]
        left; trivial)
      simp only [List.length_map, List.length_range, reachBytes] at this
      omega
    have each : ∀ i, i < n0 → ∃ o : OpZ, a.spot = none ∧ OpZAt w a.block (a.off + i * 7) o := by
      intro i hin
      obtain ⟨z, n, hD0, _, hys0, hf0⟩ := hi 0 (by omega)
      obtain ⟨v, y, hc0, _, _⟩ := hf0 0 _ rfl
      have hs : a.spot = none := plain_of_cell hc0
      obtain ⟨ys, n, hD, _, hys, hf⟩ := hi i (by omega)
      have hDm : D i ∈ (List.range n0).map D := List.mem_map.2 ⟨i, List.mem_range.2 hin, rfl⟩
      have hwi : ∀ n ∈ (DataW.agg (ys.map (·.1))).weights Try.prog 32, n ≤ reachBytes := by
        intro q hq
        refine hw q ?_
        simp only [DataW.weights, Try.underlying23, List.mem_cons, List.mem_append]
        right; left
        rw [← hD] at hq
        exact weights_all hDm hq
      obtain ⟨v0, y0, c0, q0, h0⟩ := hf 0 _ rfl
      obtain ⟨v1, y1, c1, q1, h1⟩ := hf 1 _ rfl
      obtain ⟨v2, y2, c2, q2, h2⟩ := hf 2 _ rfl
      obtain ⟨v3, y3, c3, q3, h3⟩ := hf 3 _ rfl
      obtain ⟨v4, y4, c4, q4, h4⟩ := hf 4 _ rfl
      obtain ⟨v5, y5, c5, q5, h5⟩ := hf 5 _ rfl
      obtain ⟨v6, y6, c6, q6, h6⟩ := hf 6 _ rfl
      have w2 := weights_agg Try.underlying32 hys hwi rfl q2
      obtain ⟨z0, hz0, _, _⟩ := DataW.trod_int Try.underlying3 h0
      obtain ⟨z1, hz1, _, _⟩ := DataW.trod_int Try.underlying3 h1
      obtain ⟨b, nn, cc, l, e, k1, k2⟩ := open_bytes Try.underlying22 Try.underlying5 (by kernel_rfl) (by kernel_rfl) h2 w2
      obtain ⟨z3, hz3, _, _⟩ := DataW.trod_int Try.underlying3 h3
      obtain ⟨z4, hz4, _, _⟩ := DataW.trod_int Try.underlying3 h4
      obtain ⟨z5, hz5, _⟩ := DataW.trod_bool Try.underlying4 h5
      obtain ⟨z6, hz6, _, u6⟩ := DataW.trod_int Try.underlying3 h6
      simp at hz0 hz1 hz3 hz4 hz5 hz6
      subst hz0 hz1 hz3 hz4 hz5 hz6 e
      rw [plain_add hs] at c0 c1 c2 c3 c4 c5 c6
      refine ⟨⟨z0, z1, .slice b nn cc, l, z3, z4, z5, z6⟩, hs, fun j u hj => ?_, k1, k2, wf_i64 u6⟩
      match j, hj with
      | 0, hj => simp at hj; subst hj; exact c0
      | 1, hj => simp at hj; subst hj; exact c1
      | 2, hj => simp at hj; subst hj; exact c2
      | 3, hj => simp at hj; subst hj; exact c3
      | 4, hj => simp at hj; subst hj; exact c4
      | 5, hj => simp at hj; subst hj; exact c5
      | 6, hj => simp at hj; subst hj; exact c6
      | j + 7, hj => simp at hj
    obtain ⟨_, hs, hfirst⟩ := each 0 (by omega)
    obtain ⟨g, hg⟩ : ∃ g : Nat → OpZ, ∀ i, i < n0 → OpZAt w a.block (a.off + i * 7) (g i) := by
      refine ⟨fun i => if h : i < n0 then Classical.choose (each i h) else ⟨0, 0, .slice none 0 0, [], 0, 0, false, 0⟩, fun i h => ?_⟩
      simp only [h, dite_true]
      exact (Classical.choose_spec (each i h)).2
    refine ⟨(List.range n0).map g, some a, _, by simp; rfl, by simp; omega, fun i hi => ⟨a.block, a.off, ?_, ?_⟩⟩
    · cases a; simp only at hs; subst hs; rfl
    · simp at hi
      simpa using hg i hi
end Go.Proofs.Ytpgnklmmjdkhiaa
