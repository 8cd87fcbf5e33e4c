/-
  What the proof of RecvqRoom stands on, part 4: each theorem by itself, under the conditions that it names.
-/
import Derived.Test.YtpgnklmmjdkhiaaRecvqRoomM3
/-
  RecvqRoom answers true.
-/
namespace Go.Proofs.Ytpgnklmmjdkhiaa
open Go.RowKit
set_option maxRecDepth 100000
set_option maxHeartbeats 4000000
theorem room_in {w : World} {vv : Value} {l : List OpZ} (h : OpsZ w vv l) (G : Nat → Prop) (hGf : ∀ b, ¬ G b) : Calls Try.prog 4 #[vv] w fun e w' => e = .returned (bo true) ∧ Only G w w' := by
  obtain ⟨oa, oc, rfl, hlen, hops⟩ := h
  refine calls_sc (l0 := []) (args := [Value.slice oa l.length oc]) G Try.func4 rfl 175 Try.ntmps4 (le_b rfl) ⟨⟨by simp, List.Pairwise.nil⟩, Only.refl _ _⟩ ?_
  show SC _ _ _ _ [(0, Value.slice oa l.length oc)] []
  refine SC.seq ?_
  refine SC.region ?_
  refine SL.ru rfl rfl (lt_b rfl) (ru_assign rfl rfl) ?_
  refine SL.nil ?_
  refine SC.of_SE ?_
  refine SC.norm [(0, Value.slice oa l.length oc), (2, bo false)] [] ⟨rfl, rfl, trivial⟩ rfl ?_
  refine SC.seq ?_
  refine SC.region ?_
  refine SL.callv (bo true) rfl rfl co5 rfl rfl rfl (lt_b rfl) (fun w hI => H_only hI (awake_any _)) ?_
  refine SL.ru rfl rfl (lt_b rfl) (ru_assign rfl rfl) ?_
  refine SL.nil ?_
  refine SC.of_SE ?_
  refine SC.norm [(0, Value.slice oa l.length oc), (2, bo false), (3, bo true)] [] ⟨rfl, rfl, rfl, trivial⟩ rfl ?_
  refine SC.seq ?_
  refine SC.region ?_
  refine SL.call (ζ := Nat × Nat) (fun z => Value.tuple #[pt z.1 0, iw 0]) (fun z => [rPool z.1 z.2 (q0 60).L]) (fun z => w.heap.size ≤ z.1 ∧ w.heap.size ≤ z.2) rfl rfl co6 rfl rfl rfl (lt_b rfl) (fun w1 hI => (new_in (n := 60) (by decide) (by decide)).mono fun e w2 ⟨p, ab, k1, k2, k3, k4, k5⟩ => ⟨(p, ab), k1, hI.add (r := rPool p ab (q0 60).L) k5 k2 (fun b hb => hb.elim (fun e => e ▸ k3) (fun e => e ▸ k4)), Nat.le_trans hI.2.size k3, Nat.le_trans hI.2.size k4⟩) ?_
  rintro ⟨p, ab⟩ ⟨hp, hab⟩
  dsimp only at hp hab
  refine SL.ru rfl rfl (lt_b rfl) (ru_move rfl rfl) ?_
  refine SL.ru rfl rfl (lt_b rfl) (ru_extract rfl rfl rfl) ?_
  refine SL.ru rfl rfl (lt_b rfl) (ru_extract rfl rfl rfl) ?_
  refine SL.ru rfl rfl (lt_b rfl) (ru_assign rfl rfl) ?_
  refine SL.ru rfl rfl (lt_b rfl) (ru_assign rfl rfl) ?_
  refine SL.nil ?_
  refine SC.of_SE ?_
  refine SC.norm [(0, Value.slice oa l.length oc), (2, bo false), (3, bo true), (4, pt p 0), (5, iw 0)] [rPool p ab (q0 60).L] ⟨rfl, rfl, rfl, rfl, rfl, trivial⟩ rfl ?_
  refine SC.seq ?_
  refine SC.seq ?_
  refine SC.region ?_
  refine SL.ru rfl rfl (lt_b rfl) (ru_move rfl rfl) ?_
  refine SL.ru rfl rfl (lt_b rfl) (ru_not (c := false) rfl rfl rfl) ?_
  refine SL.ru rfl rfl (lt_b rfl) (ru_move rfl rfl) ?_
  refine SL.rug rfl rfl rfl rfl (lt_b rfl) (ru_move rfl rfl) ?_
  refine SL.rug rfl rfl rfl rfl (lt_b rfl) (ru_ne (b := false) rfl rfl rfl rfl) ?_
  refine SL.ru rfl rfl (lt_b rfl) (ru_pick (u := bo true) (v := bo false) rfl rfl rfl rfl) ?_
  refine SL.ru rfl rfl (lt_b rfl) (ru_move rfl rfl) ?_
  refine SL.rug rfl rfl rfl rfl (lt_b rfl) (ru_move rfl rfl) ?_
  refine SL.rug rfl rfl rfl rfl (lt_b rfl) (ru_eqnil Try.underlying25 rfl rfl rfl rfl) ?_
  refine SL.ru rfl rfl (lt_b rfl) (ru_pick (u := bo true) (v := bo false) rfl rfl rfl rfl) ?_
  refine SL.nil ?_
  refine SC.of_SE ?_
  refine SC.norm [(0, Value.slice oa l.length oc), (2, bo false), (4, pt p 0), (30, bo false)] [rPool p ab (q0 60).L] ⟨rfl, rfl, rfl, rfl, trivial⟩ rfl ?_
  refine SC.no rfl ?_
  refine SC.skip ?_
  refine SC.of_SE ?_
  refine SC.norm [(0, Value.slice oa l.length oc), (2, bo false), (4, pt p 0)] [rPool p ab (q0 60).L] ⟨rfl, rfl, rfl, trivial⟩ rfl ?_
  refine SC.seq ?_
  refine SC.region ?_
  refine SL.ru rfl rfl (lt_b rfl) (ru_move rfl rfl) ?_
  refine SL.call (ζ := Nat) (fun z => pt z 0) (fun z => QR z p ab none 0 none 0 (q0 60)) (fun z => w.heap.size ≤ z) rfl rfl co7 rfl rfl rfl (lt_b rfl) (fun w1 hI => newq_any.mono fun e w2 ⟨d, h1, h2, h3, h4⟩ => ⟨d, h1, Inv.newq hI h2 h3 h4, Nat.le_trans hI.2.size h2⟩) ?_
  intro d hd
  have hG0 : ∀ b, QG d p ab none 0 none 0 (q0 60) b → G b ∨ w.heap.size ≤ b := by rintro b (rfl | rfl | rfl | h | h); exact .inr hd; exact .inr hp; exact .inr hab; cases h; cases h
  refine SL.ru rfl rfl (lt_b rfl) (ru_assign rfl rfl) ?_
  refine SL.nil ?_
  refine SC.of_SE ?_
  refine SC.norm [(0, Value.slice oa l.length oc), (2, bo false), (4, pt p 0), (6, pt d 0)] [rBlk d [pt p 0, Value.slice none (((q0 60).l).length) 0, Value.slice none (((q0 60).late).length) 0, iw ((q0 60).nxt), iw ((q0 60).hv), iw ((q0 60).last), bo ((q0 60).gone)] 52, rPool p ab ((q0 60).L), rRowN (.slice none (((q0 60).l).length) 0) (pRows ((q0 60).l)) 61 5, rRowN (.slice none (((q0 60).late).length) 0) (pRows ((q0 60).late)) 61 5] ⟨rfl, rfl, rfl, rfl, trivial⟩ rfl ?_
  refine SC.seq ?_
  refine SC.seq ?_
  refine SC.region ?_
  refine SL.ru rfl rfl (lt_b rfl) (ru_move rfl rfl) ?_
  refine SL.ru rfl rfl (lt_b rfl) (ru_eqnil Try.underlying29 rfl rfl rfl rfl) ?_
  refine SL.nil ?_
  refine SC.of_SE ?_
  refine SC.norm [(0, Value.slice oa l.length oc), (2, bo false), (4, pt p 0), (6, pt d 0), (34, bo false)] [rBlk d [pt p 0, Value.slice none (((q0 60).l).length) 0, Value.slice none (((q0 60).late).length) 0, iw ((q0 60).nxt), iw ((q0 60).hv), iw ((q0 60).last), bo ((q0 60).gone)] 52, rPool p ab ((q0 60).L), rRowN (.slice none (((q0 60).l).length) 0) (pRows ((q0 60).l)) 61 5, rRowN (.slice none (((q0 60).late).length) 0) (pRows ((q0 60).late)) 61 5] ⟨rfl, rfl, rfl, rfl, rfl, trivial⟩ rfl ?_
  refine SC.no rfl ?_
  refine SC.skip ?_
  refine SC.of_SE ?_
  refine SC.norm [(0, Value.slice oa l.length oc), (2, bo false), (4, pt p 0), (6, pt d 0)] [rBlk d [pt p 0, Value.slice none (((q0 60).l).length) 0, Value.slice none (((q0 60).late).length) 0, iw ((q0 60).nxt), iw ((q0 60).hv), iw ((q0 60).last), bo ((q0 60).gone)] 52, rPool p ab ((q0 60).L), rRowN (.slice none (((q0 60).l).length) 0) (pRows ((q0 60).l)) 61 5, rRowN (.slice none (((q0 60).late).length) 0) (pRows ((q0 60).late)) 61 5] ⟨rfl, rfl, rfl, rfl, trivial⟩ rfl ?_
  refine SC.seq ?_
  refine SC.region ?_
  refine SL.ru rfl rfl (lt_b rfl) (ru_assign rfl rfl) ?_
  refine SL.nil ?_
  refine SC.of_SE ?_
  refine SC.norm [(0, Value.slice oa l.length oc), (2, bo false), (4, pt p 0), (6, pt d 0), (7, iw 1024)] [rBlk d [pt p 0, Value.slice none (((q0 60).l).length) 0, Value.slice none (((q0 60).late).length) 0, iw ((q0 60).nxt), iw ((q0 60).hv), iw ((q0 60).last), bo ((q0 60).gone)] 52, rPool p ab ((q0 60).L), rRowN (.slice none (((q0 60).l).length) 0) (pRows ((q0 60).l)) 61 5, rRowN (.slice none (((q0 60).late).length) 0) (pRows ((q0 60).late)) 61 5] ⟨rfl, rfl, rfl, rfl, rfl, trivial⟩ rfl ?_
  refine SC.seq ?_
  refine SC.seq ?_
  refine SC.region ?_
  refine SL.ru rfl rfl (lt_b rfl) (ru_assign rfl rfl) ?_
  refine SL.nil ?_
  refine SC.of_SE ?_
  refine SC.norm [(0, Value.slice oa l.length oc), (2, bo false), (4, pt p 0), (6, pt d 0), (7, iw 1024), (8, iw 0)] [rBlk d [pt p 0, Value.slice none (((q0 60).l).length) 0, Value.slice none (((q0 60).late).length) 0, iw ((q0 60).nxt), iw ((q0 60).hv), iw ((q0 60).last), bo ((q0 60).gone)] 52, rPool p ab ((q0 60).L), rRowN (.slice none (((q0 60).l).length) 0) (pRows ((q0 60).l)) 61 5, rRowN (.slice none (((q0 60).late).length) 0) (pRows ((q0 60).late)) 61 5] ⟨rfl, rfl, rfl, rfl, rfl, rfl, trivial⟩ rfl ?_
  refine SC.block ?_
  refine SC.loop (γ := Nat × Int × Rq × Option Addr × Nat × Option Addr × Nat) (fun k z => [(0, Value.slice oa l.length oc), (2, bo false), (4, pt p 0), (6, pt d 0), (7, iw (z.2.1 + 1024)), (8, iw (z.1 : Int))]) (fun k z => [rBlk d [pt p 0, Value.slice z.2.2.2.1 z.2.2.1.l.length z.2.2.2.2.1, Value.slice z.2.2.2.2.2.1 z.2.2.1.late.length z.2.2.2.2.2.2, iw z.2.2.1.nxt, iw z.2.2.1.hv, iw z.2.2.1.last, bo z.2.2.1.gone] 52, rPool p ab z.2.2.1.L, rRowN (.slice z.2.2.2.1 z.2.2.1.l.length z.2.2.2.2.1) (pRows z.2.2.1.l) 61 5, rRowN (.slice z.2.2.2.2.2.1 z.2.2.1.late.length z.2.2.2.2.2.2) (pRows z.2.2.1.late) 61 5]) (fun k z => k + z.1 = l.length ∧ RI 60 z.2.1 z.2.2.1 [] ∧ z.2.1 ≤ 1024 * (z.1 : Int) ∧ ∀ b, QG d p ab z.2.2.2.1 z.2.2.2.2.1 z.2.2.2.2.2.1 z.2.2.2.2.2.2 z.2.2.1 b → G b ∨ w.heap.size ≤ b) l.length (0, 0, q0 60, none, 0, none, 0) ⟨rfl, ri0 60, by decide, hG0⟩ ⟨rfl, rfl, rfl, rfl, rfl, rfl, trivial⟩ rfl ?_
  rintro N ⟨i, c, S, q1, c1, q2, c2⟩ ⟨hn, hR, hcb, hG⟩
  dsimp only at hn hR hcb hG
  have hf := hR.facts
  have hc0 := hR.c0
  rcases N with _ | N
  · skip
    refine SC.seq ?_
    refine SC.seq ?_
    refine SC.region ?_
    refine SL.ru rfl rfl (lt_b rfl) (ru_move rfl rfl) ?_
    refine SL.ru rfl rfl (lt_b rfl) (ru_move rfl rfl) ?_
    refine SL.ru rfl rfl (lt_b rfl) (ru_len Try.underlying23 rfl rfl) ?_
    refine SL.ru rfl rfl (lt_b rfl) (ru_lt (b := (decide (((i : Int) : Int) < (l.length : Int)))) rfl rfl rfl rfl) ?_
    refine SL.nil ?_
    refine SC.of_SE ?_
    refine SC.norm [(0, Value.slice oa l.length oc), (2, bo false), (4, pt p 0), (6, pt d 0), (7, iw (c + 1024)), (8, iw (i : Int)), (38, bo (decide (((i : Int) : Int) < (l.length : Int))))] [rBlk d [pt p 0, Value.slice q1 S.l.length c1, Value.slice q2 S.late.length c2, iw S.nxt, iw S.hv, iw S.last, bo S.gone] 52, rPool p ab S.L, rRowN (.slice q1 S.l.length c1) (pRows S.l) 61 5, rRowN (.slice q2 S.late.length c2) (pRows S.late) 61 5] ⟨rfl, rfl, rfl, rfl, rfl, rfl, rfl, trivial⟩ rfl ?_
    refine SC.no (show some (Value.bool (decide (((i : Int) : Int) < (l.length : Int)))) = some (Value.bool false) from congrArg (fun x => some (Value.bool x)) (decide_eq_false (by omega))) ?_
    refine SC.exit ?_
    refine SE.passe ?_
    refine SE.passe ?_
    refine SE.blke ?_
    refine SC.of_SE ?_
    refine SC.norm [(2, bo false)] [rBlk d [pt p 0, Value.slice q1 S.l.length c1, Value.slice q2 S.late.length c2, iw S.nxt, iw S.hv, iw S.last, bo S.gone] 52, rPool p ab S.L, rRowN (.slice q1 S.l.length c1) (pRows S.l) 61 5, rRowN (.slice q2 S.late.length c2) (pRows S.late) 61 5] ⟨rfl, trivial⟩ rfl ?_
    refine SC.seq ?_
    refine SC.region ?_
    refine SL.ru rfl rfl (lt_b rfl) (ru_assign rfl rfl) ?_
    refine SL.nil ?_
    refine SC.of_SE ?_
    refine SC.norm [(2, bo true)] [rBlk d [pt p 0, Value.slice q1 S.l.length c1, Value.slice q2 S.late.length c2, iw S.nxt, iw S.hv, iw S.last, bo S.gone] 52, rPool p ab S.L, rRowN (.slice q1 S.l.length c1) (pRows S.l) 61 5, rRowN (.slice q2 S.late.length c2) (pRows S.late) 61 5] ⟨rfl, trivial⟩ rfl ?_
    refine SC.ret ?_
    refine SE.res (.inl rfl) (res1 Try.results4 rfl) fun w1 hI => ⟨rfl, hI.2⟩
  · skip
    obtain ⟨ob, oo, ea, hop⟩ := hops i (by omega)
    obtain ⟨⟨k9, o9, ov, f, s9, t9, b9, n9⟩, hl⟩ : ∃ op : OpZ, op = l[i]'(by omega) := ⟨_, rfl⟩
    rw [← hl] at hop
    obtain ⟨hc, hb0, hs0, hn9⟩ := hop
    simp only at hc hb0 hs0 hn9
    obtain ⟨fa, fc, rfl⟩ := hb0.form
    subst ea
    refine SC.seq ?_
    refine SC.seq ?_
    refine SC.region ?_
    refine SL.ru rfl rfl (lt_b rfl) (ru_move rfl rfl) ?_
    refine SL.ru rfl rfl (lt_b rfl) (ru_move rfl rfl) ?_
    refine SL.ru rfl rfl (lt_b rfl) (ru_len Try.underlying23 rfl rfl) ?_
    refine SL.ru rfl rfl (lt_b rfl) (ru_lt (b := (decide (((i : Int) : Int) < (l.length : Int)))) rfl rfl rfl rfl) ?_
    refine SL.nil ?_
    refine SC.of_SE ?_
    refine SC.norm [(0, sl ob oo l.length oc), (2, bo false), (4, pt p 0), (6, pt d 0), (7, iw (c + 1024)), (8, iw (i : Int)), (38, bo (decide (((i : Int) : Int) < (l.length : Int))))] [rBlk d [pt p 0, Value.slice q1 S.l.length c1, Value.slice q2 S.late.length c2, iw S.nxt, iw S.hv, iw S.last, bo S.gone] 52, rPool p ab S.L, rRowN (.slice q1 S.l.length c1) (pRows S.l) 61 5, rRowN (.slice q2 S.late.length c2) (pRows S.late) 61 5] ⟨rfl, rfl, rfl, rfl, rfl, rfl, rfl, trivial⟩ rfl ?_
    refine SC.yes (show some (Value.bool (decide (((i : Int) : Int) < (l.length : Int)))) = some (Value.bool true) from congrArg (fun x => some (Value.bool x)) (decide_eq_true (by omega))) ?_
    refine SC.skip ?_
    refine SC.of_SE ?_
    refine SC.norm [(0, sl ob oo l.length oc), (2, bo false), (4, pt p 0), (6, pt d 0), (7, iw (c + 1024)), (8, iw (i : Int))] [rBlk d [pt p 0, Value.slice q1 S.l.length c1, Value.slice q2 S.late.length c2, iw S.nxt, iw S.hv, iw S.last, bo S.gone] 52, rPool p ab S.L, rRowN (.slice q1 S.l.length c1) (pRows S.l) 61 5, rRowN (.slice q2 S.late.length c2) (pRows S.late) 61 5] ⟨rfl, rfl, rfl, rfl, rfl, rfl, trivial⟩ rfl ?_
    refine SC.seq ?_
    refine SC.block ?_
    refine SC.seq ?_
    refine SC.seq ?_
    refine SC.region ?_
    refine SL.ru rfl rfl (lt_b rfl) (ru_move rfl rfl) ?_
    refine SL.ru rfl rfl (lt_b rfl) (ru_move rfl rfl) ?_
    refine SL.ru rfl rfl (lt_b rfl) (ru_indexS (o2 := oo + (i : Int).toNat * 7) si23 rfl rfl rfl (by omega) (by omega) rfl) ?_
    refine SL.ru rfl rfl (lt_b rfl) (ru_fieldAddr (o2 := (oo + (i : Int).toNat * 7 + 0)) fd32_0 rfl rfl rfl) ?_
    refine SL.ru rfl rfl (lt_b rfl) (ru_load_old (u := iw k9) hGf ts3 rfl rfl (by rw [Int.toNat_natCast]; exact hc 0 _ rfl)) ?_
    refine SL.nil ?_
    refine SC.of_SE ?_
    refine SC.norm [(0, sl ob oo l.length oc), (2, bo false), (4, pt p 0), (6, pt d 0), (7, iw (c + 1024)), (8, iw (i : Int)), (45, iw k9)] [rBlk d [pt p 0, Value.slice q1 S.l.length c1, Value.slice q2 S.late.length c2, iw S.nxt, iw S.hv, iw S.last, bo S.gone] 52, rPool p ab S.L, rRowN (.slice q1 S.l.length c1) (pRows S.l) 61 5, rRowN (.slice q2 S.late.length c2) (pRows S.late) 61 5] ⟨rfl, rfl, rfl, rfl, rfl, rfl, rfl, trivial⟩ rfl ?_
    refine SC.block ?_
    refine SC.seq ?_
    refine SC.region ?_
    refine SL.ru rfl rfl (lt_b rfl) (ru_eq (b := ((k9 : Int) == 0)) rfl rfl rfl rfl) ?_
    refine SL.ru rfl rfl (lt_b rfl) (ru_assign rfl rfl) ?_
    refine SL.nil ?_
    refine SC.of_SE ?_
    refine SC.norm [(0, sl ob oo l.length oc), (2, bo false), (4, pt p 0), (6, pt d 0), (7, iw (c + 1024)), (8, iw (i : Int)), (45, iw k9), (46, bo ((k9 : Int) == 0))] [rBlk d [pt p 0, Value.slice q1 S.l.length c1, Value.slice q2 S.late.length c2, iw S.nxt, iw S.hv, iw S.last, bo S.gone] 52, rPool p ab S.L, rRowN (.slice q1 S.l.length c1) (pRows S.l) 61 5, rRowN (.slice q2 S.late.length c2) (pRows S.late) 61 5] ⟨rfl, rfl, rfl, rfl, rfl, rfl, rfl, rfl, trivial⟩ rfl ?_
    refine SC.both ((k9 : Int) == 0) rfl (fun h1 => ?_) (fun h1 => ?_)
    · skip
      refine SC.seq ?_
      refine SC.region ?_
      refine SL.ru rfl rfl (lt_b rfl) (ru_move rfl rfl) ?_
      refine SL.call (ζ := Int × Rq) (fun z => Value.tuple #[iw z.1, iw 0]) (fun z => QR d p ab q1 c1 q2 c2 z.2 ++ []) (fun z => (RI 60 c z.2 [z.1]) ∧ ∀ b, QG d p ab q1 c1 q2 c2 z.2 b → G b ∨ w.heap.size ≤ b) rfl rfl co8 rfl rfl rfl (lt_b rfl) (fun w1 hI => by obtain ⟨j, e9, k9⟩ := hR.get hR.free; exact (get_any (hI.1.get (i := 1) rfl)).mono fun e w2 ⟨h1, h2⟩ => ⟨(j, { S with L := (getF S.L).2 }), by rw [h1, e9], hI.poolTo (i := 1) rfl (fun b hb => hG b (hb.elim (fun e => .inr (.inl e)) (fun e => .inr (.inr (.inl e))))) h2, k9, hG⟩) ?_
      rintro ⟨j2, S3⟩ ⟨hR4, hG5⟩
      dsimp only at hR4 hG5
      refine SL.ru rfl rfl (lt_b rfl) (ru_move rfl rfl) ?_
      refine SL.ru rfl rfl (lt_b rfl) (ru_extract rfl rfl rfl) ?_
      refine SL.ru rfl rfl (lt_b rfl) (ru_extract rfl rfl rfl) ?_
      refine SL.ru rfl rfl (lt_b rfl) (ru_assign rfl rfl) ?_
      refine SL.ru rfl rfl (lt_b rfl) (ru_assign rfl rfl) ?_
      refine SL.nil ?_
      refine SC.of_SE ?_
      refine SC.norm [(0, sl ob oo l.length oc), (2, bo false), (4, pt p 0), (6, pt d 0), (7, iw (c + 1024)), (8, iw (i : Int)), (9, iw j2), (10, iw 0)] [rBlk d [pt p 0, Value.slice q1 S3.l.length c1, Value.slice q2 S3.late.length c2, iw S3.nxt, iw S3.hv, iw S3.last, bo S3.gone] 52, rPool p ab S3.L, rRowN (.slice q1 S3.l.length c1) (pRows S3.l) 61 5, rRowN (.slice q2 S3.late.length c2) (pRows S3.late) 61 5] ⟨rfl, rfl, rfl, rfl, rfl, rfl, rfl, rfl, trivial⟩ rfl ?_
      refine SC.seq ?_
      refine SC.seq ?_
      refine SC.region ?_
      refine SL.ru rfl rfl (lt_b rfl) (ru_move rfl rfl) ?_
      refine SL.ru rfl rfl (lt_b rfl) (ru_ne (b := false) rfl rfl rfl rfl) ?_
      refine SL.nil ?_
      refine SC.of_SE ?_
      refine SC.norm [(0, sl ob oo l.length oc), (2, bo false), (4, pt p 0), (6, pt d 0), (7, iw (c + 1024)), (8, iw (i : Int)), (9, iw j2), (54, bo false)] [rBlk d [pt p 0, Value.slice q1 S3.l.length c1, Value.slice q2 S3.late.length c2, iw S3.nxt, iw S3.hv, iw S3.last, bo S3.gone] 52, rPool p ab S3.L, rRowN (.slice q1 S3.l.length c1) (pRows S3.l) 61 5, rRowN (.slice q2 S3.late.length c2) (pRows S3.late) 61 5] ⟨rfl, rfl, rfl, rfl, rfl, rfl, rfl, rfl, trivial⟩ rfl ?_
      refine SC.no rfl ?_
      refine SC.skip ?_
      refine SC.of_SE ?_
      refine SC.norm [(0, sl ob oo l.length oc), (2, bo false), (4, pt p 0), (6, pt d 0), (7, iw (c + 1024)), (8, iw (i : Int)), (9, iw j2)] [rBlk d [pt p 0, Value.slice q1 S3.l.length c1, Value.slice q2 S3.late.length c2, iw S3.nxt, iw S3.hv, iw S3.last, bo S3.gone] 52, rPool p ab S3.L, rRowN (.slice q1 S3.l.length c1) (pRows S3.l) 61 5, rRowN (.slice q2 S3.late.length c2) (pRows S3.late) 61 5] ⟨rfl, rfl, rfl, rfl, rfl, rfl, rfl, trivial⟩ rfl ?_
      refine SC.seq ?_
      refine SC.region ?_
      refine SL.ru rfl rfl (lt_b rfl) (ru_move rfl rfl) ?_
      refine SL.ru rfl rfl (lt_b rfl) (ru_move rfl rfl) ?_
      refine SL.ru rfl rfl (lt_b rfl) (ru_move rfl rfl) ?_
      refine SL.ru rfl rfl (lt_b rfl) (ru_move rfl rfl) ?_
      refine SL.ru rfl rfl (lt_b rfl) (ru_indexS (o2 := oo + (i : Int).toNat * 7) si23 rfl rfl rfl (by omega) (by omega) rfl) ?_
      refine SL.ru rfl rfl (lt_b rfl) (ru_fieldAddr (o2 := (oo + (i : Int).toNat * 7 + 2)) fd32_2 rfl rfl rfl) ?_
      refine SL.ru rfl rfl (lt_b rfl) (ru_load_old (u := Value.slice fa f.length fc) hGf ts22 rfl rfl (by rw [Int.toNat_natCast]; exact hc 2 _ rfl)) ?_
      refine SL.call (ζ := Rq) (fun z => iw ((ownF S3.L j2 (setF f)).1)) (fun z => QR d p ab q1 c1 q2 c2 z ++ []) (fun z => (RI 60 c z [j2]) ∧ ∀ b, QG d p ab q1 c1 q2 c2 z b → G b ∨ w.heap.size ≤ b) rfl rfl co9 rfl rfl rfl (lt_b rfl) (fun w1 hI => (set_any (hI.1.get (i := 1) rfl) j2 (hb0.only hI.2 (fun b _ _ _ _ _ h => hGf b h)) (fun b o9 n9 c9 h1 h2 e => by have hlt := hs0 b o9 n9 c9 h1 h2; have := (hG5 b (.inr (.inr (.inl e)))).resolve_left (hGf b); omega)).mono fun e w2 ⟨h1, h2⟩ => ⟨{ S3 with L := (ownF S3.L j2 (setF f)).2 }, h1, hI.poolTo (i := 1) rfl (fun b hb => hG5 b (hb.elim (fun e => .inr (.inl e)) (fun e => .inr (.inr (.inl e))))) h2, hR4.set _, hG5⟩) ?_
      rintro S6 ⟨hR7, hG8⟩
      refine SL.nil ?_
      refine SC.of_SE ?_
      refine SC.norm [(0, sl ob oo l.length oc), (2, bo false), (4, pt p 0), (6, pt d 0), (7, iw (c + 1024)), (8, iw (i : Int)), (9, iw j2)] [rBlk d [pt p 0, Value.slice q1 S6.l.length c1, Value.slice q2 S6.late.length c2, iw S6.nxt, iw S6.hv, iw S6.last, bo S6.gone] 52, rPool p ab S6.L, rRowN (.slice q1 S6.l.length c1) (pRows S6.l) 61 5, rRowN (.slice q2 S6.late.length c2) (pRows S6.late) 61 5] ⟨rfl, rfl, rfl, rfl, rfl, rfl, rfl, trivial⟩ rfl ?_
      refine SC.seq ?_
      refine SC.region_mk_tail 9 [(1, Mk.val (Value.agg #[iw S6.nxt, iw S6.hv, iw (1024 - S6.hv), iw (S6.late.length : Int)]))] [(2, [1])] rfl rfl (by kernel_rfl) (by kernel_rfl) (by kernel_rfl) ?_
      refine SM.ru rfl rfl rfl (w_all rfl) rfl (lt_b rfl) (ru_move rfl rfl) ?_
      refine SM.call rfl rfl rfl rfl (w_all rfl) rfl (lt_b rfl) (Value.agg #[iw S6.nxt, iw S6.hv, iw (1024 - S6.hv), iw (S6.late.length : Int)]) rfl rfl co14 rfl rfl (fun l' w hI => H_only hI (stat_ri hR7 (Inv.four hI))) ?_
      refine SM.ru rfl rfl rfl (w_all rfl) rfl (lt_b rfl) (ru_field Try.underlying41 rfl Try.underlying3 rfl rfl rfl) ?_
      refine SM.ru rfl rfl rfl (w_all rfl) rfl (lt_b rfl) (ru_move rfl rfl) ?_
      refine SM.ru rfl rfl rfl (w_all rfl) rfl (lt_b rfl) (ru_move rfl rfl) ?_
      refine SM.ru rfl rfl rfl (w_all rfl) rfl (lt_b rfl) (ru_indexS (o2 := oo + (i : Int).toNat * 7) si23 rfl rfl rfl (by omega) (by omega) rfl) ?_
      refine SM.ru rfl rfl rfl (w_all rfl) rfl (lt_b rfl) (ru_fieldAddr (o2 := (oo + (i : Int).toNat * 7 + 1)) fd32_1 rfl rfl rfl) ?_
      refine SM.ru rfl rfl rfl (w_all rfl) rfl (lt_b rfl) (ru_load_old (u := iw o9) hGf ts3 rfl rfl (by rw [Int.toNat_natCast]; exact hc 1 _ rfl)) ?_
      refine SM.ru rfl rfl rfl (w_all rfl) rfl (lt_b rfl) (ru_rem (r := (Int.tmod o9 1500)) rfl rfl rfl (by decide) rfl) ?_
      refine SM.nilL (l' := [rBlk d [pt p 0, Value.slice q1 S6.l.length c1, Value.slice q2 S6.late.length c2, iw S6.nxt, iw S6.hv, iw S6.last, bo S6.gone] 52, rPool p ab S6.L, rRowN (.slice q1 S6.l.length c1) (pRows S6.l) 61 5, rRowN (.slice q2 S6.late.length c2) (pRows S6.late) 61 5]) rfl ?_
      refine SL.ru rfl rfl (lt_b rfl) (ru_add (r := (IntKind.i64.wrap (S6.nxt + (Int.tmod o9 1500)))) rfl rfl rfl rfl) ?_
      refine SL.ru rfl rfl (lt_b rfl) (ru_assign rfl rfl) ?_
      refine SL.nil ?_
      refine SC.of_SE ?_
      refine SC.norm [(0, sl ob oo l.length oc), (2, bo false), (4, pt p 0), (6, pt d 0), (7, iw (c + 1024)), (8, iw (i : Int)), (9, iw j2), (11, iw (IntKind.i64.wrap (S6.nxt + (Int.tmod o9 1500))))] [rBlk d [pt p 0, Value.slice q1 S6.l.length c1, Value.slice q2 S6.late.length c2, iw S6.nxt, iw S6.hv, iw S6.last, bo S6.gone] 52, rPool p ab S6.L, rRowN (.slice q1 S6.l.length c1) (pRows S6.l) 61 5, rRowN (.slice q2 S6.late.length c2) (pRows S6.late) 61 5] ⟨rfl, rfl, rfl, rfl, rfl, rfl, rfl, rfl, trivial⟩ rfl ?_
      refine SC.region_tail 18 (by kernel_rfl) (by kernel_rfl) ?_
      refine SQ.ru rfl rfl (lt_b rfl) (ru_move rfl rfl) ?_
      refine SQ.ru rfl rfl (lt_b rfl) (ru_move rfl rfl) ?_
      refine SQ.ru rfl rfl (lt_b rfl) (ru_move rfl rfl) ?_
      refine SQ.ru rfl rfl (lt_b rfl) (ru_move rfl rfl) ?_
      refine SQ.ru rfl rfl (lt_b rfl) (ru_move rfl rfl) ?_
      refine SQ.ru rfl rfl (lt_b rfl) (ru_indexS (o2 := oo + (i : Int).toNat * 7) si23 rfl rfl rfl (by omega) (by omega) rfl) ?_
      refine SQ.ru rfl rfl (lt_b rfl) (ru_fieldAddr (o2 := (oo + (i : Int).toNat * 7 + 3)) fd32_3 rfl rfl rfl) ?_
      refine SQ.ru rfl rfl (lt_b rfl) (ru_load_old (u := iw s9) hGf ts3 rfl rfl (by rw [Int.toNat_natCast]; exact hc 3 _ rfl)) ?_
      refine SQ.ru rfl rfl (lt_b rfl) (ru_move rfl rfl) ?_
      refine SQ.ru rfl rfl (lt_b rfl) (ru_move rfl rfl) ?_
      refine SQ.ru rfl rfl (lt_b rfl) (ru_indexS (o2 := oo + (i : Int).toNat * 7) si23 rfl rfl rfl (by omega) (by omega) rfl) ?_
      refine SQ.ru rfl rfl (lt_b rfl) (ru_fieldAddr (o2 := (oo + (i : Int).toNat * 7 + 4)) fd32_4 rfl rfl rfl) ?_
      refine SQ.ru rfl rfl (lt_b rfl) (ru_load_old (u := iw t9) hGf ts3 rfl rfl (by rw [Int.toNat_natCast]; exact hc 4 _ rfl)) ?_
      refine SQ.ru rfl rfl (lt_b rfl) (ru_move rfl rfl) ?_
      refine SQ.ru rfl rfl (lt_b rfl) (ru_move rfl rfl) ?_
      refine SQ.ru rfl rfl (lt_b rfl) (ru_indexS (o2 := oo + (i : Int).toNat * 7) si23 rfl rfl rfl (by omega) (by omega) rfl) ?_
      refine SQ.ru rfl rfl (lt_b rfl) (ru_fieldAddr (o2 := (oo + (i : Int).toNat * 7 + 5)) fd32_5 rfl rfl rfl) ?_
      refine SQ.ru rfl rfl (lt_b rfl) (ru_load_old (u := bo b9) hGf ts4 rfl rfl (by rw [Int.toNat_natCast]; exact hc 5 _ rfl)) ?_
      refine SQ.nilL ?_
      refine SL.call (ζ := Rq × Option Addr × Nat × Option Addr × Nat) (fun z => bo ((qPutF S6 (⟨IntKind.i64.wrap (S6.nxt + (Int.tmod o9 1500)), j2, s9, t9, b9⟩ : Pc)).1)) (fun z => QR d p ab z.2.1 z.2.2.1 z.2.2.2.1 z.2.2.2.2 z.1 ++ []) (fun z => (RI 60 c z.1 []) ∧ ∀ b, QG d p ab z.2.1 z.2.2.1 z.2.2.2.1 z.2.2.2.2 z.1 b → G b ∨ w.heap.size ≤ b) rfl rfl co10 rfl rfl rfl (lt_b rfl) (fun w5 hI => (put_ri (x := (⟨IntKind.i64.wrap (S6.nxt + (Int.tmod o9 1500)), j2, s9, t9, b9⟩ : Pc)) hR7 (Inv.four hI)).mono fun e w2 ⟨h1, k⟩ => by obtain ⟨a1, a2, a3, a4, k1, k2⟩ := Inv.qto (l := []) hI k hG8; exact ⟨(_, a1, a2, a3, a4), h1, k1, RI.put (x := (⟨IntKind.i64.wrap (S6.nxt + (Int.tmod o9 1500)), j2, s9, t9, b9⟩ : Pc)) hR7, k2⟩) ?_
      rintro ⟨S9, qa12, ca13, qb14, cb15⟩ ⟨hR10, hG11⟩
      dsimp only at hR10 hG11
      refine SL.nil ?_
      refine SE.blkn ?_
      refine SC.of_SE ?_
      refine SC.norm [(0, sl ob oo l.length oc), (2, bo false), (4, pt p 0), (6, pt d 0), (7, iw (c + 1024)), (8, iw (i : Int))] [rBlk d [pt p 0, Value.slice qa12 S9.l.length ca13, Value.slice qb14 S9.late.length cb15, iw S9.nxt, iw S9.hv, iw S9.last, bo S9.gone] 52, rPool p ab S9.L, rRowN (.slice qa12 S9.l.length ca13) (pRows S9.l) 61 5, rRowN (.slice qb14 S9.late.length cb15) (pRows S9.late) 61 5] ⟨rfl, rfl, rfl, rfl, rfl, rfl, trivial⟩ rfl ?_
      refine SC.seq ?_
      have hf9 := hR10.facts
      refine SC.region ?_
      refine SL.ru rfl rfl (lt_b rfl) (ru_move rfl rfl) ?_
      refine SL.callv (Value.agg #[iw S9.nxt, iw S9.hv, iw (1024 - S9.hv), iw (S9.late.length : Int)]) rfl rfl co14 rfl rfl rfl (lt_b rfl) (fun w hI => H_only hI (stat_ri hR10 (Inv.four hI))) ?_
      refine SL.alloca rfl rfl (lt_b rfl) ta41 rfl fun b16 hb16 => ?_
      refine SL.storea (i := 4) (vs := [iw S9.nxt, iw S9.hv, iw (1024 - S9.hv), iw (S9.late.length : Int)]) (c' := [iw S9.nxt, iw S9.hv, iw (1024 - S9.hv), iw (S9.late.length : Int)]) rfl rfl ta41 rfl rfl rfl rfl rfl rfl (le_b rfl) (.inr hb16) rfl ?_
      refine SL.nil ?_
      refine SC.of_SE ?_
      refine SC.norm [(0, sl ob oo l.length oc), (2, bo false), (4, pt p 0), (6, pt d 0), (7, iw (c + 1024)), (8, iw (i : Int)), (13, pt b16 0)] [rBlk d [pt p 0, Value.slice qa12 S9.l.length ca13, Value.slice qb14 S9.late.length cb15, iw S9.nxt, iw S9.hv, iw S9.last, bo S9.gone] 52, rPool p ab S9.L, rRowN (.slice qa12 S9.l.length ca13) (pRows S9.l) 61 5, rRowN (.slice qb14 S9.late.length cb15) (pRows S9.late) 61 5, rBlk b16 [iw S9.nxt, iw S9.hv, iw (1024 - S9.hv), iw (S9.late.length : Int)] 41] ⟨rfl, rfl, rfl, rfl, rfl, rfl, rfl, trivial⟩ rfl ?_
      refine SC.seq ?_
      refine SC.seq ?_
      refine SC.region ?_
      refine SL.ru rfl rfl (lt_b rfl) (ru_fieldAddr (o2 := 0) fd41_0 rfl rfl rfl) ?_
      refine SL.ru rfl rfl (lt_b rfl) (ru_load (i := 4) ts3 rfl rfl rfl rfl) ?_
      refine SL.ru rfl rfl (lt_b rfl) (ru_fieldAddr (o2 := 2) fd41_2 rfl rfl rfl) ?_
      refine SL.ru rfl rfl (lt_b rfl) (ru_load (i := 4) ts3 rfl rfl rfl rfl) ?_
      refine SL.ru rfl rfl (lt_b rfl) (ru_add (r := (c + 1024)) rfl rfl rfl ((by rw [IntKind.wrap_i64]; omega))) ?_
      refine SL.ru rfl rfl (lt_b rfl) (ru_move rfl rfl) ?_
      refine SL.ru rfl rfl (lt_b rfl) (ru_ne (b := false) rfl rfl rfl (by simp)) ?_
      refine SL.ru rfl rfl (lt_b rfl) (ru_move rfl rfl) ?_
      refine SL.rug rfl rfl rfl rfl (lt_b rfl) (ru_fieldAddr (o2 := 1) fd41_1 rfl rfl rfl) ?_
      refine SL.rug rfl rfl rfl rfl (lt_b rfl) (ru_load (i := 4) ts3 rfl rfl rfl rfl) ?_
      refine SL.rug rfl rfl rfl rfl (lt_b rfl) (ru_lt (b := (decide ((S9.hv : Int) < 0))) rfl rfl rfl rfl) ?_
      refine SL.ru rfl rfl (lt_b rfl) (ru_pick (u := bo true) (v := bo (decide ((S9.hv : Int) < 0))) rfl rfl rfl rfl) ?_
      refine SL.ru rfl rfl (lt_b rfl) (ru_move rfl rfl) ?_
      refine SL.norm [(0, sl ob oo l.length oc), (2, bo false), (4, pt p 0), (6, pt d 0), (7, iw (c + 1024)), (8, iw (i : Int)), (13, pt b16 0), (107, pt b16 0), (108, iw S9.nxt), (109, pt b16 2), (110, iw (1024 - S9.hv)), (111, iw (c + 1024)), (112, iw (c + 1024)), (113, bo false), (114, bo false), (115, pt b16 1), (116, iw S9.hv), (117, bo false), (118, bo false), (119, bo false)] [rBlk d [pt p 0, Value.slice qa12 S9.l.length ca13, Value.slice qb14 S9.late.length cb15, iw S9.nxt, iw S9.hv, iw S9.last, bo S9.gone] 52, rPool p ab S9.L, rRowN (.slice qa12 S9.l.length ca13) (pRows S9.l) 61 5, rRowN (.slice qb14 S9.late.length cb15) (pRows S9.late) 61 5, rBlk b16 [iw S9.nxt, iw S9.hv, iw (1024 - S9.hv), iw (S9.late.length : Int)] 41] ⟨rfl, rfl, rfl, rfl, rfl, rfl, rfl, rfl, rfl, rfl, rfl, rfl, rfl, rfl, rfl, rfl, rfl, (congrArg (fun bx => some (Value.bool bx)) (show (decide ((S9.hv : Int) < 0)) = false from decide_eq_false (by omega))), (congrArg (fun bx => some (Value.bool bx)) (show (decide ((S9.hv : Int) < 0)) = false from decide_eq_false (by omega))), (congrArg (fun bx => some (Value.bool bx)) (show (decide ((S9.hv : Int) < 0)) = false from decide_eq_false (by omega))), trivial⟩ rfl ?_
      refine SL.rug rfl rfl rfl rfl (lt_b rfl) (ru_fieldAddr (o2 := 1) fd41_1 rfl rfl rfl) ?_
      refine SL.rug rfl rfl rfl rfl (lt_b rfl) (ru_load (i := 4) ts3 rfl rfl rfl rfl) ?_
      refine SL.rug rfl rfl rfl rfl (lt_b rfl) (ru_gt (b := (decide ((1024 : Int) < S9.hv))) rfl rfl rfl rfl) ?_
      refine SL.ru rfl rfl (lt_b rfl) (ru_pick (u := bo true) (v := bo (decide ((1024 : Int) < S9.hv))) rfl rfl rfl rfl) ?_
      refine SL.ru rfl rfl (lt_b rfl) (ru_move rfl rfl) ?_
      refine SL.norm [(0, sl ob oo l.length oc), (2, bo false), (4, pt p 0), (6, pt d 0), (7, iw (c + 1024)), (8, iw (i : Int)), (13, pt b16 0), (107, pt b16 0), (108, iw S9.nxt), (109, pt b16 2), (110, iw (1024 - S9.hv)), (111, iw (c + 1024)), (112, iw (c + 1024)), (113, bo false), (114, bo false), (115, pt b16 1), (116, iw S9.hv), (117, bo false), (118, bo false), (119, bo false), (120, pt b16 1), (121, iw S9.hv), (122, bo false), (123, bo false), (124, bo false)] [rBlk d [pt p 0, Value.slice qa12 S9.l.length ca13, Value.slice qb14 S9.late.length cb15, iw S9.nxt, iw S9.hv, iw S9.last, bo S9.gone] 52, rPool p ab S9.L, rRowN (.slice qa12 S9.l.length ca13) (pRows S9.l) 61 5, rRowN (.slice qb14 S9.late.length cb15) (pRows S9.late) 61 5, rBlk b16 [iw S9.nxt, iw S9.hv, iw (1024 - S9.hv), iw (S9.late.length : Int)] 41] ⟨rfl, rfl, rfl, rfl, rfl, rfl, rfl, rfl, rfl, rfl, rfl, rfl, rfl, rfl, rfl, rfl, rfl, rfl, rfl, rfl, rfl, rfl, (congrArg (fun bx => some (Value.bool bx)) (show (decide ((1024 : Int) < S9.hv)) = false from decide_eq_false (by omega))), (congrArg (fun bx => some (Value.bool bx)) (show (decide ((1024 : Int) < S9.hv)) = false from decide_eq_false (by omega))), (congrArg (fun bx => some (Value.bool bx)) (show (decide ((1024 : Int) < S9.hv)) = false from decide_eq_false (by omega))), trivial⟩ rfl ?_
      refine SL.rug rfl rfl rfl rfl (lt_b rfl) (ru_fieldAddr (o2 := 2) fd41_2 rfl rfl rfl) ?_
      refine SL.rug rfl rfl rfl rfl (lt_b rfl) (ru_load (i := 4) ts3 rfl rfl rfl rfl) ?_
      refine SL.rug rfl rfl rfl rfl (lt_b rfl) (ru_fieldAddr (o2 := 1) fd41_1 rfl rfl rfl) ?_
      refine SL.rug rfl rfl rfl rfl (lt_b rfl) (ru_load (i := 4) ts3 rfl rfl rfl rfl) ?_
      refine SL.rug rfl rfl rfl rfl (lt_b rfl) (ru_sub (r := (1024 - S9.hv)) rfl rfl rfl ((by rw [IntKind.wrap_i64]; omega))) ?_
      refine SL.rug rfl rfl rfl rfl (lt_b rfl) (ru_ne (b := false) rfl rfl rfl (by simp)) ?_
      refine SL.ru rfl rfl (lt_b rfl) (ru_pick (u := bo true) (v := bo false) rfl rfl rfl rfl) ?_
      refine SL.ru rfl rfl (lt_b rfl) (ru_move rfl rfl) ?_
      refine SL.rug rfl rfl rfl rfl (lt_b rfl) (ru_fieldAddr (o2 := 3) fd41_3 rfl rfl rfl) ?_
      refine SL.rug rfl rfl rfl rfl (lt_b rfl) (ru_load (i := 4) ts3 rfl rfl rfl rfl) ?_
      refine SL.rug rfl rfl rfl rfl (lt_b rfl) (ru_gt (b := (decide ((4 : Int) < (S9.late.length : Int)))) rfl rfl rfl rfl) ?_
      refine SL.ru rfl rfl (lt_b rfl) (ru_pick (u := bo true) (v := bo (decide ((4 : Int) < (S9.late.length : Int)))) rfl rfl rfl rfl) ?_
      refine SL.nil ?_
      refine SC.of_SE ?_
      refine SC.norm [(0, sl ob oo l.length oc), (2, bo false), (4, pt p 0), (6, pt d 0), (7, iw (c + 1024)), (8, iw (i : Int)), (13, pt b16 0), (136, bo (decide ((4 : Int) < (S9.late.length : Int))))] [rBlk d [pt p 0, Value.slice qa12 S9.l.length ca13, Value.slice qb14 S9.late.length cb15, iw S9.nxt, iw S9.hv, iw S9.last, bo S9.gone] 52, rPool p ab S9.L, rRowN (.slice qa12 S9.l.length ca13) (pRows S9.l) 61 5, rRowN (.slice qb14 S9.late.length cb15) (pRows S9.late) 61 5, rBlk b16 [iw S9.nxt, iw S9.hv, iw (1024 - S9.hv), iw (S9.late.length : Int)] 41] ⟨rfl, rfl, rfl, rfl, rfl, rfl, rfl, rfl, trivial⟩ rfl ?_
      refine SC.no (show some (Value.bool (decide ((4 : Int) < (S9.late.length : Int)))) = some (Value.bool false) from congrArg (fun x => some (Value.bool x)) (decide_eq_false (by omega))) ?_
      refine SC.skip ?_
      refine SC.of_SE ?_
      refine SC.norm [(0, sl ob oo l.length oc), (2, bo false), (4, pt p 0), (6, pt d 0), (7, iw (c + 1024)), (8, iw (i : Int)), (13, pt b16 0)] [rBlk d [pt p 0, Value.slice qa12 S9.l.length ca13, Value.slice qb14 S9.late.length cb15, iw S9.nxt, iw S9.hv, iw S9.last, bo S9.gone] 52, rPool p ab S9.L, rRowN (.slice qa12 S9.l.length ca13) (pRows S9.l) 61 5, rRowN (.slice qb14 S9.late.length cb15) (pRows S9.late) 61 5, rBlk b16 [iw S9.nxt, iw S9.hv, iw (1024 - S9.hv), iw (S9.late.length : Int)] 41] ⟨rfl, rfl, rfl, rfl, rfl, rfl, rfl, trivial⟩ rfl ?_
      refine SC.seq ?_
      refine SC.region ?_
      refine SL.ru rfl rfl (lt_b rfl) (ru_move rfl rfl) ?_
      refine SL.call (ζ := Option Addr × Nat) (fun z => Value.slice z.1 ((gotF S9.late.reverse).length) z.2) (fun z => [rBlk d [pt p 0, Value.slice qa12 S9.l.length ca13, Value.slice qb14 S9.late.length cb15, iw S9.nxt, iw S9.hv, iw S9.last, bo S9.gone] 52, rPool p ab S9.L, rRowN (.slice qa12 S9.l.length ca13) (pRows S9.l) 61 5, rRowN (.slice qb14 S9.late.length cb15) (pRows S9.late) 61 5, rBlk b16 [iw S9.nxt, iw S9.hv, iw (1024 - S9.hv), iw (S9.late.length : Int)] 41] ++ [rRowN (.slice z.1 (gotF S9.late.reverse).length z.2) ((gotF S9.late.reverse).map oRow) 45 2]) (fun z => True) rfl rfl co15 rfl rfl rfl (lt_b rfl) (fun w5 hI => (got_ri hR10 (Inv.four hI)).mono fun e w2 ⟨q, c, h1, h2, h3, h4⟩ => ⟨(q, c), h1, hI.add (r := rRowN (.slice q (gotF S9.late.reverse).length c) ((gotF S9.late.reverse).map oRow) 45 2) h4 h2 h3, trivial⟩) ?_
      rintro ⟨q17, c18⟩ _
      refine SL.ru rfl rfl (lt_b rfl) (ru_assign rfl rfl) ?_
      refine SL.nil ?_
      refine SC.of_SE ?_
      refine SC.norm [(0, sl ob oo l.length oc), (2, bo false), (4, pt p 0), (6, pt d 0), (7, iw (c + 1024)), (8, iw (i : Int)), (13, pt b16 0), (14, Value.slice q17 ((gotF S9.late.reverse).length) c18)] [rBlk d [pt p 0, Value.slice qa12 S9.l.length ca13, Value.slice qb14 S9.late.length cb15, iw S9.nxt, iw S9.hv, iw S9.last, bo S9.gone] 52, rPool p ab S9.L, rRowN (.slice qa12 S9.l.length ca13) (pRows S9.l) 61 5, rRowN (.slice qb14 S9.late.length cb15) (pRows S9.late) 61 5, rBlk b16 [iw S9.nxt, iw S9.hv, iw (1024 - S9.hv), iw (S9.late.length : Int)] 41, rRowN (.slice q17 (gotF S9.late.reverse).length c18) ((gotF S9.late.reverse).map oRow) 45 2] ⟨rfl, rfl, rfl, rfl, rfl, rfl, rfl, rfl, trivial⟩ rfl ?_
      refine SC.seq ?_
      refine SC.region ?_
      refine SL.ru rfl rfl (lt_b rfl) (ru_assign rfl rfl) ?_
      refine SL.nil ?_
      refine SC.of_SE ?_
      refine SC.norm [(0, sl ob oo l.length oc), (2, bo false), (4, pt p 0), (6, pt d 0), (7, iw (c + 1024)), (8, iw (i : Int)), (13, pt b16 0), (14, Value.slice q17 ((gotF S9.late.reverse).length) c18), (15, iw 0)] [rBlk d [pt p 0, Value.slice qa12 S9.l.length ca13, Value.slice qb14 S9.late.length cb15, iw S9.nxt, iw S9.hv, iw S9.last, bo S9.gone] 52, rPool p ab S9.L, rRowN (.slice qa12 S9.l.length ca13) (pRows S9.l) 61 5, rRowN (.slice qb14 S9.late.length cb15) (pRows S9.late) 61 5, rBlk b16 [iw S9.nxt, iw S9.hv, iw (1024 - S9.hv), iw (S9.late.length : Int)] 41, rRowN (.slice q17 (gotF S9.late.reverse).length c18) ((gotF S9.late.reverse).map oRow) 45 2] ⟨rfl, rfl, rfl, rfl, rfl, rfl, rfl, rfl, rfl, trivial⟩ rfl ?_
      refine SC.block ?_
      refine SC.loop (γ := Nat) (fun n9 z => [(0, sl ob oo l.length oc), (2, bo false), (4, pt p 0), (6, pt d 0), (7, iw (c + 1024)), (8, iw (i : Int)), (13, pt b16 0), (14, Value.slice q17 ((gotF S9.late.reverse).length) c18), (15, iw (z : Int))]) (fun n9 z => [rBlk d [pt p 0, Value.slice qa12 S9.l.length ca13, Value.slice qb14 S9.late.length cb15, iw S9.nxt, iw S9.hv, iw S9.last, bo S9.gone] 52, rPool p ab S9.L, rRowN (.slice qa12 S9.l.length ca13) (pRows S9.l) 61 5, rRowN (.slice qb14 S9.late.length cb15) (pRows S9.late) 61 5, rBlk b16 [iw S9.nxt, iw S9.hv, iw (1024 - S9.hv), iw (S9.late.length : Int)] 41, rRowN (.slice q17 (gotF S9.late.reverse).length c18) ((gotF S9.late.reverse).map oRow) 45 2]) (fun n9 z => n9 + z = (gotF S9.late.reverse).length) (gotF S9.late.reverse).length 0 rfl ⟨rfl, rfl, rfl, rfl, rfl, rfl, rfl, rfl, rfl, trivial⟩ rfl ?_
      rintro Ng kk hng
      have hgl := got_len S9.late.reverse
      rcases Ng with _ | Ng
      · skip
        refine SC.seq ?_
        refine SC.seq ?_
        refine SC.region ?_
        refine SL.ru rfl rfl (lt_b rfl) (ru_move rfl rfl) ?_
        refine SL.ru rfl rfl (lt_b rfl) (ru_move rfl rfl) ?_
        refine SL.ru rfl rfl (lt_b rfl) (ru_len Try.underlying43 rfl rfl) ?_
        refine SL.ru rfl rfl (lt_b rfl) (ru_lt (b := (decide (((kk : Int) : Int) < ((gotF S9.late.reverse).length : Int)))) rfl rfl rfl rfl) ?_
        refine SL.nil ?_
        refine SC.of_SE ?_
        refine SC.norm [(0, sl ob oo l.length oc), (2, bo false), (4, pt p 0), (6, pt d 0), (7, iw (c + 1024)), (8, iw (i : Int)), (13, pt b16 0), (14, Value.slice q17 ((gotF S9.late.reverse).length) c18), (15, iw (kk : Int)), (142, bo (decide (((kk : Int) : Int) < ((gotF S9.late.reverse).length : Int))))] [rBlk d [pt p 0, Value.slice qa12 S9.l.length ca13, Value.slice qb14 S9.late.length cb15, iw S9.nxt, iw S9.hv, iw S9.last, bo S9.gone] 52, rPool p ab S9.L, rRowN (.slice qa12 S9.l.length ca13) (pRows S9.l) 61 5, rRowN (.slice qb14 S9.late.length cb15) (pRows S9.late) 61 5, rBlk b16 [iw S9.nxt, iw S9.hv, iw (1024 - S9.hv), iw (S9.late.length : Int)] 41, rRowN (.slice q17 (gotF S9.late.reverse).length c18) ((gotF S9.late.reverse).map oRow) 45 2] ⟨rfl, rfl, rfl, rfl, rfl, rfl, rfl, rfl, rfl, rfl, trivial⟩ rfl ?_
        refine SC.no (show some (Value.bool (decide (((kk : Int) : Int) < ((gotF S9.late.reverse).length : Int)))) = some (Value.bool false) from congrArg (fun x => some (Value.bool x)) (decide_eq_false (by omega))) ?_
        refine SC.exit ?_
        refine SE.passe ?_
        refine SE.passe ?_
        refine SE.blke ?_
        refine SE.blkn ?_
        refine SC.of_SE ?_
        refine SC.norm [(0, sl ob oo l.length oc), (2, bo false), (4, pt p 0), (6, pt d 0), (7, iw (c + 1024)), (8, iw (i : Int))] [rBlk d [pt p 0, Value.slice qa12 S9.l.length ca13, Value.slice qb14 S9.late.length cb15, iw S9.nxt, iw S9.hv, iw S9.last, bo S9.gone] 52, rPool p ab S9.L, rRowN (.slice qa12 S9.l.length ca13) (pRows S9.l) 61 5, rRowN (.slice qb14 S9.late.length cb15) (pRows S9.late) 61 5, rBlk b16 [iw S9.nxt, iw S9.hv, iw (1024 - S9.hv), iw (S9.late.length : Int)] 41, rRowN (.slice q17 (gotF S9.late.reverse).length c18) ((gotF S9.late.reverse).map oRow) 45 2] ⟨rfl, rfl, rfl, rfl, rfl, rfl, trivial⟩ rfl ?_
        refine SC.region ?_
        refine SL.ru rfl rfl (lt_b rfl) (ru_move rfl rfl) ?_
        refine SL.ru rfl rfl (lt_b rfl) (ru_add (r := (IntKind.i64.wrap ((i : Int) + 1))) rfl rfl rfl rfl) ?_
        refine SL.ru rfl rfl (lt_b rfl) (ru_assign rfl rfl) ?_
        refine SL.nil ?_
        refine SE.keep 4 ?_
        refine SE.again N (i + 1, c, S9, qa12, ca13, qb14, cb15) (by omega) ⟨by simp only; omega, hR10, by simp only; omega, hG11⟩ ⟨rfl, rfl, rfl, rfl, rfl, (congrArg (fun x => some (iw x)) (show IntKind.i64.wrap ((i : Int) + 1) = ((i + 1 : Nat) : Int) by rw [IntKind.wrap_i64]; omega)), trivial⟩ rfl
      · skip
        obtain ⟨g, hg⟩ : ∃ g, (gotF S9.late.reverse)[kk]? = some g := ⟨_, List.getElem?_eq_getElem (by omega)⟩
        have hg9 := hR10.got hg
        refine SC.seq ?_
        refine SC.seq ?_
        refine SC.region ?_
        refine SL.ru rfl rfl (lt_b rfl) (ru_move rfl rfl) ?_
        refine SL.ru rfl rfl (lt_b rfl) (ru_move rfl rfl) ?_
        refine SL.ru rfl rfl (lt_b rfl) (ru_len Try.underlying43 rfl rfl) ?_
        refine SL.ru rfl rfl (lt_b rfl) (ru_lt (b := (decide (((kk : Int) : Int) < ((gotF S9.late.reverse).length : Int)))) rfl rfl rfl rfl) ?_
        refine SL.nil ?_
        refine SC.of_SE ?_
        refine SC.norm [(0, sl ob oo l.length oc), (2, bo false), (4, pt p 0), (6, pt d 0), (7, iw (c + 1024)), (8, iw (i : Int)), (13, pt b16 0), (14, Value.slice q17 ((gotF S9.late.reverse).length) c18), (15, iw (kk : Int)), (142, bo (decide (((kk : Int) : Int) < ((gotF S9.late.reverse).length : Int))))] [rBlk d [pt p 0, Value.slice qa12 S9.l.length ca13, Value.slice qb14 S9.late.length cb15, iw S9.nxt, iw S9.hv, iw S9.last, bo S9.gone] 52, rPool p ab S9.L, rRowN (.slice qa12 S9.l.length ca13) (pRows S9.l) 61 5, rRowN (.slice qb14 S9.late.length cb15) (pRows S9.late) 61 5, rBlk b16 [iw S9.nxt, iw S9.hv, iw (1024 - S9.hv), iw (S9.late.length : Int)] 41, rRowN (.slice q17 (gotF S9.late.reverse).length c18) ((gotF S9.late.reverse).map oRow) 45 2] ⟨rfl, rfl, rfl, rfl, rfl, rfl, rfl, rfl, rfl, rfl, trivial⟩ rfl ?_
        refine SC.yes (show some (Value.bool (decide (((kk : Int) : Int) < ((gotF S9.late.reverse).length : Int)))) = some (Value.bool true) from congrArg (fun x => some (Value.bool x)) (decide_eq_true (by omega))) ?_
        refine SC.skip ?_
        refine SC.of_SE ?_
        refine SC.norm [(0, sl ob oo l.length oc), (2, bo false), (4, pt p 0), (6, pt d 0), (7, iw (c + 1024)), (8, iw (i : Int)), (13, pt b16 0), (14, Value.slice q17 ((gotF S9.late.reverse).length) c18), (15, iw (kk : Int))] [rBlk d [pt p 0, Value.slice qa12 S9.l.length ca13, Value.slice qb14 S9.late.length cb15, iw S9.nxt, iw S9.hv, iw S9.last, bo S9.gone] 52, rPool p ab S9.L, rRowN (.slice qa12 S9.l.length ca13) (pRows S9.l) 61 5, rRowN (.slice qb14 S9.late.length cb15) (pRows S9.late) 61 5, rBlk b16 [iw S9.nxt, iw S9.hv, iw (1024 - S9.hv), iw (S9.late.length : Int)] 41, rRowN (.slice q17 (gotF S9.late.reverse).length c18) ((gotF S9.late.reverse).map oRow) 45 2] ⟨rfl, rfl, rfl, rfl, rfl, rfl, rfl, rfl, rfl, trivial⟩ rfl ?_
        refine SC.seq ?_
        refine SC.block ?_
        refine SC.seq ?_
        refine SC.region_quiet (by kernel_rfl) (by kernel_rfl) ?_
        refine SQ.ru rfl rfl (lt_b rfl) (ru_move rfl rfl) ?_
        refine SQ.ru rfl rfl (lt_b rfl) (ru_move rfl rfl) ?_
        refine SQ.ru rfl rfl (lt_b rfl) (ru_index_rowN (ri := 5) si43 rfl rfl rfl rfl (by omega) (by omega)) ?_
        refine SQ.ru rfl rfl (lt_b rfl) (ru_indexA (o2 := (kk : Int).toNat * 2 + 0) ar45 rfl rfl rfl (by decide) (by decide) rfl) ?_
        refine SQ.ru rfl rfl (lt_b rfl) (ru_load_rowN (ri := 5) (i := (kk : Int).toNat) (k := 0) (r := [iw g.1, iw g.2]) ts3 rfl rfl rfl (by rw [Int.toNat_natCast, List.getElem?_map, hg]; rfl) (by decide) rfl) ?_
        refine SQ.ru rfl rfl (lt_b rfl) (ru_fieldAddr (o2 := 0) fd41_0 rfl rfl rfl) ?_
        refine SQ.ru rfl rfl (lt_b rfl) (ru_load (i := 4) ts3 rfl rfl rfl rfl) ?_
        refine SQ.ru rfl rfl (lt_b rfl) (ru_le (b := (decide ((g.1 : Int) ≤ S9.nxt))) rfl rfl rfl rfl) ?_
        refine SQ.ru rfl rfl (lt_b rfl) (ru_move rfl rfl) ?_
        refine SQ.norm [(0, sl ob oo l.length oc), (2, bo false), (4, pt p 0), (6, pt d 0), (7, iw (c + 1024)), (8, iw (i : Int)), (13, pt b16 0), (14, Value.slice q17 ((gotF S9.late.reverse).length) c18), (15, iw (kk : Int)), (145, Value.slice q17 ((gotF S9.late.reverse).length) c18), (146, iw (kk : Int)), (147, Value.pointer (some ⟨rowB q17, (kk : Int).toNat * 2, none⟩)), (148, Value.pointer (some ⟨rowB q17, (kk : Int).toNat * 2 + 0, none⟩)), (149, iw g.1), (150, pt b16 0), (151, iw S9.nxt), (152, bo false), (153, bo false)] ⟨rfl, rfl, rfl, rfl, rfl, rfl, rfl, rfl, rfl, rfl, rfl, rfl, rfl, rfl, rfl, rfl, (congrArg (fun bx => some (Value.bool bx)) (show (decide ((g.1 : Int) ≤ S9.nxt)) = false from decide_eq_false (by omega))), (congrArg (fun bx => some (Value.bool bx)) (show (decide ((g.1 : Int) ≤ S9.nxt)) = false from decide_eq_false (by omega))), trivial⟩ ?_
        refine SQ.rug rfl rfl rfl rfl (lt_b rfl) (ru_move rfl rfl) ?_
        refine SQ.rug rfl rfl rfl rfl (lt_b rfl) (ru_move rfl rfl) ?_
        refine SQ.rug rfl rfl rfl rfl (lt_b rfl) (ru_index_rowN (ri := 5) si43 rfl rfl rfl rfl (by omega) (by omega)) ?_
        refine SQ.rug rfl rfl rfl rfl (lt_b rfl) (ru_indexA (o2 := (kk : Int).toNat * 2 + 1) ar45 rfl rfl rfl (by decide) (by decide) rfl) ?_
        refine SQ.rug rfl rfl rfl rfl (lt_b rfl) (ru_load_rowN (ri := 5) (i := (kk : Int).toNat) (k := 1) (r := [iw g.1, iw g.2]) ts3 rfl rfl rfl (by rw [Int.toNat_natCast, List.getElem?_map, hg]; rfl) (by decide) rfl) ?_
        refine SQ.rug rfl rfl rfl rfl (lt_b rfl) (ru_move rfl rfl) ?_
        refine SQ.rug rfl rfl rfl rfl (lt_b rfl) (ru_move rfl rfl) ?_
        refine SQ.rug rfl rfl rfl rfl (lt_b rfl) (ru_index_rowN (ri := 5) si43 rfl rfl rfl rfl (by omega) (by omega)) ?_
        refine SQ.rug rfl rfl rfl rfl (lt_b rfl) (ru_indexA (o2 := (kk : Int).toNat * 2 + 0) ar45 rfl rfl rfl (by decide) (by decide) rfl) ?_
        refine SQ.rug rfl rfl rfl rfl (lt_b rfl) (ru_load_rowN (ri := 5) (i := (kk : Int).toNat) (k := 0) (r := [iw g.1, iw g.2]) ts3 rfl rfl rfl (by rw [Int.toNat_natCast, List.getElem?_map, hg]; rfl) (by decide) rfl) ?_
        refine SQ.rug rfl rfl rfl rfl (lt_b rfl) (ru_le (b := (decide ((g.2 : Int) ≤ g.1))) rfl rfl rfl rfl) ?_
        refine SQ.ru rfl rfl (lt_b rfl) (ru_pick (u := bo true) (v := bo (decide ((g.2 : Int) ≤ g.1))) rfl rfl rfl rfl) ?_
        refine SQ.ru rfl rfl (lt_b rfl) (ru_move rfl rfl) ?_
        refine SQ.norm [(0, sl ob oo l.length oc), (2, bo false), (4, pt p 0), (6, pt d 0), (7, iw (c + 1024)), (8, iw (i : Int)), (13, pt b16 0), (14, Value.slice q17 ((gotF S9.late.reverse).length) c18), (15, iw (kk : Int)), (145, Value.slice q17 ((gotF S9.late.reverse).length) c18), (146, iw (kk : Int)), (147, Value.pointer (some ⟨rowB q17, (kk : Int).toNat * 2, none⟩)), (148, Value.pointer (some ⟨rowB q17, (kk : Int).toNat * 2 + 0, none⟩)), (149, iw g.1), (150, pt b16 0), (151, iw S9.nxt), (152, bo false), (153, bo false), (154, Value.slice q17 ((gotF S9.late.reverse).length) c18), (155, iw (kk : Int)), (156, Value.pointer (some ⟨rowB q17, (kk : Int).toNat * 2, none⟩)), (157, Value.pointer (some ⟨rowB q17, (kk : Int).toNat * 2 + 1, none⟩)), (158, iw g.2), (159, Value.slice q17 ((gotF S9.late.reverse).length) c18), (160, iw (kk : Int)), (161, Value.pointer (some ⟨rowB q17, (kk : Int).toNat * 2, none⟩)), (162, Value.pointer (some ⟨rowB q17, (kk : Int).toNat * 2 + 0, none⟩)), (163, iw g.1), (164, bo false), (165, bo false), (166, bo false)] ⟨rfl, rfl, rfl, rfl, rfl, rfl, rfl, rfl, rfl, rfl, rfl, rfl, rfl, rfl, rfl, rfl, rfl, rfl, rfl, rfl, rfl, rfl, rfl, rfl, rfl, rfl, rfl, rfl, (congrArg (fun bx => some (Value.bool bx)) (show (decide ((g.2 : Int) ≤ g.1)) = false from decide_eq_false (by omega))), (congrArg (fun bx => some (Value.bool bx)) (show (decide ((g.2 : Int) ≤ g.1)) = false from decide_eq_false (by omega))), (congrArg (fun bx => some (Value.bool bx)) (show (decide ((g.2 : Int) ≤ g.1)) = false from decide_eq_false (by omega))), trivial⟩ ?_
        refine SQ.rug rfl rfl rfl rfl (lt_b rfl) (ru_move rfl rfl) ?_
        refine SQ.rug rfl rfl rfl rfl (lt_b rfl) (ru_move rfl rfl) ?_
        refine SQ.rug rfl rfl rfl rfl (lt_b rfl) (ru_index_rowN (ri := 5) si43 rfl rfl rfl rfl (by omega) (by omega)) ?_
        refine SQ.rug rfl rfl rfl rfl (lt_b rfl) (ru_indexA (o2 := (kk : Int).toNat * 2 + 1) ar45 rfl rfl rfl (by decide) (by decide) rfl) ?_
        refine SQ.rug rfl rfl rfl rfl (lt_b rfl) (ru_load_rowN (ri := 5) (i := (kk : Int).toNat) (k := 1) (r := [iw g.1, iw g.2]) ts3 rfl rfl rfl (by rw [Int.toNat_natCast, List.getElem?_map, hg]; rfl) (by decide) rfl) ?_
        refine SQ.rug rfl rfl rfl rfl (lt_b rfl) (ru_move rfl rfl) ?_
        refine SQ.rug rfl rfl rfl rfl (lt_b rfl) (ru_gt (b := (decide (((c + 1024) : Int) < g.2))) rfl rfl rfl rfl) ?_
        refine SQ.ru rfl rfl (lt_b rfl) (ru_pick (u := bo true) (v := bo (decide (((c + 1024) : Int) < g.2))) rfl rfl rfl rfl) ?_
        refine SQ.nilE ?_
        refine SC.of_SE ?_
        refine SC.norm [(0, sl ob oo l.length oc), (2, bo false), (4, pt p 0), (6, pt d 0), (7, iw (c + 1024)), (8, iw (i : Int)), (13, pt b16 0), (14, Value.slice q17 ((gotF S9.late.reverse).length) c18), (15, iw (kk : Int)), (174, bo (decide (((c + 1024) : Int) < g.2)))] [rBlk d [pt p 0, Value.slice qa12 S9.l.length ca13, Value.slice qb14 S9.late.length cb15, iw S9.nxt, iw S9.hv, iw S9.last, bo S9.gone] 52, rPool p ab S9.L, rRowN (.slice qa12 S9.l.length ca13) (pRows S9.l) 61 5, rRowN (.slice qb14 S9.late.length cb15) (pRows S9.late) 61 5, rBlk b16 [iw S9.nxt, iw S9.hv, iw (1024 - S9.hv), iw (S9.late.length : Int)] 41, rRowN (.slice q17 (gotF S9.late.reverse).length c18) ((gotF S9.late.reverse).map oRow) 45 2] ⟨rfl, rfl, rfl, rfl, rfl, rfl, rfl, rfl, rfl, rfl, trivial⟩ rfl ?_
        refine SC.no (show some (Value.bool (decide (((c + 1024) : Int) < g.2))) = some (Value.bool false) from congrArg (fun x => some (Value.bool x)) (decide_eq_false (by omega))) ?_
        refine SC.skip ?_
        refine SE.blkn ?_
        refine SC.of_SE ?_
        refine SC.norm [(0, sl ob oo l.length oc), (2, bo false), (4, pt p 0), (6, pt d 0), (7, iw (c + 1024)), (8, iw (i : Int)), (13, pt b16 0), (14, Value.slice q17 ((gotF S9.late.reverse).length) c18), (15, iw (kk : Int))] [rBlk d [pt p 0, Value.slice qa12 S9.l.length ca13, Value.slice qb14 S9.late.length cb15, iw S9.nxt, iw S9.hv, iw S9.last, bo S9.gone] 52, rPool p ab S9.L, rRowN (.slice qa12 S9.l.length ca13) (pRows S9.l) 61 5, rRowN (.slice qb14 S9.late.length cb15) (pRows S9.late) 61 5, rBlk b16 [iw S9.nxt, iw S9.hv, iw (1024 - S9.hv), iw (S9.late.length : Int)] 41, rRowN (.slice q17 (gotF S9.late.reverse).length c18) ((gotF S9.late.reverse).map oRow) 45 2] ⟨rfl, rfl, rfl, rfl, rfl, rfl, rfl, rfl, rfl, trivial⟩ rfl ?_
        refine SC.region ?_
        refine SL.ru rfl rfl (lt_b rfl) (ru_move rfl rfl) ?_
        refine SL.ru rfl rfl (lt_b rfl) (ru_add (r := (IntKind.i64.wrap ((kk : Int) + 1))) rfl rfl rfl rfl) ?_
        refine SL.ru rfl rfl (lt_b rfl) (ru_assign rfl rfl) ?_
        refine SL.nil ?_
        refine SE.keep 6 ?_
        refine SE.again Ng (kk + 1) (by omega) (by omega) ⟨rfl, rfl, rfl, rfl, rfl, rfl, rfl, rfl, (congrArg (fun x => some (iw x)) (show IntKind.i64.wrap ((kk : Int) + 1) = ((kk + 1 : Nat) : Int) by rw [IntKind.wrap_i64]; omega)), trivial⟩ rfl
    · skip
      refine SC.seq ?_
      refine SC.region ?_
      refine SL.ru rfl rfl (lt_b rfl) (ru_eq (b := ((k9 : Int) == 1)) rfl rfl rfl rfl) ?_
      refine SL.ru rfl rfl (lt_b rfl) (ru_assign rfl rfl) ?_
      refine SL.nil ?_
      refine SC.of_SE ?_
      refine SC.norm [(0, sl ob oo l.length oc), (2, bo false), (4, pt p 0), (6, pt d 0), (7, iw (c + 1024)), (8, iw (i : Int)), (92, bo ((k9 : Int) == 1))] [rBlk d [pt p 0, Value.slice q1 S.l.length c1, Value.slice q2 S.late.length c2, iw S.nxt, iw S.hv, iw S.last, bo S.gone] 52, rPool p ab S.L, rRowN (.slice q1 S.l.length c1) (pRows S.l) 61 5, rRowN (.slice q2 S.late.length c2) (pRows S.late) 61 5] ⟨rfl, rfl, rfl, rfl, rfl, rfl, rfl, trivial⟩ rfl ?_
      refine SC.both ((k9 : Int) == 1) rfl (fun h19 => ?_) (fun h19 => ?_)
      · skip
        refine SC.seq ?_
        refine SC.region ?_
        refine SL.ru rfl rfl (lt_b rfl) (ru_move rfl rfl) ?_
        refine SL.ru rfl rfl (lt_b rfl) (ru_move rfl rfl) ?_
        refine SL.ru rfl rfl (lt_b rfl) (ru_move rfl rfl) ?_
        refine SL.ru rfl rfl (lt_b rfl) (ru_indexS (o2 := oo + (i : Int).toNat * 7) si23 rfl rfl rfl (by omega) (by omega) rfl) ?_
        refine SL.ru rfl rfl (lt_b rfl) (ru_fieldAddr (o2 := (oo + (i : Int).toNat * 7 + 6)) fd32_6 rfl rfl rfl) ?_
        refine SL.ru rfl rfl (lt_b rfl) (ru_load_old (u := iw n9) hGf ts3 rfl rfl (by rw [Int.toNat_natCast]; exact hc 6 _ rfl)) ?_
        have hc9 : c ≤ 900000000000000000 := by omega
        refine SL.call (ζ := Rq × List UInt8 × Option Addr × Nat) (fun z => Value.slice z.2.2.1 z.2.1.length z.2.2.2) (fun z => QR d p ab q1 c1 q2 c2 z.1 ++ rMine (.slice z.2.2.1 z.2.1.length z.2.2.2) z.2.1 5 :: []) (fun z => (RI 60 (c + (z.2.1.length : Int)) z.1 []) ∧ z.2.1.length ≤ 1024 ∧ ∀ b, QG d p ab q1 c1 q2 c2 z.1 b → G b ∨ w.heap.size ≤ b) rfl rfl co11 rfl rfl rfl (lt_b rfl) (fun w5 hI => (read_ri hR hc9 (wrap_id hn9) (Inv.four hI)).mono fun e w2 ⟨q, c, h1, h2, h3, h4⟩ => by obtain ⟨k1, k2⟩ := Inv.rdto (l := []) hI h2 h3 h4 hG rfl; exact ⟨(readS n9 S, readO n9 S, q, c), h1, k1, (hR.read hc9 (wrap_id hn9)).2.1, (hR.read hc9 (wrap_id hn9)).2.2, k2⟩) ?_
        rintro ⟨S20, o23, q24, c25⟩ ⟨hR21, hlo23, hG22⟩
        dsimp only at hR21 hlo23 hG22
        refine SL.ru rfl rfl (lt_b rfl) (ru_assign rfl rfl) ?_
        refine SL.nil ?_
        refine SC.of_SE ?_
        refine SC.norm [(0, sl ob oo l.length oc), (2, bo false), (4, pt p 0), (6, pt d 0), (7, iw (c + 1024)), (8, iw (i : Int)), (12, Value.slice q24 o23.length c25)] [rBlk d [pt p 0, Value.slice q1 S20.l.length c1, Value.slice q2 S20.late.length c2, iw S20.nxt, iw S20.hv, iw S20.last, bo S20.gone] 52, rPool p ab S20.L, rRowN (.slice q1 S20.l.length c1) (pRows S20.l) 61 5, rRowN (.slice q2 S20.late.length c2) (pRows S20.late) 61 5, rMine (.slice q24 o23.length c25) o23 5] ⟨rfl, rfl, rfl, rfl, rfl, rfl, rfl, trivial⟩ rfl ?_
        refine SC.region ?_
        refine SL.ru rfl rfl (lt_b rfl) (ru_move rfl rfl) ?_
        refine SL.ru rfl rfl (lt_b rfl) (ru_move rfl rfl) ?_
        refine SL.ru rfl rfl (lt_b rfl) (ru_len Try.underlying22 rfl rfl) ?_
        refine SL.ru rfl rfl (lt_b rfl) (ru_add (r := ((c + (o23.length : Int)) + 1024)) rfl rfl rfl ((by rw [IntKind.wrap_i64]; omega))) ?_
        refine SL.ru rfl rfl (lt_b rfl) (ru_assign rfl rfl) ?_
        refine SL.nil ?_
        refine SE.blkn ?_
        refine SC.of_SE ?_
        refine SC.norm [(0, sl ob oo l.length oc), (2, bo false), (4, pt p 0), (6, pt d 0), (7, iw ((c + (o23.length : Int)) + 1024)), (8, iw (i : Int))] [rBlk d [pt p 0, Value.slice q1 S20.l.length c1, Value.slice q2 S20.late.length c2, iw S20.nxt, iw S20.hv, iw S20.last, bo S20.gone] 52, rPool p ab S20.L, rRowN (.slice q1 S20.l.length c1) (pRows S20.l) 61 5, rRowN (.slice q2 S20.late.length c2) (pRows S20.late) 61 5, rMine (.slice q24 o23.length c25) o23 5] ⟨rfl, rfl, rfl, rfl, rfl, rfl, trivial⟩ rfl ?_
        refine SC.seq ?_
        have hf9 := hR21.facts
        refine SC.region ?_
        refine SL.ru rfl rfl (lt_b rfl) (ru_move rfl rfl) ?_
        refine SL.callv (Value.agg #[iw S20.nxt, iw S20.hv, iw (1024 - S20.hv), iw (S20.late.length : Int)]) rfl rfl co14 rfl rfl rfl (lt_b rfl) (fun w hI => H_only hI (stat_ri hR21 (Inv.four hI))) ?_
        refine SL.alloca rfl rfl (lt_b rfl) ta41 rfl fun b26 hb26 => ?_
        refine SL.storea (i := 5) (vs := [iw S20.nxt, iw S20.hv, iw (1024 - S20.hv), iw (S20.late.length : Int)]) (c' := [iw S20.nxt, iw S20.hv, iw (1024 - S20.hv), iw (S20.late.length : Int)]) rfl rfl ta41 rfl rfl rfl rfl rfl rfl (le_b rfl) (.inr hb26) rfl ?_
        refine SL.nil ?_
        refine SC.of_SE ?_
        refine SC.norm [(0, sl ob oo l.length oc), (2, bo false), (4, pt p 0), (6, pt d 0), (7, iw ((c + (o23.length : Int)) + 1024)), (8, iw (i : Int)), (13, pt b26 0)] [rBlk d [pt p 0, Value.slice q1 S20.l.length c1, Value.slice q2 S20.late.length c2, iw S20.nxt, iw S20.hv, iw S20.last, bo S20.gone] 52, rPool p ab S20.L, rRowN (.slice q1 S20.l.length c1) (pRows S20.l) 61 5, rRowN (.slice q2 S20.late.length c2) (pRows S20.late) 61 5, rMine (.slice q24 o23.length c25) o23 5, rBlk b26 [iw S20.nxt, iw S20.hv, iw (1024 - S20.hv), iw (S20.late.length : Int)] 41] ⟨rfl, rfl, rfl, rfl, rfl, rfl, rfl, trivial⟩ rfl ?_
        refine SC.seq ?_
        refine SC.seq ?_
        refine SC.region ?_
        refine SL.ru rfl rfl (lt_b rfl) (ru_fieldAddr (o2 := 0) fd41_0 rfl rfl rfl) ?_
        refine SL.ru rfl rfl (lt_b rfl) (ru_load (i := 5) ts3 rfl rfl rfl rfl) ?_
        refine SL.ru rfl rfl (lt_b rfl) (ru_fieldAddr (o2 := 2) fd41_2 rfl rfl rfl) ?_
        refine SL.ru rfl rfl (lt_b rfl) (ru_load (i := 5) ts3 rfl rfl rfl rfl) ?_
        refine SL.ru rfl rfl (lt_b rfl) (ru_add (r := ((c + (o23.length : Int)) + 1024)) rfl rfl rfl ((by rw [IntKind.wrap_i64]; omega))) ?_
        refine SL.ru rfl rfl (lt_b rfl) (ru_move rfl rfl) ?_
        refine SL.ru rfl rfl (lt_b rfl) (ru_ne (b := false) rfl rfl rfl (by simp)) ?_
        refine SL.ru rfl rfl (lt_b rfl) (ru_move rfl rfl) ?_
        refine SL.rug rfl rfl rfl rfl (lt_b rfl) (ru_fieldAddr (o2 := 1) fd41_1 rfl rfl rfl) ?_
        refine SL.rug rfl rfl rfl rfl (lt_b rfl) (ru_load (i := 5) ts3 rfl rfl rfl rfl) ?_
        refine SL.rug rfl rfl rfl rfl (lt_b rfl) (ru_lt (b := (decide ((S20.hv : Int) < 0))) rfl rfl rfl rfl) ?_
        refine SL.ru rfl rfl (lt_b rfl) (ru_pick (u := bo true) (v := bo (decide ((S20.hv : Int) < 0))) rfl rfl rfl rfl) ?_
        refine SL.ru rfl rfl (lt_b rfl) (ru_move rfl rfl) ?_
        refine SL.norm [(0, sl ob oo l.length oc), (2, bo false), (4, pt p 0), (6, pt d 0), (7, iw ((c + (o23.length : Int)) + 1024)), (8, iw (i : Int)), (13, pt b26 0), (107, pt b26 0), (108, iw S20.nxt), (109, pt b26 2), (110, iw (1024 - S20.hv)), (111, iw ((c + (o23.length : Int)) + 1024)), (112, iw ((c + (o23.length : Int)) + 1024)), (113, bo false), (114, bo false), (115, pt b26 1), (116, iw S20.hv), (117, bo false), (118, bo false), (119, bo false)] [rBlk d [pt p 0, Value.slice q1 S20.l.length c1, Value.slice q2 S20.late.length c2, iw S20.nxt, iw S20.hv, iw S20.last, bo S20.gone] 52, rPool p ab S20.L, rRowN (.slice q1 S20.l.length c1) (pRows S20.l) 61 5, rRowN (.slice q2 S20.late.length c2) (pRows S20.late) 61 5, rMine (.slice q24 o23.length c25) o23 5, rBlk b26 [iw S20.nxt, iw S20.hv, iw (1024 - S20.hv), iw (S20.late.length : Int)] 41] ⟨rfl, rfl, rfl, rfl, rfl, rfl, rfl, rfl, rfl, rfl, rfl, rfl, rfl, rfl, rfl, rfl, rfl, (congrArg (fun bx => some (Value.bool bx)) (show (decide ((S20.hv : Int) < 0)) = false from decide_eq_false (by omega))), (congrArg (fun bx => some (Value.bool bx)) (show (decide ((S20.hv : Int) < 0)) = false from decide_eq_false (by omega))), (congrArg (fun bx => some (Value.bool bx)) (show (decide ((S20.hv : Int) < 0)) = false from decide_eq_false (by omega))), trivial⟩ rfl ?_
        refine SL.rug rfl rfl rfl rfl (lt_b rfl) (ru_fieldAddr (o2 := 1) fd41_1 rfl rfl rfl) ?_
        refine SL.rug rfl rfl rfl rfl (lt_b rfl) (ru_load (i := 5) ts3 rfl rfl rfl rfl) ?_
        refine SL.rug rfl rfl rfl rfl (lt_b rfl) (ru_gt (b := (decide ((1024 : Int) < S20.hv))) rfl rfl rfl rfl) ?_
        refine SL.ru rfl rfl (lt_b rfl) (ru_pick (u := bo true) (v := bo (decide ((1024 : Int) < S20.hv))) rfl rfl rfl rfl) ?_
        refine SL.ru rfl rfl (lt_b rfl) (ru_move rfl rfl) ?_
        refine SL.norm [(0, sl ob oo l.length oc), (2, bo false), (4, pt p 0), (6, pt d 0), (7, iw ((c + (o23.length : Int)) + 1024)), (8, iw (i : Int)), (13, pt b26 0), (107, pt b26 0), (108, iw S20.nxt), (109, pt b26 2), (110, iw (1024 - S20.hv)), (111, iw ((c + (o23.length : Int)) + 1024)), (112, iw ((c + (o23.length : Int)) + 1024)), (113, bo false), (114, bo false), (115, pt b26 1), (116, iw S20.hv), (117, bo false), (118, bo false), (119, bo false), (120, pt b26 1), (121, iw S20.hv), (122, bo false), (123, bo false), (124, bo false)] [rBlk d [pt p 0, Value.slice q1 S20.l.length c1, Value.slice q2 S20.late.length c2, iw S20.nxt, iw S20.hv, iw S20.last, bo S20.gone] 52, rPool p ab S20.L, rRowN (.slice q1 S20.l.length c1) (pRows S20.l) 61 5, rRowN (.slice q2 S20.late.length c2) (pRows S20.late) 61 5, rMine (.slice q24 o23.length c25) o23 5, rBlk b26 [iw S20.nxt, iw S20.hv, iw (1024 - S20.hv), iw (S20.late.length : Int)] 41] ⟨rfl, rfl, rfl, rfl, rfl, rfl, rfl, rfl, rfl, rfl, rfl, rfl, rfl, rfl, rfl, rfl, rfl, rfl, rfl, rfl, rfl, rfl, (congrArg (fun bx => some (Value.bool bx)) (show (decide ((1024 : Int) < S20.hv)) = false from decide_eq_false (by omega))), (congrArg (fun bx => some (Value.bool bx)) (show (decide ((1024 : Int) < S20.hv)) = false from decide_eq_false (by omega))), (congrArg (fun bx => some (Value.bool bx)) (show (decide ((1024 : Int) < S20.hv)) = false from decide_eq_false (by omega))), trivial⟩ rfl ?_
        refine SL.rug rfl rfl rfl rfl (lt_b rfl) (ru_fieldAddr (o2 := 2) fd41_2 rfl rfl rfl) ?_
        refine SL.rug rfl rfl rfl rfl (lt_b rfl) (ru_load (i := 5) ts3 rfl rfl rfl rfl) ?_
        refine SL.rug rfl rfl rfl rfl (lt_b rfl) (ru_fieldAddr (o2 := 1) fd41_1 rfl rfl rfl) ?_
        refine SL.rug rfl rfl rfl rfl (lt_b rfl) (ru_load (i := 5) ts3 rfl rfl rfl rfl) ?_
        refine SL.rug rfl rfl rfl rfl (lt_b rfl) (ru_sub (r := (1024 - S20.hv)) rfl rfl rfl ((by rw [IntKind.wrap_i64]; omega))) ?_
        refine SL.rug rfl rfl rfl rfl (lt_b rfl) (ru_ne (b := false) rfl rfl rfl (by simp)) ?_
        refine SL.ru rfl rfl (lt_b rfl) (ru_pick (u := bo true) (v := bo false) rfl rfl rfl rfl) ?_
        refine SL.ru rfl rfl (lt_b rfl) (ru_move rfl rfl) ?_
        refine SL.rug rfl rfl rfl rfl (lt_b rfl) (ru_fieldAddr (o2 := 3) fd41_3 rfl rfl rfl) ?_
        refine SL.rug rfl rfl rfl rfl (lt_b rfl) (ru_load (i := 5) ts3 rfl rfl rfl rfl) ?_
        refine SL.rug rfl rfl rfl rfl (lt_b rfl) (ru_gt (b := (decide ((4 : Int) < (S20.late.length : Int)))) rfl rfl rfl rfl) ?_
        refine SL.ru rfl rfl (lt_b rfl) (ru_pick (u := bo true) (v := bo (decide ((4 : Int) < (S20.late.length : Int)))) rfl rfl rfl rfl) ?_
        refine SL.nil ?_
        refine SC.of_SE ?_
        refine SC.norm [(0, sl ob oo l.length oc), (2, bo false), (4, pt p 0), (6, pt d 0), (7, iw ((c + (o23.length : Int)) + 1024)), (8, iw (i : Int)), (13, pt b26 0), (136, bo (decide ((4 : Int) < (S20.late.length : Int))))] [rBlk d [pt p 0, Value.slice q1 S20.l.length c1, Value.slice q2 S20.late.length c2, iw S20.nxt, iw S20.hv, iw S20.last, bo S20.gone] 52, rPool p ab S20.L, rRowN (.slice q1 S20.l.length c1) (pRows S20.l) 61 5, rRowN (.slice q2 S20.late.length c2) (pRows S20.late) 61 5, rMine (.slice q24 o23.length c25) o23 5, rBlk b26 [iw S20.nxt, iw S20.hv, iw (1024 - S20.hv), iw (S20.late.length : Int)] 41] ⟨rfl, rfl, rfl, rfl, rfl, rfl, rfl, rfl, trivial⟩ rfl ?_
        refine SC.no (show some (Value.bool (decide ((4 : Int) < (S20.late.length : Int)))) = some (Value.bool false) from congrArg (fun x => some (Value.bool x)) (decide_eq_false (by omega))) ?_
        refine SC.skip ?_
        refine SC.of_SE ?_
        refine SC.norm [(0, sl ob oo l.length oc), (2, bo false), (4, pt p 0), (6, pt d 0), (7, iw ((c + (o23.length : Int)) + 1024)), (8, iw (i : Int)), (13, pt b26 0)] [rBlk d [pt p 0, Value.slice q1 S20.l.length c1, Value.slice q2 S20.late.length c2, iw S20.nxt, iw S20.hv, iw S20.last, bo S20.gone] 52, rPool p ab S20.L, rRowN (.slice q1 S20.l.length c1) (pRows S20.l) 61 5, rRowN (.slice q2 S20.late.length c2) (pRows S20.late) 61 5, rMine (.slice q24 o23.length c25) o23 5, rBlk b26 [iw S20.nxt, iw S20.hv, iw (1024 - S20.hv), iw (S20.late.length : Int)] 41] ⟨rfl, rfl, rfl, rfl, rfl, rfl, rfl, trivial⟩ rfl ?_
        refine SC.seq ?_
        refine SC.region ?_
        refine SL.ru rfl rfl (lt_b rfl) (ru_move rfl rfl) ?_
        refine SL.call (ζ := Option Addr × Nat) (fun z => Value.slice z.1 ((gotF S20.late.reverse).length) z.2) (fun z => [rBlk d [pt p 0, Value.slice q1 S20.l.length c1, Value.slice q2 S20.late.length c2, iw S20.nxt, iw S20.hv, iw S20.last, bo S20.gone] 52, rPool p ab S20.L, rRowN (.slice q1 S20.l.length c1) (pRows S20.l) 61 5, rRowN (.slice q2 S20.late.length c2) (pRows S20.late) 61 5, rMine (.slice q24 o23.length c25) o23 5, rBlk b26 [iw S20.nxt, iw S20.hv, iw (1024 - S20.hv), iw (S20.late.length : Int)] 41] ++ [rRowN (.slice z.1 (gotF S20.late.reverse).length z.2) ((gotF S20.late.reverse).map oRow) 45 2]) (fun z => True) rfl rfl co15 rfl rfl rfl (lt_b rfl) (fun w5 hI => (got_ri hR21 (Inv.four hI)).mono fun e w2 ⟨q, c, h1, h2, h3, h4⟩ => ⟨(q, c), h1, hI.add (r := rRowN (.slice q (gotF S20.late.reverse).length c) ((gotF S20.late.reverse).map oRow) 45 2) h4 h2 h3, trivial⟩) ?_
        rintro ⟨q27, c28⟩ _
        refine SL.ru rfl rfl (lt_b rfl) (ru_assign rfl rfl) ?_
        refine SL.nil ?_
        refine SC.of_SE ?_
        refine SC.norm [(0, sl ob oo l.length oc), (2, bo false), (4, pt p 0), (6, pt d 0), (7, iw ((c + (o23.length : Int)) + 1024)), (8, iw (i : Int)), (13, pt b26 0), (14, Value.slice q27 ((gotF S20.late.reverse).length) c28)] [rBlk d [pt p 0, Value.slice q1 S20.l.length c1, Value.slice q2 S20.late.length c2, iw S20.nxt, iw S20.hv, iw S20.last, bo S20.gone] 52, rPool p ab S20.L, rRowN (.slice q1 S20.l.length c1) (pRows S20.l) 61 5, rRowN (.slice q2 S20.late.length c2) (pRows S20.late) 61 5, rMine (.slice q24 o23.length c25) o23 5, rBlk b26 [iw S20.nxt, iw S20.hv, iw (1024 - S20.hv), iw (S20.late.length : Int)] 41, rRowN (.slice q27 (gotF S20.late.reverse).length c28) ((gotF S20.late.reverse).map oRow) 45 2] ⟨rfl, rfl, rfl, rfl, rfl, rfl, rfl, rfl, trivial⟩ rfl ?_
        refine SC.seq ?_
        refine SC.region ?_
        refine SL.ru rfl rfl (lt_b rfl) (ru_assign rfl rfl) ?_
        refine SL.nil ?_
        refine SC.of_SE ?_
        refine SC.norm [(0, sl ob oo l.length oc), (2, bo false), (4, pt p 0), (6, pt d 0), (7, iw ((c + (o23.length : Int)) + 1024)), (8, iw (i : Int)), (13, pt b26 0), (14, Value.slice q27 ((gotF S20.late.reverse).length) c28), (15, iw 0)] [rBlk d [pt p 0, Value.slice q1 S20.l.length c1, Value.slice q2 S20.late.length c2, iw S20.nxt, iw S20.hv, iw S20.last, bo S20.gone] 52, rPool p ab S20.L, rRowN (.slice q1 S20.l.length c1) (pRows S20.l) 61 5, rRowN (.slice q2 S20.late.length c2) (pRows S20.late) 61 5, rMine (.slice q24 o23.length c25) o23 5, rBlk b26 [iw S20.nxt, iw S20.hv, iw (1024 - S20.hv), iw (S20.late.length : Int)] 41, rRowN (.slice q27 (gotF S20.late.reverse).length c28) ((gotF S20.late.reverse).map oRow) 45 2] ⟨rfl, rfl, rfl, rfl, rfl, rfl, rfl, rfl, rfl, trivial⟩ rfl ?_
        refine SC.block ?_
        refine SC.loop (γ := Nat) (fun n9 z => [(0, sl ob oo l.length oc), (2, bo false), (4, pt p 0), (6, pt d 0), (7, iw ((c + (o23.length : Int)) + 1024)), (8, iw (i : Int)), (13, pt b26 0), (14, Value.slice q27 ((gotF S20.late.reverse).length) c28), (15, iw (z : Int))]) (fun n9 z => [rBlk d [pt p 0, Value.slice q1 S20.l.length c1, Value.slice q2 S20.late.length c2, iw S20.nxt, iw S20.hv, iw S20.last, bo S20.gone] 52, rPool p ab S20.L, rRowN (.slice q1 S20.l.length c1) (pRows S20.l) 61 5, rRowN (.slice q2 S20.late.length c2) (pRows S20.late) 61 5, rMine (.slice q24 o23.length c25) o23 5, rBlk b26 [iw S20.nxt, iw S20.hv, iw (1024 - S20.hv), iw (S20.late.length : Int)] 41, rRowN (.slice q27 (gotF S20.late.reverse).length c28) ((gotF S20.late.reverse).map oRow) 45 2]) (fun n9 z => n9 + z = (gotF S20.late.reverse).length) (gotF S20.late.reverse).length 0 rfl ⟨rfl, rfl, rfl, rfl, rfl, rfl, rfl, rfl, rfl, trivial⟩ rfl ?_
        rintro Ng kk hng
        have hgl := got_len S20.late.reverse
        rcases Ng with _ | Ng
        · skip
          refine SC.seq ?_
          refine SC.seq ?_
          refine SC.region ?_
          refine SL.ru rfl rfl (lt_b rfl) (ru_move rfl rfl) ?_
          refine SL.ru rfl rfl (lt_b rfl) (ru_move rfl rfl) ?_
          refine SL.ru rfl rfl (lt_b rfl) (ru_len Try.underlying43 rfl rfl) ?_
          refine SL.ru rfl rfl (lt_b rfl) (ru_lt (b := (decide (((kk : Int) : Int) < ((gotF S20.late.reverse).length : Int)))) rfl rfl rfl rfl) ?_
          refine SL.nil ?_
          refine SC.of_SE ?_
          refine SC.norm [(0, sl ob oo l.length oc), (2, bo false), (4, pt p 0), (6, pt d 0), (7, iw ((c + (o23.length : Int)) + 1024)), (8, iw (i : Int)), (13, pt b26 0), (14, Value.slice q27 ((gotF S20.late.reverse).length) c28), (15, iw (kk : Int)), (142, bo (decide (((kk : Int) : Int) < ((gotF S20.late.reverse).length : Int))))] [rBlk d [pt p 0, Value.slice q1 S20.l.length c1, Value.slice q2 S20.late.length c2, iw S20.nxt, iw S20.hv, iw S20.last, bo S20.gone] 52, rPool p ab S20.L, rRowN (.slice q1 S20.l.length c1) (pRows S20.l) 61 5, rRowN (.slice q2 S20.late.length c2) (pRows S20.late) 61 5, rMine (.slice q24 o23.length c25) o23 5, rBlk b26 [iw S20.nxt, iw S20.hv, iw (1024 - S20.hv), iw (S20.late.length : Int)] 41, rRowN (.slice q27 (gotF S20.late.reverse).length c28) ((gotF S20.late.reverse).map oRow) 45 2] ⟨rfl, rfl, rfl, rfl, rfl, rfl, rfl, rfl, rfl, rfl, trivial⟩ rfl ?_
          refine SC.no (show some (Value.bool (decide (((kk : Int) : Int) < ((gotF S20.late.reverse).length : Int)))) = some (Value.bool false) from congrArg (fun x => some (Value.bool x)) (decide_eq_false (by omega))) ?_
          refine SC.exit ?_
          refine SE.passe ?_
          refine SE.passe ?_
          refine SE.blke ?_
          refine SE.blkn ?_
          refine SC.of_SE ?_
          refine SC.norm [(0, sl ob oo l.length oc), (2, bo false), (4, pt p 0), (6, pt d 0), (7, iw ((c + (o23.length : Int)) + 1024)), (8, iw (i : Int))] [rBlk d [pt p 0, Value.slice q1 S20.l.length c1, Value.slice q2 S20.late.length c2, iw S20.nxt, iw S20.hv, iw S20.last, bo S20.gone] 52, rPool p ab S20.L, rRowN (.slice q1 S20.l.length c1) (pRows S20.l) 61 5, rRowN (.slice q2 S20.late.length c2) (pRows S20.late) 61 5, rMine (.slice q24 o23.length c25) o23 5, rBlk b26 [iw S20.nxt, iw S20.hv, iw (1024 - S20.hv), iw (S20.late.length : Int)] 41, rRowN (.slice q27 (gotF S20.late.reverse).length c28) ((gotF S20.late.reverse).map oRow) 45 2] ⟨rfl, rfl, rfl, rfl, rfl, rfl, trivial⟩ rfl ?_
          refine SC.region ?_
          refine SL.ru rfl rfl (lt_b rfl) (ru_move rfl rfl) ?_
          refine SL.ru rfl rfl (lt_b rfl) (ru_add (r := (IntKind.i64.wrap ((i : Int) + 1))) rfl rfl rfl rfl) ?_
          refine SL.ru rfl rfl (lt_b rfl) (ru_assign rfl rfl) ?_
          refine SL.nil ?_
          refine SE.keep 4 ?_
          refine SE.again N (i + 1, (c + (o23.length : Int)), S20, q1, c1, q2, c2) (by omega) ⟨by simp only; omega, hR21, by simp only; omega, hG22⟩ ⟨rfl, rfl, rfl, rfl, rfl, (congrArg (fun x => some (iw x)) (show IntKind.i64.wrap ((i : Int) + 1) = ((i + 1 : Nat) : Int) by rw [IntKind.wrap_i64]; omega)), trivial⟩ rfl
        · skip
          obtain ⟨g, hg⟩ : ∃ g, (gotF S20.late.reverse)[kk]? = some g := ⟨_, List.getElem?_eq_getElem (by omega)⟩
          have hg9 := hR21.got hg
          refine SC.seq ?_
          refine SC.seq ?_
          refine SC.region ?_
          refine SL.ru rfl rfl (lt_b rfl) (ru_move rfl rfl) ?_
          refine SL.ru rfl rfl (lt_b rfl) (ru_move rfl rfl) ?_
          refine SL.ru rfl rfl (lt_b rfl) (ru_len Try.underlying43 rfl rfl) ?_
          refine SL.ru rfl rfl (lt_b rfl) (ru_lt (b := (decide (((kk : Int) : Int) < ((gotF S20.late.reverse).length : Int)))) rfl rfl rfl rfl) ?_
          refine SL.nil ?_
          refine SC.of_SE ?_
          refine SC.norm [(0, sl ob oo l.length oc), (2, bo false), (4, pt p 0), (6, pt d 0), (7, iw ((c + (o23.length : Int)) + 1024)), (8, iw (i : Int)), (13, pt b26 0), (14, Value.slice q27 ((gotF S20.late.reverse).length) c28), (15, iw (kk : Int)), (142, bo (decide (((kk : Int) : Int) < ((gotF S20.late.reverse).length : Int))))] [rBlk d [pt p 0, Value.slice q1 S20.l.length c1, Value.slice q2 S20.late.length c2, iw S20.nxt, iw S20.hv, iw S20.last, bo S20.gone] 52, rPool p ab S20.L, rRowN (.slice q1 S20.l.length c1) (pRows S20.l) 61 5, rRowN (.slice q2 S20.late.length c2) (pRows S20.late) 61 5, rMine (.slice q24 o23.length c25) o23 5, rBlk b26 [iw S20.nxt, iw S20.hv, iw (1024 - S20.hv), iw (S20.late.length : Int)] 41, rRowN (.slice q27 (gotF S20.late.reverse).length c28) ((gotF S20.late.reverse).map oRow) 45 2] ⟨rfl, rfl, rfl, rfl, rfl, rfl, rfl, rfl, rfl, rfl, trivial⟩ rfl ?_
          refine SC.yes (show some (Value.bool (decide (((kk : Int) : Int) < ((gotF S20.late.reverse).length : Int)))) = some (Value.bool true) from congrArg (fun x => some (Value.bool x)) (decide_eq_true (by omega))) ?_
          refine SC.skip ?_
          refine SC.of_SE ?_
          refine SC.norm [(0, sl ob oo l.length oc), (2, bo false), (4, pt p 0), (6, pt d 0), (7, iw ((c + (o23.length : Int)) + 1024)), (8, iw (i : Int)), (13, pt b26 0), (14, Value.slice q27 ((gotF S20.late.reverse).length) c28), (15, iw (kk : Int))] [rBlk d [pt p 0, Value.slice q1 S20.l.length c1, Value.slice q2 S20.late.length c2, iw S20.nxt, iw S20.hv, iw S20.last, bo S20.gone] 52, rPool p ab S20.L, rRowN (.slice q1 S20.l.length c1) (pRows S20.l) 61 5, rRowN (.slice q2 S20.late.length c2) (pRows S20.late) 61 5, rMine (.slice q24 o23.length c25) o23 5, rBlk b26 [iw S20.nxt, iw S20.hv, iw (1024 - S20.hv), iw (S20.late.length : Int)] 41, rRowN (.slice q27 (gotF S20.late.reverse).length c28) ((gotF S20.late.reverse).map oRow) 45 2] ⟨rfl, rfl, rfl, rfl, rfl, rfl, rfl, rfl, rfl, trivial⟩ rfl ?_
          refine SC.seq ?_
          refine SC.block ?_
          refine SC.seq ?_
          refine SC.region_quiet (by kernel_rfl) (by kernel_rfl) ?_
          refine SQ.ru rfl rfl (lt_b rfl) (ru_move rfl rfl) ?_
          refine SQ.ru rfl rfl (lt_b rfl) (ru_move rfl rfl) ?_
          refine SQ.ru rfl rfl (lt_b rfl) (ru_index_rowN (ri := 6) si43 rfl rfl rfl rfl (by omega) (by omega)) ?_
          refine SQ.ru rfl rfl (lt_b rfl) (ru_indexA (o2 := (kk : Int).toNat * 2 + 0) ar45 rfl rfl rfl (by decide) (by decide) rfl) ?_
          refine SQ.ru rfl rfl (lt_b rfl) (ru_load_rowN (ri := 6) (i := (kk : Int).toNat) (k := 0) (r := [iw g.1, iw g.2]) ts3 rfl rfl rfl (by rw [Int.toNat_natCast, List.getElem?_map, hg]; rfl) (by decide) rfl) ?_
          refine SQ.ru rfl rfl (lt_b rfl) (ru_fieldAddr (o2 := 0) fd41_0 rfl rfl rfl) ?_
          refine SQ.ru rfl rfl (lt_b rfl) (ru_load (i := 5) ts3 rfl rfl rfl rfl) ?_
          refine SQ.ru rfl rfl (lt_b rfl) (ru_le (b := (decide ((g.1 : Int) ≤ S20.nxt))) rfl rfl rfl rfl) ?_
          refine SQ.ru rfl rfl (lt_b rfl) (ru_move rfl rfl) ?_
          refine SQ.norm [(0, sl ob oo l.length oc), (2, bo false), (4, pt p 0), (6, pt d 0), (7, iw ((c + (o23.length : Int)) + 1024)), (8, iw (i : Int)), (13, pt b26 0), (14, Value.slice q27 ((gotF S20.late.reverse).length) c28), (15, iw (kk : Int)), (145, Value.slice q27 ((gotF S20.late.reverse).length) c28), (146, iw (kk : Int)), (147, Value.pointer (some ⟨rowB q27, (kk : Int).toNat * 2, none⟩)), (148, Value.pointer (some ⟨rowB q27, (kk : Int).toNat * 2 + 0, none⟩)), (149, iw g.1), (150, pt b26 0), (151, iw S20.nxt), (152, bo false), (153, bo false)] ⟨rfl, rfl, rfl, rfl, rfl, rfl, rfl, rfl, rfl, rfl, rfl, rfl, rfl, rfl, rfl, rfl, (congrArg (fun bx => some (Value.bool bx)) (show (decide ((g.1 : Int) ≤ S20.nxt)) = false from decide_eq_false (by omega))), (congrArg (fun bx => some (Value.bool bx)) (show (decide ((g.1 : Int) ≤ S20.nxt)) = false from decide_eq_false (by omega))), trivial⟩ ?_
          refine SQ.rug rfl rfl rfl rfl (lt_b rfl) (ru_move rfl rfl) ?_
          refine SQ.rug rfl rfl rfl rfl (lt_b rfl) (ru_move rfl rfl) ?_
          refine SQ.rug rfl rfl rfl rfl (lt_b rfl) (ru_index_rowN (ri := 6) si43 rfl rfl rfl rfl (by omega) (by omega)) ?_
          refine SQ.rug rfl rfl rfl rfl (lt_b rfl) (ru_indexA (o2 := (kk : Int).toNat * 2 + 1) ar45 rfl rfl rfl (by decide) (by decide) rfl) ?_
          refine SQ.rug rfl rfl rfl rfl (lt_b rfl) (ru_load_rowN (ri := 6) (i := (kk : Int).toNat) (k := 1) (r := [iw g.1, iw g.2]) ts3 rfl rfl rfl (by rw [Int.toNat_natCast, List.getElem?_map, hg]; rfl) (by decide) rfl) ?_
          refine SQ.rug rfl rfl rfl rfl (lt_b rfl) (ru_move rfl rfl) ?_
          refine SQ.rug rfl rfl rfl rfl (lt_b rfl) (ru_move rfl rfl) ?_
          refine SQ.rug rfl rfl rfl rfl (lt_b rfl) (ru_index_rowN (ri := 6) si43 rfl rfl rfl rfl (by omega) (by omega)) ?_
          refine SQ.rug rfl rfl rfl rfl (lt_b rfl) (ru_indexA (o2 := (kk : Int).toNat * 2 + 0) ar45 rfl rfl rfl (by decide) (by decide) rfl) ?_
          refine SQ.rug rfl rfl rfl rfl (lt_b rfl) (ru_load_rowN (ri := 6) (i := (kk : Int).toNat) (k := 0) (r := [iw g.1, iw g.2]) ts3 rfl rfl rfl (by rw [Int.toNat_natCast, List.getElem?_map, hg]; rfl) (by decide) rfl) ?_
          refine SQ.rug rfl rfl rfl rfl (lt_b rfl) (ru_le (b := (decide ((g.2 : Int) ≤ g.1))) rfl rfl rfl rfl) ?_
          refine SQ.ru rfl rfl (lt_b rfl) (ru_pick (u := bo true) (v := bo (decide ((g.2 : Int) ≤ g.1))) rfl rfl rfl rfl) ?_
          refine SQ.ru rfl rfl (lt_b rfl) (ru_move rfl rfl) ?_
          refine SQ.norm [(0, sl ob oo l.length oc), (2, bo false), (4, pt p 0), (6, pt d 0), (7, iw ((c + (o23.length : Int)) + 1024)), (8, iw (i : Int)), (13, pt b26 0), (14, Value.slice q27 ((gotF S20.late.reverse).length) c28), (15, iw (kk : Int)), (145, Value.slice q27 ((gotF S20.late.reverse).length) c28), (146, iw (kk : Int)), (147, Value.pointer (some ⟨rowB q27, (kk : Int).toNat * 2, none⟩)), (148, Value.pointer (some ⟨rowB q27, (kk : Int).toNat * 2 + 0, none⟩)), (149, iw g.1), (150, pt b26 0), (151, iw S20.nxt), (152, bo false), (153, bo false), (154, Value.slice q27 ((gotF S20.late.reverse).length) c28), (155, iw (kk : Int)), (156, Value.pointer (some ⟨rowB q27, (kk : Int).toNat * 2, none⟩)), (157, Value.pointer (some ⟨rowB q27, (kk : Int).toNat * 2 + 1, none⟩)), (158, iw g.2), (159, Value.slice q27 ((gotF S20.late.reverse).length) c28), (160, iw (kk : Int)), (161, Value.pointer (some ⟨rowB q27, (kk : Int).toNat * 2, none⟩)), (162, Value.pointer (some ⟨rowB q27, (kk : Int).toNat * 2 + 0, none⟩)), (163, iw g.1), (164, bo false), (165, bo false), (166, bo false)] ⟨rfl, rfl, rfl, rfl, rfl, rfl, rfl, rfl, rfl, rfl, rfl, rfl, rfl, rfl, rfl, rfl, rfl, rfl, rfl, rfl, rfl, rfl, rfl, rfl, rfl, rfl, rfl, rfl, (congrArg (fun bx => some (Value.bool bx)) (show (decide ((g.2 : Int) ≤ g.1)) = false from decide_eq_false (by omega))), (congrArg (fun bx => some (Value.bool bx)) (show (decide ((g.2 : Int) ≤ g.1)) = false from decide_eq_false (by omega))), (congrArg (fun bx => some (Value.bool bx)) (show (decide ((g.2 : Int) ≤ g.1)) = false from decide_eq_false (by omega))), trivial⟩ ?_
          refine SQ.rug rfl rfl rfl rfl (lt_b rfl) (ru_move rfl rfl) ?_
          refine SQ.rug rfl rfl rfl rfl (lt_b rfl) (ru_move rfl rfl) ?_
          refine SQ.rug rfl rfl rfl rfl (lt_b rfl) (ru_index_rowN (ri := 6) si43 rfl rfl rfl rfl (by omega) (by omega)) ?_
          refine SQ.rug rfl rfl rfl rfl (lt_b rfl) (ru_indexA (o2 := (kk : Int).toNat * 2 + 1) ar45 rfl rfl rfl (by decide) (by decide) rfl) ?_
          refine SQ.rug rfl rfl rfl rfl (lt_b rfl) (ru_load_rowN (ri := 6) (i := (kk : Int).toNat) (k := 1) (r := [iw g.1, iw g.2]) ts3 rfl rfl rfl (by rw [Int.toNat_natCast, List.getElem?_map, hg]; rfl) (by decide) rfl) ?_
          refine SQ.rug rfl rfl rfl rfl (lt_b rfl) (ru_move rfl rfl) ?_
          refine SQ.rug rfl rfl rfl rfl (lt_b rfl) (ru_gt (b := (decide ((((c + (o23.length : Int)) + 1024) : Int) < g.2))) rfl rfl rfl rfl) ?_
          refine SQ.ru rfl rfl (lt_b rfl) (ru_pick (u := bo true) (v := bo (decide ((((c + (o23.length : Int)) + 1024) : Int) < g.2))) rfl rfl rfl rfl) ?_
          refine SQ.nilE ?_
          refine SC.of_SE ?_
          refine SC.norm [(0, sl ob oo l.length oc), (2, bo false), (4, pt p 0), (6, pt d 0), (7, iw ((c + (o23.length : Int)) + 1024)), (8, iw (i : Int)), (13, pt b26 0), (14, Value.slice q27 ((gotF S20.late.reverse).length) c28), (15, iw (kk : Int)), (174, bo (decide ((((c + (o23.length : Int)) + 1024) : Int) < g.2)))] [rBlk d [pt p 0, Value.slice q1 S20.l.length c1, Value.slice q2 S20.late.length c2, iw S20.nxt, iw S20.hv, iw S20.last, bo S20.gone] 52, rPool p ab S20.L, rRowN (.slice q1 S20.l.length c1) (pRows S20.l) 61 5, rRowN (.slice q2 S20.late.length c2) (pRows S20.late) 61 5, rMine (.slice q24 o23.length c25) o23 5, rBlk b26 [iw S20.nxt, iw S20.hv, iw (1024 - S20.hv), iw (S20.late.length : Int)] 41, rRowN (.slice q27 (gotF S20.late.reverse).length c28) ((gotF S20.late.reverse).map oRow) 45 2] ⟨rfl, rfl, rfl, rfl, rfl, rfl, rfl, rfl, rfl, rfl, trivial⟩ rfl ?_
          refine SC.no (show some (Value.bool (decide ((((c + (o23.length : Int)) + 1024) : Int) < g.2))) = some (Value.bool false) from congrArg (fun x => some (Value.bool x)) (decide_eq_false (by omega))) ?_
          refine SC.skip ?_
          refine SE.blkn ?_
          refine SC.of_SE ?_
          refine SC.norm [(0, sl ob oo l.length oc), (2, bo false), (4, pt p 0), (6, pt d 0), (7, iw ((c + (o23.length : Int)) + 1024)), (8, iw (i : Int)), (13, pt b26 0), (14, Value.slice q27 ((gotF S20.late.reverse).length) c28), (15, iw (kk : Int))] [rBlk d [pt p 0, Value.slice q1 S20.l.length c1, Value.slice q2 S20.late.length c2, iw S20.nxt, iw S20.hv, iw S20.last, bo S20.gone] 52, rPool p ab S20.L, rRowN (.slice q1 S20.l.length c1) (pRows S20.l) 61 5, rRowN (.slice q2 S20.late.length c2) (pRows S20.late) 61 5, rMine (.slice q24 o23.length c25) o23 5, rBlk b26 [iw S20.nxt, iw S20.hv, iw (1024 - S20.hv), iw (S20.late.length : Int)] 41, rRowN (.slice q27 (gotF S20.late.reverse).length c28) ((gotF S20.late.reverse).map oRow) 45 2] ⟨rfl, rfl, rfl, rfl, rfl, rfl, rfl, rfl, rfl, trivial⟩ rfl ?_
          refine SC.region ?_
          refine SL.ru rfl rfl (lt_b rfl) (ru_move rfl rfl) ?_
          refine SL.ru rfl rfl (lt_b rfl) (ru_add (r := (IntKind.i64.wrap ((kk : Int) + 1))) rfl rfl rfl rfl) ?_
          refine SL.ru rfl rfl (lt_b rfl) (ru_assign rfl rfl) ?_
          refine SL.nil ?_
          refine SE.keep 7 ?_
          refine SE.again Ng (kk + 1) (by omega) (by omega) ⟨rfl, rfl, rfl, rfl, rfl, rfl, rfl, rfl, (congrArg (fun x => some (iw x)) (show IntKind.i64.wrap ((kk : Int) + 1) = ((kk + 1 : Nat) : Int) by rw [IntKind.wrap_i64]; omega)), trivial⟩ rfl
      · skip
        refine SC.skip ?_
        refine SE.blkn ?_
        refine SC.of_SE ?_
        refine SC.norm [(0, sl ob oo l.length oc), (2, bo false), (4, pt p 0), (6, pt d 0), (7, iw (c + 1024)), (8, iw (i : Int))] [rBlk d [pt p 0, Value.slice q1 S.l.length c1, Value.slice q2 S.late.length c2, iw S.nxt, iw S.hv, iw S.last, bo S.gone] 52, rPool p ab S.L, rRowN (.slice q1 S.l.length c1) (pRows S.l) 61 5, rRowN (.slice q2 S.late.length c2) (pRows S.late) 61 5] ⟨rfl, rfl, rfl, rfl, rfl, rfl, trivial⟩ rfl ?_
        refine SC.seq ?_
        have hf9 := hR.facts
        refine SC.region ?_
        refine SL.ru rfl rfl (lt_b rfl) (ru_move rfl rfl) ?_
        refine SL.callv (Value.agg #[iw S.nxt, iw S.hv, iw (1024 - S.hv), iw (S.late.length : Int)]) rfl rfl co14 rfl rfl rfl (lt_b rfl) (fun w hI => H_only hI (stat_ri hR (Inv.four hI))) ?_
        refine SL.alloca rfl rfl (lt_b rfl) ta41 rfl fun b29 hb29 => ?_
        refine SL.storea (i := 4) (vs := [iw S.nxt, iw S.hv, iw (1024 - S.hv), iw (S.late.length : Int)]) (c' := [iw S.nxt, iw S.hv, iw (1024 - S.hv), iw (S.late.length : Int)]) rfl rfl ta41 rfl rfl rfl rfl rfl rfl (le_b rfl) (.inr hb29) rfl ?_
        refine SL.nil ?_
        refine SC.of_SE ?_
        refine SC.norm [(0, sl ob oo l.length oc), (2, bo false), (4, pt p 0), (6, pt d 0), (7, iw (c + 1024)), (8, iw (i : Int)), (13, pt b29 0)] [rBlk d [pt p 0, Value.slice q1 S.l.length c1, Value.slice q2 S.late.length c2, iw S.nxt, iw S.hv, iw S.last, bo S.gone] 52, rPool p ab S.L, rRowN (.slice q1 S.l.length c1) (pRows S.l) 61 5, rRowN (.slice q2 S.late.length c2) (pRows S.late) 61 5, rBlk b29 [iw S.nxt, iw S.hv, iw (1024 - S.hv), iw (S.late.length : Int)] 41] ⟨rfl, rfl, rfl, rfl, rfl, rfl, rfl, trivial⟩ rfl ?_
        refine SC.seq ?_
        refine SC.seq ?_
        refine SC.region ?_
        refine SL.ru rfl rfl (lt_b rfl) (ru_fieldAddr (o2 := 0) fd41_0 rfl rfl rfl) ?_
        refine SL.ru rfl rfl (lt_b rfl) (ru_load (i := 4) ts3 rfl rfl rfl rfl) ?_
        refine SL.ru rfl rfl (lt_b rfl) (ru_fieldAddr (o2 := 2) fd41_2 rfl rfl rfl) ?_
        refine SL.ru rfl rfl (lt_b rfl) (ru_load (i := 4) ts3 rfl rfl rfl rfl) ?_
        refine SL.ru rfl rfl (lt_b rfl) (ru_add (r := (c + 1024)) rfl rfl rfl ((by rw [IntKind.wrap_i64]; omega))) ?_
        refine SL.ru rfl rfl (lt_b rfl) (ru_move rfl rfl) ?_
        refine SL.ru rfl rfl (lt_b rfl) (ru_ne (b := false) rfl rfl rfl (by simp)) ?_
        refine SL.ru rfl rfl (lt_b rfl) (ru_move rfl rfl) ?_
        refine SL.rug rfl rfl rfl rfl (lt_b rfl) (ru_fieldAddr (o2 := 1) fd41_1 rfl rfl rfl) ?_
        refine SL.rug rfl rfl rfl rfl (lt_b rfl) (ru_load (i := 4) ts3 rfl rfl rfl rfl) ?_
        refine SL.rug rfl rfl rfl rfl (lt_b rfl) (ru_lt (b := (decide ((S.hv : Int) < 0))) rfl rfl rfl rfl) ?_
        refine SL.ru rfl rfl (lt_b rfl) (ru_pick (u := bo true) (v := bo (decide ((S.hv : Int) < 0))) rfl rfl rfl rfl) ?_
        refine SL.ru rfl rfl (lt_b rfl) (ru_move rfl rfl) ?_
        refine SL.norm [(0, sl ob oo l.length oc), (2, bo false), (4, pt p 0), (6, pt d 0), (7, iw (c + 1024)), (8, iw (i : Int)), (13, pt b29 0), (107, pt b29 0), (108, iw S.nxt), (109, pt b29 2), (110, iw (1024 - S.hv)), (111, iw (c + 1024)), (112, iw (c + 1024)), (113, bo false), (114, bo false), (115, pt b29 1), (116, iw S.hv), (117, bo false), (118, bo false), (119, bo false)] [rBlk d [pt p 0, Value.slice q1 S.l.length c1, Value.slice q2 S.late.length c2, iw S.nxt, iw S.hv, iw S.last, bo S.gone] 52, rPool p ab S.L, rRowN (.slice q1 S.l.length c1) (pRows S.l) 61 5, rRowN (.slice q2 S.late.length c2) (pRows S.late) 61 5, rBlk b29 [iw S.nxt, iw S.hv, iw (1024 - S.hv), iw (S.late.length : Int)] 41] ⟨rfl, rfl, rfl, rfl, rfl, rfl, rfl, rfl, rfl, rfl, rfl, rfl, rfl, rfl, rfl, rfl, rfl, (congrArg (fun bx => some (Value.bool bx)) (show (decide ((S.hv : Int) < 0)) = false from decide_eq_false (by omega))), (congrArg (fun bx => some (Value.bool bx)) (show (decide ((S.hv : Int) < 0)) = false from decide_eq_false (by omega))), (congrArg (fun bx => some (Value.bool bx)) (show (decide ((S.hv : Int) < 0)) = false from decide_eq_false (by omega))), trivial⟩ rfl ?_
        refine SL.rug rfl rfl rfl rfl (lt_b rfl) (ru_fieldAddr (o2 := 1) fd41_1 rfl rfl rfl) ?_
        refine SL.rug rfl rfl rfl rfl (lt_b rfl) (ru_load (i := 4) ts3 rfl rfl rfl rfl) ?_
        refine SL.rug rfl rfl rfl rfl (lt_b rfl) (ru_gt (b := (decide ((1024 : Int) < S.hv))) rfl rfl rfl rfl) ?_
        refine SL.ru rfl rfl (lt_b rfl) (ru_pick (u := bo true) (v := bo (decide ((1024 : Int) < S.hv))) rfl rfl rfl rfl) ?_
        refine SL.ru rfl rfl (lt_b rfl) (ru_move rfl rfl) ?_
        refine SL.norm [(0, sl ob oo l.length oc), (2, bo false), (4, pt p 0), (6, pt d 0), (7, iw (c + 1024)), (8, iw (i : Int)), (13, pt b29 0), (107, pt b29 0), (108, iw S.nxt), (109, pt b29 2), (110, iw (1024 - S.hv)), (111, iw (c + 1024)), (112, iw (c + 1024)), (113, bo false), (114, bo false), (115, pt b29 1), (116, iw S.hv), (117, bo false), (118, bo false), (119, bo false), (120, pt b29 1), (121, iw S.hv), (122, bo false), (123, bo false), (124, bo false)] [rBlk d [pt p 0, Value.slice q1 S.l.length c1, Value.slice q2 S.late.length c2, iw S.nxt, iw S.hv, iw S.last, bo S.gone] 52, rPool p ab S.L, rRowN (.slice q1 S.l.length c1) (pRows S.l) 61 5, rRowN (.slice q2 S.late.length c2) (pRows S.late) 61 5, rBlk b29 [iw S.nxt, iw S.hv, iw (1024 - S.hv), iw (S.late.length : Int)] 41] ⟨rfl, rfl, rfl, rfl, rfl, rfl, rfl, rfl, rfl, rfl, rfl, rfl, rfl, rfl, rfl, rfl, rfl, rfl, rfl, rfl, rfl, rfl, (congrArg (fun bx => some (Value.bool bx)) (show (decide ((1024 : Int) < S.hv)) = false from decide_eq_false (by omega))), (congrArg (fun bx => some (Value.bool bx)) (show (decide ((1024 : Int) < S.hv)) = false from decide_eq_false (by omega))), (congrArg (fun bx => some (Value.bool bx)) (show (decide ((1024 : Int) < S.hv)) = false from decide_eq_false (by omega))), trivial⟩ rfl ?_
        refine SL.rug rfl rfl rfl rfl (lt_b rfl) (ru_fieldAddr (o2 := 2) fd41_2 rfl rfl rfl) ?_
        refine SL.rug rfl rfl rfl rfl (lt_b rfl) (ru_load (i := 4) ts3 rfl rfl rfl rfl) ?_
        refine SL.rug rfl rfl rfl rfl (lt_b rfl) (ru_fieldAddr (o2 := 1) fd41_1 rfl rfl rfl) ?_
        refine SL.rug rfl rfl rfl rfl (lt_b rfl) (ru_load (i := 4) ts3 rfl rfl rfl rfl) ?_
        refine SL.rug rfl rfl rfl rfl (lt_b rfl) (ru_sub (r := (1024 - S.hv)) rfl rfl rfl ((by rw [IntKind.wrap_i64]; omega))) ?_
        refine SL.rug rfl rfl rfl rfl (lt_b rfl) (ru_ne (b := false) rfl rfl rfl (by simp)) ?_
        refine SL.ru rfl rfl (lt_b rfl) (ru_pick (u := bo true) (v := bo false) rfl rfl rfl rfl) ?_
        refine SL.ru rfl rfl (lt_b rfl) (ru_move rfl rfl) ?_
        refine SL.rug rfl rfl rfl rfl (lt_b rfl) (ru_fieldAddr (o2 := 3) fd41_3 rfl rfl rfl) ?_
        refine SL.rug rfl rfl rfl rfl (lt_b rfl) (ru_load (i := 4) ts3 rfl rfl rfl rfl) ?_
        refine SL.rug rfl rfl rfl rfl (lt_b rfl) (ru_gt (b := (decide ((4 : Int) < (S.late.length : Int)))) rfl rfl rfl rfl) ?_
        refine SL.ru rfl rfl (lt_b rfl) (ru_pick (u := bo true) (v := bo (decide ((4 : Int) < (S.late.length : Int)))) rfl rfl rfl rfl) ?_
        refine SL.nil ?_
        refine SC.of_SE ?_
        refine SC.norm [(0, sl ob oo l.length oc), (2, bo false), (4, pt p 0), (6, pt d 0), (7, iw (c + 1024)), (8, iw (i : Int)), (13, pt b29 0), (136, bo (decide ((4 : Int) < (S.late.length : Int))))] [rBlk d [pt p 0, Value.slice q1 S.l.length c1, Value.slice q2 S.late.length c2, iw S.nxt, iw S.hv, iw S.last, bo S.gone] 52, rPool p ab S.L, rRowN (.slice q1 S.l.length c1) (pRows S.l) 61 5, rRowN (.slice q2 S.late.length c2) (pRows S.late) 61 5, rBlk b29 [iw S.nxt, iw S.hv, iw (1024 - S.hv), iw (S.late.length : Int)] 41] ⟨rfl, rfl, rfl, rfl, rfl, rfl, rfl, rfl, trivial⟩ rfl ?_
        refine SC.no (show some (Value.bool (decide ((4 : Int) < (S.late.length : Int)))) = some (Value.bool false) from congrArg (fun x => some (Value.bool x)) (decide_eq_false (by omega))) ?_
        refine SC.skip ?_
        refine SC.of_SE ?_
        refine SC.norm [(0, sl ob oo l.length oc), (2, bo false), (4, pt p 0), (6, pt d 0), (7, iw (c + 1024)), (8, iw (i : Int)), (13, pt b29 0)] [rBlk d [pt p 0, Value.slice q1 S.l.length c1, Value.slice q2 S.late.length c2, iw S.nxt, iw S.hv, iw S.last, bo S.gone] 52, rPool p ab S.L, rRowN (.slice q1 S.l.length c1) (pRows S.l) 61 5, rRowN (.slice q2 S.late.length c2) (pRows S.late) 61 5, rBlk b29 [iw S.nxt, iw S.hv, iw (1024 - S.hv), iw (S.late.length : Int)] 41] ⟨rfl, rfl, rfl, rfl, rfl, rfl, rfl, trivial⟩ rfl ?_
        refine SC.seq ?_
        refine SC.region ?_
        refine SL.ru rfl rfl (lt_b rfl) (ru_move rfl rfl) ?_
        refine SL.call (ζ := Option Addr × Nat) (fun z => Value.slice z.1 ((gotF S.late.reverse).length) z.2) (fun z => [rBlk d [pt p 0, Value.slice q1 S.l.length c1, Value.slice q2 S.late.length c2, iw S.nxt, iw S.hv, iw S.last, bo S.gone] 52, rPool p ab S.L, rRowN (.slice q1 S.l.length c1) (pRows S.l) 61 5, rRowN (.slice q2 S.late.length c2) (pRows S.late) 61 5, rBlk b29 [iw S.nxt, iw S.hv, iw (1024 - S.hv), iw (S.late.length : Int)] 41] ++ [rRowN (.slice z.1 (gotF S.late.reverse).length z.2) ((gotF S.late.reverse).map oRow) 45 2]) (fun z => True) rfl rfl co15 rfl rfl rfl (lt_b rfl) (fun w5 hI => (got_ri hR (Inv.four hI)).mono fun e w2 ⟨q, c, h1, h2, h3, h4⟩ => ⟨(q, c), h1, hI.add (r := rRowN (.slice q (gotF S.late.reverse).length c) ((gotF S.late.reverse).map oRow) 45 2) h4 h2 h3, trivial⟩) ?_
        rintro ⟨q30, c31⟩ _
        refine SL.ru rfl rfl (lt_b rfl) (ru_assign rfl rfl) ?_
        refine SL.nil ?_
        refine SC.of_SE ?_
        refine SC.norm [(0, sl ob oo l.length oc), (2, bo false), (4, pt p 0), (6, pt d 0), (7, iw (c + 1024)), (8, iw (i : Int)), (13, pt b29 0), (14, Value.slice q30 ((gotF S.late.reverse).length) c31)] [rBlk d [pt p 0, Value.slice q1 S.l.length c1, Value.slice q2 S.late.length c2, iw S.nxt, iw S.hv, iw S.last, bo S.gone] 52, rPool p ab S.L, rRowN (.slice q1 S.l.length c1) (pRows S.l) 61 5, rRowN (.slice q2 S.late.length c2) (pRows S.late) 61 5, rBlk b29 [iw S.nxt, iw S.hv, iw (1024 - S.hv), iw (S.late.length : Int)] 41, rRowN (.slice q30 (gotF S.late.reverse).length c31) ((gotF S.late.reverse).map oRow) 45 2] ⟨rfl, rfl, rfl, rfl, rfl, rfl, rfl, rfl, trivial⟩ rfl ?_
        refine SC.seq ?_
        refine SC.region ?_
        refine SL.ru rfl rfl (lt_b rfl) (ru_assign rfl rfl) ?_
        refine SL.nil ?_
        refine SC.of_SE ?_
        refine SC.norm [(0, sl ob oo l.length oc), (2, bo false), (4, pt p 0), (6, pt d 0), (7, iw (c + 1024)), (8, iw (i : Int)), (13, pt b29 0), (14, Value.slice q30 ((gotF S.late.reverse).length) c31), (15, iw 0)] [rBlk d [pt p 0, Value.slice q1 S.l.length c1, Value.slice q2 S.late.length c2, iw S.nxt, iw S.hv, iw S.last, bo S.gone] 52, rPool p ab S.L, rRowN (.slice q1 S.l.length c1) (pRows S.l) 61 5, rRowN (.slice q2 S.late.length c2) (pRows S.late) 61 5, rBlk b29 [iw S.nxt, iw S.hv, iw (1024 - S.hv), iw (S.late.length : Int)] 41, rRowN (.slice q30 (gotF S.late.reverse).length c31) ((gotF S.late.reverse).map oRow) 45 2] ⟨rfl, rfl, rfl, rfl, rfl, rfl, rfl, rfl, rfl, trivial⟩ rfl ?_
        refine SC.block ?_
        refine SC.loop (γ := Nat) (fun n9 z => [(0, sl ob oo l.length oc), (2, bo false), (4, pt p 0), (6, pt d 0), (7, iw (c + 1024)), (8, iw (i : Int)), (13, pt b29 0), (14, Value.slice q30 ((gotF S.late.reverse).length) c31), (15, iw (z : Int))]) (fun n9 z => [rBlk d [pt p 0, Value.slice q1 S.l.length c1, Value.slice q2 S.late.length c2, iw S.nxt, iw S.hv, iw S.last, bo S.gone] 52, rPool p ab S.L, rRowN (.slice q1 S.l.length c1) (pRows S.l) 61 5, rRowN (.slice q2 S.late.length c2) (pRows S.late) 61 5, rBlk b29 [iw S.nxt, iw S.hv, iw (1024 - S.hv), iw (S.late.length : Int)] 41, rRowN (.slice q30 (gotF S.late.reverse).length c31) ((gotF S.late.reverse).map oRow) 45 2]) (fun n9 z => n9 + z = (gotF S.late.reverse).length) (gotF S.late.reverse).length 0 rfl ⟨rfl, rfl, rfl, rfl, rfl, rfl, rfl, rfl, rfl, trivial⟩ rfl ?_
        rintro Ng kk hng
        have hgl := got_len S.late.reverse
        rcases Ng with _ | Ng
        · skip
          refine SC.seq ?_
          refine SC.seq ?_
          refine SC.region ?_
          refine SL.ru rfl rfl (lt_b rfl) (ru_move rfl rfl) ?_
          refine SL.ru rfl rfl (lt_b rfl) (ru_move rfl rfl) ?_
          refine SL.ru rfl rfl (lt_b rfl) (ru_len Try.underlying43 rfl rfl) ?_
          refine SL.ru rfl rfl (lt_b rfl) (ru_lt (b := (decide (((kk : Int) : Int) < ((gotF S.late.reverse).length : Int)))) rfl rfl rfl rfl) ?_
          refine SL.nil ?_
          refine SC.of_SE ?_
          refine SC.norm [(0, sl ob oo l.length oc), (2, bo false), (4, pt p 0), (6, pt d 0), (7, iw (c + 1024)), (8, iw (i : Int)), (13, pt b29 0), (14, Value.slice q30 ((gotF S.late.reverse).length) c31), (15, iw (kk : Int)), (142, bo (decide (((kk : Int) : Int) < ((gotF S.late.reverse).length : Int))))] [rBlk d [pt p 0, Value.slice q1 S.l.length c1, Value.slice q2 S.late.length c2, iw S.nxt, iw S.hv, iw S.last, bo S.gone] 52, rPool p ab S.L, rRowN (.slice q1 S.l.length c1) (pRows S.l) 61 5, rRowN (.slice q2 S.late.length c2) (pRows S.late) 61 5, rBlk b29 [iw S.nxt, iw S.hv, iw (1024 - S.hv), iw (S.late.length : Int)] 41, rRowN (.slice q30 (gotF S.late.reverse).length c31) ((gotF S.late.reverse).map oRow) 45 2] ⟨rfl, rfl, rfl, rfl, rfl, rfl, rfl, rfl, rfl, rfl, trivial⟩ rfl ?_
          refine SC.no (show some (Value.bool (decide (((kk : Int) : Int) < ((gotF S.late.reverse).length : Int)))) = some (Value.bool false) from congrArg (fun x => some (Value.bool x)) (decide_eq_false (by omega))) ?_
          refine SC.exit ?_
          refine SE.passe ?_
          refine SE.passe ?_
          refine SE.blke ?_
          refine SE.blkn ?_
          refine SC.of_SE ?_
          refine SC.norm [(0, sl ob oo l.length oc), (2, bo false), (4, pt p 0), (6, pt d 0), (7, iw (c + 1024)), (8, iw (i : Int))] [rBlk d [pt p 0, Value.slice q1 S.l.length c1, Value.slice q2 S.late.length c2, iw S.nxt, iw S.hv, iw S.last, bo S.gone] 52, rPool p ab S.L, rRowN (.slice q1 S.l.length c1) (pRows S.l) 61 5, rRowN (.slice q2 S.late.length c2) (pRows S.late) 61 5, rBlk b29 [iw S.nxt, iw S.hv, iw (1024 - S.hv), iw (S.late.length : Int)] 41, rRowN (.slice q30 (gotF S.late.reverse).length c31) ((gotF S.late.reverse).map oRow) 45 2] ⟨rfl, rfl, rfl, rfl, rfl, rfl, trivial⟩ rfl ?_
          refine SC.region ?_
          refine SL.ru rfl rfl (lt_b rfl) (ru_move rfl rfl) ?_
          refine SL.ru rfl rfl (lt_b rfl) (ru_add (r := (IntKind.i64.wrap ((i : Int) + 1))) rfl rfl rfl rfl) ?_
          refine SL.ru rfl rfl (lt_b rfl) (ru_assign rfl rfl) ?_
          refine SL.nil ?_
          refine SE.keep 4 ?_
          refine SE.again N (i + 1, c, S, q1, c1, q2, c2) (by omega) ⟨by simp only; omega, hR, by simp only; omega, hG⟩ ⟨rfl, rfl, rfl, rfl, rfl, (congrArg (fun x => some (iw x)) (show IntKind.i64.wrap ((i : Int) + 1) = ((i + 1 : Nat) : Int) by rw [IntKind.wrap_i64]; omega)), trivial⟩ rfl
        · skip
          obtain ⟨g, hg⟩ : ∃ g, (gotF S.late.reverse)[kk]? = some g := ⟨_, List.getElem?_eq_getElem (by omega)⟩
          have hg9 := hR.got hg
          refine SC.seq ?_
          refine SC.seq ?_
          refine SC.region ?_
          refine SL.ru rfl rfl (lt_b rfl) (ru_move rfl rfl) ?_
          refine SL.ru rfl rfl (lt_b rfl) (ru_move rfl rfl) ?_
          refine SL.ru rfl rfl (lt_b rfl) (ru_len Try.underlying43 rfl rfl) ?_
          refine SL.ru rfl rfl (lt_b rfl) (ru_lt (b := (decide (((kk : Int) : Int) < ((gotF S.late.reverse).length : Int)))) rfl rfl rfl rfl) ?_
          refine SL.nil ?_
          refine SC.of_SE ?_
          refine SC.norm [(0, sl ob oo l.length oc), (2, bo false), (4, pt p 0), (6, pt d 0), (7, iw (c + 1024)), (8, iw (i : Int)), (13, pt b29 0), (14, Value.slice q30 ((gotF S.late.reverse).length) c31), (15, iw (kk : Int)), (142, bo (decide (((kk : Int) : Int) < ((gotF S.late.reverse).length : Int))))] [rBlk d [pt p 0, Value.slice q1 S.l.length c1, Value.slice q2 S.late.length c2, iw S.nxt, iw S.hv, iw S.last, bo S.gone] 52, rPool p ab S.L, rRowN (.slice q1 S.l.length c1) (pRows S.l) 61 5, rRowN (.slice q2 S.late.length c2) (pRows S.late) 61 5, rBlk b29 [iw S.nxt, iw S.hv, iw (1024 - S.hv), iw (S.late.length : Int)] 41, rRowN (.slice q30 (gotF S.late.reverse).length c31) ((gotF S.late.reverse).map oRow) 45 2] ⟨rfl, rfl, rfl, rfl, rfl, rfl, rfl, rfl, rfl, rfl, trivial⟩ rfl ?_
          refine SC.yes (show some (Value.bool (decide (((kk : Int) : Int) < ((gotF S.late.reverse).length : Int)))) = some (Value.bool true) from congrArg (fun x => some (Value.bool x)) (decide_eq_true (by omega))) ?_
          refine SC.skip ?_
          refine SC.of_SE ?_
          refine SC.norm [(0, sl ob oo l.length oc), (2, bo false), (4, pt p 0), (6, pt d 0), (7, iw (c + 1024)), (8, iw (i : Int)), (13, pt b29 0), (14, Value.slice q30 ((gotF S.late.reverse).length) c31), (15, iw (kk : Int))] [rBlk d [pt p 0, Value.slice q1 S.l.length c1, Value.slice q2 S.late.length c2, iw S.nxt, iw S.hv, iw S.last, bo S.gone] 52, rPool p ab S.L, rRowN (.slice q1 S.l.length c1) (pRows S.l) 61 5, rRowN (.slice q2 S.late.length c2) (pRows S.late) 61 5, rBlk b29 [iw S.nxt, iw S.hv, iw (1024 - S.hv), iw (S.late.length : Int)] 41, rRowN (.slice q30 (gotF S.late.reverse).length c31) ((gotF S.late.reverse).map oRow) 45 2] ⟨rfl, rfl, rfl, rfl, rfl, rfl, rfl, rfl, rfl, trivial⟩ rfl ?_
          refine SC.seq ?_
          refine SC.block ?_
          refine SC.seq ?_
          refine SC.region_quiet (by kernel_rfl) (by kernel_rfl) ?_
          refine SQ.ru rfl rfl (lt_b rfl) (ru_move rfl rfl) ?_
          refine SQ.ru rfl rfl (lt_b rfl) (ru_move rfl rfl) ?_
          refine SQ.ru rfl rfl (lt_b rfl) (ru_index_rowN (ri := 5) si43 rfl rfl rfl rfl (by omega) (by omega)) ?_
          refine SQ.ru rfl rfl (lt_b rfl) (ru_indexA (o2 := (kk : Int).toNat * 2 + 0) ar45 rfl rfl rfl (by decide) (by decide) rfl) ?_
          refine SQ.ru rfl rfl (lt_b rfl) (ru_load_rowN (ri := 5) (i := (kk : Int).toNat) (k := 0) (r := [iw g.1, iw g.2]) ts3 rfl rfl rfl (by rw [Int.toNat_natCast, List.getElem?_map, hg]; rfl) (by decide) rfl) ?_
          refine SQ.ru rfl rfl (lt_b rfl) (ru_fieldAddr (o2 := 0) fd41_0 rfl rfl rfl) ?_
          refine SQ.ru rfl rfl (lt_b rfl) (ru_load (i := 4) ts3 rfl rfl rfl rfl) ?_
          refine SQ.ru rfl rfl (lt_b rfl) (ru_le (b := (decide ((g.1 : Int) ≤ S.nxt))) rfl rfl rfl rfl) ?_
          refine SQ.ru rfl rfl (lt_b rfl) (ru_move rfl rfl) ?_
          refine SQ.norm [(0, sl ob oo l.length oc), (2, bo false), (4, pt p 0), (6, pt d 0), (7, iw (c + 1024)), (8, iw (i : Int)), (13, pt b29 0), (14, Value.slice q30 ((gotF S.late.reverse).length) c31), (15, iw (kk : Int)), (145, Value.slice q30 ((gotF S.late.reverse).length) c31), (146, iw (kk : Int)), (147, Value.pointer (some ⟨rowB q30, (kk : Int).toNat * 2, none⟩)), (148, Value.pointer (some ⟨rowB q30, (kk : Int).toNat * 2 + 0, none⟩)), (149, iw g.1), (150, pt b29 0), (151, iw S.nxt), (152, bo false), (153, bo false)] ⟨rfl, rfl, rfl, rfl, rfl, rfl, rfl, rfl, rfl, rfl, rfl, rfl, rfl, rfl, rfl, rfl, (congrArg (fun bx => some (Value.bool bx)) (show (decide ((g.1 : Int) ≤ S.nxt)) = false from decide_eq_false (by omega))), (congrArg (fun bx => some (Value.bool bx)) (show (decide ((g.1 : Int) ≤ S.nxt)) = false from decide_eq_false (by omega))), trivial⟩ ?_
          refine SQ.rug rfl rfl rfl rfl (lt_b rfl) (ru_move rfl rfl) ?_
          refine SQ.rug rfl rfl rfl rfl (lt_b rfl) (ru_move rfl rfl) ?_
          refine SQ.rug rfl rfl rfl rfl (lt_b rfl) (ru_index_rowN (ri := 5) si43 rfl rfl rfl rfl (by omega) (by omega)) ?_
          refine SQ.rug rfl rfl rfl rfl (lt_b rfl) (ru_indexA (o2 := (kk : Int).toNat * 2 + 1) ar45 rfl rfl rfl (by decide) (by decide) rfl) ?_
          refine SQ.rug rfl rfl rfl rfl (lt_b rfl) (ru_load_rowN (ri := 5) (i := (kk : Int).toNat) (k := 1) (r := [iw g.1, iw g.2]) ts3 rfl rfl rfl (by rw [Int.toNat_natCast, List.getElem?_map, hg]; rfl) (by decide) rfl) ?_
          refine SQ.rug rfl rfl rfl rfl (lt_b rfl) (ru_move rfl rfl) ?_
          refine SQ.rug rfl rfl rfl rfl (lt_b rfl) (ru_move rfl rfl) ?_
          refine SQ.rug rfl rfl rfl rfl (lt_b rfl) (ru_index_rowN (ri := 5) si43 rfl rfl rfl rfl (by omega) (by omega)) ?_
          refine SQ.rug rfl rfl rfl rfl (lt_b rfl) (ru_indexA (o2 := (kk : Int).toNat * 2 + 0) ar45 rfl rfl rfl (by decide) (by decide) rfl) ?_
          refine SQ.rug rfl rfl rfl rfl (lt_b rfl) (ru_load_rowN (ri := 5) (i := (kk : Int).toNat) (k := 0) (r := [iw g.1, iw g.2]) ts3 rfl rfl rfl (by rw [Int.toNat_natCast, List.getElem?_map, hg]; rfl) (by decide) rfl) ?_
          refine SQ.rug rfl rfl rfl rfl (lt_b rfl) (ru_le (b := (decide ((g.2 : Int) ≤ g.1))) rfl rfl rfl rfl) ?_
          refine SQ.ru rfl rfl (lt_b rfl) (ru_pick (u := bo true) (v := bo (decide ((g.2 : Int) ≤ g.1))) rfl rfl rfl rfl) ?_
          refine SQ.ru rfl rfl (lt_b rfl) (ru_move rfl rfl) ?_
          refine SQ.norm [(0, sl ob oo l.length oc), (2, bo false), (4, pt p 0), (6, pt d 0), (7, iw (c + 1024)), (8, iw (i : Int)), (13, pt b29 0), (14, Value.slice q30 ((gotF S.late.reverse).length) c31), (15, iw (kk : Int)), (145, Value.slice q30 ((gotF S.late.reverse).length) c31), (146, iw (kk : Int)), (147, Value.pointer (some ⟨rowB q30, (kk : Int).toNat * 2, none⟩)), (148, Value.pointer (some ⟨rowB q30, (kk : Int).toNat * 2 + 0, none⟩)), (149, iw g.1), (150, pt b29 0), (151, iw S.nxt), (152, bo false), (153, bo false), (154, Value.slice q30 ((gotF S.late.reverse).length) c31), (155, iw (kk : Int)), (156, Value.pointer (some ⟨rowB q30, (kk : Int).toNat * 2, none⟩)), (157, Value.pointer (some ⟨rowB q30, (kk : Int).toNat * 2 + 1, none⟩)), (158, iw g.2), (159, Value.slice q30 ((gotF S.late.reverse).length) c31), (160, iw (kk : Int)), (161, Value.pointer (some ⟨rowB q30, (kk : Int).toNat * 2, none⟩)), (162, Value.pointer (some ⟨rowB q30, (kk : Int).toNat * 2 + 0, none⟩)), (163, iw g.1), (164, bo false), (165, bo false), (166, bo false)] ⟨rfl, rfl, rfl, rfl, rfl, rfl, rfl, rfl, rfl, rfl, rfl, rfl, rfl, rfl, rfl, rfl, rfl, rfl, rfl, rfl, rfl, rfl, rfl, rfl, rfl, rfl, rfl, rfl, (congrArg (fun bx => some (Value.bool bx)) (show (decide ((g.2 : Int) ≤ g.1)) = false from decide_eq_false (by omega))), (congrArg (fun bx => some (Value.bool bx)) (show (decide ((g.2 : Int) ≤ g.1)) = false from decide_eq_false (by omega))), (congrArg (fun bx => some (Value.bool bx)) (show (decide ((g.2 : Int) ≤ g.1)) = false from decide_eq_false (by omega))), trivial⟩ ?_
          refine SQ.rug rfl rfl rfl rfl (lt_b rfl) (ru_move rfl rfl) ?_
          refine SQ.rug rfl rfl rfl rfl (lt_b rfl) (ru_move rfl rfl) ?_
          refine SQ.rug rfl rfl rfl rfl (lt_b rfl) (ru_index_rowN (ri := 5) si43 rfl rfl rfl rfl (by omega) (by omega)) ?_
          refine SQ.rug rfl rfl rfl rfl (lt_b rfl) (ru_indexA (o2 := (kk : Int).toNat * 2 + 1) ar45 rfl rfl rfl (by decide) (by decide) rfl) ?_
          refine SQ.rug rfl rfl rfl rfl (lt_b rfl) (ru_load_rowN (ri := 5) (i := (kk : Int).toNat) (k := 1) (r := [iw g.1, iw g.2]) ts3 rfl rfl rfl (by rw [Int.toNat_natCast, List.getElem?_map, hg]; rfl) (by decide) rfl) ?_
          refine SQ.rug rfl rfl rfl rfl (lt_b rfl) (ru_move rfl rfl) ?_
          refine SQ.rug rfl rfl rfl rfl (lt_b rfl) (ru_gt (b := (decide (((c + 1024) : Int) < g.2))) rfl rfl rfl rfl) ?_
          refine SQ.ru rfl rfl (lt_b rfl) (ru_pick (u := bo true) (v := bo (decide (((c + 1024) : Int) < g.2))) rfl rfl rfl rfl) ?_
          refine SQ.nilE ?_
          refine SC.of_SE ?_
          refine SC.norm [(0, sl ob oo l.length oc), (2, bo false), (4, pt p 0), (6, pt d 0), (7, iw (c + 1024)), (8, iw (i : Int)), (13, pt b29 0), (14, Value.slice q30 ((gotF S.late.reverse).length) c31), (15, iw (kk : Int)), (174, bo (decide (((c + 1024) : Int) < g.2)))] [rBlk d [pt p 0, Value.slice q1 S.l.length c1, Value.slice q2 S.late.length c2, iw S.nxt, iw S.hv, iw S.last, bo S.gone] 52, rPool p ab S.L, rRowN (.slice q1 S.l.length c1) (pRows S.l) 61 5, rRowN (.slice q2 S.late.length c2) (pRows S.late) 61 5, rBlk b29 [iw S.nxt, iw S.hv, iw (1024 - S.hv), iw (S.late.length : Int)] 41, rRowN (.slice q30 (gotF S.late.reverse).length c31) ((gotF S.late.reverse).map oRow) 45 2] ⟨rfl, rfl, rfl, rfl, rfl, rfl, rfl, rfl, rfl, rfl, trivial⟩ rfl ?_
          refine SC.no (show some (Value.bool (decide (((c + 1024) : Int) < g.2))) = some (Value.bool false) from congrArg (fun x => some (Value.bool x)) (decide_eq_false (by omega))) ?_
          refine SC.skip ?_
          refine SE.blkn ?_
          refine SC.of_SE ?_
          refine SC.norm [(0, sl ob oo l.length oc), (2, bo false), (4, pt p 0), (6, pt d 0), (7, iw (c + 1024)), (8, iw (i : Int)), (13, pt b29 0), (14, Value.slice q30 ((gotF S.late.reverse).length) c31), (15, iw (kk : Int))] [rBlk d [pt p 0, Value.slice q1 S.l.length c1, Value.slice q2 S.late.length c2, iw S.nxt, iw S.hv, iw S.last, bo S.gone] 52, rPool p ab S.L, rRowN (.slice q1 S.l.length c1) (pRows S.l) 61 5, rRowN (.slice q2 S.late.length c2) (pRows S.late) 61 5, rBlk b29 [iw S.nxt, iw S.hv, iw (1024 - S.hv), iw (S.late.length : Int)] 41, rRowN (.slice q30 (gotF S.late.reverse).length c31) ((gotF S.late.reverse).map oRow) 45 2] ⟨rfl, rfl, rfl, rfl, rfl, rfl, rfl, rfl, rfl, trivial⟩ rfl ?_
          refine SC.region ?_
          refine SL.ru rfl rfl (lt_b rfl) (ru_move rfl rfl) ?_
          refine SL.ru rfl rfl (lt_b rfl) (ru_add (r := (IntKind.i64.wrap ((kk : Int) + 1))) rfl rfl rfl rfl) ?_
          refine SL.ru rfl rfl (lt_b rfl) (ru_assign rfl rfl) ?_
          refine SL.nil ?_
          refine SE.keep 6 ?_
          refine SE.again Ng (kk + 1) (by omega) (by omega) ⟨rfl, rfl, rfl, rfl, rfl, rfl, rfl, rfl, (congrArg (fun x => some (iw x)) (show IntKind.i64.wrap ((kk : Int) + 1) = ((kk + 1 : Nat) : Int) by rw [IntKind.wrap_i64]; omega)), trivial⟩ rfl
theorem room_walk (w : World) {vv : Value} {l : List OpZ} (h : OpsZ w vv l) : Calls Try.prog 4 #[vv] w fun e w' => e = .returned (.bool true) ∧ Only (fun _ => False) w w' := room_in h _ (fun _ h => h)

end Go.Proofs.Ytpgnklmmjdkhiaa

/-
  The arguments of the receiver's statements, opened.
-/
namespace Go.Proofs.Ytpgnklmmjdkhiaa
open Go.ChangeShapes Go.WideShapes Go.ChangeAt Go.RowKit Go.Deep
set_option maxRecDepth 100000
variable {H : Type} {enc : TypeId × Value → H} {w : World} {base b0 : Nat} {held : Bool} {r : Reach}

theorem open_bytes_arg {v : Value} {d : DataW H} {p : List MemPlace} (hv : Value.okWide Try.prog w r b0 22 v) (h : DataW.Trod enc Try.prog w base (fun _ => true) held 22 v d p) (hw : ∀ n ∈ DataW.weights Try.prog 22 d, n ≤ reachBytes) :
    ∃ l, BytesAt w v l ∧ sliceIn v (fun b => b < w.heap.size) := by
  obtain ⟨a, n, c, rfl⟩ := okWide_slice Try.underlying22 hv
  obtain ⟨fuel, hf⟩ := h
  obtain ⟨a', n', c', l, e, h1, h2⟩ := open_bytes (x := (d, p)) Try.underlying22 Try.underlying5 (by kernel_rfl) (by kernel_rfl) hf hw
  rw [e]
  exact ⟨l, h1, h2⟩
theorem ops_nil (a : Option Addr) (c : Nat) : OpsZ w (.slice a 0 c) [] := ⟨a, c, rfl, by simp, fun i hi => by simp at hi⟩
theorem open_ops_arg {v : Value} {d : DataW H} {p : List MemPlace} (hv : Value.okWide Try.prog w r b0 23 v) (h : DataW.Trod enc Try.prog w base (fun _ => true) held 23 v d p) (hw : ∀ n ∈ DataW.weights Try.prog 23 d, n ≤ reachBytes) :
    ∃ l, OpsZ w v l := by
  obtain ⟨a0, n0, c0, rfl⟩ := okWide_slice Try.underlying23 hv
  obtain ⟨fuel, hf⟩ := h
  have hB : Try.prog.bytesOf 32 = 72 := by kernel_rfl
  rcases open_slice_fields (x := (d, p)) Try.underlying23 Try.underlying32 (by kernel_rfl) (by kernel_rfl) hf with ⟨hcs, _⟩ | ⟨a, len, cap, m, D, Pl, hcs, _, hl, _, hm, hx, hi⟩
  · simp [Value.cells] at hcs
    obtain ⟨rfl, rfl, rfl⟩ := hcs
    exact ⟨[], ops_nil _ _⟩
  · simp [Value.cells] at hcs
    obtain ⟨rfl, rfl, rfl⟩ := hcs
    simp only [if_true] at hm
    subst hm
    obtain ⟨hx, _⟩ := Prod.mk.inj hx
    subst hx
    by_cases h0 : n0 = 0
    · subst h0; exact ⟨[], ops_nil _ _⟩
    have hlen : n0 * 72 ≤ 140737488351232 := by
      have := hw ((((List.range n0).map D).length + ((List.range (m - n0)).map fun j => D (n0 + j)).length) * 72) (by
        simp only [DataW.weights, Try.underlying23, List.mem_cons, hB]
        left; trivial)
      simp only [List.length_map, List.length_range, reachBytes] at this
      omega
    have each : ∀ i, i < n0 → ∃ o : OpZ, a.spot = none ∧ OpZAt w a.block (a.off + i * 7) o := by
      intro i hin
      obtain ⟨z, n, hD0, _, hys0, hf0⟩ := hi 0 (by omega)
      obtain ⟨v, y, hc0, _, _⟩ := hf0 0 _ rfl
      have hs : a.spot = none := plain_of_cell hc0
      obtain ⟨ys, n, hD, _, hys, hf⟩ := hi i (by omega)
      have hDm : D i ∈ (List.range n0).map D := List.mem_map.2 ⟨i, List.mem_range.2 hin, rfl⟩
      have hwi : ∀ n ∈ (DataW.agg (ys.map (·.1))).weights Try.prog 32, n ≤ reachBytes := by
        intro q hq
        refine hw q ?_
        simp only [DataW.weights, Try.underlying23, List.mem_cons, List.mem_append]
        right; left
        rw [← hD] at hq
        exact weights_all hDm hq
      obtain ⟨v0, y0, c0, q0, h0⟩ := hf 0 _ rfl
      obtain ⟨v1, y1, c1, q1, h1⟩ := hf 1 _ rfl
      obtain ⟨v2, y2, c2, q2, h2⟩ := hf 2 _ rfl
      obtain ⟨v3, y3, c3, q3, h3⟩ := hf 3 _ rfl
      obtain ⟨v4, y4, c4, q4, h4⟩ := hf 4 _ rfl
      obtain ⟨v5, y5, c5, q5, h5⟩ := hf 5 _ rfl
      obtain ⟨v6, y6, c6, q6, h6⟩ := hf 6 _ rfl
      have w2 := weights_agg Try.underlying32 hys hwi rfl q2
      obtain ⟨z0, hz0, _, _⟩ := DataW.trod_int Try.underlying3 h0
      obtain ⟨z1, hz1, _, _⟩ := DataW.trod_int Try.underlying3 h1
      obtain ⟨b, nn, cc, l, e, k1, k2⟩ := open_bytes Try.underlying22 Try.underlying5 (by kernel_rfl) (by kernel_rfl) h2 w2
      obtain ⟨z3, hz3, _, _⟩ := DataW.trod_int Try.underlying3 h3
      obtain ⟨z4, hz4, _, _⟩ := DataW.trod_int Try.underlying3 h4
      obtain ⟨z5, hz5, _⟩ := DataW.trod_bool Try.underlying4 h5
      obtain ⟨z6, hz6, _, u6⟩ := DataW.trod_int Try.underlying3 h6
      simp at hz0 hz1 hz3 hz4 hz5 hz6
      subst hz0 hz1 hz3 hz4 hz5 hz6 e
      rw [plain_add hs] at c0 c1 c2 c3 c4 c5 c6
      refine ⟨⟨z0, z1, .slice b nn cc, l, z3, z4, z5, z6⟩, hs, fun j u hj => ?_, k1, k2, wf_i64 u6⟩
      match j, hj with
      | 0, hj => simp at hj; subst hj; exact c0
      | 1, hj => simp at hj; subst hj; exact c1
      | 2, hj => simp at hj; subst hj; exact c2
      | 3, hj => simp at hj; subst hj; exact c3
      | 4, hj => simp at hj; subst hj; exact c4
      | 5, hj => simp at hj; subst hj; exact c5
      | 6, hj => simp at hj; subst hj; exact c6
      | j + 7, hj => simp at hj
    obtain ⟨_, hs, hfirst⟩ := each 0 (by omega)
    obtain ⟨g, hg⟩ : ∃ g : Nat → OpZ, ∀ i, i < n0 → OpZAt w a.block (a.off + i * 7) (g i) := by
      refine ⟨fun i => if h : i < n0 then Classical.choose (each i h) else ⟨0, 0, .slice none 0 0, [], 0, 0, false, 0⟩, fun i h => ?_⟩
      simp only [h, dite_true]
      exact (Classical.choose_spec (each i h)).2
    refine ⟨(List.range n0).map g, some a, _, by simp; rfl, by simp; omega, fun i hi => ⟨a.block, a.off, ?_, ?_⟩⟩
    · cases a; simp only at hs; subst hs; rfl
    · simp at hi
      simpa using hg i hi
end Go.Proofs.Ytpgnklmmjdkhiaa
