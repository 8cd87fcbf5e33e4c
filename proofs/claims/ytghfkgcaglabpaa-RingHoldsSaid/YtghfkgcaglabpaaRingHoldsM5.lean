/-
  What the proof of RingHolds stands on, part 5: each theorem by itself, under the conditions that it names.
-/
import Derived.Test.YtghfkgcaglabpaaRingHoldsM4
import Derived.ProofKit
import Derived.OpenShut
import Derived.ShutString
import Derived.ChangeOld
import Derived.SizedLaws
import Derived.ChangeSlices
import Derived.Deep.Slices
import Derived.Deep.Fields
import Derived.ChangeSame
/-
  RingHolds, where the number is one of 1 to 60.
-/
namespace Go.Proofs.Ytghfkgcaglabpaa
open Go.RowKit
set_option maxRecDepth 100000
set_option maxHeartbeats 4000000
theorem holds_in {w : World} {n : Nat} {J : RingA → List Int → List (List UInt8) → List (List UInt8) → Prop} (hL : RigLaw n J) (h1n : 1 ≤ n) (h60 : n ≤ 60) {vv : Value} {l : List OpX} (h : OpsX w vv l) (G : Nat → Prop) (hGf : ∀ b, ¬ G b) : Calls Try.prog 3 #[iw (n : Int), vv] w fun e w' => e = .returned (bo true) ∧ Only G w w' := by
  obtain ⟨oa, oc, rfl, hlen, hops⟩ := h
  refine calls_sc (l0 := []) (args := [iw (n : Int), Value.slice oa l.length oc]) G Try.func3 rfl 159 Try.ntmps3 (le_b rfl) ⟨⟨by simp, List.Pairwise.nil⟩, Only.refl _ _⟩ ?_
  show SC _ _ _ _ [(0, iw (n : Int)), (1, Value.slice oa l.length oc)] []
  refine SC.seq ?_
  refine SC.region ?_
  refine SL.ru rfl rfl (lt_b rfl) (ru_assign rfl rfl) ?_
  refine SL.nil ?_
  refine SC.of_SE ?_
  refine SC.norm [(0, iw (n : Int)), (1, Value.slice oa l.length oc), (4, bo false)] [] ⟨rfl, rfl, rfl, trivial⟩ rfl ?_
  refine SC.seq ?_
  refine SC.region ?_
  refine SL.callv (bo true) rfl rfl co6 rfl rfl rfl (lt_b rfl) (fun w hI => H_only hI (awake_any _)) ?_
  refine SL.ru rfl rfl (lt_b rfl) (ru_assign rfl rfl) ?_
  refine SL.nil ?_
  refine SC.of_SE ?_
  refine SC.norm [(0, iw (n : Int)), (1, Value.slice oa l.length oc), (4, bo false), (5, bo true)] [] ⟨rfl, rfl, rfl, rfl, trivial⟩ rfl ?_
  refine SC.seq ?_
  refine SC.region ?_
  refine SL.ru rfl rfl (lt_b rfl) (ru_move rfl rfl) ?_
  refine SL.call (ζ := Nat × Nat × Nat × Nat × Nat × Nat × Nat × Nat × (Nat → Prop)) (fun z => pt z.1 0) (fun z => [rBlk z.1 [pt z.2.1 0, pt z.2.2.1 0, pt z.2.2.2.2.1 0, pt z.2.2.2.2.2.1 0, pt z.2.2.2.2.2.2.1 0, pt z.2.2.2.2.2.2.2.1 0, Value.slice none 0 0, Value.slice none 0 0] 43, rRing z.2.2.2.2.1 z.2.1 z.2.2.1 z.2.2.2.1 z.2.2.2.2.2.2.2.2 (beg0 n)]) (fun z => w.heap.size ≤ z.1 ∧ (∀ b, rS z.2.2.2.2.1 z.2.1 z.2.2.1 z.2.2.2.1 b → G b ∨ w.heap.size ≤ b) ∧ ∀ b, z.2.2.2.2.2.2.2.2 b → G b ∨ w.heap.size ≤ b) rfl rfl co7 rfl rfl rfl (lt_b rfl) (fun w9 hI => (begun_in h1n h60).mono fun e2 w2 ⟨g, h1, l3, h2, h3⟩ => by obtain ⟨d, p, ab, r, e, q, s, F, k1, k2, k3, k4⟩ := h2.two hI h3 G; exact ⟨(g, d, p, ab, r, e, q, s, F), h1, k1, k2, k3, k4⟩) ?_
  rintro ⟨g, d, p, ab, r, e, q, s, F⟩ ⟨hg, hG, hF⟩
  dsimp only at hg hG hF
  refine SL.ru rfl rfl (lt_b rfl) (ru_assign rfl rfl) ?_
  refine SL.nil ?_
  refine SC.of_SE ?_
  refine SC.norm [(0, iw (n : Int)), (1, Value.slice oa l.length oc), (4, bo false), (5, bo true), (6, pt g 0)] [rBlk g [pt d 0, pt p 0, pt r 0, pt e 0, pt q 0, pt s 0, Value.slice none 0 0, Value.slice none 0 0] 43, rRing r d p ab F (beg0 n)] ⟨rfl, rfl, rfl, rfl, rfl, trivial⟩ rfl ?_
  refine SC.seq ?_
  refine SC.seq ?_
  refine SC.region ?_
  refine SL.ru rfl rfl (lt_b rfl) (ru_move rfl rfl) ?_
  refine SL.ru rfl rfl (lt_b rfl) (ru_not (c := false) rfl rfl rfl) ?_
  refine SL.ru rfl rfl (lt_b rfl) (ru_move rfl rfl) ?_
  refine SL.rug rfl rfl rfl rfl (lt_b rfl) (ru_move rfl rfl) ?_
  refine SL.rug rfl rfl rfl rfl (lt_b rfl) (ru_eqnil Try.underlying24 rfl rfl rfl rfl) ?_
  refine SL.ru rfl rfl (lt_b rfl) (ru_pick (u := bo true) (v := bo false) rfl rfl rfl rfl) ?_
  refine SL.nil ?_
  refine SC.of_SE ?_
  refine SC.norm [(0, iw (n : Int)), (1, Value.slice oa l.length oc), (4, bo false), (5, bo true), (6, pt g 0), (30, bo false)] [rBlk g [pt d 0, pt p 0, pt r 0, pt e 0, pt q 0, pt s 0, Value.slice none 0 0, Value.slice none 0 0] 43, rRing r d p ab F (beg0 n)] ⟨rfl, rfl, rfl, rfl, rfl, rfl, trivial⟩ rfl ?_
  refine SC.no rfl ?_
  refine SC.skip ?_
  refine SC.of_SE ?_
  refine SC.norm [(0, iw (n : Int)), (1, Value.slice oa l.length oc), (4, bo false), (6, pt g 0)] [rBlk g [pt d 0, pt p 0, pt r 0, pt e 0, pt q 0, pt s 0, Value.slice none 0 0, Value.slice none 0 0] 43, rRing r d p ab F (beg0 n)] ⟨rfl, rfl, rfl, rfl, trivial⟩ rfl ?_
  refine SC.seq ?_
  refine SC.region ?_
  refine SL.ru rfl rfl (lt_b rfl) (ru_move rfl rfl) ?_
  refine SL.makeInts (n := n) (bytes := 8) rfl rfl (lt_b rfl) rfl Try.underlying26 (by kernel_rfl) rfl rfl (by omega) (by omega) fun b1 hb1 => ?_
  refine SL.ru rfl rfl (lt_b rfl) (ru_assign rfl rfl) ?_
  refine SL.nil ?_
  refine SC.of_SE ?_
  refine SC.norm [(1, Value.slice oa l.length oc), (4, bo false), (6, pt g 0), (7, sl b1 0 n n)] [rBlk g [pt d 0, pt p 0, pt r 0, pt e 0, pt q 0, pt s 0, Value.slice none 0 0, Value.slice none 0 0] 43, rRing r d p ab F (beg0 n), rBlk b1 (ivs (List.replicate n 0)) 3] ⟨rfl, rfl, rfl, rfl, trivial⟩ rfl ?_
  refine SC.seq ?_
  refine SC.region ?_
  refine SL.alloc rfl rfl (lt_b rfl) ts27 rfl fun b2 hb2 => ?_
  refine SL.nil ?_
  refine SC.of_SE ?_
  refine SC.norm [(1, Value.slice oa l.length oc), (4, bo false), (6, pt g 0), (7, sl b1 0 n n), (8, pt b2 0)] [rBlk g [pt d 0, pt p 0, pt r 0, pt e 0, pt q 0, pt s 0, Value.slice none 0 0, Value.slice none 0 0] 43, rRing r d p ab F (beg0 n), rBlk b1 (ivs (List.replicate n 0)) 3, rBlk b2 [Value.slice none 0 0] 27] ⟨rfl, rfl, rfl, rfl, rfl, trivial⟩ rfl ?_
  refine SC.seq ?_
  refine SC.region ?_
  refine SL.alloc rfl rfl (lt_b rfl) ts27 rfl fun b3 hb3 => ?_
  refine SL.nil ?_
  refine SC.of_SE ?_
  refine SC.norm [(1, Value.slice oa l.length oc), (4, bo false), (6, pt g 0), (7, sl b1 0 n n), (8, pt b2 0), (9, pt b3 0)] [rBlk g [pt d 0, pt p 0, pt r 0, pt e 0, pt q 0, pt s 0, Value.slice none 0 0, Value.slice none 0 0] 43, rRing r d p ab F (beg0 n), rBlk b1 (ivs (List.replicate n 0)) 3, rBlk b2 [Value.slice none 0 0] 27, rBlk b3 [Value.slice none 0 0] 27] ⟨rfl, rfl, rfl, rfl, rfl, rfl, trivial⟩ rfl ?_
  refine SC.seq ?_
  refine SC.seq ?_
  refine SC.region ?_
  refine SL.ru rfl rfl (lt_b rfl) (ru_assign rfl rfl) ?_
  refine SL.nil ?_
  refine SC.of_SE ?_
  refine SC.norm [(1, Value.slice oa l.length oc), (4, bo false), (6, pt g 0), (7, sl b1 0 n n), (8, pt b2 0), (9, pt b3 0), (10, iw 0)] [rBlk g [pt d 0, pt p 0, pt r 0, pt e 0, pt q 0, pt s 0, Value.slice none 0 0, Value.slice none 0 0] 43, rRing r d p ab F (beg0 n), rBlk b1 (ivs (List.replicate n 0)) 3, rBlk b2 [Value.slice none 0 0] 27, rBlk b3 [Value.slice none 0 0] 27] ⟨rfl, rfl, rfl, rfl, rfl, rfl, rfl, trivial⟩ rfl ?_
  refine SC.block ?_
  refine SC.rows (rRowO (.slice none 0 0) [] 28) (fun b hb => by cases hb) (fun w => rowO_nil w 28) ?_
  refine SC.rows (rRowO (.slice none 0 0) [] 28) (fun b hb => by cases hb) (fun w => rowO_nil w 28) ?_
  refine SC.rows (rMany [] 5) (fun b hb => by obtain ⟨x, hx, _⟩ := hb; cases hx) (fun w x hx => by cases hx) ?_
  refine SC.reord [rBlk g [pt d 0, pt p 0, pt r 0, pt e 0, pt q 0, pt s 0, Value.slice none 0 0, Value.slice none 0 0] 43, rRing r d p ab F (beg0 n), rBlk b1 (ivs (List.replicate n 0)) 3, rBlk b2 [Value.slice none 0 0] 27, rRowO (.slice none 0 0) ([]) 28, rBlk b3 [Value.slice none 0 0] 27, rRowO (.slice none 0 0) ([]) 28, rMany ([]) 5] (by refine (perm_by [0, 1, 2, 3, 5, 4, 6, 7] rfl rfl)) ?_
  have hHB : w.heap.size ≤ b1 := hb1
  have hGC : w.heap.size ≤ b2 := hb2
  have hPC : w.heap.size ≤ b3 := hb3
  refine SC.loop (γ := RH) (fun k z => [(1, Value.slice oa l.length oc), (4, bo false), (6, pt g 0), (7, sl b1 0 n n), (8, pt b2 0), (9, pt b3 0), (10, iw (z.i : Int))]) (fun k z => [rBlk g [pt d 0, pt p 0, pt r 0, pt e 0, pt q 0, pt s 0, Value.slice none 0 0, Value.slice none 0 0] 43, rRing r d p ab z.F z.S, rBlk b1 (ivs z.held) 3, rBlk b2 [Value.slice z.qg z.gp.length z.cg] 27, rRowO (.slice z.qg z.gp.length z.cg) (z.gp.map (fun x : Value × List UInt8 => x.1)) 28, rBlk b3 [Value.slice z.qp z.ps.length z.cp] 27, rRowO (.slice z.qp z.ps.length z.cp) (z.ps.map (fun x : Value × List UInt8 => x.1)) 28, rMany z.ps 5]) (HP l w G J) l.length ⟨0, beg0 n, F, List.replicate n 0, [], none, 0, [], none, 0⟩ ⟨rfl, hL.beg, hF, fun x hx => by simp at hx, fun b hb => by simp [Value.ownBlock] at hb, fun b hb => by simp [Value.ownBlock] at hb⟩ ⟨rfl, rfl, rfl, rfl, rfl, rfl, rfl, trivial⟩ rfl ?_
  rintro N ⟨i, S, F, held, gp, qg, cg, ps, qp, cp⟩ ⟨hn, hJ, hF, hgp, hqg, hqp⟩
  dsimp only at hn hJ hF hgp hqg hqp
  rcases N with _ | N
  · skip
    refine SC.seq ?_
    refine SC.seq ?_
    refine SC.region ?_
    refine SL.ru rfl rfl (lt_b rfl) (ru_move rfl rfl) ?_
    refine SL.ru rfl rfl (lt_b rfl) (ru_move rfl rfl) ?_
    refine SL.ru rfl rfl (lt_b rfl) (ru_len Try.underlying22 rfl rfl) ?_
    refine SL.ru rfl rfl (lt_b rfl) (ru_lt (b := (decide (((i : Int) : Int) < (l.length : Int)))) rfl rfl rfl rfl) ?_
    refine SL.nil ?_
    refine SC.of_SE ?_
    refine SC.norm [(1, Value.slice oa l.length oc), (4, bo false), (6, pt g 0), (7, sl b1 0 n n), (8, pt b2 0), (9, pt b3 0), (10, iw (i : Int)), (45, bo (decide (((i : Int) : Int) < (l.length : Int))))] [rBlk g [pt d 0, pt p 0, pt r 0, pt e 0, pt q 0, pt s 0, Value.slice none 0 0, Value.slice none 0 0] 43, rRing r d p ab F S, rBlk b1 (ivs held) 3, rBlk b2 [Value.slice qg gp.length cg] 27, rRowO (.slice qg gp.length cg) (gp.map (fun x : Value × List UInt8 => x.1)) 28, rBlk b3 [Value.slice qp ps.length cp] 27, rRowO (.slice qp ps.length cp) (ps.map (fun x : Value × List UInt8 => x.1)) 28, rMany ps 5] ⟨rfl, rfl, rfl, rfl, rfl, rfl, rfl, rfl, trivial⟩ rfl ?_
    refine SC.no (show some (Value.bool (decide (((i : Int) : Int) < (l.length : Int)))) = some (Value.bool false) from congrArg (fun x => some (Value.bool x)) (decide_eq_false (by omega))) ?_
    refine SC.exit ?_
    refine SE.passe ?_
    refine SE.passe ?_
    refine SE.blke ?_
    refine SC.of_SE ?_
    refine SC.norm [(4, bo false)] [rBlk g [pt d 0, pt p 0, pt r 0, pt e 0, pt q 0, pt s 0, Value.slice none 0 0, Value.slice none 0 0] 43, rRing r d p ab F S, rBlk b1 (ivs held) 3, rBlk b2 [Value.slice qg gp.length cg] 27, rRowO (.slice qg gp.length cg) (gp.map (fun x : Value × List UInt8 => x.1)) 28, rBlk b3 [Value.slice qp ps.length cp] 27, rRowO (.slice qp ps.length cp) (ps.map (fun x : Value × List UInt8 => x.1)) 28, rMany ps 5] ⟨rfl, trivial⟩ rfl ?_
    refine SC.seq ?_
    refine SC.region ?_
    refine SL.ru rfl rfl (lt_b rfl) (ru_assign rfl rfl) ?_
    refine SL.nil ?_
    refine SC.of_SE ?_
    refine SC.norm [(4, bo true)] [rBlk g [pt d 0, pt p 0, pt r 0, pt e 0, pt q 0, pt s 0, Value.slice none 0 0, Value.slice none 0 0] 43, rRing r d p ab F S, rBlk b1 (ivs held) 3, rBlk b2 [Value.slice qg gp.length cg] 27, rRowO (.slice qg gp.length cg) (gp.map (fun x : Value × List UInt8 => x.1)) 28, rBlk b3 [Value.slice qp ps.length cp] 27, rRowO (.slice qp ps.length cp) (ps.map (fun x : Value × List UInt8 => x.1)) 28, rMany ps 5] ⟨rfl, trivial⟩ rfl ?_
    refine SC.ret ?_
    refine SE.res (.inl rfl) (res1 Try.results3 rfl) fun w1 hI => ⟨rfl, hI.2⟩
  · skip
    obtain ⟨ob, oo, ea, hop⟩ := hops i (by omega)
    obtain ⟨⟨k, m, ov, f, y⟩, hl⟩ : ∃ op : OpX, op = l[i]'(by omega) := ⟨_, rfl⟩
    rw [← hl] at hop
    obtain ⟨hc, hb0, hs0⟩ := hop
    simp only at hc hb0 hs0
    obtain ⟨fa, fc, rfl⟩ := hb0.form
    subst ea
    have hgl : gp.length ≤ 16 := by have := (hL.ok hJ).2.2.2.1; rwa [gp_len] at this
    have hpl : ps.length ≤ 16 := by have := (hL.ok hJ).2.2.2.2; rwa [gp_len] at this
    refine SC.seq ?_
    refine SC.seq ?_
    refine SC.region ?_
    refine SL.ru rfl rfl (lt_b rfl) (ru_move rfl rfl) ?_
    refine SL.ru rfl rfl (lt_b rfl) (ru_move rfl rfl) ?_
    refine SL.ru rfl rfl (lt_b rfl) (ru_len Try.underlying22 rfl rfl) ?_
    refine SL.ru rfl rfl (lt_b rfl) (ru_lt (b := (decide (((i : Int) : Int) < (l.length : Int)))) rfl rfl rfl rfl) ?_
    refine SL.nil ?_
    refine SC.of_SE ?_
    refine SC.norm [(1, sl ob oo l.length oc), (4, bo false), (6, pt g 0), (7, sl b1 0 n n), (8, pt b2 0), (9, pt b3 0), (10, iw (i : Int)), (45, bo (decide (((i : Int) : Int) < (l.length : Int))))] [rBlk g [pt d 0, pt p 0, pt r 0, pt e 0, pt q 0, pt s 0, Value.slice none 0 0, Value.slice none 0 0] 43, rRing r d p ab F S, rBlk b1 (ivs held) 3, rBlk b2 [Value.slice qg gp.length cg] 27, rRowO (.slice qg gp.length cg) (gp.map (fun x : Value × List UInt8 => x.1)) 28, rBlk b3 [Value.slice qp ps.length cp] 27, rRowO (.slice qp ps.length cp) (ps.map (fun x : Value × List UInt8 => x.1)) 28, rMany ps 5] ⟨rfl, rfl, rfl, rfl, rfl, rfl, rfl, rfl, trivial⟩ rfl ?_
    refine SC.yes (show some (Value.bool (decide (((i : Int) : Int) < (l.length : Int)))) = some (Value.bool true) from congrArg (fun x => some (Value.bool x)) (decide_eq_true (by omega))) ?_
    refine SC.skip ?_
    refine SC.of_SE ?_
    refine SC.norm [(1, sl ob oo l.length oc), (4, bo false), (6, pt g 0), (7, sl b1 0 n n), (8, pt b2 0), (9, pt b3 0), (10, iw (i : Int))] [rBlk g [pt d 0, pt p 0, pt r 0, pt e 0, pt q 0, pt s 0, Value.slice none 0 0, Value.slice none 0 0] 43, rRing r d p ab F S, rBlk b1 (ivs held) 3, rBlk b2 [Value.slice qg gp.length cg] 27, rRowO (.slice qg gp.length cg) (gp.map (fun x : Value × List UInt8 => x.1)) 28, rBlk b3 [Value.slice qp ps.length cp] 27, rRowO (.slice qp ps.length cp) (ps.map (fun x : Value × List UInt8 => x.1)) 28, rMany ps 5] ⟨rfl, rfl, rfl, rfl, rfl, rfl, rfl, trivial⟩ rfl ?_
    refine SC.seq ?_
    refine SC.block ?_
    refine SC.seq ?_
    refine SC.region ?_
    refine SL.ru rfl rfl (lt_b rfl) (ru_move rfl rfl) ?_
    refine SL.ru rfl rfl (lt_b rfl) (ru_move rfl rfl) ?_
    refine SL.ru rfl rfl (lt_b rfl) (ru_indexS (o2 := oo + (i : Int).toNat * 4) si22 rfl rfl rfl (by omega) (by omega) rfl) ?_
    refine SL.ru rfl rfl (lt_b rfl) (ru_loada_old (vs := [iw k, iw m, Value.slice fa f.length fc, bo y]) hGf ta30 rfl rfl rfl (by rw [Int.toNat_natCast]; exact hc)) ?_
    refine SL.alloca rfl rfl (lt_b rfl) ta30 rfl fun b4 hb4 => ?_
    refine SL.storea (i := 8) (vs := [iw k, iw m, Value.slice fa f.length fc, bo y]) (c' := [iw k, iw m, Value.slice fa f.length fc, bo y]) rfl rfl ta30 rfl rfl rfl rfl rfl rfl (le_b rfl) (.inr hb4) rfl ?_
    refine SL.nil ?_
    refine SC.of_SE ?_
    refine SC.norm [(1, sl ob oo l.length oc), (4, bo false), (6, pt g 0), (7, sl b1 0 n n), (8, pt b2 0), (9, pt b3 0), (10, iw (i : Int)), (11, pt b4 0)] [rBlk g [pt d 0, pt p 0, pt r 0, pt e 0, pt q 0, pt s 0, Value.slice none 0 0, Value.slice none 0 0] 43, rRing r d p ab F S, rBlk b1 (ivs held) 3, rBlk b2 [Value.slice qg gp.length cg] 27, rRowO (.slice qg gp.length cg) (gp.map (fun x : Value × List UInt8 => x.1)) 28, rBlk b3 [Value.slice qp ps.length cp] 27, rRowO (.slice qp ps.length cp) (ps.map (fun x : Value × List UInt8 => x.1)) 28, rMany ps 5, rBlk b4 [iw k, iw m, Value.slice fa f.length fc, bo y] 30] ⟨rfl, rfl, rfl, rfl, rfl, rfl, rfl, rfl, trivial⟩ rfl ?_
    refine SC.seq ?_
    refine SC.seq ?_
    refine SC.region ?_
    refine SL.ru rfl rfl (lt_b rfl) (ru_fieldAddr (o2 := 0) fd30_0 rfl rfl rfl) ?_
    refine SL.ru rfl rfl (lt_b rfl) (ru_load (i := 8) ts3 rfl rfl rfl rfl) ?_
    refine SL.nil ?_
    refine SC.of_SE ?_
    refine SC.norm [(1, sl ob oo l.length oc), (4, bo false), (6, pt g 0), (7, sl b1 0 n n), (8, pt b2 0), (9, pt b3 0), (10, iw (i : Int)), (11, pt b4 0), (53, iw k)] [rBlk g [pt d 0, pt p 0, pt r 0, pt e 0, pt q 0, pt s 0, Value.slice none 0 0, Value.slice none 0 0] 43, rRing r d p ab F S, rBlk b1 (ivs held) 3, rBlk b2 [Value.slice qg gp.length cg] 27, rRowO (.slice qg gp.length cg) (gp.map (fun x : Value × List UInt8 => x.1)) 28, rBlk b3 [Value.slice qp ps.length cp] 27, rRowO (.slice qp ps.length cp) (ps.map (fun x : Value × List UInt8 => x.1)) 28, rMany ps 5, rBlk b4 [iw k, iw m, Value.slice fa f.length fc, bo y] 30] ⟨rfl, rfl, rfl, rfl, rfl, rfl, rfl, rfl, rfl, trivial⟩ rfl ?_
    refine SC.block ?_
    refine SC.seq ?_
    refine SC.region ?_
    refine SL.ru rfl rfl (lt_b rfl) (ru_eq (b := ((k : Int) == 0)) rfl rfl rfl rfl) ?_
    refine SL.ru rfl rfl (lt_b rfl) (ru_assign rfl rfl) ?_
    refine SL.nil ?_
    refine SC.of_SE ?_
    refine SC.norm [(1, sl ob oo l.length oc), (4, bo false), (6, pt g 0), (7, sl b1 0 n n), (8, pt b2 0), (9, pt b3 0), (10, iw (i : Int)), (11, pt b4 0), (53, iw k), (54, bo ((k : Int) == 0))] [rBlk g [pt d 0, pt p 0, pt r 0, pt e 0, pt q 0, pt s 0, Value.slice none 0 0, Value.slice none 0 0] 43, rRing r d p ab F S, rBlk b1 (ivs held) 3, rBlk b2 [Value.slice qg gp.length cg] 27, rRowO (.slice qg gp.length cg) (gp.map (fun x : Value × List UInt8 => x.1)) 28, rBlk b3 [Value.slice qp ps.length cp] 27, rRowO (.slice qp ps.length cp) (ps.map (fun x : Value × List UInt8 => x.1)) 28, rMany ps 5, rBlk b4 [iw k, iw m, Value.slice fa f.length fc, bo y] 30] ⟨rfl, rfl, rfl, rfl, rfl, rfl, rfl, rfl, rfl, rfl, trivial⟩ rfl ?_
    refine SC.both ((k : Int) == 0) rfl (fun h5 => ?_) (fun h5 => ?_)
    · skip
      refine SC.seq ?_
      refine SC.region ?_
      refine SL.ru rfl rfl (lt_b rfl) (ru_move rfl rfl) ?_
      refine SL.ru rfl rfl (lt_b rfl) (ru_move rfl rfl) ?_
      refine SL.ru rfl rfl (lt_b rfl) (ru_fieldAddr (o2 := 2) fd30_2 rfl rfl rfl) ?_
      refine SL.ru rfl rfl (lt_b rfl) (ru_load (i := 8) ts28 rfl rfl rfl rfl) ?_
      refine SL.call (ζ := Nat → Prop) (fun F6 => bo true) (fun F6 => [rBlk g [pt d 0, pt p 0, pt r 0, pt e 0, pt q 0, pt s 0, Value.slice none 0 0, Value.slice none 0 0] 43, rRing r d p ab F6 ((getsF S held f).2.1), rBlk b1 (ivs ((getsF S held f).2.2)) 3, rBlk b2 [Value.slice qg gp.length cg] 27, rRowO (.slice qg gp.length cg) (gp.map (fun x : Value × List UInt8 => x.1)) 28, rBlk b3 [Value.slice qp ps.length cp] 27, rRowO (.slice qp ps.length cp) (ps.map (fun x : Value × List UInt8 => x.1)) 28, rMany ps 5, rBlk b4 [iw k, iw m, Value.slice fa f.length fc, bo y] 30]) (fun F6 => (∀ b, F6 b → G b ∨ w.heap.size ≤ b)) rfl rfl co8 rfl rfl rfl (lt_b rfl) (fun w9 hI => (c_gets hGf  ((hL.ok hJ).1) ((hL.ok hJ).2.1) hg (nG hGf hG) (nG hGf hF) hHB (hL.ok hJ).2.2.1 hb0 hs0 hI).mono fun e w2 ⟨h1, F2, h2, h3⟩ => ⟨F2, h1.trans (by rw [(hL.gets hJ f).1]), h2, fun b hb => .inr (h3 b hb)⟩) ?_
      intro F6 hF6
      refine SL.ru rfl rfl (lt_b rfl) (ru_assign rfl rfl) ?_
      refine SL.nil ?_
      refine SC.of_SE ?_
      refine SC.norm [(1, sl ob oo l.length oc), (4, bo false), (6, pt g 0), (7, sl b1 0 n n), (8, pt b2 0), (9, pt b3 0), (10, iw (i : Int)), (12, bo true)] [rBlk g [pt d 0, pt p 0, pt r 0, pt e 0, pt q 0, pt s 0, Value.slice none 0 0, Value.slice none 0 0] 43, rRing r d p ab F6 ((getsF S held f).2.1), rBlk b1 (ivs ((getsF S held f).2.2)) 3, rBlk b2 [Value.slice qg gp.length cg] 27, rRowO (.slice qg gp.length cg) (gp.map (fun x : Value × List UInt8 => x.1)) 28, rBlk b3 [Value.slice qp ps.length cp] 27, rRowO (.slice qp ps.length cp) (ps.map (fun x : Value × List UInt8 => x.1)) 28, rMany ps 5, rBlk b4 [iw k, iw m, Value.slice fa f.length fc, bo y] 30] ⟨rfl, rfl, rfl, rfl, rfl, rfl, rfl, rfl, trivial⟩ rfl ?_
      refine SC.seq ?_
      refine SC.region ?_
      refine SL.ru rfl rfl (lt_b rfl) (ru_move rfl rfl) ?_
      refine SL.ru rfl rfl (lt_b rfl) (ru_not (c := false) rfl rfl rfl) ?_
      refine SL.nil ?_
      refine SC.of_SE ?_
      refine SC.norm [(1, sl ob oo l.length oc), (4, bo false), (6, pt g 0), (7, sl b1 0 n n), (8, pt b2 0), (9, pt b3 0), (10, iw (i : Int)), (62, bo false)] [rBlk g [pt d 0, pt p 0, pt r 0, pt e 0, pt q 0, pt s 0, Value.slice none 0 0, Value.slice none 0 0] 43, rRing r d p ab F6 ((getsF S held f).2.1), rBlk b1 (ivs ((getsF S held f).2.2)) 3, rBlk b2 [Value.slice qg gp.length cg] 27, rRowO (.slice qg gp.length cg) (gp.map (fun x : Value × List UInt8 => x.1)) 28, rBlk b3 [Value.slice qp ps.length cp] 27, rRowO (.slice qp ps.length cp) (ps.map (fun x : Value × List UInt8 => x.1)) 28, rMany ps 5, rBlk b4 [iw k, iw m, Value.slice fa f.length fc, bo y] 30] ⟨rfl, rfl, rfl, rfl, rfl, rfl, rfl, rfl, trivial⟩ rfl ?_
      refine SC.no rfl ?_
      refine SC.skip ?_
      refine SE.blkn ?_
      refine SC.of_SE ?_
      refine SC.norm [(1, sl ob oo l.length oc), (4, bo false), (6, pt g 0), (7, sl b1 0 n n), (8, pt b2 0), (9, pt b3 0), (10, iw (i : Int))] [rBlk g [pt d 0, pt p 0, pt r 0, pt e 0, pt q 0, pt s 0, Value.slice none 0 0, Value.slice none 0 0] 43, rRing r d p ab F6 ((getsF S held f).2.1), rBlk b1 (ivs ((getsF S held f).2.2)) 3, rBlk b2 [Value.slice qg gp.length cg] 27, rRowO (.slice qg gp.length cg) (gp.map (fun x : Value × List UInt8 => x.1)) 28, rBlk b3 [Value.slice qp ps.length cp] 27, rRowO (.slice qp ps.length cp) (ps.map (fun x : Value × List UInt8 => x.1)) 28, rMany ps 5, rBlk b4 [iw k, iw m, Value.slice fa f.length fc, bo y] 30] ⟨rfl, rfl, rfl, rfl, rfl, rfl, rfl, trivial⟩ rfl ?_
      refine SC.seq ?_
      refine SC.region ?_
      refine SL.ru rfl rfl (lt_b rfl) (ru_move rfl rfl) ?_
      refine SL.ru rfl rfl (lt_b rfl) (ru_move rfl rfl) ?_
      refine SL.callv (bo true) rfl rfl co15 rfl rfl rfl (lt_b rfl) (fun w hI => (c_counted  ((hL.ok ((hL.gets hJ f).2)).1) ((hL.ok ((hL.gets hJ f).2)).2.1) hg (nG hGf hG) (nG hGf hF6) hHB (hL.ok ((hL.gets hJ f).2)).2.2.1 h1n (by omega) hI).mono fun e w2 ⟨h1, h2⟩ => ⟨h1.trans (by rw [hL.counted ((hL.gets hJ f).2)]), h2⟩) ?_
      refine SL.ru rfl rfl (lt_b rfl) (ru_assign rfl rfl) ?_
      refine SL.nil ?_
      refine SC.of_SE ?_
      refine SC.norm [(1, sl ob oo l.length oc), (4, bo false), (6, pt g 0), (7, sl b1 0 n n), (8, pt b2 0), (9, pt b3 0), (10, iw (i : Int)), (21, bo true)] [rBlk g [pt d 0, pt p 0, pt r 0, pt e 0, pt q 0, pt s 0, Value.slice none 0 0, Value.slice none 0 0] 43, rRing r d p ab F6 ((getsF S held f).2.1), rBlk b1 (ivs ((getsF S held f).2.2)) 3, rBlk b2 [Value.slice qg gp.length cg] 27, rRowO (.slice qg gp.length cg) (gp.map (fun x : Value × List UInt8 => x.1)) 28, rBlk b3 [Value.slice qp ps.length cp] 27, rRowO (.slice qp ps.length cp) (ps.map (fun x : Value × List UInt8 => x.1)) 28, rMany ps 5, rBlk b4 [iw k, iw m, Value.slice fa f.length fc, bo y] 30] ⟨rfl, rfl, rfl, rfl, rfl, rfl, rfl, rfl, trivial⟩ rfl ?_
      refine SC.seq ?_
      refine SC.region ?_
      refine SL.ru rfl rfl (lt_b rfl) (ru_move rfl rfl) ?_
      refine SL.ru rfl rfl (lt_b rfl) (ru_not (c := false) rfl rfl rfl) ?_
      refine SL.nil ?_
      refine SC.of_SE ?_
      refine SC.norm [(1, sl ob oo l.length oc), (4, bo false), (6, pt g 0), (7, sl b1 0 n n), (8, pt b2 0), (9, pt b3 0), (10, iw (i : Int)), (158, bo false)] [rBlk g [pt d 0, pt p 0, pt r 0, pt e 0, pt q 0, pt s 0, Value.slice none 0 0, Value.slice none 0 0] 43, rRing r d p ab F6 ((getsF S held f).2.1), rBlk b1 (ivs ((getsF S held f).2.2)) 3, rBlk b2 [Value.slice qg gp.length cg] 27, rRowO (.slice qg gp.length cg) (gp.map (fun x : Value × List UInt8 => x.1)) 28, rBlk b3 [Value.slice qp ps.length cp] 27, rRowO (.slice qp ps.length cp) (ps.map (fun x : Value × List UInt8 => x.1)) 28, rMany ps 5, rBlk b4 [iw k, iw m, Value.slice fa f.length fc, bo y] 30] ⟨rfl, rfl, rfl, rfl, rfl, rfl, rfl, rfl, trivial⟩ rfl ?_
      refine SC.no rfl ?_
      refine SC.skip ?_
      refine SE.blkn ?_
      refine SC.of_SE ?_
      refine SC.norm [(1, sl ob oo l.length oc), (4, bo false), (6, pt g 0), (7, sl b1 0 n n), (8, pt b2 0), (9, pt b3 0), (10, iw (i : Int))] [rBlk g [pt d 0, pt p 0, pt r 0, pt e 0, pt q 0, pt s 0, Value.slice none 0 0, Value.slice none 0 0] 43, rRing r d p ab F6 ((getsF S held f).2.1), rBlk b1 (ivs ((getsF S held f).2.2)) 3, rBlk b2 [Value.slice qg gp.length cg] 27, rRowO (.slice qg gp.length cg) (gp.map (fun x : Value × List UInt8 => x.1)) 28, rBlk b3 [Value.slice qp ps.length cp] 27, rRowO (.slice qp ps.length cp) (ps.map (fun x : Value × List UInt8 => x.1)) 28, rMany ps 5, rBlk b4 [iw k, iw m, Value.slice fa f.length fc, bo y] 30] ⟨rfl, rfl, rfl, rfl, rfl, rfl, rfl, trivial⟩ rfl ?_
      refine SC.region ?_
      refine SL.ru rfl rfl (lt_b rfl) (ru_move rfl rfl) ?_
      refine SL.ru rfl rfl (lt_b rfl) (ru_add (r := (IntKind.i64.wrap ((i : Int) + 1))) rfl rfl rfl rfl) ?_
      refine SL.ru rfl rfl (lt_b rfl) (ru_assign rfl rfl) ?_
      refine SL.nil ?_
      refine SE.pick [0, 1, 2, 3, 4, 5, 6, 7] rfl ?_
      refine SE.again N ⟨i + 1, (getsF S held f).2.1, F6, (getsF S held f).2.2, gp, qg, cg, ps, qp, cp⟩ (by omega) ⟨by simp only; omega, (hL.gets hJ f).2, hF6, hgp, hqg, hqp⟩ ⟨rfl, rfl, rfl, rfl, rfl, rfl, (congrArg (fun x => some (iw x)) (show IntKind.i64.wrap ((i : Int) + 1) = ((i + 1 : Nat) : Int) by rw [IntKind.wrap_i64]; omega)), trivial⟩ (by first | rfl | (simp only [List.map_append, List.map_cons, List.map_nil, List.length_append, List.length_cons, List.length_nil, List.map_drop, List.length_drop]; rfl))
    · skip
      refine SC.seq ?_
      refine SC.region ?_
      refine SL.ru rfl rfl (lt_b rfl) (ru_eq (b := ((k : Int) == 1)) rfl rfl rfl rfl) ?_
      refine SL.ru rfl rfl (lt_b rfl) (ru_assign rfl rfl) ?_
      refine SL.nil ?_
      refine SC.of_SE ?_
      refine SC.norm [(1, sl ob oo l.length oc), (4, bo false), (6, pt g 0), (7, sl b1 0 n n), (8, pt b2 0), (9, pt b3 0), (10, iw (i : Int)), (11, pt b4 0), (53, iw k), (63, bo ((k : Int) == 1))] [rBlk g [pt d 0, pt p 0, pt r 0, pt e 0, pt q 0, pt s 0, Value.slice none 0 0, Value.slice none 0 0] 43, rRing r d p ab F S, rBlk b1 (ivs held) 3, rBlk b2 [Value.slice qg gp.length cg] 27, rRowO (.slice qg gp.length cg) (gp.map (fun x : Value × List UInt8 => x.1)) 28, rBlk b3 [Value.slice qp ps.length cp] 27, rRowO (.slice qp ps.length cp) (ps.map (fun x : Value × List UInt8 => x.1)) 28, rMany ps 5, rBlk b4 [iw k, iw m, Value.slice fa f.length fc, bo y] 30] ⟨rfl, rfl, rfl, rfl, rfl, rfl, rfl, rfl, rfl, rfl, trivial⟩ rfl ?_
      refine SC.both ((k : Int) == 1) rfl (fun h7 => ?_) (fun h7 => ?_)
      · skip
        refine SC.seq ?_
        refine SC.fact (p := (seeF S.L m).1.head.length ≤ 288 ∧ (seeF S.L m).1.data.length ≤ 288) (fun w hI => ⟨Nat.le_trans (see_sizes (ring_at hI (i := 1) rfl).pool m).1 (by decide), Nat.le_trans (see_sizes (ring_at hI (i := 1) rfl).pool m).2 (by decide)⟩) fun hsz => ?_
        refine SC.region_mk_tailE [(11, 9)] 11 [(6, Mk.see ⟨159, w, G⟩ (seeF S.L m).1.refs (seeF S.L m).1.head (seeF S.L m).1.data (seeF S.L m).2 5), (10, Mk.blk ⟨159, w, G⟩ [iw 0, Value.slice none 0 0, Value.slice none 0 0] 33)] [(7, [6]), (8, [6]), (9, [6])] rfl rfl (by kernel_rfl) (by kernel_rfl) (by kernel_rfl) (by kernel_rfl) ?_
        refine SM.ru rfl rfl rfl (w_all rfl) rfl (lt_b rfl) (ru_move rfl rfl) ?_
        refine SM.ru rfl rfl rfl (w_all rfl) rfl (lt_b rfl) (ru_nilCheck rfl rfl) ?_
        refine SM.ru rfl rfl rfl (w_all rfl) rfl (lt_b rfl) (ru_fieldAddr (o2 := 1) fd43_1 rfl rfl rfl) ?_
        refine SM.ru rfl rfl rfl (w_all rfl) rfl (lt_b rfl) (ru_load (i := 0) ts37 rfl rfl rfl rfl) ?_
        refine SM.ru rfl rfl rfl (w_all rfl) rfl (lt_b rfl) (ru_fieldAddr (o2 := 1) fd30_1 rfl rfl rfl) ?_
        refine SM.ru rfl rfl rfl (w_all rfl) rfl (lt_b rfl) (ru_load (i := 8) ts3 rfl rfl rfl rfl) ?_
        refine SM.mkcall (s := Mk.see ⟨159, w, G⟩ (seeF S.L m).1.refs (seeF S.L m).1.head (seeF S.L m).1.data (seeF S.L m).2 5) rfl rfl rfl rfl (w_all rfl) rfl (lt_b rfl) rfl rfl rfl co9 rfl rfl (fun l' w hI => (see_any (ring_at hI (i := 1) rfl).pool m).mono fun e w2 ⟨qh, ch, qd, cd, h1, h2, h3, h4, h5, h6, h7⟩ => ⟨_, h1, ⟨qh, ch, qd, cd, fun b hb => Nat.le_trans hI.2.size (h4 b hb), fun b hb => Nat.le_trans hI.2.size (h5 b hb), rfl⟩, hI.saw2 h2 h3 h4 h5 h6 h7⟩) ?_
        rintro _ ⟨qh8, ch9, qd10, cd11, hqh8, hqd10, rfl⟩
        refine SM.ru rfl rfl rfl (w_all rfl) rfl (lt_b rfl) (ru_move rfl rfl) ?_
        refine SM.ru rfl rfl rfl (w_all rfl) rfl (lt_b rfl) (ru_extract rfl rfl rfl) ?_
        refine SM.ru rfl rfl rfl (w_all rfl) rfl (lt_b rfl) (ru_extract rfl rfl rfl) ?_
        refine SM.alloca rfl rfl rfl rfl (w_all rfl) rfl (lt_b rfl) rfl ta33 rfl fun b12 hb12 => ?_
        refine SM.nilL (l' := [rBlk g [pt d 0, pt p 0, pt r 0, pt e 0, pt q 0, pt s 0, Value.slice none 0 0, Value.slice none 0 0] 43, rRing r d p ab F S, rBlk b1 (ivs held) 3, rBlk b2 [Value.slice qg gp.length cg] 27, rRowO (.slice qg gp.length cg) (gp.map (fun x : Value × List UInt8 => x.1)) 28, rBlk b3 [Value.slice qp ps.length cp] 27, rRowO (.slice qp ps.length cp) (ps.map (fun x : Value × List UInt8 => x.1)) 28, rMany ps 5, rBlk b4 [iw k, iw m, Value.slice fa f.length fc, bo y] 30, rMine (.slice qh8 ((seeF S.L m).1.head).length ch9) ((seeF S.L m).1.head) 5, rMine (.slice qd10 ((seeF S.L m).1.data).length cd11) ((seeF S.L m).1.data) 5, rBlk b12 [iw 0, Value.slice none 0 0, Value.slice none 0 0] 33]) rfl ?_
        refine SL.storea (i := 11) (vs := [iw ((seeF S.L m).1.refs : Int), Value.slice qh8 ((seeF S.L m).1.head.length) ch9, Value.slice qd10 ((seeF S.L m).1.data.length) cd11]) (c' := [iw ((seeF S.L m).1.refs : Int), Value.slice qh8 ((seeF S.L m).1.head.length) ch9, Value.slice qd10 ((seeF S.L m).1.data.length) cd11]) rfl rfl ta33 rfl rfl rfl rfl rfl rfl (le_b rfl) (.inr hb12) rfl ?_
        refine SL.ru rfl rfl (lt_b rfl) (ru_assign rfl rfl) ?_
        refine SL.nil ?_
        refine SE.onlyN ?_
        refine SC.of_SE ?_
        refine SC.norm [(1, sl ob oo l.length oc), (4, bo false), (6, pt g 0), (7, sl b1 0 n n), (8, pt b2 0), (9, pt b3 0), (10, iw (i : Int)), (11, pt b4 0), (13, pt b12 0), (14, iw ((seeF S.L m).2))] [rBlk g [pt d 0, pt p 0, pt r 0, pt e 0, pt q 0, pt s 0, Value.slice none 0 0, Value.slice none 0 0] 43, rRing r d p ab F S, rBlk b1 (ivs held) 3, rBlk b2 [Value.slice qg gp.length cg] 27, rRowO (.slice qg gp.length cg) (gp.map (fun x : Value × List UInt8 => x.1)) 28, rBlk b3 [Value.slice qp ps.length cp] 27, rRowO (.slice qp ps.length cp) (ps.map (fun x : Value × List UInt8 => x.1)) 28, rMany ps 5, rBlk b4 [iw k, iw m, Value.slice fa f.length fc, bo y] 30, rMine (.slice qh8 ((seeF S.L m).1.head).length ch9) ((seeF S.L m).1.head) 5, rMine (.slice qd10 ((seeF S.L m).1.data).length cd11) ((seeF S.L m).1.data) 5, rBlk b12 [iw ((seeF S.L m).1.refs : Int), Value.slice qh8 ((seeF S.L m).1.head.length) ch9, Value.slice qd10 ((seeF S.L m).1.data.length) cd11] 33] ⟨rfl, rfl, rfl, rfl, rfl, rfl, rfl, rfl, rfl, rfl, trivial⟩ rfl ?_
        refine SC.seq ?_
        refine SC.region_tail 6 (by kernel_rfl) (by kernel_rfl) ?_
        refine SQ.ru rfl rfl (lt_b rfl) (ru_move rfl rfl) ?_
        refine SQ.ru rfl rfl (lt_b rfl) (ru_nilCheck rfl rfl) ?_
        refine SQ.ru rfl rfl (lt_b rfl) (ru_fieldAddr (o2 := 2) fd43_2 rfl rfl rfl) ?_
        refine SQ.ru rfl rfl (lt_b rfl) (ru_load (i := 0) ts38 rfl rfl rfl rfl) ?_
        refine SQ.ru rfl rfl (lt_b rfl) (ru_fieldAddr (o2 := 1) fd30_1 rfl rfl rfl) ?_
        refine SQ.ru rfl rfl (lt_b rfl) (ru_load (i := 8) ts3 rfl rfl rfl rfl) ?_
        refine SQ.nilL ?_
        refine SL.call (ζ := Nat → Prop) (fun F13 => iw ((sendF S m).1)) (fun F13 => [rBlk g [pt d 0, pt p 0, pt r 0, pt e 0, pt q 0, pt s 0, Value.slice none 0 0, Value.slice none 0 0] 43, rRing r d p ab F13 ((sendF S m).2), rBlk b1 (ivs held) 3, rBlk b2 [Value.slice qg gp.length cg] 27, rRowO (.slice qg gp.length cg) (gp.map (fun x : Value × List UInt8 => x.1)) 28, rBlk b3 [Value.slice qp ps.length cp] 27, rRowO (.slice qp ps.length cp) (ps.map (fun x : Value × List UInt8 => x.1)) 28, rMany ps 5, rBlk b4 [iw k, iw m, Value.slice fa f.length fc, bo y] 30, rMine (.slice qh8 ((seeF S.L m).1.head).length ch9) ((seeF S.L m).1.head) 5, rMine (.slice qd10 ((seeF S.L m).1.data).length cd11) ((seeF S.L m).1.data) 5, rBlk b12 [iw ((seeF S.L m).1.refs : Int), Value.slice qh8 ((seeF S.L m).1.head.length) ch9, Value.slice qd10 ((seeF S.L m).1.data.length) cd11] 33]) (fun F13 => (∀ b, F13 b → G b ∨ w.heap.size ≤ b)) rfl rfl co10 rfl rfl rfl (lt_b rfl) (fun w hI => (send_anyR ((hL.ok hJ).1) ((hL.ok hJ).2.1) (ring_at hI (i := 1) rfl) m).mono fun e w2 ⟨h1, h2⟩ => by obtain ⟨F2, k1, k2⟩ := hI.ringTo (F0 := G) (i := 1) rfl hG h2 hF; exact ⟨F2, h1, k1, k2⟩) ?_
        intro F13 hF13
        refine SL.ru rfl rfl (lt_b rfl) (ru_assign rfl rfl) ?_
        refine SL.nil ?_
        refine SC.of_SE ?_
        refine SC.norm [(1, sl ob oo l.length oc), (4, bo false), (6, pt g 0), (7, sl b1 0 n n), (8, pt b2 0), (9, pt b3 0), (10, iw (i : Int)), (13, pt b12 0), (14, iw ((seeF S.L m).2)), (15, iw ((sendF S m).1))] [rBlk g [pt d 0, pt p 0, pt r 0, pt e 0, pt q 0, pt s 0, Value.slice none 0 0, Value.slice none 0 0] 43, rRing r d p ab F13 ((sendF S m).2), rBlk b1 (ivs held) 3, rBlk b2 [Value.slice qg gp.length cg] 27, rRowO (.slice qg gp.length cg) (gp.map (fun x : Value × List UInt8 => x.1)) 28, rBlk b3 [Value.slice qp ps.length cp] 27, rRowO (.slice qp ps.length cp) (ps.map (fun x : Value × List UInt8 => x.1)) 28, rMany ps 5, rBlk b4 [iw k, iw m, Value.slice fa f.length fc, bo y] 30, rMine (.slice qh8 ((seeF S.L m).1.head).length ch9) ((seeF S.L m).1.head) 5, rMine (.slice qd10 ((seeF S.L m).1.data).length cd11) ((seeF S.L m).1.data) 5, rBlk b12 [iw ((seeF S.L m).1.refs : Int), Value.slice qh8 ((seeF S.L m).1.head.length) ch9, Value.slice qd10 ((seeF S.L m).1.data.length) cd11] 33] ⟨rfl, rfl, rfl, rfl, rfl, rfl, rfl, rfl, rfl, rfl, trivial⟩ rfl ?_
        refine SC.seq ?_
        refine SC.region ?_
        refine SL.ru rfl rfl (lt_b rfl) (ru_move rfl rfl) ?_
        refine SL.ru rfl rfl (lt_b rfl) (ru_eq (b := ((((sendF S m).1) : Int) == 0)) rfl rfl rfl rfl) ?_
        refine SL.nil ?_
        refine SC.of_SE ?_
        refine SC.norm [(1, sl ob oo l.length oc), (4, bo false), (6, pt g 0), (7, sl b1 0 n n), (8, pt b2 0), (9, pt b3 0), (10, iw (i : Int)), (13, pt b12 0), (14, iw ((seeF S.L m).2)), (83, bo ((((sendF S m).1) : Int) == 0))] [rBlk g [pt d 0, pt p 0, pt r 0, pt e 0, pt q 0, pt s 0, Value.slice none 0 0, Value.slice none 0 0] 43, rRing r d p ab F13 ((sendF S m).2), rBlk b1 (ivs held) 3, rBlk b2 [Value.slice qg gp.length cg] 27, rRowO (.slice qg gp.length cg) (gp.map (fun x : Value × List UInt8 => x.1)) 28, rBlk b3 [Value.slice qp ps.length cp] 27, rRowO (.slice qp ps.length cp) (ps.map (fun x : Value × List UInt8 => x.1)) 28, rMany ps 5, rBlk b4 [iw k, iw m, Value.slice fa f.length fc, bo y] 30, rMine (.slice qh8 ((seeF S.L m).1.head).length ch9) ((seeF S.L m).1.head) 5, rMine (.slice qd10 ((seeF S.L m).1.data).length cd11) ((seeF S.L m).1.data) 5, rBlk b12 [iw ((seeF S.L m).1.refs : Int), Value.slice qh8 ((seeF S.L m).1.head.length) ch9, Value.slice qd10 ((seeF S.L m).1.data.length) cd11] 33] ⟨rfl, rfl, rfl, rfl, rfl, rfl, rfl, rfl, rfl, rfl, trivial⟩ rfl ?_
        refine SC.both ((((sendF S m).1) : Int) == 0) rfl (fun h14 => ?_) (fun h14 => ?_)
        · skip
          have hsn := hL.send0 hJ m (eq_t h14)
          refine SC.seq ?_
          refine SC.seq ?_
          refine SC.region ?_
          refine SL.ru rfl rfl (lt_b rfl) (ru_move rfl rfl) ?_
          refine SL.ru rfl rfl (lt_b rfl) (ru_ne (b := ((((seeF S.L m).2) : Int) != 0)) rfl rfl rfl rfl) ?_
          refine SL.nil ?_
          refine SC.of_SE ?_
          refine SC.norm [(1, sl ob oo l.length oc), (4, bo false), (6, pt g 0), (7, sl b1 0 n n), (8, pt b2 0), (9, pt b3 0), (10, iw (i : Int)), (13, pt b12 0), (85, bo ((((seeF S.L m).2) : Int) != 0))] [rBlk g [pt d 0, pt p 0, pt r 0, pt e 0, pt q 0, pt s 0, Value.slice none 0 0, Value.slice none 0 0] 43, rRing r d p ab F13 ((sendF S m).2), rBlk b1 (ivs held) 3, rBlk b2 [Value.slice qg gp.length cg] 27, rRowO (.slice qg gp.length cg) (gp.map (fun x : Value × List UInt8 => x.1)) 28, rBlk b3 [Value.slice qp ps.length cp] 27, rRowO (.slice qp ps.length cp) (ps.map (fun x : Value × List UInt8 => x.1)) 28, rMany ps 5, rBlk b4 [iw k, iw m, Value.slice fa f.length fc, bo y] 30, rMine (.slice qh8 ((seeF S.L m).1.head).length ch9) ((seeF S.L m).1.head) 5, rMine (.slice qd10 ((seeF S.L m).1.data).length cd11) ((seeF S.L m).1.data) 5, rBlk b12 [iw ((seeF S.L m).1.refs : Int), Value.slice qh8 ((seeF S.L m).1.head.length) ch9, Value.slice qd10 ((seeF S.L m).1.data.length) cd11] 33] ⟨rfl, rfl, rfl, rfl, rfl, rfl, rfl, rfl, rfl, trivial⟩ rfl ?_
          refine SC.no (show some (Value.bool ((((seeF S.L m).2) : Int) != 0)) = some (Value.bool false) from congrArg (fun x => some (Value.bool x)) (by rw [hsn.1]; rfl)) ?_
          refine SC.skip ?_
          refine SC.of_SE ?_
          refine SC.norm [(1, sl ob oo l.length oc), (4, bo false), (6, pt g 0), (7, sl b1 0 n n), (8, pt b2 0), (9, pt b3 0), (10, iw (i : Int)), (13, pt b12 0)] [rBlk g [pt d 0, pt p 0, pt r 0, pt e 0, pt q 0, pt s 0, Value.slice none 0 0, Value.slice none 0 0] 43, rRing r d p ab F13 ((sendF S m).2), rBlk b1 (ivs held) 3, rBlk b2 [Value.slice qg gp.length cg] 27, rRowO (.slice qg gp.length cg) (gp.map (fun x : Value × List UInt8 => x.1)) 28, rBlk b3 [Value.slice qp ps.length cp] 27, rRowO (.slice qp ps.length cp) (ps.map (fun x : Value × List UInt8 => x.1)) 28, rMany ps 5, rBlk b4 [iw k, iw m, Value.slice fa f.length fc, bo y] 30, rMine (.slice qh8 ((seeF S.L m).1.head).length ch9) ((seeF S.L m).1.head) 5, rMine (.slice qd10 ((seeF S.L m).1.data).length cd11) ((seeF S.L m).1.data) 5, rBlk b12 [iw ((seeF S.L m).1.refs : Int), Value.slice qh8 ((seeF S.L m).1.head.length) ch9, Value.slice qd10 ((seeF S.L m).1.data.length) cd11] 33] ⟨rfl, rfl, rfl, rfl, rfl, rfl, rfl, rfl, trivial⟩ rfl ?_
          refine SC.region_mk_tail 8 [(6, Mk.mine ⟨159, w, G⟩ ((seeF S.L m).1.data) 5), (7, Mk.row ⟨159, w, G⟩ 1 1 [6] (fun g => [g.getD 0 undef]) 28)] [(7, [6])] rfl rfl (by kernel_rfl) (by kernel_rfl) (by kernel_rfl) ?_
          refine SM.ru rfl rfl rfl (w_all rfl) rfl (lt_b rfl) (ru_load (i := 5) ts27 rfl rfl rfl rfl) ?_
          refine SM.ru rfl rfl rfl (w_all rfl) rfl (lt_b rfl) (ru_fieldAddr (o2 := 1) fd33_1 rfl rfl rfl) ?_
          refine SM.ru rfl rfl rfl (w_all rfl) rfl (lt_b rfl) (ru_load (i := 11) ts28 rfl rfl rfl rfl) ?_
          refine SM.ru rfl rfl rfl (w_all rfl) rfl (lt_b rfl) (ru_app0_nil (z := .int .u8 0) (bytes := 1) (n := (seeF S.L m).1.head.length) (by rw [hsn.2.1]; rfl) rfl Try.underlying28 (by kernel_rfl) rfl rfl) ?_
          refine SM.ru rfl rfl rfl (w_all rfl) rfl (lt_b rfl) (ru_fieldAddr (o2 := 2) fd33_2 rfl rfl rfl) ?_
          refine SM.ru rfl rfl rfl (w_all rfl) rfl (lt_b rfl) (ru_load (i := 11) ts28 rfl rfl rfl rfl) ?_
          refine SM.append0 (f := ((seeF S.L m).1.data)) rfl rfl rfl rfl (w_all rfl) rfl (lt_b rfl) rfl rfl Try.underlying28 (by kernel_rfl) rfl rfl (fun w hI => mine_bytes hI (j := 10) rfl (Nat.le_trans hsz.2 (by decide))) fun q15 c16 hq15 => ?_
          refine SM.buildSlice (size := 1) (vals := [(0, Value.slice q15 (((seeF S.L m).1.data).length) c16)]) (z := [Value.slice none 0 0]) (cs := [Value.slice q15 (((seeF S.L m).1.data).length) c16]) (dp := [6]) (csf := fun g => [g.getD 0 undef]) rfl rfl rfl rfl (w_all rfl) rfl (lt_b rfl) rfl rfl rfl rfl Try.underlying27 (by kernel_rfl) rfl rfl (by kernel_rfl) fun b17 hb17 => ?_
          refine SM.nilL (l' := [rBlk g [pt d 0, pt p 0, pt r 0, pt e 0, pt q 0, pt s 0, Value.slice none 0 0, Value.slice none 0 0] 43, rRing r d p ab F13 ((sendF S m).2), rBlk b1 (ivs held) 3, rBlk b2 [Value.slice qg gp.length cg] 27, rRowO (.slice qg gp.length cg) (gp.map (fun x : Value × List UInt8 => x.1)) 28, rBlk b3 [Value.slice qp ps.length cp] 27, rRowO (.slice qp ps.length cp) (ps.map (fun x : Value × List UInt8 => x.1)) 28, rMany ps 5, rBlk b4 [iw k, iw m, Value.slice fa f.length fc, bo y] 30, rMine (.slice qh8 ((seeF S.L m).1.head).length ch9) ((seeF S.L m).1.head) 5, rMine (.slice qd10 ((seeF S.L m).1.data).length cd11) ((seeF S.L m).1.data) 5, rBlk b12 [iw ((seeF S.L m).1.refs : Int), Value.slice qh8 ((seeF S.L m).1.head.length) ch9, Value.slice qd10 ((seeF S.L m).1.data.length) cd11] 33, rMine (.slice q15 ((seeF S.L m).1.data).length c16) ((seeF S.L m).1.data) 5, rBlk b17 [Value.slice q15 (((seeF S.L m).1.data).length) c16] 28]) rfl ?_
          refine SL.append_rowO (ri := 6) (rj := 13) (z := Value.slice none 0 0) (bytes := 24) rfl rfl (lt_b rfl) rfl Try.underlying27 (by kernel_rfl) rfl rfl rfl rfl rfl rfl (by simp only [List.length_map]; omega) (by unfold maxLen; simp only [List.length_map]; omega) (fun b hb => .inr (hqp b hb)) fun q18 c19 hq20 => ?_
          refine SL.store (i := 5) (c' := [Value.slice q18 (ps.length + 1) c19]) rfl rfl ts27 rfl rfl rfl rfl rfl (lt_b rfl) (.inr hb3) rfl ?_
          refine SL.nil ?_
          refine SE.many (i := 7) (j := 12) (v := Value.slice q15 ((seeF S.L m).1.data).length c16) (f := (seeF S.L m).1.data) rfl rfl (by decide) ?_
          refine SE.blkn ?_
          refine SC.of_SE ?_
          refine SC.norm [(1, sl ob oo l.length oc), (4, bo false), (6, pt g 0), (7, sl b1 0 n n), (8, pt b2 0), (9, pt b3 0), (10, iw (i : Int))] [rBlk g [pt d 0, pt p 0, pt r 0, pt e 0, pt q 0, pt s 0, Value.slice none 0 0, Value.slice none 0 0] 43, rRing r d p ab F13 ((sendF S m).2), rBlk b1 (ivs held) 3, rBlk b2 [Value.slice qg gp.length cg] 27, rRowO (.slice qg gp.length cg) (gp.map (fun x : Value × List UInt8 => x.1)) 28, rBlk b3 [Value.slice q18 (ps.length + 1) c19] 27, rRowO (.slice q18 (ps.length + 1) c19) (ps.map (fun x : Value × List UInt8 => x.1) ++ [Value.slice q15 (((seeF S.L m).1.data).length) c16]) 28, rMany (ps ++ [(Value.slice q15 ((seeF S.L m).1.data).length c16, (seeF S.L m).1.data)]) 5, rBlk b4 [iw k, iw m, Value.slice fa f.length fc, bo y] 30, rMine (.slice qh8 ((seeF S.L m).1.head).length ch9) ((seeF S.L m).1.head) 5, rMine (.slice qd10 ((seeF S.L m).1.data).length cd11) ((seeF S.L m).1.data) 5, rBlk b12 [iw ((seeF S.L m).1.refs : Int), Value.slice qh8 ((seeF S.L m).1.head.length) ch9, Value.slice qd10 ((seeF S.L m).1.data.length) cd11] 33, rBlk b17 [Value.slice q15 (((seeF S.L m).1.data).length) c16] 28] ⟨rfl, rfl, rfl, rfl, rfl, rfl, rfl, trivial⟩ rfl ?_
          refine SC.seq ?_
          refine SC.region ?_
          refine SL.ru rfl rfl (lt_b rfl) (ru_move rfl rfl) ?_
          refine SL.ru rfl rfl (lt_b rfl) (ru_move rfl rfl) ?_
          refine SL.callv (bo true) rfl rfl co15 rfl rfl rfl (lt_b rfl) (fun w hI => (c_counted  (show RingOk ((sendF S m).2) from send_okR ((hL.ok hJ).1) m) (hL.sendFew hJ m) hg (nG hGf hG) (nG hGf hF13) hHB (hL.ok hsn.2.2).2.2.1 h1n (by omega) hI).mono fun e w2 ⟨h1, h2⟩ => ⟨h1.trans (by rw [hL.counted hsn.2.2]), h2⟩) ?_
          refine SL.ru rfl rfl (lt_b rfl) (ru_assign rfl rfl) ?_
          refine SL.nil ?_
          refine SC.of_SE ?_
          refine SC.norm [(1, sl ob oo l.length oc), (4, bo false), (6, pt g 0), (7, sl b1 0 n n), (8, pt b2 0), (9, pt b3 0), (10, iw (i : Int)), (21, bo true)] [rBlk g [pt d 0, pt p 0, pt r 0, pt e 0, pt q 0, pt s 0, Value.slice none 0 0, Value.slice none 0 0] 43, rRing r d p ab F13 ((sendF S m).2), rBlk b1 (ivs held) 3, rBlk b2 [Value.slice qg gp.length cg] 27, rRowO (.slice qg gp.length cg) (gp.map (fun x : Value × List UInt8 => x.1)) 28, rBlk b3 [Value.slice q18 (ps.length + 1) c19] 27, rRowO (.slice q18 (ps.length + 1) c19) (ps.map (fun x : Value × List UInt8 => x.1) ++ [Value.slice q15 (((seeF S.L m).1.data).length) c16]) 28, rMany (ps ++ [(Value.slice q15 ((seeF S.L m).1.data).length c16, (seeF S.L m).1.data)]) 5, rBlk b4 [iw k, iw m, Value.slice fa f.length fc, bo y] 30, rMine (.slice qh8 ((seeF S.L m).1.head).length ch9) ((seeF S.L m).1.head) 5, rMine (.slice qd10 ((seeF S.L m).1.data).length cd11) ((seeF S.L m).1.data) 5, rBlk b12 [iw ((seeF S.L m).1.refs : Int), Value.slice qh8 ((seeF S.L m).1.head.length) ch9, Value.slice qd10 ((seeF S.L m).1.data.length) cd11] 33, rBlk b17 [Value.slice q15 (((seeF S.L m).1.data).length) c16] 28] ⟨rfl, rfl, rfl, rfl, rfl, rfl, rfl, rfl, trivial⟩ rfl ?_
          refine SC.seq ?_
          refine SC.region ?_
          refine SL.ru rfl rfl (lt_b rfl) (ru_move rfl rfl) ?_
          refine SL.ru rfl rfl (lt_b rfl) (ru_not (c := false) rfl rfl rfl) ?_
          refine SL.nil ?_
          refine SC.of_SE ?_
          refine SC.norm [(1, sl ob oo l.length oc), (4, bo false), (6, pt g 0), (7, sl b1 0 n n), (8, pt b2 0), (9, pt b3 0), (10, iw (i : Int)), (158, bo false)] [rBlk g [pt d 0, pt p 0, pt r 0, pt e 0, pt q 0, pt s 0, Value.slice none 0 0, Value.slice none 0 0] 43, rRing r d p ab F13 ((sendF S m).2), rBlk b1 (ivs held) 3, rBlk b2 [Value.slice qg gp.length cg] 27, rRowO (.slice qg gp.length cg) (gp.map (fun x : Value × List UInt8 => x.1)) 28, rBlk b3 [Value.slice q18 (ps.length + 1) c19] 27, rRowO (.slice q18 (ps.length + 1) c19) (ps.map (fun x : Value × List UInt8 => x.1) ++ [Value.slice q15 (((seeF S.L m).1.data).length) c16]) 28, rMany (ps ++ [(Value.slice q15 ((seeF S.L m).1.data).length c16, (seeF S.L m).1.data)]) 5, rBlk b4 [iw k, iw m, Value.slice fa f.length fc, bo y] 30, rMine (.slice qh8 ((seeF S.L m).1.head).length ch9) ((seeF S.L m).1.head) 5, rMine (.slice qd10 ((seeF S.L m).1.data).length cd11) ((seeF S.L m).1.data) 5, rBlk b12 [iw ((seeF S.L m).1.refs : Int), Value.slice qh8 ((seeF S.L m).1.head.length) ch9, Value.slice qd10 ((seeF S.L m).1.data.length) cd11] 33, rBlk b17 [Value.slice q15 (((seeF S.L m).1.data).length) c16] 28] ⟨rfl, rfl, rfl, rfl, rfl, rfl, rfl, rfl, trivial⟩ rfl ?_
          refine SC.no rfl ?_
          refine SC.skip ?_
          refine SE.blkn ?_
          refine SC.of_SE ?_
          refine SC.norm [(1, sl ob oo l.length oc), (4, bo false), (6, pt g 0), (7, sl b1 0 n n), (8, pt b2 0), (9, pt b3 0), (10, iw (i : Int))] [rBlk g [pt d 0, pt p 0, pt r 0, pt e 0, pt q 0, pt s 0, Value.slice none 0 0, Value.slice none 0 0] 43, rRing r d p ab F13 ((sendF S m).2), rBlk b1 (ivs held) 3, rBlk b2 [Value.slice qg gp.length cg] 27, rRowO (.slice qg gp.length cg) (gp.map (fun x : Value × List UInt8 => x.1)) 28, rBlk b3 [Value.slice q18 (ps.length + 1) c19] 27, rRowO (.slice q18 (ps.length + 1) c19) (ps.map (fun x : Value × List UInt8 => x.1) ++ [Value.slice q15 (((seeF S.L m).1.data).length) c16]) 28, rMany (ps ++ [(Value.slice q15 ((seeF S.L m).1.data).length c16, (seeF S.L m).1.data)]) 5, rBlk b4 [iw k, iw m, Value.slice fa f.length fc, bo y] 30, rMine (.slice qh8 ((seeF S.L m).1.head).length ch9) ((seeF S.L m).1.head) 5, rMine (.slice qd10 ((seeF S.L m).1.data).length cd11) ((seeF S.L m).1.data) 5, rBlk b12 [iw ((seeF S.L m).1.refs : Int), Value.slice qh8 ((seeF S.L m).1.head.length) ch9, Value.slice qd10 ((seeF S.L m).1.data.length) cd11] 33, rBlk b17 [Value.slice q15 (((seeF S.L m).1.data).length) c16] 28] ⟨rfl, rfl, rfl, rfl, rfl, rfl, rfl, trivial⟩ rfl ?_
          refine SC.region ?_
          refine SL.ru rfl rfl (lt_b rfl) (ru_move rfl rfl) ?_
          refine SL.ru rfl rfl (lt_b rfl) (ru_add (r := (IntKind.i64.wrap ((i : Int) + 1))) rfl rfl rfl rfl) ?_
          refine SL.ru rfl rfl (lt_b rfl) (ru_assign rfl rfl) ?_
          refine SL.nil ?_
          refine SE.pick [0, 1, 2, 3, 4, 5, 6, 7] rfl ?_
          refine SE.again N ⟨i + 1, (sendF S m).2, F13, held, gp, qg, cg, ps ++ [(Value.slice q15 ((seeF S.L m).1.data).length c16, (seeF S.L m).1.data)], q18, c19⟩ (by omega) ⟨by simp only; omega, (by first | exact hsn.2.2 | simpa only [List.map_append, List.map_cons, List.map_nil, List.map_drop] using hsn.2.2), hF13, hgp, hqg, (fun b hb => ((hq20 b (by simpa only [List.length_append, List.length_cons, List.length_nil, List.length_drop] using hb)).elim (fun h => (hGf b h).elim) id))⟩ ⟨rfl, rfl, rfl, rfl, rfl, rfl, (congrArg (fun x => some (iw x)) (show IntKind.i64.wrap ((i : Int) + 1) = ((i + 1 : Nat) : Int) by rw [IntKind.wrap_i64]; omega)), trivial⟩ (by first | rfl | (simp only [List.map_append, List.map_cons, List.map_nil, List.length_append, List.length_cons, List.length_nil, List.map_drop, List.length_drop]; rfl))
        · skip
          refine SC.skip ?_
          refine SE.blkn ?_
          refine SC.of_SE ?_
          refine SC.norm [(1, sl ob oo l.length oc), (4, bo false), (6, pt g 0), (7, sl b1 0 n n), (8, pt b2 0), (9, pt b3 0), (10, iw (i : Int))] [rBlk g [pt d 0, pt p 0, pt r 0, pt e 0, pt q 0, pt s 0, Value.slice none 0 0, Value.slice none 0 0] 43, rRing r d p ab F13 ((sendF S m).2), rBlk b1 (ivs held) 3, rBlk b2 [Value.slice qg gp.length cg] 27, rRowO (.slice qg gp.length cg) (gp.map (fun x : Value × List UInt8 => x.1)) 28, rBlk b3 [Value.slice qp ps.length cp] 27, rRowO (.slice qp ps.length cp) (ps.map (fun x : Value × List UInt8 => x.1)) 28, rMany ps 5, rBlk b4 [iw k, iw m, Value.slice fa f.length fc, bo y] 30, rMine (.slice qh8 ((seeF S.L m).1.head).length ch9) ((seeF S.L m).1.head) 5, rMine (.slice qd10 ((seeF S.L m).1.data).length cd11) ((seeF S.L m).1.data) 5, rBlk b12 [iw ((seeF S.L m).1.refs : Int), Value.slice qh8 ((seeF S.L m).1.head.length) ch9, Value.slice qd10 ((seeF S.L m).1.data.length) cd11] 33] ⟨rfl, rfl, rfl, rfl, rfl, rfl, rfl, trivial⟩ rfl ?_
          refine SC.seq ?_
          refine SC.region ?_
          refine SL.ru rfl rfl (lt_b rfl) (ru_move rfl rfl) ?_
          refine SL.ru rfl rfl (lt_b rfl) (ru_move rfl rfl) ?_
          refine SL.callv (bo true) rfl rfl co15 rfl rfl rfl (lt_b rfl) (fun w hI => (c_counted  (show RingOk ((sendF S m).2) from send_okR ((hL.ok hJ).1) m) (hL.sendFew hJ m) hg (nG hGf hG) (nG hGf hF13) hHB (hL.ok (hL.send hJ m (eq_f h14))).2.2.1 h1n (by omega) hI).mono fun e w2 ⟨h1, h2⟩ => ⟨h1.trans (by rw [hL.counted (hL.send hJ m (eq_f h14))]), h2⟩) ?_
          refine SL.ru rfl rfl (lt_b rfl) (ru_assign rfl rfl) ?_
          refine SL.nil ?_
          refine SC.of_SE ?_
          refine SC.norm [(1, sl ob oo l.length oc), (4, bo false), (6, pt g 0), (7, sl b1 0 n n), (8, pt b2 0), (9, pt b3 0), (10, iw (i : Int)), (21, bo true)] [rBlk g [pt d 0, pt p 0, pt r 0, pt e 0, pt q 0, pt s 0, Value.slice none 0 0, Value.slice none 0 0] 43, rRing r d p ab F13 ((sendF S m).2), rBlk b1 (ivs held) 3, rBlk b2 [Value.slice qg gp.length cg] 27, rRowO (.slice qg gp.length cg) (gp.map (fun x : Value × List UInt8 => x.1)) 28, rBlk b3 [Value.slice qp ps.length cp] 27, rRowO (.slice qp ps.length cp) (ps.map (fun x : Value × List UInt8 => x.1)) 28, rMany ps 5, rBlk b4 [iw k, iw m, Value.slice fa f.length fc, bo y] 30, rMine (.slice qh8 ((seeF S.L m).1.head).length ch9) ((seeF S.L m).1.head) 5, rMine (.slice qd10 ((seeF S.L m).1.data).length cd11) ((seeF S.L m).1.data) 5, rBlk b12 [iw ((seeF S.L m).1.refs : Int), Value.slice qh8 ((seeF S.L m).1.head.length) ch9, Value.slice qd10 ((seeF S.L m).1.data.length) cd11] 33] ⟨rfl, rfl, rfl, rfl, rfl, rfl, rfl, rfl, trivial⟩ rfl ?_
          refine SC.seq ?_
          refine SC.region ?_
          refine SL.ru rfl rfl (lt_b rfl) (ru_move rfl rfl) ?_
          refine SL.ru rfl rfl (lt_b rfl) (ru_not (c := false) rfl rfl rfl) ?_
          refine SL.nil ?_
          refine SC.of_SE ?_
          refine SC.norm [(1, sl ob oo l.length oc), (4, bo false), (6, pt g 0), (7, sl b1 0 n n), (8, pt b2 0), (9, pt b3 0), (10, iw (i : Int)), (158, bo false)] [rBlk g [pt d 0, pt p 0, pt r 0, pt e 0, pt q 0, pt s 0, Value.slice none 0 0, Value.slice none 0 0] 43, rRing r d p ab F13 ((sendF S m).2), rBlk b1 (ivs held) 3, rBlk b2 [Value.slice qg gp.length cg] 27, rRowO (.slice qg gp.length cg) (gp.map (fun x : Value × List UInt8 => x.1)) 28, rBlk b3 [Value.slice qp ps.length cp] 27, rRowO (.slice qp ps.length cp) (ps.map (fun x : Value × List UInt8 => x.1)) 28, rMany ps 5, rBlk b4 [iw k, iw m, Value.slice fa f.length fc, bo y] 30, rMine (.slice qh8 ((seeF S.L m).1.head).length ch9) ((seeF S.L m).1.head) 5, rMine (.slice qd10 ((seeF S.L m).1.data).length cd11) ((seeF S.L m).1.data) 5, rBlk b12 [iw ((seeF S.L m).1.refs : Int), Value.slice qh8 ((seeF S.L m).1.head.length) ch9, Value.slice qd10 ((seeF S.L m).1.data.length) cd11] 33] ⟨rfl, rfl, rfl, rfl, rfl, rfl, rfl, rfl, trivial⟩ rfl ?_
          refine SC.no rfl ?_
          refine SC.skip ?_
          refine SE.blkn ?_
          refine SC.of_SE ?_
          refine SC.norm [(1, sl ob oo l.length oc), (4, bo false), (6, pt g 0), (7, sl b1 0 n n), (8, pt b2 0), (9, pt b3 0), (10, iw (i : Int))] [rBlk g [pt d 0, pt p 0, pt r 0, pt e 0, pt q 0, pt s 0, Value.slice none 0 0, Value.slice none 0 0] 43, rRing r d p ab F13 ((sendF S m).2), rBlk b1 (ivs held) 3, rBlk b2 [Value.slice qg gp.length cg] 27, rRowO (.slice qg gp.length cg) (gp.map (fun x : Value × List UInt8 => x.1)) 28, rBlk b3 [Value.slice qp ps.length cp] 27, rRowO (.slice qp ps.length cp) (ps.map (fun x : Value × List UInt8 => x.1)) 28, rMany ps 5, rBlk b4 [iw k, iw m, Value.slice fa f.length fc, bo y] 30, rMine (.slice qh8 ((seeF S.L m).1.head).length ch9) ((seeF S.L m).1.head) 5, rMine (.slice qd10 ((seeF S.L m).1.data).length cd11) ((seeF S.L m).1.data) 5, rBlk b12 [iw ((seeF S.L m).1.refs : Int), Value.slice qh8 ((seeF S.L m).1.head.length) ch9, Value.slice qd10 ((seeF S.L m).1.data.length) cd11] 33] ⟨rfl, rfl, rfl, rfl, rfl, rfl, rfl, trivial⟩ rfl ?_
          refine SC.region ?_
          refine SL.ru rfl rfl (lt_b rfl) (ru_move rfl rfl) ?_
          refine SL.ru rfl rfl (lt_b rfl) (ru_add (r := (IntKind.i64.wrap ((i : Int) + 1))) rfl rfl rfl rfl) ?_
          refine SL.ru rfl rfl (lt_b rfl) (ru_assign rfl rfl) ?_
          refine SL.nil ?_
          refine SE.pick [0, 1, 2, 3, 4, 5, 6, 7] rfl ?_
          refine SE.again N ⟨i + 1, (sendF S m).2, F13, held, gp, qg, cg, ps, qp, cp⟩ (by omega) ⟨by simp only; omega, (hL.send hJ m (eq_f h14)), hF13, hgp, hqg, hqp⟩ ⟨rfl, rfl, rfl, rfl, rfl, rfl, (congrArg (fun x => some (iw x)) (show IntKind.i64.wrap ((i : Int) + 1) = ((i + 1 : Nat) : Int) by rw [IntKind.wrap_i64]; omega)), trivial⟩ (by first | rfl | (simp only [List.map_append, List.map_cons, List.map_nil, List.length_append, List.length_cons, List.length_nil, List.map_drop, List.length_drop]; rfl))
      · skip
        refine SC.seq ?_
        refine SC.region ?_
        refine SL.ru rfl rfl (lt_b rfl) (ru_eq (b := ((k : Int) == 2)) rfl rfl rfl rfl) ?_
        refine SL.ru rfl rfl (lt_b rfl) (ru_assign rfl rfl) ?_
        refine SL.nil ?_
        refine SC.of_SE ?_
        refine SC.norm [(1, sl ob oo l.length oc), (4, bo false), (6, pt g 0), (7, sl b1 0 n n), (8, pt b2 0), (9, pt b3 0), (10, iw (i : Int)), (11, pt b4 0), (53, iw k), (95, bo ((k : Int) == 2))] [rBlk g [pt d 0, pt p 0, pt r 0, pt e 0, pt q 0, pt s 0, Value.slice none 0 0, Value.slice none 0 0] 43, rRing r d p ab F S, rBlk b1 (ivs held) 3, rBlk b2 [Value.slice qg gp.length cg] 27, rRowO (.slice qg gp.length cg) (gp.map (fun x : Value × List UInt8 => x.1)) 28, rBlk b3 [Value.slice qp ps.length cp] 27, rRowO (.slice qp ps.length cp) (ps.map (fun x : Value × List UInt8 => x.1)) 28, rMany ps 5, rBlk b4 [iw k, iw m, Value.slice fa f.length fc, bo y] 30] ⟨rfl, rfl, rfl, rfl, rfl, rfl, rfl, rfl, rfl, rfl, trivial⟩ rfl ?_
        refine SC.both ((k : Int) == 2) rfl (fun h21 => ?_) (fun h21 => ?_)
        · skip
          refine SC.seq ?_
          refine SC.region ?_
          refine SL.ru rfl rfl (lt_b rfl) (ru_move rfl rfl) ?_
          refine SL.ru rfl rfl (lt_b rfl) (ru_move rfl rfl) ?_
          refine SL.call (ζ := (Nat → Prop) × Option Addr × Nat) (fun z => bo true) (fun z => [rBlk g [pt d 0, pt p 0, pt r 0, pt e 0, pt q 0, pt s 0, Value.slice none 0 0, Value.slice none 0 0] 43, rRing r d p ab z.1 ((toldF S held (gp.map (fun x : Value × List UInt8 => x.2)) (ps.map (fun x : Value × List UInt8 => x.2))).2.1), rBlk b1 (ivs ((toldF S held (gp.map (fun x : Value × List UInt8 => x.2)) (ps.map (fun x : Value × List UInt8 => x.2))).2.2)) 3, rBlk b2 [Value.slice z.2.1 0 z.2.2] 27, rRowO (.slice z.2.1 0 z.2.2) ([]) 28, rBlk b3 [Value.slice qp ps.length cp] 27, rRowO (.slice qp ps.length cp) (ps.map (fun x : Value × List UInt8 => x.1)) 28, rMany ps 5, rBlk b4 [iw k, iw m, Value.slice fa f.length fc, bo y] 30]) (fun z => (∀ b, z.1 b → G b ∨ w.heap.size ≤ b) ∧ ∀ b, (Value.slice z.2.1 0 z.2.2).ownBlock = some b → w.heap.size ≤ b) rfl rfl co11 rfl rfl rfl (lt_b rfl) (fun w9 hI => (c_told hGf  ((hL.ok hJ).1) ((hL.ok hJ).2.1) hg (nG hGf hG) (nG hGf hF) hHB (hL.ok hJ).2.2.1 hGC hPC gp_len hgp hqg (hL.told hJ).1 hI).mono fun e w2 ⟨h1, F2, q2, c2, h2, h3, h4⟩ => ⟨(F2, q2, c2), h1, h2, fun b hb => .inr (h3 b hb), h4⟩) ?_
          rintro ⟨F22, q23, c24⟩ ⟨hF22, hq23⟩
          refine SL.ru rfl rfl (lt_b rfl) (ru_assign rfl rfl) ?_
          refine SL.nil ?_
          refine SC.of_SE ?_
          refine SC.norm [(1, sl ob oo l.length oc), (4, bo false), (6, pt g 0), (7, sl b1 0 n n), (8, pt b2 0), (9, pt b3 0), (10, iw (i : Int)), (16, bo true)] [rBlk g [pt d 0, pt p 0, pt r 0, pt e 0, pt q 0, pt s 0, Value.slice none 0 0, Value.slice none 0 0] 43, rRing r d p ab F22 ((toldF S held (gp.map (fun x : Value × List UInt8 => x.2)) (ps.map (fun x : Value × List UInt8 => x.2))).2.1), rBlk b1 (ivs ((toldF S held (gp.map (fun x : Value × List UInt8 => x.2)) (ps.map (fun x : Value × List UInt8 => x.2))).2.2)) 3, rBlk b2 [Value.slice q23 0 c24] 27, rRowO (.slice q23 0 c24) ([]) 28, rBlk b3 [Value.slice qp ps.length cp] 27, rRowO (.slice qp ps.length cp) (ps.map (fun x : Value × List UInt8 => x.1)) 28, rMany ps 5, rBlk b4 [iw k, iw m, Value.slice fa f.length fc, bo y] 30] ⟨rfl, rfl, rfl, rfl, rfl, rfl, rfl, rfl, trivial⟩ rfl ?_
          refine SC.seq ?_
          refine SC.region ?_
          refine SL.ru rfl rfl (lt_b rfl) (ru_move rfl rfl) ?_
          refine SL.ru rfl rfl (lt_b rfl) (ru_not (c := false) rfl rfl rfl) ?_
          refine SL.nil ?_
          refine SC.of_SE ?_
          refine SC.norm [(1, sl ob oo l.length oc), (4, bo false), (6, pt g 0), (7, sl b1 0 n n), (8, pt b2 0), (9, pt b3 0), (10, iw (i : Int)), (101, bo false)] [rBlk g [pt d 0, pt p 0, pt r 0, pt e 0, pt q 0, pt s 0, Value.slice none 0 0, Value.slice none 0 0] 43, rRing r d p ab F22 ((toldF S held (gp.map (fun x : Value × List UInt8 => x.2)) (ps.map (fun x : Value × List UInt8 => x.2))).2.1), rBlk b1 (ivs ((toldF S held (gp.map (fun x : Value × List UInt8 => x.2)) (ps.map (fun x : Value × List UInt8 => x.2))).2.2)) 3, rBlk b2 [Value.slice q23 0 c24] 27, rRowO (.slice q23 0 c24) ([]) 28, rBlk b3 [Value.slice qp ps.length cp] 27, rRowO (.slice qp ps.length cp) (ps.map (fun x : Value × List UInt8 => x.1)) 28, rMany ps 5, rBlk b4 [iw k, iw m, Value.slice fa f.length fc, bo y] 30] ⟨rfl, rfl, rfl, rfl, rfl, rfl, rfl, rfl, trivial⟩ rfl ?_
          refine SC.no rfl ?_
          refine SC.skip ?_
          refine SE.blkn ?_
          refine SC.of_SE ?_
          refine SC.norm [(1, sl ob oo l.length oc), (4, bo false), (6, pt g 0), (7, sl b1 0 n n), (8, pt b2 0), (9, pt b3 0), (10, iw (i : Int))] [rBlk g [pt d 0, pt p 0, pt r 0, pt e 0, pt q 0, pt s 0, Value.slice none 0 0, Value.slice none 0 0] 43, rRing r d p ab F22 ((toldF S held (gp.map (fun x : Value × List UInt8 => x.2)) (ps.map (fun x : Value × List UInt8 => x.2))).2.1), rBlk b1 (ivs ((toldF S held (gp.map (fun x : Value × List UInt8 => x.2)) (ps.map (fun x : Value × List UInt8 => x.2))).2.2)) 3, rBlk b2 [Value.slice q23 0 c24] 27, rRowO (.slice q23 0 c24) ([]) 28, rBlk b3 [Value.slice qp ps.length cp] 27, rRowO (.slice qp ps.length cp) (ps.map (fun x : Value × List UInt8 => x.1)) 28, rMany ps 5, rBlk b4 [iw k, iw m, Value.slice fa f.length fc, bo y] 30] ⟨rfl, rfl, rfl, rfl, rfl, rfl, rfl, trivial⟩ rfl ?_
          refine SC.seq ?_
          refine SC.region ?_
          refine SL.ru rfl rfl (lt_b rfl) (ru_move rfl rfl) ?_
          refine SL.ru rfl rfl (lt_b rfl) (ru_move rfl rfl) ?_
          refine SL.callv (bo true) rfl rfl co15 rfl rfl rfl (lt_b rfl) (fun w hI => (c_counted  ((hL.ok ((hL.told hJ).2)).1) ((hL.ok ((hL.told hJ).2)).2.1) hg (nG hGf hG) (nG hGf hF22) hHB (hL.ok ((hL.told hJ).2)).2.2.1 h1n (by omega) hI).mono fun e w2 ⟨h1, h2⟩ => ⟨h1.trans (by rw [hL.counted ((hL.told hJ).2)]), h2⟩) ?_
          refine SL.ru rfl rfl (lt_b rfl) (ru_assign rfl rfl) ?_
          refine SL.nil ?_
          refine SC.of_SE ?_
          refine SC.norm [(1, sl ob oo l.length oc), (4, bo false), (6, pt g 0), (7, sl b1 0 n n), (8, pt b2 0), (9, pt b3 0), (10, iw (i : Int)), (21, bo true)] [rBlk g [pt d 0, pt p 0, pt r 0, pt e 0, pt q 0, pt s 0, Value.slice none 0 0, Value.slice none 0 0] 43, rRing r d p ab F22 ((toldF S held (gp.map (fun x : Value × List UInt8 => x.2)) (ps.map (fun x : Value × List UInt8 => x.2))).2.1), rBlk b1 (ivs ((toldF S held (gp.map (fun x : Value × List UInt8 => x.2)) (ps.map (fun x : Value × List UInt8 => x.2))).2.2)) 3, rBlk b2 [Value.slice q23 0 c24] 27, rRowO (.slice q23 0 c24) ([]) 28, rBlk b3 [Value.slice qp ps.length cp] 27, rRowO (.slice qp ps.length cp) (ps.map (fun x : Value × List UInt8 => x.1)) 28, rMany ps 5, rBlk b4 [iw k, iw m, Value.slice fa f.length fc, bo y] 30] ⟨rfl, rfl, rfl, rfl, rfl, rfl, rfl, rfl, trivial⟩ rfl ?_
          refine SC.seq ?_
          refine SC.region ?_
          refine SL.ru rfl rfl (lt_b rfl) (ru_move rfl rfl) ?_
          refine SL.ru rfl rfl (lt_b rfl) (ru_not (c := false) rfl rfl rfl) ?_
          refine SL.nil ?_
          refine SC.of_SE ?_
          refine SC.norm [(1, sl ob oo l.length oc), (4, bo false), (6, pt g 0), (7, sl b1 0 n n), (8, pt b2 0), (9, pt b3 0), (10, iw (i : Int)), (158, bo false)] [rBlk g [pt d 0, pt p 0, pt r 0, pt e 0, pt q 0, pt s 0, Value.slice none 0 0, Value.slice none 0 0] 43, rRing r d p ab F22 ((toldF S held (gp.map (fun x : Value × List UInt8 => x.2)) (ps.map (fun x : Value × List UInt8 => x.2))).2.1), rBlk b1 (ivs ((toldF S held (gp.map (fun x : Value × List UInt8 => x.2)) (ps.map (fun x : Value × List UInt8 => x.2))).2.2)) 3, rBlk b2 [Value.slice q23 0 c24] 27, rRowO (.slice q23 0 c24) ([]) 28, rBlk b3 [Value.slice qp ps.length cp] 27, rRowO (.slice qp ps.length cp) (ps.map (fun x : Value × List UInt8 => x.1)) 28, rMany ps 5, rBlk b4 [iw k, iw m, Value.slice fa f.length fc, bo y] 30] ⟨rfl, rfl, rfl, rfl, rfl, rfl, rfl, rfl, trivial⟩ rfl ?_
          refine SC.no rfl ?_
          refine SC.skip ?_
          refine SE.blkn ?_
          refine SC.of_SE ?_
          refine SC.norm [(1, sl ob oo l.length oc), (4, bo false), (6, pt g 0), (7, sl b1 0 n n), (8, pt b2 0), (9, pt b3 0), (10, iw (i : Int))] [rBlk g [pt d 0, pt p 0, pt r 0, pt e 0, pt q 0, pt s 0, Value.slice none 0 0, Value.slice none 0 0] 43, rRing r d p ab F22 ((toldF S held (gp.map (fun x : Value × List UInt8 => x.2)) (ps.map (fun x : Value × List UInt8 => x.2))).2.1), rBlk b1 (ivs ((toldF S held (gp.map (fun x : Value × List UInt8 => x.2)) (ps.map (fun x : Value × List UInt8 => x.2))).2.2)) 3, rBlk b2 [Value.slice q23 0 c24] 27, rRowO (.slice q23 0 c24) ([]) 28, rBlk b3 [Value.slice qp ps.length cp] 27, rRowO (.slice qp ps.length cp) (ps.map (fun x : Value × List UInt8 => x.1)) 28, rMany ps 5, rBlk b4 [iw k, iw m, Value.slice fa f.length fc, bo y] 30] ⟨rfl, rfl, rfl, rfl, rfl, rfl, rfl, trivial⟩ rfl ?_
          refine SC.region ?_
          refine SL.ru rfl rfl (lt_b rfl) (ru_move rfl rfl) ?_
          refine SL.ru rfl rfl (lt_b rfl) (ru_add (r := (IntKind.i64.wrap ((i : Int) + 1))) rfl rfl rfl rfl) ?_
          refine SL.ru rfl rfl (lt_b rfl) (ru_assign rfl rfl) ?_
          refine SL.nil ?_
          refine SE.pick [0, 1, 2, 3, 4, 5, 6, 7] rfl ?_
          refine SE.again N ⟨i + 1, (toldF S held (gp.map (fun x : Value × List UInt8 => x.2)) (ps.map (fun x : Value × List UInt8 => x.2))).2.1, F22, (toldF S held (gp.map (fun x : Value × List UInt8 => x.2)) (ps.map (fun x : Value × List UInt8 => x.2))).2.2, [], q23, c24, ps, qp, cp⟩ (by omega) ⟨by simp only; omega, (by first | exact (hL.told hJ).2 | simpa only [List.map_append, List.map_cons, List.map_nil, List.map_drop] using (hL.told hJ).2), hF22, (fun x hx => by simp at hx), hq23, hqp⟩ ⟨rfl, rfl, rfl, rfl, rfl, rfl, (congrArg (fun x => some (iw x)) (show IntKind.i64.wrap ((i : Int) + 1) = ((i + 1 : Nat) : Int) by rw [IntKind.wrap_i64]; omega)), trivial⟩ (by first | rfl | (simp only [List.map_append, List.map_cons, List.map_nil, List.length_append, List.length_cons, List.length_nil, List.map_drop, List.length_drop]; rfl))
        · skip
          refine SC.seq ?_
          refine SC.region ?_
          refine SL.ru rfl rfl (lt_b rfl) (ru_eq (b := ((k : Int) == 4)) rfl rfl rfl rfl) ?_
          refine SL.ru rfl rfl (lt_b rfl) (ru_assign rfl rfl) ?_
          refine SL.nil ?_
          refine SC.of_SE ?_
          refine SC.norm [(1, sl ob oo l.length oc), (4, bo false), (6, pt g 0), (7, sl b1 0 n n), (8, pt b2 0), (9, pt b3 0), (10, iw (i : Int)), (11, pt b4 0), (53, iw k), (102, bo ((k : Int) == 4))] [rBlk g [pt d 0, pt p 0, pt r 0, pt e 0, pt q 0, pt s 0, Value.slice none 0 0, Value.slice none 0 0] 43, rRing r d p ab F S, rBlk b1 (ivs held) 3, rBlk b2 [Value.slice qg gp.length cg] 27, rRowO (.slice qg gp.length cg) (gp.map (fun x : Value × List UInt8 => x.1)) 28, rBlk b3 [Value.slice qp ps.length cp] 27, rRowO (.slice qp ps.length cp) (ps.map (fun x : Value × List UInt8 => x.1)) 28, rMany ps 5, rBlk b4 [iw k, iw m, Value.slice fa f.length fc, bo y] 30] ⟨rfl, rfl, rfl, rfl, rfl, rfl, rfl, rfl, rfl, rfl, trivial⟩ rfl ?_
          refine SC.both ((k : Int) == 4) rfl (fun h25 => ?_) (fun h25 => ?_)
          · skip
            refine SC.seq ?_
            refine SC.region ?_
            refine SL.ru rfl rfl (lt_b rfl) (ru_move rfl rfl) ?_
            refine SL.ru rfl rfl (lt_b rfl) (ru_nilCheck rfl rfl) ?_
            refine SL.ru rfl rfl (lt_b rfl) (ru_fieldAddr (o2 := 0) fd43_0 rfl rfl rfl) ?_
            refine SL.ru rfl rfl (lt_b rfl) (ru_load (i := 0) ts36 rfl rfl rfl rfl) ?_
            refine SL.call (ζ := (Nat → Prop) × Option Addr × Nat) (fun z => Value.tuple #[Value.agg #[Value.slice z.2.1 ((takeR S.A).1.1.1.length) z.2.2, bo false, iw ((takeR S.A).1.1.2)], iw ((takeR S.A).1.2)]) (fun z => [rBlk g [pt d 0, pt p 0, pt r 0, pt e 0, pt q 0, pt s 0, Value.slice none 0 0, Value.slice none 0 0] 43, rRing r d p ab z.1 ({ S with A := (takeR S.A).2 }), rBlk b1 (ivs held) 3, rBlk b2 [Value.slice qg gp.length cg] 27, rRowO (.slice qg gp.length cg) (gp.map (fun x : Value × List UInt8 => x.1)) 28, rBlk b3 [Value.slice qp ps.length cp] 27, rRowO (.slice qp ps.length cp) (ps.map (fun x : Value × List UInt8 => x.1)) 28, rMany ps 5, rBlk b4 [iw k, iw m, Value.slice fa f.length fc, bo y] 30, rMine (.slice z.2.1 ((takeR S.A).1.1.1).length z.2.2) ((takeR S.A).1.1.1) 5]) (fun z => (∀ b, z.1 b → G b ∨ w.heap.size ≤ b) ∧ ∀ b, (Value.slice z.2.1 (takeR S.A).1.1.1.length z.2.2).ownBlock = some b → w.heap.size ≤ b) rfl rfl co12 rfl rfl rfl (lt_b rfl) (fun w hI => (p_take ((hL.ok hJ).1).a (ring_at hI (i := 1) rfl).dev).mono fun e w2 ⟨v, h1, h2, h3, h4⟩ => by obtain ⟨qa, qc, rfl, k0⟩ := (ring_at hI (i := 1) rfl).tookW (take_len ((hL.ok hJ).1).a) h2 h3 h4; obtain ⟨F2, k1, k2, k3⟩ := hI.ringToW (F0 := G) (i := 1) rfl hG k0 hF; exact ⟨(F2, qa, qc), h1, k1, k2, fun b hb => k3 _ List.mem_cons_self b hb⟩) ?_
            rintro ⟨F28, a26, c27⟩ ⟨hF28, hoa26⟩
            refine SL.ru rfl rfl (lt_b rfl) (ru_move rfl rfl) ?_
            refine SL.ru rfl rfl (lt_b rfl) (ru_extract rfl rfl rfl) ?_
            refine SL.ru rfl rfl (lt_b rfl) (ru_extract rfl rfl rfl) ?_
            refine SL.alloca rfl rfl (lt_b rfl) ta49 rfl fun b29 hb29 => ?_
            refine SL.storea (i := 10) (vs := [Value.slice a26 ((takeR S.A).1.1.1.length) c27, bo false, iw ((takeR S.A).1.1.2)]) (c' := [Value.slice a26 ((takeR S.A).1.1.1.length) c27, bo false, iw ((takeR S.A).1.1.2)]) rfl rfl ta49 rfl rfl rfl rfl rfl rfl (le_b rfl) (.inr hb29) rfl ?_
            refine SL.ru rfl rfl (lt_b rfl) (ru_assign rfl rfl) ?_
            refine SL.nil ?_
            refine SC.of_SE ?_
            refine SC.norm [(1, sl ob oo l.length oc), (4, bo false), (6, pt g 0), (7, sl b1 0 n n), (8, pt b2 0), (9, pt b3 0), (10, iw (i : Int)), (17, pt b29 0), (18, iw ((takeR S.A).1.2))] [rBlk g [pt d 0, pt p 0, pt r 0, pt e 0, pt q 0, pt s 0, Value.slice none 0 0, Value.slice none 0 0] 43, rRing r d p ab F28 ({ S with A := (takeR S.A).2 }), rBlk b1 (ivs held) 3, rBlk b2 [Value.slice qg gp.length cg] 27, rRowO (.slice qg gp.length cg) (gp.map (fun x : Value × List UInt8 => x.1)) 28, rBlk b3 [Value.slice qp ps.length cp] 27, rRowO (.slice qp ps.length cp) (ps.map (fun x : Value × List UInt8 => x.1)) 28, rMany ps 5, rBlk b4 [iw k, iw m, Value.slice fa f.length fc, bo y] 30, rMine (.slice a26 ((takeR S.A).1.1.1).length c27) ((takeR S.A).1.1.1) 5, rBlk b29 [Value.slice a26 ((takeR S.A).1.1.1.length) c27, bo false, iw ((takeR S.A).1.1.2)] 49] ⟨rfl, rfl, rfl, rfl, rfl, rfl, rfl, rfl, rfl, trivial⟩ rfl ?_
            refine SC.seq ?_
            refine SC.region ?_
            refine SL.ru rfl rfl (lt_b rfl) (ru_move rfl rfl) ?_
            refine SL.ru rfl rfl (lt_b rfl) (ru_eq (b := ((((takeR S.A).1.2) : Int) == 0)) rfl rfl rfl rfl) ?_
            refine SL.nil ?_
            refine SC.of_SE ?_
            refine SC.norm [(1, sl ob oo l.length oc), (4, bo false), (6, pt g 0), (7, sl b1 0 n n), (8, pt b2 0), (9, pt b3 0), (10, iw (i : Int)), (17, pt b29 0), (113, bo ((((takeR S.A).1.2) : Int) == 0))] [rBlk g [pt d 0, pt p 0, pt r 0, pt e 0, pt q 0, pt s 0, Value.slice none 0 0, Value.slice none 0 0] 43, rRing r d p ab F28 ({ S with A := (takeR S.A).2 }), rBlk b1 (ivs held) 3, rBlk b2 [Value.slice qg gp.length cg] 27, rRowO (.slice qg gp.length cg) (gp.map (fun x : Value × List UInt8 => x.1)) 28, rBlk b3 [Value.slice qp ps.length cp] 27, rRowO (.slice qp ps.length cp) (ps.map (fun x : Value × List UInt8 => x.1)) 28, rMany ps 5, rBlk b4 [iw k, iw m, Value.slice fa f.length fc, bo y] 30, rMine (.slice a26 ((takeR S.A).1.1.1).length c27) ((takeR S.A).1.1.1) 5, rBlk b29 [Value.slice a26 ((takeR S.A).1.1.1.length) c27, bo false, iw ((takeR S.A).1.1.2)] 49] ⟨rfl, rfl, rfl, rfl, rfl, rfl, rfl, rfl, rfl, trivial⟩ rfl ?_
            refine SC.both ((((takeR S.A).1.2) : Int) == 0) rfl (fun h30 => ?_) (fun h30 => ?_)
            · skip
              have htk := hL.take0 hJ (eq_t h30)
              have hp0 : 0 < ps.length := by have := htk.1; rwa [gp_len] at this
              refine SC.seq ?_
              refine SC.seq ?_
              refine SC.region_quiet (by kernel_rfl) (by kernel_rfl) ?_
              refine SQ.ru rfl rfl (lt_b rfl) (ru_load (i := 5) ts27 rfl rfl rfl rfl) ?_
              refine SQ.ru rfl rfl (lt_b rfl) (ru_len Try.underlying27 rfl rfl) ?_
              refine SQ.ru rfl rfl (lt_b rfl) (ru_eq (b := (((ps.length : Int) : Int) == 0)) rfl rfl rfl rfl) ?_
              refine SQ.ru rfl rfl (lt_b rfl) (ru_move rfl rfl) ?_
              refine SQ.norm [(1, sl ob oo l.length oc), (4, bo false), (6, pt g 0), (7, sl b1 0 n n), (8, pt b2 0), (9, pt b3 0), (10, iw (i : Int)), (17, pt b29 0), (113, bo ((((takeR S.A).1.2) : Int) == 0)), (114, Value.slice qp ps.length cp), (115, iw (ps.length : Int)), (116, bo false), (117, bo false)] ⟨rfl, rfl, rfl, rfl, rfl, rfl, rfl, rfl, rfl, rfl, rfl, (congrArg (fun bx => some (Value.bool bx)) (show (((ps.length : Int) : Int) == 0) = false from (by simp only [beq_eq_false_iff_ne]; omega))), (congrArg (fun bx => some (Value.bool bx)) (show (((ps.length : Int) : Int) == 0) = false from (by simp only [beq_eq_false_iff_ne]; omega))), trivial⟩ ?_
              refine SQ.rug rfl rfl rfl rfl (lt_b rfl) (ru_fieldAddr (o2 := 0) fd49_0 rfl rfl rfl) ?_
              refine SQ.rug rfl rfl rfl rfl (lt_b rfl) (ru_load (i := 10) ts28 rfl rfl rfl rfl) ?_
              refine SQ.rug rfl rfl rfl rfl (lt_b rfl) (ru_str (f := ((takeR S.A).1.1.1)) Try.underlying28 Try.underlying5 Try.underlying9 rfl rfl (fun w hI => mine_bytes hI (j := 9) rfl (take_len ((hL.ok hJ).1).a))) ?_
              refine SQ.rug rfl rfl rfl rfl (lt_b rfl) (ru_load (i := 5) ts27 rfl rfl rfl rfl) ?_
              refine SQ.rug rfl rfl rfl rfl (lt_b rfl) (ru_index_rowO (ri := 6) si27 rfl rfl rfl rfl (by omega) (by omega)) ?_
              refine SQ.rug rfl rfl rfl rfl (lt_b rfl) (ru_load_rowO (ri := 6) (i := (0 : Int).toNat) ts28 rfl rfl rfl (gp_head hp0)) ?_
              refine SQ.rug rfl rfl rfl rfl (lt_b rfl) (ru_str (f := ((takeR S.A).1.1.1)) Try.underlying28 Try.underlying5 Try.underlying9 rfl rfl (fun w hI => many_head hI (i := 7) rfl hp0 htk.2.1.symm (take_len ((hL.ok hJ).1).a))) ?_
              refine SQ.rug rfl rfl rfl rfl (lt_b rfl) (ru_strne (f := (takeR S.A).1.1.1) (h := (takeR S.A).1.1.1) (b := (!decide ((takeR S.A).1.1.1 = (takeR S.A).1.1.1))) Try.underlying9 rfl rfl rfl rfl) ?_
              refine SQ.ru rfl rfl (lt_b rfl) (ru_pick (u := bo true) (v := bo (!decide ((takeR S.A).1.1.1 = (takeR S.A).1.1.1))) rfl rfl rfl rfl) ?_
              refine SQ.nilE ?_
              refine SC.of_SE ?_
              refine SC.norm [(1, sl ob oo l.length oc), (4, bo false), (6, pt g 0), (7, sl b1 0 n n), (8, pt b2 0), (9, pt b3 0), (10, iw (i : Int)), (126, bo (!decide ((takeR S.A).1.1.1 = (takeR S.A).1.1.1)))] [rBlk g [pt d 0, pt p 0, pt r 0, pt e 0, pt q 0, pt s 0, Value.slice none 0 0, Value.slice none 0 0] 43, rRing r d p ab F28 ({ S with A := (takeR S.A).2 }), rBlk b1 (ivs held) 3, rBlk b2 [Value.slice qg gp.length cg] 27, rRowO (.slice qg gp.length cg) (gp.map (fun x : Value × List UInt8 => x.1)) 28, rBlk b3 [Value.slice qp ps.length cp] 27, rRowO (.slice qp ps.length cp) (ps.map (fun x : Value × List UInt8 => x.1)) 28, rMany ps 5, rBlk b4 [iw k, iw m, Value.slice fa f.length fc, bo y] 30, rMine (.slice a26 ((takeR S.A).1.1.1).length c27) ((takeR S.A).1.1.1) 5, rBlk b29 [Value.slice a26 ((takeR S.A).1.1.1.length) c27, bo false, iw ((takeR S.A).1.1.2)] 49] ⟨rfl, rfl, rfl, rfl, rfl, rfl, rfl, rfl, trivial⟩ rfl ?_
              refine SC.no (show some (Value.bool (!decide ((takeR S.A).1.1.1 = (takeR S.A).1.1.1))) = some (Value.bool false) from congrArg (fun x => some (Value.bool x)) (by simp)) ?_
              refine SC.skip ?_
              refine SC.of_SE ?_
              refine SC.norm [(1, sl ob oo l.length oc), (4, bo false), (6, pt g 0), (7, sl b1 0 n n), (8, pt b2 0), (9, pt b3 0), (10, iw (i : Int))] [rBlk g [pt d 0, pt p 0, pt r 0, pt e 0, pt q 0, pt s 0, Value.slice none 0 0, Value.slice none 0 0] 43, rRing r d p ab F28 ({ S with A := (takeR S.A).2 }), rBlk b1 (ivs held) 3, rBlk b2 [Value.slice qg gp.length cg] 27, rRowO (.slice qg gp.length cg) (gp.map (fun x : Value × List UInt8 => x.1)) 28, rBlk b3 [Value.slice qp ps.length cp] 27, rRowO (.slice qp ps.length cp) (ps.map (fun x : Value × List UInt8 => x.1)) 28, rMany ps 5, rBlk b4 [iw k, iw m, Value.slice fa f.length fc, bo y] 30, rMine (.slice a26 ((takeR S.A).1.1.1).length c27) ((takeR S.A).1.1.1) 5, rBlk b29 [Value.slice a26 ((takeR S.A).1.1.1.length) c27, bo false, iw ((takeR S.A).1.1.2)] 49] ⟨rfl, rfl, rfl, rfl, rfl, rfl, rfl, trivial⟩ rfl ?_
              refine SC.fact (p := ps.length ≤ cp) (fun w hI => rowO_le (hI.1.get (i := 6) rfl)) fun hle => ?_
              refine SC.region ?_
              refine SL.ru rfl rfl (lt_b rfl) (ru_load (i := 5) ts27 rfl rfl rfl rfl) ?_
              refine SL.ru rfl rfl (lt_b rfl) (ru_sliceV (size := 1) (l0 := 1) (h0 := ps.length) (m0 := cp) (v := Value.slice (tq qp cp) (ps.length - 1) (cp - 1)) rfl si27 rfl rfl rfl rfl rfl (by simp) (by omega) (by omega) (by omega)) ?_
              refine SL.store (i := 5) (c' := [Value.slice (tq qp cp) (ps.length - 1) (cp - 1)]) rfl rfl ts27 rfl rfl rfl rfl rfl (lt_b rfl) (.inr hb3) rfl ?_
              refine SL.nil ?_
              refine SE.weak (i := 6) (rRowO (.slice (tq qp cp) (ps.length - 1) (cp - 1)) ((ps.map fun x : Value × List UInt8 => x.1).drop 1) 28) rfl (fun w h => (RowO.tail (n := ps.length) (c := cp) (xs := ps.map fun x : Value × List UInt8 => x.1) h (by clear h; omega)).1) (fun b hb => tq_own hb) ?_
              refine SE.manyT (i := 7) rfl ?_
              refine SE.blkn ?_
              refine SC.of_SE ?_
              refine SC.norm [(1, sl ob oo l.length oc), (4, bo false), (6, pt g 0), (7, sl b1 0 n n), (8, pt b2 0), (9, pt b3 0), (10, iw (i : Int))] [rBlk g [pt d 0, pt p 0, pt r 0, pt e 0, pt q 0, pt s 0, Value.slice none 0 0, Value.slice none 0 0] 43, rRing r d p ab F28 ({ S with A := (takeR S.A).2 }), rBlk b1 (ivs held) 3, rBlk b2 [Value.slice qg gp.length cg] 27, rRowO (.slice qg gp.length cg) (gp.map (fun x : Value × List UInt8 => x.1)) 28, rBlk b3 [Value.slice (tq qp cp) (ps.length - 1) (cp - 1)] 27, rRowO (.slice (tq qp cp) (ps.length - 1) (cp - 1)) ((ps.map (fun x : Value × List UInt8 => x.1)).drop 1) 28, rMany (ps.drop 1) 5, rBlk b4 [iw k, iw m, Value.slice fa f.length fc, bo y] 30, rMine (.slice a26 ((takeR S.A).1.1.1).length c27) ((takeR S.A).1.1.1) 5, rBlk b29 [Value.slice a26 ((takeR S.A).1.1.1.length) c27, bo false, iw ((takeR S.A).1.1.2)] 49] ⟨rfl, rfl, rfl, rfl, rfl, rfl, rfl, trivial⟩ rfl ?_
              refine SC.seq ?_
              refine SC.region ?_
              refine SL.ru rfl rfl (lt_b rfl) (ru_move rfl rfl) ?_
              refine SL.ru rfl rfl (lt_b rfl) (ru_move rfl rfl) ?_
              refine SL.callv (bo true) rfl rfl co15 rfl rfl rfl (lt_b rfl) (fun w hI => (c_counted  (show RingOk ({ S with A := (takeR S.A).2 }) from ⟨takeR_ok ((hL.ok hJ).1).a, ((hL.ok hJ).1).t, ((hL.ok hJ).1).r⟩) ((hL.ok hJ).2.1) hg (nG hGf hG) (nG hGf hF28) hHB (hL.ok htk.2.2).2.2.1 h1n (by omega) hI).mono fun e w2 ⟨h1, h2⟩ => ⟨h1.trans (by rw [hL.counted htk.2.2]), h2⟩) ?_
              refine SL.ru rfl rfl (lt_b rfl) (ru_assign rfl rfl) ?_
              refine SL.nil ?_
              refine SC.of_SE ?_
              refine SC.norm [(1, sl ob oo l.length oc), (4, bo false), (6, pt g 0), (7, sl b1 0 n n), (8, pt b2 0), (9, pt b3 0), (10, iw (i : Int)), (21, bo true)] [rBlk g [pt d 0, pt p 0, pt r 0, pt e 0, pt q 0, pt s 0, Value.slice none 0 0, Value.slice none 0 0] 43, rRing r d p ab F28 ({ S with A := (takeR S.A).2 }), rBlk b1 (ivs held) 3, rBlk b2 [Value.slice qg gp.length cg] 27, rRowO (.slice qg gp.length cg) (gp.map (fun x : Value × List UInt8 => x.1)) 28, rBlk b3 [Value.slice (tq qp cp) (ps.length - 1) (cp - 1)] 27, rRowO (.slice (tq qp cp) (ps.length - 1) (cp - 1)) ((ps.map (fun x : Value × List UInt8 => x.1)).drop 1) 28, rMany (ps.drop 1) 5, rBlk b4 [iw k, iw m, Value.slice fa f.length fc, bo y] 30, rMine (.slice a26 ((takeR S.A).1.1.1).length c27) ((takeR S.A).1.1.1) 5, rBlk b29 [Value.slice a26 ((takeR S.A).1.1.1.length) c27, bo false, iw ((takeR S.A).1.1.2)] 49] ⟨rfl, rfl, rfl, rfl, rfl, rfl, rfl, rfl, trivial⟩ rfl ?_
              refine SC.seq ?_
              refine SC.region ?_
              refine SL.ru rfl rfl (lt_b rfl) (ru_move rfl rfl) ?_
              refine SL.ru rfl rfl (lt_b rfl) (ru_not (c := false) rfl rfl rfl) ?_
              refine SL.nil ?_
              refine SC.of_SE ?_
              refine SC.norm [(1, sl ob oo l.length oc), (4, bo false), (6, pt g 0), (7, sl b1 0 n n), (8, pt b2 0), (9, pt b3 0), (10, iw (i : Int)), (158, bo false)] [rBlk g [pt d 0, pt p 0, pt r 0, pt e 0, pt q 0, pt s 0, Value.slice none 0 0, Value.slice none 0 0] 43, rRing r d p ab F28 ({ S with A := (takeR S.A).2 }), rBlk b1 (ivs held) 3, rBlk b2 [Value.slice qg gp.length cg] 27, rRowO (.slice qg gp.length cg) (gp.map (fun x : Value × List UInt8 => x.1)) 28, rBlk b3 [Value.slice (tq qp cp) (ps.length - 1) (cp - 1)] 27, rRowO (.slice (tq qp cp) (ps.length - 1) (cp - 1)) ((ps.map (fun x : Value × List UInt8 => x.1)).drop 1) 28, rMany (ps.drop 1) 5, rBlk b4 [iw k, iw m, Value.slice fa f.length fc, bo y] 30, rMine (.slice a26 ((takeR S.A).1.1.1).length c27) ((takeR S.A).1.1.1) 5, rBlk b29 [Value.slice a26 ((takeR S.A).1.1.1.length) c27, bo false, iw ((takeR S.A).1.1.2)] 49] ⟨rfl, rfl, rfl, rfl, rfl, rfl, rfl, rfl, trivial⟩ rfl ?_
              refine SC.no rfl ?_
              refine SC.skip ?_
              refine SE.blkn ?_
              refine SC.of_SE ?_
              refine SC.norm [(1, sl ob oo l.length oc), (4, bo false), (6, pt g 0), (7, sl b1 0 n n), (8, pt b2 0), (9, pt b3 0), (10, iw (i : Int))] [rBlk g [pt d 0, pt p 0, pt r 0, pt e 0, pt q 0, pt s 0, Value.slice none 0 0, Value.slice none 0 0] 43, rRing r d p ab F28 ({ S with A := (takeR S.A).2 }), rBlk b1 (ivs held) 3, rBlk b2 [Value.slice qg gp.length cg] 27, rRowO (.slice qg gp.length cg) (gp.map (fun x : Value × List UInt8 => x.1)) 28, rBlk b3 [Value.slice (tq qp cp) (ps.length - 1) (cp - 1)] 27, rRowO (.slice (tq qp cp) (ps.length - 1) (cp - 1)) ((ps.map (fun x : Value × List UInt8 => x.1)).drop 1) 28, rMany (ps.drop 1) 5, rBlk b4 [iw k, iw m, Value.slice fa f.length fc, bo y] 30, rMine (.slice a26 ((takeR S.A).1.1.1).length c27) ((takeR S.A).1.1.1) 5, rBlk b29 [Value.slice a26 ((takeR S.A).1.1.1.length) c27, bo false, iw ((takeR S.A).1.1.2)] 49] ⟨rfl, rfl, rfl, rfl, rfl, rfl, rfl, trivial⟩ rfl ?_
              refine SC.region ?_
              refine SL.ru rfl rfl (lt_b rfl) (ru_move rfl rfl) ?_
              refine SL.ru rfl rfl (lt_b rfl) (ru_add (r := (IntKind.i64.wrap ((i : Int) + 1))) rfl rfl rfl rfl) ?_
              refine SL.ru rfl rfl (lt_b rfl) (ru_assign rfl rfl) ?_
              refine SL.nil ?_
              refine SE.pick [0, 1, 2, 3, 4, 5, 6, 7] rfl ?_
              refine SE.again N ⟨i + 1, { S with A := (takeR S.A).2 }, F28, held, gp, qg, cg, ps.drop 1, (tq qp cp), (cp - 1)⟩ (by omega) ⟨by simp only; omega, (by first | exact htk.2.2 | simpa only [List.map_append, List.map_cons, List.map_nil, List.map_drop] using htk.2.2), hF28, hgp, hqg, (fun b hb => ((fun b hb => hqp b (tq_own hb))) b (by simpa only [List.length_append, List.length_cons, List.length_nil, List.length_drop] using hb))⟩ ⟨rfl, rfl, rfl, rfl, rfl, rfl, (congrArg (fun x => some (iw x)) (show IntKind.i64.wrap ((i : Int) + 1) = ((i + 1 : Nat) : Int) by rw [IntKind.wrap_i64]; omega)), trivial⟩ (by first | rfl | (simp only [List.map_append, List.map_cons, List.map_nil, List.length_append, List.length_cons, List.length_nil, List.map_drop, List.length_drop]; rfl))
            · skip
              refine SC.skip ?_
              refine SE.blkn ?_
              refine SC.of_SE ?_
              refine SC.norm [(1, sl ob oo l.length oc), (4, bo false), (6, pt g 0), (7, sl b1 0 n n), (8, pt b2 0), (9, pt b3 0), (10, iw (i : Int))] [rBlk g [pt d 0, pt p 0, pt r 0, pt e 0, pt q 0, pt s 0, Value.slice none 0 0, Value.slice none 0 0] 43, rRing r d p ab F28 ({ S with A := (takeR S.A).2 }), rBlk b1 (ivs held) 3, rBlk b2 [Value.slice qg gp.length cg] 27, rRowO (.slice qg gp.length cg) (gp.map (fun x : Value × List UInt8 => x.1)) 28, rBlk b3 [Value.slice qp ps.length cp] 27, rRowO (.slice qp ps.length cp) (ps.map (fun x : Value × List UInt8 => x.1)) 28, rMany ps 5, rBlk b4 [iw k, iw m, Value.slice fa f.length fc, bo y] 30, rMine (.slice a26 ((takeR S.A).1.1.1).length c27) ((takeR S.A).1.1.1) 5, rBlk b29 [Value.slice a26 ((takeR S.A).1.1.1.length) c27, bo false, iw ((takeR S.A).1.1.2)] 49] ⟨rfl, rfl, rfl, rfl, rfl, rfl, rfl, trivial⟩ rfl ?_
              refine SC.seq ?_
              refine SC.region ?_
              refine SL.ru rfl rfl (lt_b rfl) (ru_move rfl rfl) ?_
              refine SL.ru rfl rfl (lt_b rfl) (ru_move rfl rfl) ?_
              refine SL.callv (bo true) rfl rfl co15 rfl rfl rfl (lt_b rfl) (fun w hI => (c_counted  (show RingOk ({ S with A := (takeR S.A).2 }) from ⟨takeR_ok ((hL.ok hJ).1).a, ((hL.ok hJ).1).t, ((hL.ok hJ).1).r⟩) ((hL.ok hJ).2.1) hg (nG hGf hG) (nG hGf hF28) hHB (hL.ok (hL.take hJ (eq_f h30))).2.2.1 h1n (by omega) hI).mono fun e w2 ⟨h1, h2⟩ => ⟨h1.trans (by rw [hL.counted (hL.take hJ (eq_f h30))]), h2⟩) ?_
              refine SL.ru rfl rfl (lt_b rfl) (ru_assign rfl rfl) ?_
              refine SL.nil ?_
              refine SC.of_SE ?_
              refine SC.norm [(1, sl ob oo l.length oc), (4, bo false), (6, pt g 0), (7, sl b1 0 n n), (8, pt b2 0), (9, pt b3 0), (10, iw (i : Int)), (21, bo true)] [rBlk g [pt d 0, pt p 0, pt r 0, pt e 0, pt q 0, pt s 0, Value.slice none 0 0, Value.slice none 0 0] 43, rRing r d p ab F28 ({ S with A := (takeR S.A).2 }), rBlk b1 (ivs held) 3, rBlk b2 [Value.slice qg gp.length cg] 27, rRowO (.slice qg gp.length cg) (gp.map (fun x : Value × List UInt8 => x.1)) 28, rBlk b3 [Value.slice qp ps.length cp] 27, rRowO (.slice qp ps.length cp) (ps.map (fun x : Value × List UInt8 => x.1)) 28, rMany ps 5, rBlk b4 [iw k, iw m, Value.slice fa f.length fc, bo y] 30, rMine (.slice a26 ((takeR S.A).1.1.1).length c27) ((takeR S.A).1.1.1) 5, rBlk b29 [Value.slice a26 ((takeR S.A).1.1.1.length) c27, bo false, iw ((takeR S.A).1.1.2)] 49] ⟨rfl, rfl, rfl, rfl, rfl, rfl, rfl, rfl, trivial⟩ rfl ?_
              refine SC.seq ?_
              refine SC.region ?_
              refine SL.ru rfl rfl (lt_b rfl) (ru_move rfl rfl) ?_
              refine SL.ru rfl rfl (lt_b rfl) (ru_not (c := false) rfl rfl rfl) ?_
              refine SL.nil ?_
              refine SC.of_SE ?_
              refine SC.norm [(1, sl ob oo l.length oc), (4, bo false), (6, pt g 0), (7, sl b1 0 n n), (8, pt b2 0), (9, pt b3 0), (10, iw (i : Int)), (158, bo false)] [rBlk g [pt d 0, pt p 0, pt r 0, pt e 0, pt q 0, pt s 0, Value.slice none 0 0, Value.slice none 0 0] 43, rRing r d p ab F28 ({ S with A := (takeR S.A).2 }), rBlk b1 (ivs held) 3, rBlk b2 [Value.slice qg gp.length cg] 27, rRowO (.slice qg gp.length cg) (gp.map (fun x : Value × List UInt8 => x.1)) 28, rBlk b3 [Value.slice qp ps.length cp] 27, rRowO (.slice qp ps.length cp) (ps.map (fun x : Value × List UInt8 => x.1)) 28, rMany ps 5, rBlk b4 [iw k, iw m, Value.slice fa f.length fc, bo y] 30, rMine (.slice a26 ((takeR S.A).1.1.1).length c27) ((takeR S.A).1.1.1) 5, rBlk b29 [Value.slice a26 ((takeR S.A).1.1.1.length) c27, bo false, iw ((takeR S.A).1.1.2)] 49] ⟨rfl, rfl, rfl, rfl, rfl, rfl, rfl, rfl, trivial⟩ rfl ?_
              refine SC.no rfl ?_
              refine SC.skip ?_
              refine SE.blkn ?_
              refine SC.of_SE ?_
              refine SC.norm [(1, sl ob oo l.length oc), (4, bo false), (6, pt g 0), (7, sl b1 0 n n), (8, pt b2 0), (9, pt b3 0), (10, iw (i : Int))] [rBlk g [pt d 0, pt p 0, pt r 0, pt e 0, pt q 0, pt s 0, Value.slice none 0 0, Value.slice none 0 0] 43, rRing r d p ab F28 ({ S with A := (takeR S.A).2 }), rBlk b1 (ivs held) 3, rBlk b2 [Value.slice qg gp.length cg] 27, rRowO (.slice qg gp.length cg) (gp.map (fun x : Value × List UInt8 => x.1)) 28, rBlk b3 [Value.slice qp ps.length cp] 27, rRowO (.slice qp ps.length cp) (ps.map (fun x : Value × List UInt8 => x.1)) 28, rMany ps 5, rBlk b4 [iw k, iw m, Value.slice fa f.length fc, bo y] 30, rMine (.slice a26 ((takeR S.A).1.1.1).length c27) ((takeR S.A).1.1.1) 5, rBlk b29 [Value.slice a26 ((takeR S.A).1.1.1.length) c27, bo false, iw ((takeR S.A).1.1.2)] 49] ⟨rfl, rfl, rfl, rfl, rfl, rfl, rfl, trivial⟩ rfl ?_
              refine SC.region ?_
              refine SL.ru rfl rfl (lt_b rfl) (ru_move rfl rfl) ?_
              refine SL.ru rfl rfl (lt_b rfl) (ru_add (r := (IntKind.i64.wrap ((i : Int) + 1))) rfl rfl rfl rfl) ?_
              refine SL.ru rfl rfl (lt_b rfl) (ru_assign rfl rfl) ?_
              refine SL.nil ?_
              refine SE.pick [0, 1, 2, 3, 4, 5, 6, 7] rfl ?_
              refine SE.again N ⟨i + 1, { S with A := (takeR S.A).2 }, F28, held, gp, qg, cg, ps, qp, cp⟩ (by omega) ⟨by simp only; omega, (hL.take hJ (eq_f h30)), hF28, hgp, hqg, hqp⟩ ⟨rfl, rfl, rfl, rfl, rfl, rfl, (congrArg (fun x => some (iw x)) (show IntKind.i64.wrap ((i : Int) + 1) = ((i + 1 : Nat) : Int) by rw [IntKind.wrap_i64]; omega)), trivial⟩ (by first | rfl | (simp only [List.map_append, List.map_cons, List.map_nil, List.length_append, List.length_cons, List.length_nil, List.map_drop, List.length_drop]; rfl))
          · skip
            refine SC.seq ?_
            refine SC.region ?_
            refine SL.ru rfl rfl (lt_b rfl) (ru_eq (b := ((k : Int) == 5)) rfl rfl rfl rfl) ?_
            refine SL.ru rfl rfl (lt_b rfl) (ru_assign rfl rfl) ?_
            refine SL.nil ?_
            refine SC.of_SE ?_
            refine SC.norm [(1, sl ob oo l.length oc), (4, bo false), (6, pt g 0), (7, sl b1 0 n n), (8, pt b2 0), (9, pt b3 0), (10, iw (i : Int)), (11, pt b4 0), (53, iw k), (129, bo ((k : Int) == 5))] [rBlk g [pt d 0, pt p 0, pt r 0, pt e 0, pt q 0, pt s 0, Value.slice none 0 0, Value.slice none 0 0] 43, rRing r d p ab F S, rBlk b1 (ivs held) 3, rBlk b2 [Value.slice qg gp.length cg] 27, rRowO (.slice qg gp.length cg) (gp.map (fun x : Value × List UInt8 => x.1)) 28, rBlk b3 [Value.slice qp ps.length cp] 27, rRowO (.slice qp ps.length cp) (ps.map (fun x : Value × List UInt8 => x.1)) 28, rMany ps 5, rBlk b4 [iw k, iw m, Value.slice fa f.length fc, bo y] 30] ⟨rfl, rfl, rfl, rfl, rfl, rfl, rfl, rfl, rfl, rfl, trivial⟩ rfl ?_
            refine SC.both ((k : Int) == 5) rfl (fun h31 => ?_) (fun h31 => ?_)
            · skip
              refine SC.seq ?_
              refine SC.region_tail 6 (by kernel_rfl) (by kernel_rfl) ?_
              refine SQ.ru rfl rfl (lt_b rfl) (ru_move rfl rfl) ?_
              refine SQ.ru rfl rfl (lt_b rfl) (ru_nilCheck rfl rfl) ?_
              refine SQ.ru rfl rfl (lt_b rfl) (ru_fieldAddr (o2 := 0) fd43_0 rfl rfl rfl) ?_
              refine SQ.ru rfl rfl (lt_b rfl) (ru_load (i := 0) ts36 rfl rfl rfl rfl) ?_
              refine SQ.ru rfl rfl (lt_b rfl) (ru_fieldAddr (o2 := 2) fd30_2 rfl rfl rfl) ?_
              refine SQ.ru rfl rfl (lt_b rfl) (ru_load (i := 8) ts28 rfl rfl rfl rfl) ?_
              refine SQ.nilL ?_
              refine SL.call (ζ := Nat → Prop) (fun F32 => iw ((giveF S.A f false).1)) (fun F32 => [rBlk g [pt d 0, pt p 0, pt r 0, pt e 0, pt q 0, pt s 0, Value.slice none 0 0, Value.slice none 0 0] 43, rRing r d p ab F32 ({ S with A := (giveF S.A f false).2 }), rBlk b1 (ivs held) 3, rBlk b2 [Value.slice qg gp.length cg] 27, rRowO (.slice qg gp.length cg) (gp.map (fun x : Value × List UInt8 => x.1)) 28, rBlk b3 [Value.slice qp ps.length cp] 27, rRowO (.slice qp ps.length cp) (ps.map (fun x : Value × List UInt8 => x.1)) 28, rMany ps 5, rBlk b4 [iw k, iw m, Value.slice fa f.length fc, bo y] 30]) (fun F32 => (∀ b, F32 b → G b ∨ w.heap.size ≤ b)) rfl rfl co13 rfl rfl rfl (lt_b rfl) (fun w hI => (p_give ((hL.ok hJ).1).a (ring_at hI (i := 1) rfl).dev (hb0.only hI.2 (hs0.mono fun b _ h => hGf b h)) (hs0.mono fun b hlt e => by have := nG hGf hG b (.inr (.inl e)); omega) false).mono fun e w2 ⟨h1, h2⟩ => by obtain ⟨F2, k1, k2⟩ := hI.ringTo (F0 := G) (i := 1) rfl hG ((ring_at hI (i := 1) rfl).devTo h2) hF; exact ⟨F2, h1, k1, k2⟩) ?_
              intro F32 hF32
              refine SL.ru rfl rfl (lt_b rfl) (ru_assign rfl rfl) ?_
              refine SL.nil ?_
              refine SC.of_SE ?_
              refine SC.norm [(1, sl ob oo l.length oc), (4, bo false), (6, pt g 0), (7, sl b1 0 n n), (8, pt b2 0), (9, pt b3 0), (10, iw (i : Int)), (11, pt b4 0), (19, iw ((giveF S.A f false).1))] [rBlk g [pt d 0, pt p 0, pt r 0, pt e 0, pt q 0, pt s 0, Value.slice none 0 0, Value.slice none 0 0] 43, rRing r d p ab F32 ({ S with A := (giveF S.A f false).2 }), rBlk b1 (ivs held) 3, rBlk b2 [Value.slice qg gp.length cg] 27, rRowO (.slice qg gp.length cg) (gp.map (fun x : Value × List UInt8 => x.1)) 28, rBlk b3 [Value.slice qp ps.length cp] 27, rRowO (.slice qp ps.length cp) (ps.map (fun x : Value × List UInt8 => x.1)) 28, rMany ps 5, rBlk b4 [iw k, iw m, Value.slice fa f.length fc, bo y] 30] ⟨rfl, rfl, rfl, rfl, rfl, rfl, rfl, rfl, rfl, trivial⟩ rfl ?_
              refine SC.seq ?_
              refine SC.region ?_
              refine SL.ru rfl rfl (lt_b rfl) (ru_move rfl rfl) ?_
              refine SL.ru rfl rfl (lt_b rfl) (ru_eq (b := ((((giveF S.A f false).1) : Int) == 0)) rfl rfl rfl rfl) ?_
              refine SL.nil ?_
              refine SC.of_SE ?_
              refine SC.norm [(1, sl ob oo l.length oc), (4, bo false), (6, pt g 0), (7, sl b1 0 n n), (8, pt b2 0), (9, pt b3 0), (10, iw (i : Int)), (11, pt b4 0), (139, bo ((((giveF S.A f false).1) : Int) == 0))] [rBlk g [pt d 0, pt p 0, pt r 0, pt e 0, pt q 0, pt s 0, Value.slice none 0 0, Value.slice none 0 0] 43, rRing r d p ab F32 ({ S with A := (giveF S.A f false).2 }), rBlk b1 (ivs held) 3, rBlk b2 [Value.slice qg gp.length cg] 27, rRowO (.slice qg gp.length cg) (gp.map (fun x : Value × List UInt8 => x.1)) 28, rBlk b3 [Value.slice qp ps.length cp] 27, rRowO (.slice qp ps.length cp) (ps.map (fun x : Value × List UInt8 => x.1)) 28, rMany ps 5, rBlk b4 [iw k, iw m, Value.slice fa f.length fc, bo y] 30] ⟨rfl, rfl, rfl, rfl, rfl, rfl, rfl, rfl, rfl, trivial⟩ rfl ?_
              refine SC.both ((((giveF S.A f false).1) : Int) == 0) rfl (fun h33 => ?_) (fun h33 => ?_)
              · skip
                refine SC.region ?_
                refine SL.ru rfl rfl (lt_b rfl) (ru_load (i := 3) ts27 rfl rfl rfl rfl) ?_
                refine SL.ru rfl rfl (lt_b rfl) (ru_fieldAddr (o2 := 2) fd30_2 rfl rfl rfl) ?_
                refine SL.ru rfl rfl (lt_b rfl) (ru_load (i := 8) ts28 rfl rfl rfl rfl) ?_
                refine SL.buildSlice (size := 1) (vals := [(0, Value.slice fa f.length fc)]) (z := [Value.slice none 0 0]) (cs := [Value.slice fa f.length fc]) rfl rfl (lt_b rfl) rfl Try.underlying27 (by kernel_rfl) rfl rfl (by kernel_rfl) fun b34 hb34 => ?_
                refine SL.append_rowO (ri := 4) (rj := 9) (z := Value.slice none 0 0) (bytes := 24) rfl rfl (lt_b rfl) rfl Try.underlying27 (by kernel_rfl) rfl rfl rfl rfl rfl rfl (by simp only [List.length_map]; omega) (by unfold maxLen; simp only [List.length_map]; omega) (fun b hb => .inr (hqg b hb)) fun q35 c36 hq37 => ?_
                refine SL.store (i := 3) (c' := [Value.slice q35 (gp.length + 1) c36]) rfl rfl ts27 rfl rfl rfl rfl rfl (lt_b rfl) (.inr hb2) rfl ?_
                refine SL.nil ?_
                refine SE.blkn ?_
                refine SC.of_SE ?_
                refine SC.norm [(1, sl ob oo l.length oc), (4, bo false), (6, pt g 0), (7, sl b1 0 n n), (8, pt b2 0), (9, pt b3 0), (10, iw (i : Int))] [rBlk g [pt d 0, pt p 0, pt r 0, pt e 0, pt q 0, pt s 0, Value.slice none 0 0, Value.slice none 0 0] 43, rRing r d p ab F32 ({ S with A := (giveF S.A f false).2 }), rBlk b1 (ivs held) 3, rBlk b2 [Value.slice q35 (gp.length + 1) c36] 27, rRowO (.slice q35 (gp.length + 1) c36) (gp.map (fun x : Value × List UInt8 => x.1) ++ [Value.slice fa f.length fc]) 28, rBlk b3 [Value.slice qp ps.length cp] 27, rRowO (.slice qp ps.length cp) (ps.map (fun x : Value × List UInt8 => x.1)) 28, rMany ps 5, rBlk b4 [iw k, iw m, Value.slice fa f.length fc, bo y] 30, rBlk b34 [Value.slice fa f.length fc] 28] ⟨rfl, rfl, rfl, rfl, rfl, rfl, rfl, trivial⟩ rfl ?_
                refine SC.seq ?_
                refine SC.region ?_
                refine SL.ru rfl rfl (lt_b rfl) (ru_move rfl rfl) ?_
                refine SL.ru rfl rfl (lt_b rfl) (ru_move rfl rfl) ?_
                refine SL.callv (bo true) rfl rfl co15 rfl rfl rfl (lt_b rfl) (fun w hI => (c_counted  (show RingOk ({ S with A := (giveF S.A f false).2 }) from ⟨give_ok ((hL.ok hJ).1).a f false, ((hL.ok hJ).1).t, ((hL.ok hJ).1).r⟩) ((hL.ok hJ).2.1) hg (nG hGf hG) (nG hGf hF32) hHB (hL.ok (hL.give0 hJ f (eq_t h33))).2.2.1 h1n (by omega) hI).mono fun e w2 ⟨h1, h2⟩ => ⟨h1.trans (by rw [hL.counted (hL.give0 hJ f (eq_t h33))]), h2⟩) ?_
                refine SL.ru rfl rfl (lt_b rfl) (ru_assign rfl rfl) ?_
                refine SL.nil ?_
                refine SC.of_SE ?_
                refine SC.norm [(1, sl ob oo l.length oc), (4, bo false), (6, pt g 0), (7, sl b1 0 n n), (8, pt b2 0), (9, pt b3 0), (10, iw (i : Int)), (21, bo true)] [rBlk g [pt d 0, pt p 0, pt r 0, pt e 0, pt q 0, pt s 0, Value.slice none 0 0, Value.slice none 0 0] 43, rRing r d p ab F32 ({ S with A := (giveF S.A f false).2 }), rBlk b1 (ivs held) 3, rBlk b2 [Value.slice q35 (gp.length + 1) c36] 27, rRowO (.slice q35 (gp.length + 1) c36) (gp.map (fun x : Value × List UInt8 => x.1) ++ [Value.slice fa f.length fc]) 28, rBlk b3 [Value.slice qp ps.length cp] 27, rRowO (.slice qp ps.length cp) (ps.map (fun x : Value × List UInt8 => x.1)) 28, rMany ps 5, rBlk b4 [iw k, iw m, Value.slice fa f.length fc, bo y] 30, rBlk b34 [Value.slice fa f.length fc] 28] ⟨rfl, rfl, rfl, rfl, rfl, rfl, rfl, rfl, trivial⟩ rfl ?_
                refine SC.seq ?_
                refine SC.region ?_
                refine SL.ru rfl rfl (lt_b rfl) (ru_move rfl rfl) ?_
                refine SL.ru rfl rfl (lt_b rfl) (ru_not (c := false) rfl rfl rfl) ?_
                refine SL.nil ?_
                refine SC.of_SE ?_
                refine SC.norm [(1, sl ob oo l.length oc), (4, bo false), (6, pt g 0), (7, sl b1 0 n n), (8, pt b2 0), (9, pt b3 0), (10, iw (i : Int)), (158, bo false)] [rBlk g [pt d 0, pt p 0, pt r 0, pt e 0, pt q 0, pt s 0, Value.slice none 0 0, Value.slice none 0 0] 43, rRing r d p ab F32 ({ S with A := (giveF S.A f false).2 }), rBlk b1 (ivs held) 3, rBlk b2 [Value.slice q35 (gp.length + 1) c36] 27, rRowO (.slice q35 (gp.length + 1) c36) (gp.map (fun x : Value × List UInt8 => x.1) ++ [Value.slice fa f.length fc]) 28, rBlk b3 [Value.slice qp ps.length cp] 27, rRowO (.slice qp ps.length cp) (ps.map (fun x : Value × List UInt8 => x.1)) 28, rMany ps 5, rBlk b4 [iw k, iw m, Value.slice fa f.length fc, bo y] 30, rBlk b34 [Value.slice fa f.length fc] 28] ⟨rfl, rfl, rfl, rfl, rfl, rfl, rfl, rfl, trivial⟩ rfl ?_
                refine SC.no rfl ?_
                refine SC.skip ?_
                refine SE.blkn ?_
                refine SC.of_SE ?_
                refine SC.norm [(1, sl ob oo l.length oc), (4, bo false), (6, pt g 0), (7, sl b1 0 n n), (8, pt b2 0), (9, pt b3 0), (10, iw (i : Int))] [rBlk g [pt d 0, pt p 0, pt r 0, pt e 0, pt q 0, pt s 0, Value.slice none 0 0, Value.slice none 0 0] 43, rRing r d p ab F32 ({ S with A := (giveF S.A f false).2 }), rBlk b1 (ivs held) 3, rBlk b2 [Value.slice q35 (gp.length + 1) c36] 27, rRowO (.slice q35 (gp.length + 1) c36) (gp.map (fun x : Value × List UInt8 => x.1) ++ [Value.slice fa f.length fc]) 28, rBlk b3 [Value.slice qp ps.length cp] 27, rRowO (.slice qp ps.length cp) (ps.map (fun x : Value × List UInt8 => x.1)) 28, rMany ps 5, rBlk b4 [iw k, iw m, Value.slice fa f.length fc, bo y] 30, rBlk b34 [Value.slice fa f.length fc] 28] ⟨rfl, rfl, rfl, rfl, rfl, rfl, rfl, trivial⟩ rfl ?_
                refine SC.region ?_
                refine SL.ru rfl rfl (lt_b rfl) (ru_move rfl rfl) ?_
                refine SL.ru rfl rfl (lt_b rfl) (ru_add (r := (IntKind.i64.wrap ((i : Int) + 1))) rfl rfl rfl rfl) ?_
                refine SL.ru rfl rfl (lt_b rfl) (ru_assign rfl rfl) ?_
                refine SL.nil ?_
                refine SE.pick [0, 1, 2, 3, 4, 5, 6, 7] rfl ?_
                refine SE.again N ⟨i + 1, { S with A := (giveF S.A f false).2 }, F32, held, gp ++ [(Value.slice fa f.length fc, f)], q35, c36, ps, qp, cp⟩ (by omega) ⟨by simp only; omega, (by first | exact (hL.give0 hJ f (eq_t h33)) | simpa only [List.map_append, List.map_cons, List.map_nil, List.map_drop] using (hL.give0 hJ f (eq_t h33))), hF32, (fun x hx => by rcases List.mem_append.1 hx with hx | hx; exact hgp x hx; simp at hx; subst hx; exact ⟨hb0, hs0⟩), (fun b hb => ((hq37 b (by simpa only [List.length_append, List.length_cons, List.length_nil, List.length_drop] using hb)).elim (fun h => (hGf b h).elim) id)), hqp⟩ ⟨rfl, rfl, rfl, rfl, rfl, rfl, (congrArg (fun x => some (iw x)) (show IntKind.i64.wrap ((i : Int) + 1) = ((i + 1 : Nat) : Int) by rw [IntKind.wrap_i64]; omega)), trivial⟩ (by first | rfl | (simp only [List.map_append, List.map_cons, List.map_nil, List.length_append, List.length_cons, List.length_nil, List.map_drop, List.length_drop]; rfl))
              · skip
                refine SC.skip ?_
                refine SE.blkn ?_
                refine SC.of_SE ?_
                refine SC.norm [(1, sl ob oo l.length oc), (4, bo false), (6, pt g 0), (7, sl b1 0 n n), (8, pt b2 0), (9, pt b3 0), (10, iw (i : Int))] [rBlk g [pt d 0, pt p 0, pt r 0, pt e 0, pt q 0, pt s 0, Value.slice none 0 0, Value.slice none 0 0] 43, rRing r d p ab F32 ({ S with A := (giveF S.A f false).2 }), rBlk b1 (ivs held) 3, rBlk b2 [Value.slice qg gp.length cg] 27, rRowO (.slice qg gp.length cg) (gp.map (fun x : Value × List UInt8 => x.1)) 28, rBlk b3 [Value.slice qp ps.length cp] 27, rRowO (.slice qp ps.length cp) (ps.map (fun x : Value × List UInt8 => x.1)) 28, rMany ps 5, rBlk b4 [iw k, iw m, Value.slice fa f.length fc, bo y] 30] ⟨rfl, rfl, rfl, rfl, rfl, rfl, rfl, trivial⟩ rfl ?_
                refine SC.seq ?_
                refine SC.region ?_
                refine SL.ru rfl rfl (lt_b rfl) (ru_move rfl rfl) ?_
                refine SL.ru rfl rfl (lt_b rfl) (ru_move rfl rfl) ?_
                refine SL.callv (bo true) rfl rfl co15 rfl rfl rfl (lt_b rfl) (fun w hI => (c_counted  (show RingOk ({ S with A := (giveF S.A f false).2 }) from ⟨give_ok ((hL.ok hJ).1).a f false, ((hL.ok hJ).1).t, ((hL.ok hJ).1).r⟩) ((hL.ok hJ).2.1) hg (nG hGf hG) (nG hGf hF32) hHB (hL.ok (hL.give hJ f (eq_f h33))).2.2.1 h1n (by omega) hI).mono fun e w2 ⟨h1, h2⟩ => ⟨h1.trans (by rw [hL.counted (hL.give hJ f (eq_f h33))]), h2⟩) ?_
                refine SL.ru rfl rfl (lt_b rfl) (ru_assign rfl rfl) ?_
                refine SL.nil ?_
                refine SC.of_SE ?_
                refine SC.norm [(1, sl ob oo l.length oc), (4, bo false), (6, pt g 0), (7, sl b1 0 n n), (8, pt b2 0), (9, pt b3 0), (10, iw (i : Int)), (21, bo true)] [rBlk g [pt d 0, pt p 0, pt r 0, pt e 0, pt q 0, pt s 0, Value.slice none 0 0, Value.slice none 0 0] 43, rRing r d p ab F32 ({ S with A := (giveF S.A f false).2 }), rBlk b1 (ivs held) 3, rBlk b2 [Value.slice qg gp.length cg] 27, rRowO (.slice qg gp.length cg) (gp.map (fun x : Value × List UInt8 => x.1)) 28, rBlk b3 [Value.slice qp ps.length cp] 27, rRowO (.slice qp ps.length cp) (ps.map (fun x : Value × List UInt8 => x.1)) 28, rMany ps 5, rBlk b4 [iw k, iw m, Value.slice fa f.length fc, bo y] 30] ⟨rfl, rfl, rfl, rfl, rfl, rfl, rfl, rfl, trivial⟩ rfl ?_
                refine SC.seq ?_
                refine SC.region ?_
                refine SL.ru rfl rfl (lt_b rfl) (ru_move rfl rfl) ?_
                refine SL.ru rfl rfl (lt_b rfl) (ru_not (c := false) rfl rfl rfl) ?_
                refine SL.nil ?_
                refine SC.of_SE ?_
                refine SC.norm [(1, sl ob oo l.length oc), (4, bo false), (6, pt g 0), (7, sl b1 0 n n), (8, pt b2 0), (9, pt b3 0), (10, iw (i : Int)), (158, bo false)] [rBlk g [pt d 0, pt p 0, pt r 0, pt e 0, pt q 0, pt s 0, Value.slice none 0 0, Value.slice none 0 0] 43, rRing r d p ab F32 ({ S with A := (giveF S.A f false).2 }), rBlk b1 (ivs held) 3, rBlk b2 [Value.slice qg gp.length cg] 27, rRowO (.slice qg gp.length cg) (gp.map (fun x : Value × List UInt8 => x.1)) 28, rBlk b3 [Value.slice qp ps.length cp] 27, rRowO (.slice qp ps.length cp) (ps.map (fun x : Value × List UInt8 => x.1)) 28, rMany ps 5, rBlk b4 [iw k, iw m, Value.slice fa f.length fc, bo y] 30] ⟨rfl, rfl, rfl, rfl, rfl, rfl, rfl, rfl, trivial⟩ rfl ?_
                refine SC.no rfl ?_
                refine SC.skip ?_
                refine SE.blkn ?_
                refine SC.of_SE ?_
                refine SC.norm [(1, sl ob oo l.length oc), (4, bo false), (6, pt g 0), (7, sl b1 0 n n), (8, pt b2 0), (9, pt b3 0), (10, iw (i : Int))] [rBlk g [pt d 0, pt p 0, pt r 0, pt e 0, pt q 0, pt s 0, Value.slice none 0 0, Value.slice none 0 0] 43, rRing r d p ab F32 ({ S with A := (giveF S.A f false).2 }), rBlk b1 (ivs held) 3, rBlk b2 [Value.slice qg gp.length cg] 27, rRowO (.slice qg gp.length cg) (gp.map (fun x : Value × List UInt8 => x.1)) 28, rBlk b3 [Value.slice qp ps.length cp] 27, rRowO (.slice qp ps.length cp) (ps.map (fun x : Value × List UInt8 => x.1)) 28, rMany ps 5, rBlk b4 [iw k, iw m, Value.slice fa f.length fc, bo y] 30] ⟨rfl, rfl, rfl, rfl, rfl, rfl, rfl, trivial⟩ rfl ?_
                refine SC.region ?_
                refine SL.ru rfl rfl (lt_b rfl) (ru_move rfl rfl) ?_
                refine SL.ru rfl rfl (lt_b rfl) (ru_add (r := (IntKind.i64.wrap ((i : Int) + 1))) rfl rfl rfl rfl) ?_
                refine SL.ru rfl rfl (lt_b rfl) (ru_assign rfl rfl) ?_
                refine SL.nil ?_
                refine SE.pick [0, 1, 2, 3, 4, 5, 6, 7] rfl ?_
                refine SE.again N ⟨i + 1, { S with A := (giveF S.A f false).2 }, F32, held, gp, qg, cg, ps, qp, cp⟩ (by omega) ⟨by simp only; omega, (hL.give hJ f (eq_f h33)), hF32, hgp, hqg, hqp⟩ ⟨rfl, rfl, rfl, rfl, rfl, rfl, (congrArg (fun x => some (iw x)) (show IntKind.i64.wrap ((i : Int) + 1) = ((i + 1 : Nat) : Int) by rw [IntKind.wrap_i64]; omega)), trivial⟩ (by first | rfl | (simp only [List.map_append, List.map_cons, List.map_nil, List.length_append, List.length_cons, List.length_nil, List.map_drop, List.length_drop]; rfl))
            · skip
              refine SC.seq ?_
              refine SC.region ?_
              refine SL.ru rfl rfl (lt_b rfl) (ru_eq (b := ((k : Int) == 8)) rfl rfl rfl rfl) ?_
              refine SL.ru rfl rfl (lt_b rfl) (ru_assign rfl rfl) ?_
              refine SL.nil ?_
              refine SC.of_SE ?_
              refine SC.norm [(1, sl ob oo l.length oc), (4, bo false), (6, pt g 0), (7, sl b1 0 n n), (8, pt b2 0), (9, pt b3 0), (10, iw (i : Int)), (11, pt b4 0), (145, bo ((k : Int) == 8))] [rBlk g [pt d 0, pt p 0, pt r 0, pt e 0, pt q 0, pt s 0, Value.slice none 0 0, Value.slice none 0 0] 43, rRing r d p ab F S, rBlk b1 (ivs held) 3, rBlk b2 [Value.slice qg gp.length cg] 27, rRowO (.slice qg gp.length cg) (gp.map (fun x : Value × List UInt8 => x.1)) 28, rBlk b3 [Value.slice qp ps.length cp] 27, rRowO (.slice qp ps.length cp) (ps.map (fun x : Value × List UInt8 => x.1)) 28, rMany ps 5, rBlk b4 [iw k, iw m, Value.slice fa f.length fc, bo y] 30] ⟨rfl, rfl, rfl, rfl, rfl, rfl, rfl, rfl, rfl, trivial⟩ rfl ?_
              refine SC.both ((k : Int) == 8) rfl (fun h38 => ?_) (fun h38 => ?_)
              · skip
                refine SC.seq ?_
                refine SC.region ?_
                refine SL.ru rfl rfl (lt_b rfl) (ru_move rfl rfl) ?_
                refine SL.ru rfl rfl (lt_b rfl) (ru_move rfl rfl) ?_
                refine SL.ru rfl rfl (lt_b rfl) (ru_fieldAddr (o2 := 1) fd30_1 rfl rfl rfl) ?_
                refine SL.ru rfl rfl (lt_b rfl) (ru_load (i := 8) ts3 rfl rfl rfl rfl) ?_
                refine SL.call (ζ := Nat → Prop) (fun F39 => bo true) (fun F39 => [rBlk g [pt d 0, pt p 0, pt r 0, pt e 0, pt q 0, pt s 0, Value.slice none 0 0, Value.slice none 0 0] 43, rRing r d p ab F39 ((letsF S held m).2.1), rBlk b1 (ivs ((letsF S held m).2.2)) 3, rBlk b2 [Value.slice qg gp.length cg] 27, rRowO (.slice qg gp.length cg) (gp.map (fun x : Value × List UInt8 => x.1)) 28, rBlk b3 [Value.slice qp ps.length cp] 27, rRowO (.slice qp ps.length cp) (ps.map (fun x : Value × List UInt8 => x.1)) 28, rMany ps 5, rBlk b4 [iw k, iw m, Value.slice fa f.length fc, bo y] 30]) (fun F39 => (∀ b, F39 b → G b ∨ w.heap.size ≤ b)) rfl rfl co14 rfl rfl rfl (lt_b rfl) (fun w9 hI => (c_lets  ((hL.ok hJ).1) ((hL.ok hJ).2.1) hg (nG hGf hG) (nG hGf hF) hHB (hL.ok hJ).2.2.1 m hI).mono fun e w2 ⟨h1, F2, h2, h3⟩ => ⟨F2, h1.trans (by rw [(hL.lets hJ m).1]), h2, fun b hb => .inr (h3 b hb)⟩) ?_
                intro F39 hF39
                refine SL.ru rfl rfl (lt_b rfl) (ru_assign rfl rfl) ?_
                refine SL.nil ?_
                refine SC.of_SE ?_
                refine SC.norm [(1, sl ob oo l.length oc), (4, bo false), (6, pt g 0), (7, sl b1 0 n n), (8, pt b2 0), (9, pt b3 0), (10, iw (i : Int)), (20, bo true)] [rBlk g [pt d 0, pt p 0, pt r 0, pt e 0, pt q 0, pt s 0, Value.slice none 0 0, Value.slice none 0 0] 43, rRing r d p ab F39 ((letsF S held m).2.1), rBlk b1 (ivs ((letsF S held m).2.2)) 3, rBlk b2 [Value.slice qg gp.length cg] 27, rRowO (.slice qg gp.length cg) (gp.map (fun x : Value × List UInt8 => x.1)) 28, rBlk b3 [Value.slice qp ps.length cp] 27, rRowO (.slice qp ps.length cp) (ps.map (fun x : Value × List UInt8 => x.1)) 28, rMany ps 5, rBlk b4 [iw k, iw m, Value.slice fa f.length fc, bo y] 30] ⟨rfl, rfl, rfl, rfl, rfl, rfl, rfl, rfl, trivial⟩ rfl ?_
                refine SC.seq ?_
                refine SC.region ?_
                refine SL.ru rfl rfl (lt_b rfl) (ru_move rfl rfl) ?_
                refine SL.ru rfl rfl (lt_b rfl) (ru_not (c := false) rfl rfl rfl) ?_
                refine SL.nil ?_
                refine SC.of_SE ?_
                refine SC.norm [(1, sl ob oo l.length oc), (4, bo false), (6, pt g 0), (7, sl b1 0 n n), (8, pt b2 0), (9, pt b3 0), (10, iw (i : Int)), (153, bo false)] [rBlk g [pt d 0, pt p 0, pt r 0, pt e 0, pt q 0, pt s 0, Value.slice none 0 0, Value.slice none 0 0] 43, rRing r d p ab F39 ((letsF S held m).2.1), rBlk b1 (ivs ((letsF S held m).2.2)) 3, rBlk b2 [Value.slice qg gp.length cg] 27, rRowO (.slice qg gp.length cg) (gp.map (fun x : Value × List UInt8 => x.1)) 28, rBlk b3 [Value.slice qp ps.length cp] 27, rRowO (.slice qp ps.length cp) (ps.map (fun x : Value × List UInt8 => x.1)) 28, rMany ps 5, rBlk b4 [iw k, iw m, Value.slice fa f.length fc, bo y] 30] ⟨rfl, rfl, rfl, rfl, rfl, rfl, rfl, rfl, trivial⟩ rfl ?_
                refine SC.no rfl ?_
                refine SC.skip ?_
                refine SE.blkn ?_
                refine SC.of_SE ?_
                refine SC.norm [(1, sl ob oo l.length oc), (4, bo false), (6, pt g 0), (7, sl b1 0 n n), (8, pt b2 0), (9, pt b3 0), (10, iw (i : Int))] [rBlk g [pt d 0, pt p 0, pt r 0, pt e 0, pt q 0, pt s 0, Value.slice none 0 0, Value.slice none 0 0] 43, rRing r d p ab F39 ((letsF S held m).2.1), rBlk b1 (ivs ((letsF S held m).2.2)) 3, rBlk b2 [Value.slice qg gp.length cg] 27, rRowO (.slice qg gp.length cg) (gp.map (fun x : Value × List UInt8 => x.1)) 28, rBlk b3 [Value.slice qp ps.length cp] 27, rRowO (.slice qp ps.length cp) (ps.map (fun x : Value × List UInt8 => x.1)) 28, rMany ps 5, rBlk b4 [iw k, iw m, Value.slice fa f.length fc, bo y] 30] ⟨rfl, rfl, rfl, rfl, rfl, rfl, rfl, trivial⟩ rfl ?_
                refine SC.seq ?_
                refine SC.region ?_
                refine SL.ru rfl rfl (lt_b rfl) (ru_move rfl rfl) ?_
                refine SL.ru rfl rfl (lt_b rfl) (ru_move rfl rfl) ?_
                refine SL.callv (bo true) rfl rfl co15 rfl rfl rfl (lt_b rfl) (fun w hI => (c_counted  ((hL.ok ((hL.lets hJ m).2)).1) ((hL.ok ((hL.lets hJ m).2)).2.1) hg (nG hGf hG) (nG hGf hF39) hHB (hL.ok ((hL.lets hJ m).2)).2.2.1 h1n (by omega) hI).mono fun e w2 ⟨h1, h2⟩ => ⟨h1.trans (by rw [hL.counted ((hL.lets hJ m).2)]), h2⟩) ?_
                refine SL.ru rfl rfl (lt_b rfl) (ru_assign rfl rfl) ?_
                refine SL.nil ?_
                refine SC.of_SE ?_
                refine SC.norm [(1, sl ob oo l.length oc), (4, bo false), (6, pt g 0), (7, sl b1 0 n n), (8, pt b2 0), (9, pt b3 0), (10, iw (i : Int)), (21, bo true)] [rBlk g [pt d 0, pt p 0, pt r 0, pt e 0, pt q 0, pt s 0, Value.slice none 0 0, Value.slice none 0 0] 43, rRing r d p ab F39 ((letsF S held m).2.1), rBlk b1 (ivs ((letsF S held m).2.2)) 3, rBlk b2 [Value.slice qg gp.length cg] 27, rRowO (.slice qg gp.length cg) (gp.map (fun x : Value × List UInt8 => x.1)) 28, rBlk b3 [Value.slice qp ps.length cp] 27, rRowO (.slice qp ps.length cp) (ps.map (fun x : Value × List UInt8 => x.1)) 28, rMany ps 5, rBlk b4 [iw k, iw m, Value.slice fa f.length fc, bo y] 30] ⟨rfl, rfl, rfl, rfl, rfl, rfl, rfl, rfl, trivial⟩ rfl ?_
                refine SC.seq ?_
                refine SC.region ?_
                refine SL.ru rfl rfl (lt_b rfl) (ru_move rfl rfl) ?_
                refine SL.ru rfl rfl (lt_b rfl) (ru_not (c := false) rfl rfl rfl) ?_
                refine SL.nil ?_
                refine SC.of_SE ?_
                refine SC.norm [(1, sl ob oo l.length oc), (4, bo false), (6, pt g 0), (7, sl b1 0 n n), (8, pt b2 0), (9, pt b3 0), (10, iw (i : Int)), (158, bo false)] [rBlk g [pt d 0, pt p 0, pt r 0, pt e 0, pt q 0, pt s 0, Value.slice none 0 0, Value.slice none 0 0] 43, rRing r d p ab F39 ((letsF S held m).2.1), rBlk b1 (ivs ((letsF S held m).2.2)) 3, rBlk b2 [Value.slice qg gp.length cg] 27, rRowO (.slice qg gp.length cg) (gp.map (fun x : Value × List UInt8 => x.1)) 28, rBlk b3 [Value.slice qp ps.length cp] 27, rRowO (.slice qp ps.length cp) (ps.map (fun x : Value × List UInt8 => x.1)) 28, rMany ps 5, rBlk b4 [iw k, iw m, Value.slice fa f.length fc, bo y] 30] ⟨rfl, rfl, rfl, rfl, rfl, rfl, rfl, rfl, trivial⟩ rfl ?_
                refine SC.no rfl ?_
                refine SC.skip ?_
                refine SE.blkn ?_
                refine SC.of_SE ?_
                refine SC.norm [(1, sl ob oo l.length oc), (4, bo false), (6, pt g 0), (7, sl b1 0 n n), (8, pt b2 0), (9, pt b3 0), (10, iw (i : Int))] [rBlk g [pt d 0, pt p 0, pt r 0, pt e 0, pt q 0, pt s 0, Value.slice none 0 0, Value.slice none 0 0] 43, rRing r d p ab F39 ((letsF S held m).2.1), rBlk b1 (ivs ((letsF S held m).2.2)) 3, rBlk b2 [Value.slice qg gp.length cg] 27, rRowO (.slice qg gp.length cg) (gp.map (fun x : Value × List UInt8 => x.1)) 28, rBlk b3 [Value.slice qp ps.length cp] 27, rRowO (.slice qp ps.length cp) (ps.map (fun x : Value × List UInt8 => x.1)) 28, rMany ps 5, rBlk b4 [iw k, iw m, Value.slice fa f.length fc, bo y] 30] ⟨rfl, rfl, rfl, rfl, rfl, rfl, rfl, trivial⟩ rfl ?_
                refine SC.region ?_
                refine SL.ru rfl rfl (lt_b rfl) (ru_move rfl rfl) ?_
                refine SL.ru rfl rfl (lt_b rfl) (ru_add (r := (IntKind.i64.wrap ((i : Int) + 1))) rfl rfl rfl rfl) ?_
                refine SL.ru rfl rfl (lt_b rfl) (ru_assign rfl rfl) ?_
                refine SL.nil ?_
                refine SE.pick [0, 1, 2, 3, 4, 5, 6, 7] rfl ?_
                refine SE.again N ⟨i + 1, (letsF S held m).2.1, F39, (letsF S held m).2.2, gp, qg, cg, ps, qp, cp⟩ (by omega) ⟨by simp only; omega, (hL.lets hJ m).2, hF39, hgp, hqg, hqp⟩ ⟨rfl, rfl, rfl, rfl, rfl, rfl, (congrArg (fun x => some (iw x)) (show IntKind.i64.wrap ((i : Int) + 1) = ((i + 1 : Nat) : Int) by rw [IntKind.wrap_i64]; omega)), trivial⟩ (by first | rfl | (simp only [List.map_append, List.map_cons, List.map_nil, List.length_append, List.length_cons, List.length_nil, List.map_drop, List.length_drop]; rfl))
              · skip
                refine SC.skip ?_
                refine SE.blkn ?_
                refine SC.of_SE ?_
                refine SC.norm [(1, sl ob oo l.length oc), (4, bo false), (6, pt g 0), (7, sl b1 0 n n), (8, pt b2 0), (9, pt b3 0), (10, iw (i : Int))] [rBlk g [pt d 0, pt p 0, pt r 0, pt e 0, pt q 0, pt s 0, Value.slice none 0 0, Value.slice none 0 0] 43, rRing r d p ab F S, rBlk b1 (ivs held) 3, rBlk b2 [Value.slice qg gp.length cg] 27, rRowO (.slice qg gp.length cg) (gp.map (fun x : Value × List UInt8 => x.1)) 28, rBlk b3 [Value.slice qp ps.length cp] 27, rRowO (.slice qp ps.length cp) (ps.map (fun x : Value × List UInt8 => x.1)) 28, rMany ps 5, rBlk b4 [iw k, iw m, Value.slice fa f.length fc, bo y] 30] ⟨rfl, rfl, rfl, rfl, rfl, rfl, rfl, trivial⟩ rfl ?_
                refine SC.seq ?_
                refine SC.region ?_
                refine SL.ru rfl rfl (lt_b rfl) (ru_move rfl rfl) ?_
                refine SL.ru rfl rfl (lt_b rfl) (ru_move rfl rfl) ?_
                refine SL.callv (bo true) rfl rfl co15 rfl rfl rfl (lt_b rfl) (fun w hI => (c_counted  ((hL.ok hJ).1) ((hL.ok hJ).2.1) hg (nG hGf hG) (nG hGf hF) hHB (hL.ok hJ).2.2.1 h1n (by omega) hI).mono fun e w2 ⟨h1, h2⟩ => ⟨h1.trans (by rw [hL.counted hJ]), h2⟩) ?_
                refine SL.ru rfl rfl (lt_b rfl) (ru_assign rfl rfl) ?_
                refine SL.nil ?_
                refine SC.of_SE ?_
                refine SC.norm [(1, sl ob oo l.length oc), (4, bo false), (6, pt g 0), (7, sl b1 0 n n), (8, pt b2 0), (9, pt b3 0), (10, iw (i : Int)), (21, bo true)] [rBlk g [pt d 0, pt p 0, pt r 0, pt e 0, pt q 0, pt s 0, Value.slice none 0 0, Value.slice none 0 0] 43, rRing r d p ab F S, rBlk b1 (ivs held) 3, rBlk b2 [Value.slice qg gp.length cg] 27, rRowO (.slice qg gp.length cg) (gp.map (fun x : Value × List UInt8 => x.1)) 28, rBlk b3 [Value.slice qp ps.length cp] 27, rRowO (.slice qp ps.length cp) (ps.map (fun x : Value × List UInt8 => x.1)) 28, rMany ps 5, rBlk b4 [iw k, iw m, Value.slice fa f.length fc, bo y] 30] ⟨rfl, rfl, rfl, rfl, rfl, rfl, rfl, rfl, trivial⟩ rfl ?_
                refine SC.seq ?_
                refine SC.region ?_
                refine SL.ru rfl rfl (lt_b rfl) (ru_move rfl rfl) ?_
                refine SL.ru rfl rfl (lt_b rfl) (ru_not (c := false) rfl rfl rfl) ?_
                refine SL.nil ?_
                refine SC.of_SE ?_
                refine SC.norm [(1, sl ob oo l.length oc), (4, bo false), (6, pt g 0), (7, sl b1 0 n n), (8, pt b2 0), (9, pt b3 0), (10, iw (i : Int)), (158, bo false)] [rBlk g [pt d 0, pt p 0, pt r 0, pt e 0, pt q 0, pt s 0, Value.slice none 0 0, Value.slice none 0 0] 43, rRing r d p ab F S, rBlk b1 (ivs held) 3, rBlk b2 [Value.slice qg gp.length cg] 27, rRowO (.slice qg gp.length cg) (gp.map (fun x : Value × List UInt8 => x.1)) 28, rBlk b3 [Value.slice qp ps.length cp] 27, rRowO (.slice qp ps.length cp) (ps.map (fun x : Value × List UInt8 => x.1)) 28, rMany ps 5, rBlk b4 [iw k, iw m, Value.slice fa f.length fc, bo y] 30] ⟨rfl, rfl, rfl, rfl, rfl, rfl, rfl, rfl, trivial⟩ rfl ?_
                refine SC.no rfl ?_
                refine SC.skip ?_
                refine SE.blkn ?_
                refine SC.of_SE ?_
                refine SC.norm [(1, sl ob oo l.length oc), (4, bo false), (6, pt g 0), (7, sl b1 0 n n), (8, pt b2 0), (9, pt b3 0), (10, iw (i : Int))] [rBlk g [pt d 0, pt p 0, pt r 0, pt e 0, pt q 0, pt s 0, Value.slice none 0 0, Value.slice none 0 0] 43, rRing r d p ab F S, rBlk b1 (ivs held) 3, rBlk b2 [Value.slice qg gp.length cg] 27, rRowO (.slice qg gp.length cg) (gp.map (fun x : Value × List UInt8 => x.1)) 28, rBlk b3 [Value.slice qp ps.length cp] 27, rRowO (.slice qp ps.length cp) (ps.map (fun x : Value × List UInt8 => x.1)) 28, rMany ps 5, rBlk b4 [iw k, iw m, Value.slice fa f.length fc, bo y] 30] ⟨rfl, rfl, rfl, rfl, rfl, rfl, rfl, trivial⟩ rfl ?_
                refine SC.region ?_
                refine SL.ru rfl rfl (lt_b rfl) (ru_move rfl rfl) ?_
                refine SL.ru rfl rfl (lt_b rfl) (ru_add (r := (IntKind.i64.wrap ((i : Int) + 1))) rfl rfl rfl rfl) ?_
                refine SL.ru rfl rfl (lt_b rfl) (ru_assign rfl rfl) ?_
                refine SL.nil ?_
                refine SE.pick [0, 1, 2, 3, 4, 5, 6, 7] rfl ?_
                refine SE.again N ⟨i + 1, S, F, held, gp, qg, cg, ps, qp, cp⟩ (by omega) ⟨by simp only; omega, hJ, hF, hgp, hqg, hqp⟩ ⟨rfl, rfl, rfl, rfl, rfl, rfl, (congrArg (fun x => some (iw x)) (show IntKind.i64.wrap ((i : Int) + 1) = ((i + 1 : Nat) : Int) by rw [IntKind.wrap_i64]; omega)), trivial⟩ (by first | rfl | (simp only [List.map_append, List.map_cons, List.map_nil, List.length_append, List.length_cons, List.length_nil, List.map_drop, List.length_drop]; rfl))

end Go.Proofs.Ytghfkgcaglabpaa

/-
  The plain law of the ring: the pool's part.
-/
namespace Go.Proofs.Ytghfkgcaglabpaa
open Go.RowKit
def cnt (l : List Int) (i : Nat) : Int := ((l.count (i : Int) : Nat) : Int)
theorem cnt_app (l l' : List Int) (i : Nat) : cnt (l ++ l') i = cnt l i + cnt l' i := by simp [cnt, List.count_append]
theorem cnt_one (x : Int) (i : Nat) : cnt [x] i = if x = (i : Int) then 1 else 0 := by
  unfold cnt
  by_cases h : x = (i : Int) <;> simp [h, List.count_cons]
theorem cnt_cons (x : Int) (l : List Int) (i : Nat) : cnt (x :: l) i = (if x = (i : Int) then 1 else 0) + cnt l i := by
  rw [show x :: l = [x] ++ l from rfl, cnt_app, cnt_one]
theorem cnt_nil (i : Nat) : cnt [] i = 0 := rfl
theorem cnt_nn (l : List Int) (i : Nat) : 0 ≤ cnt l i := by unfold cnt; omega
theorem cnt_le (l : List Int) (i : Nat) : cnt l i ≤ l.length := by unfold cnt; have := List.count_le_length (a := (i : Int)) (l := l); omega
theorem cnt_mem {l : List Int} {x : Int} (h : x ∈ l) (h0 : 0 ≤ x) : 1 ≤ cnt l x.toNat := by
  unfold cnt
  have : 0 < l.count x := List.count_pos_iff.2 h
  rw [show ((x.toNat : Nat) : Int) = x by omega]
  omega
theorem getD_set {l : List Int} {k i : Nat} {v : Int} (hk : k < l.length) : (l.set k v).getD i 0 = if k = i then v else l.getD i 0 := by
  simp only [List.getD, List.getElem?_set]
  by_cases h : k = i
  · subst h; simp [hk]
  · simp [h]
/-- The pool beside who holds what: held by hand, by the one line, by the other, by what came. -/
structure PJ (n : Nat) (L : List Bf) (h t r : List Int) (o : List (Int × List UInt8)) : Prop where
  len : L.length = n
  hl : h.length = n
  refs : ∀ i b, L[i]? = some b → (b.refs : Int) = h.getD i 0 + cnt t i + cnt r i + cnt (o.map (·.1)) i
  hb : ∀ i, 0 ≤ h.getD i 0 ∧ h.getD i 0 ≤ 1
  it : ∀ x ∈ t, 0 ≤ x ∧ x < n
  rb : ∀ x ∈ r, 0 ≤ x ∧ L[x.toNat]? = some ⟨1, [], []⟩
  ob : ∀ x ∈ o, 0 ≤ x.1 ∧ L[x.1.toNat]? = some ⟨1, [], x.2⟩
  hd : ∀ b ∈ L, b.head = []
section
variable {n : Nat} {L : List Bf} {h t r : List Int} {o : List (Int × List UInt8)}
theorem PJ.sum (H : PJ n L h t r o) {k : Nat} {b : Bf} (hk : L[k]? = some b) : (b.refs : Int) = h.getD k 0 + cnt t k + cnt r k + cnt (o.map (·.1)) k ∧ 0 ≤ h.getD k 0 ∧ h.getD k 0 ≤ 1 ∧ 0 ≤ cnt t k ∧ 0 ≤ cnt r k ∧ 0 ≤ cnt (o.map (·.1)) k := ⟨H.refs k b hk, (H.hb k).1, (H.hb k).2, cnt_nn _ _, cnt_nn _ _, cnt_nn _ _⟩
theorem PJ.lt (H : PJ n L h t r o) {k : Nat} {b : Bf} (hk : L[k]? = some b) : k < n := by have := (List.getElem?_eq_some_iff.1 hk).1; have := H.len; omega
theorem PJ.mem_r (H : PJ n L h t r o) {k : Nat} {b : Bf} (hk : L[k]? = some b) {x : Int} (hx : x ∈ r) (e : x.toNat = k) : b = ⟨1, [], []⟩ ∧ 1 ≤ cnt r k := by
  have h1 := H.rb x hx
  have h2 := cnt_mem hx h1.1
  subst e
  rw [hk] at h1
  exact ⟨by simpa using h1.2, h2⟩
theorem PJ.mem_o (H : PJ n L h t r o) {k : Nat} {b : Bf} (hk : L[k]? = some b) {x : Int × List UInt8} (hx : x ∈ o) (e : x.1.toNat = k) : b = ⟨1, [], x.2⟩ ∧ 1 ≤ cnt (o.map (·.1)) k := by
  have h1 := H.ob x hx
  have h2 := cnt_mem (List.mem_map_of_mem (f := fun x : Int × List UInt8 => x.1) hx) h1.1
  subst e
  rw [hk] at h1
  exact ⟨by simpa using h1.2, h2⟩
/-- One buffer turned. -/
theorem PJ.turn (H : PJ n L h t r o) {k : Nat} {b b' : Bf} {h' t' r' : List Int} {o' : List (Int × List UInt8)} (hk : L[k]? = some b) (hl : h'.length = n) (hb : ∀ i, 0 ≤ h'.getD i 0 ∧ h'.getD i 0 ≤ 1)
    (hr : (b'.refs : Int) = h'.getD k 0 + cnt t' k + cnt r' k + cnt (o'.map (·.1)) k) (ho : ∀ i, i ≠ k → h'.getD i 0 + cnt t' i + cnt r' i + cnt (o'.map (·.1)) i = h.getD i 0 + cnt t i + cnt r i + cnt (o.map (·.1)) i)
    (it : ∀ x ∈ t', x ∈ t ∨ x = (k : Int)) (rb : ∀ x ∈ r', (x ∈ r ∧ x.toNat ≠ k) ∨ (x = (k : Int) ∧ b' = ⟨1, [], []⟩)) (ob : ∀ x ∈ o', (x ∈ o ∧ x.1.toNat ≠ k) ∨ (x.1 = (k : Int) ∧ b' = ⟨1, [], x.2⟩)) (hd : b'.head = []) : PJ n (L.set k b') h' t' r' o' := by
  have hkl : k < L.length := (List.getElem?_eq_some_iff.1 hk).1
  have hs : (L.set k b')[k]? = some b' := by simp [List.getElem?_set, hkl]
  have hne : ∀ i, i ≠ k → (L.set k b')[i]? = L[i]? := fun i hi => by rw [List.getElem?_set]; simp [Ne.symm hi]
  refine ⟨by rw [List.length_set]; exact H.len, hl, fun i c hc => ?_, hb, fun x hx => ?_, fun x hx => ?_, fun x hx => ?_, fun c hc => ?_⟩
  · by_cases e : i = k
    · subst e; rw [hs] at hc; cases hc; exact hr
    · rw [hne i e] at hc; rw [ho i e]; exact H.refs i c hc
  · rcases it x hx with h1 | rfl
    · exact H.it x h1
    · have := H.lt hk; omega
  · rcases rb x hx with ⟨h1, h2⟩ | ⟨rfl, rfl⟩
    · rw [hne _ h2]; exact H.rb x h1
    · exact ⟨by omega, by rw [Int.toNat_natCast]; exact hs⟩
  · rcases ob x hx with ⟨h1, h2⟩ | ⟨h1, h2⟩
    · rw [hne _ h2]; exact H.ob x h1
    · rw [h1, Int.toNat_natCast, hs, h2]; exact ⟨by omega, rfl⟩
  · rcases List.mem_or_eq_of_mem_set hc with h1 | rfl
    · exact H.hd c h1
    · exact hd
theorem PJ.free0 (H : PJ n L h t r o) {k : Nat} {b : Bf} (hk : L[k]? = some b) (h0 : b.refs = 0) : h.getD k 0 = 0 ∧ cnt t k = 0 ∧ cnt r k = 0 ∧ cnt (o.map (·.1)) k = 0 := by
  have := H.sum hk; omega
theorem PJ.get_h (H : PJ n L h t r o) {k : Nat} {b : Bf} (hk : L[k]? = some b) (h0 : b.refs = 0) (d : List UInt8) : PJ n (L.set k ⟨1, [], d⟩) (h.set k 1) t r o := by
  have hkn := H.lt hk
  have hkh : k < h.length := by have := H.hl; omega
  have f0 := H.free0 hk h0
  refine H.turn hk (by rw [List.length_set]; exact H.hl) (fun i => ?_) ?_ (fun i hi => ?_) (fun x hx => .inl hx) (fun x hx => .inl ⟨hx, fun e => ?_⟩) (fun x hx => .inl ⟨hx, fun e => ?_⟩) rfl
  · rw [getD_set hkh]; split
    · omega
    · exact H.hb i
  · rw [getD_set hkh, if_pos rfl]; simp only; omega
  · rw [getD_set hkh, if_neg (Ne.symm hi)]
  · have := H.mem_r hk hx e; omega
  · have := H.mem_o hk hx e; omega
theorem PJ.get_r (H : PJ n L h t r o) {k : Nat} {b : Bf} (hk : L[k]? = some b) (h0 : b.refs = 0) : PJ n (L.set k ⟨1, [], []⟩) h t (r ++ [(k : Int)]) o := by
  have f0 := H.free0 hk h0
  refine H.turn hk H.hl H.hb ?_ (fun i hi => ?_) (fun x hx => .inl hx) (fun x hx => ?_) (fun x hx => .inl ⟨hx, fun e => ?_⟩) rfl
  · rw [cnt_app, cnt_one, if_pos rfl]; simp only; omega
  · rw [cnt_app, cnt_one, if_neg (by omega)]; omega
  · rcases List.mem_append.1 hx with hx | hx
    · refine .inl ⟨hx, fun e => ?_⟩
      have := H.mem_r hk hx e; omega
    · simp at hx; exact .inr ⟨hx, rfl⟩
  · have := H.mem_o hk hx e; omega
theorem PJ.free_h (H : PJ n L h t r o) {k : Nat} {b : Bf} (hk : L[k]? = some b) (h1 : h.getD k 0 ≠ 0) : PJ n (L.set k { b with refs := b.refs - 1 }) (h.set k 0) t r o ∧ 0 < b.refs ∧ h.getD k 0 = 1 := by
  have hkn := H.lt hk
  have hkh : k < h.length := by have := H.hl; omega
  have s := H.sum hk
  refine ⟨H.turn hk (by rw [List.length_set]; exact H.hl) (fun i => ?_) ?_ (fun i hi => ?_) (fun x hx => .inl hx) (fun x hx => .inl ⟨hx, fun e => ?_⟩) (fun x hx => .inl ⟨hx, fun e => ?_⟩) (H.hd b (List.mem_of_getElem? hk)), by omega, by omega⟩
  · rw [getD_set hkh]; split
    · omega
    · exact H.hb i
  · rw [getD_set hkh, if_pos rfl]; simp only; omega
  · rw [getD_set hkh, if_neg (Ne.symm hi)]
  · obtain ⟨e1, e2⟩ := H.mem_r hk hx e
    rw [e1] at s; simp only at s; omega
  · obtain ⟨e1, e2⟩ := H.mem_o hk hx e
    rw [e1] at s; simp only at s; omega
theorem PJ.free_t {x : Int} (H : PJ n L h (x :: t) r o) : ∃ b, bufAt L x = some b ∧ 0 < b.refs ∧ PJ n (putF L x { b with refs := b.refs - 1 }) h t r o := by
  have hx := H.it x (by simp)
  obtain ⟨k, rfl⟩ := Int.eq_ofNat_of_zero_le hx.1
  have hkl : k < L.length := by have := H.len; omega
  have hk := List.getElem?_eq_getElem hkl
  have s := H.sum hk
  rw [cnt_cons, if_pos rfl] at s
  have tn := cnt_nn t k
  refine ⟨L[k], by rw [bufAt_nat]; exact hk, by omega, ?_⟩
  unfold putF
  rw [Int.toNat_natCast]
  refine H.turn hk H.hl H.hb ?_ (fun i hi => ?_) (fun x hx => .inl (by simp [hx])) (fun x hx => .inl ⟨hx, fun e => ?_⟩) (fun x hx => .inl ⟨hx, fun e => ?_⟩) (H.hd L[k] (List.mem_of_getElem? hk))
  · simp only; omega
  · rw [cnt_cons, if_neg (by omega)]; omega
  · obtain ⟨e1, e2⟩ := H.mem_r hk hx e
    rw [e1] at s; simp only at s; omega
  · obtain ⟨e1, e2⟩ := H.mem_o hk hx e
    rw [e1] at s; simp only at s; omega
theorem PJ.hold_t (H : PJ n L h t r []) {k : Nat} {b : Bf} (hk : L[k]? = some b) (hd : b.data ≠ []) : PJ n (L.set k { b with refs := b.refs + 1 }) h (t ++ [(k : Int)]) r [] := by
  have s := H.sum hk
  refine H.turn hk H.hl H.hb ?_ (fun i hi => ?_) (fun x hx => ?_) (fun x hx => .inl ⟨hx, fun e => ?_⟩) (fun x hx => by cases hx) (H.hd b (List.mem_of_getElem? hk))
  · rw [cnt_app, cnt_one, if_pos rfl]; simp only [Int.natCast_add] at *; omega
  · rw [cnt_app, cnt_one, if_neg (by omega)]; omega
  · rcases List.mem_append.1 hx with hx | hx
    · exact .inl hx
    · simp at hx; exact .inr hx
  · obtain ⟨e1, e2⟩ := H.mem_r hk hx e
    rw [e1] at hd; exact hd rfl
theorem PJ.come {x : Int} (H : PJ n L h t (x :: r) o) (d : List UInt8) : bufAt L x = some ⟨1, [], []⟩ ∧ PJ n (putF L x ⟨1, [], d⟩) h t r (o ++ [(x, d)]) := by
  have hx := H.rb x (by simp)
  obtain ⟨k, rfl⟩ := Int.eq_ofNat_of_zero_le hx.1
  have hk := hx.2
  rw [Int.toNat_natCast] at hk
  have s := H.sum hk
  rw [cnt_cons, if_pos rfl] at s
  have rn := cnt_nn r k
  refine ⟨by rw [bufAt_nat]; exact hk, ?_⟩
  unfold putF
  rw [Int.toNat_natCast]
  refine H.turn hk H.hl H.hb ?_ (fun i hi => ?_) (fun x hx => .inl hx) (fun x hx => .inl ⟨by simp [hx], fun e => ?_⟩) (fun x hx => ?_) rfl
  · rw [List.map_append, cnt_app, List.map_cons, List.map_nil, cnt_one, if_pos rfl]; simp only at *; omega
  · rw [List.map_append, cnt_app, List.map_cons, List.map_nil, cnt_one, cnt_cons, if_neg (by omega)]; omega
  · have h1 := H.rb x (by simp [hx])
    have := cnt_mem hx h1.1
    rw [e] at this; simp only at s; omega
  · rcases List.mem_append.1 hx with hx | hx
    · refine .inl ⟨hx, fun e => ?_⟩
      have := H.mem_o hk hx e
      simp only at s; omega
    · simp at hx; subst hx; exact .inr ⟨rfl, rfl⟩
theorem PJ.tell {x : Int × List UInt8} (H : PJ n L h t r (x :: o)) : (0 ≤ x.1 ∧ x.1 < n) ∧ seeF L x.1 = (⟨1, [], x.2⟩, 0) ∧ h.getD x.1.toNat 0 = 0 ∧ PJ n L (h.set x.1.toNat 1) t r o := by
  obtain ⟨x, d⟩ := x
  have hx := H.ob (x, d) (by simp)
  simp only at hx ⊢
  obtain ⟨k, rfl⟩ := Int.eq_ofNat_of_zero_le hx.1
  have hk := hx.2
  rw [Int.toNat_natCast] at hk ⊢
  have hkn := H.lt hk
  have hkh : k < h.length := by have := H.hl; omega
  have s := H.sum hk
  rw [List.map_cons, cnt_cons, if_pos rfl] at s
  simp only at s
  have on := cnt_nn (o.map (·.1)) k
  have h0 : h.getD k 0 = 0 := by omega
  refine ⟨by omega, by unfold seeF; rw [bufAt_nat, hk]; rfl, h0, H.len, by rw [List.length_set]; exact H.hl, fun i b hb => ?_, fun i => ?_, H.it, H.rb, fun y hy => H.ob y (by simp [hy]), H.hd⟩
  · have := H.refs i b hb
    rw [List.map_cons, cnt_cons] at this
    rw [getD_set hkh]
    by_cases e : k = i
    · subst e; rw [if_pos rfl]; rw [if_pos rfl] at this; omega
    · rw [if_neg e]; rw [if_neg (by omega)] at this; omega
  · rw [getD_set hkh]; split
    · omega
    · exact H.hb i
/-! ## The count -/
theorem inc_ok : ∀ (l refs : List Int) (B : Int), (∀ x ∈ l, 0 ≤ x ∧ x < refs.length) → (∀ i, 0 ≤ refs.getD i 0 ∧ refs.getD i 0 ≤ B) → B + l.length ≤ 1000000 → (incL l refs).1 = true ∧ ∀ i, (incL l refs).2.getD i 0 = refs.getD i 0 + cnt l i
  | [], refs, B, _, _, _ => ⟨rfl, fun i => by rw [cnt_nil]; simp [incL]⟩
  | x :: l, refs, B, hx, hb, hB => by
    have hx0 := hx x (by simp)
    obtain ⟨k, rfl⟩ := Int.eq_ofNat_of_zero_le hx0.1
    have hk : k < refs.length := by omega
    have hbk := hb k
    simp only [List.length_cons] at hB
    have hw : IntKind.i64.wrap (refs.getD k 0 + 1) = refs.getD k 0 + 1 := by rw [IntKind.wrap_i64]; omega
    unfold incL
    rw [if_neg (by simp; omega), Int.toNat_natCast, hw]
    have hg : ∀ i, (refs.set k (refs.getD k 0 + 1)).getD i 0 = if k = i then refs.getD k 0 + 1 else refs.getD i 0 := fun i => getD_set hk
    obtain ⟨h1, h2⟩ := inc_ok l (refs.set k (refs.getD k 0 + 1)) (B + 1) (fun x hx' => by rw [List.length_set]; exact hx x (by simp [hx'])) (fun i => by
      rw [hg i]; split
      · omega
      · have := hb i; omega) (by omega)
    refine ⟨h1, fun i => ?_⟩
    rw [h2, hg, cnt_cons]
    by_cases e : k = i
    · subst e; rw [if_pos rfl, if_pos rfl]; omega
    · rw [if_neg e, if_neg (by omega)]; omega
theorem same_ok {L : List Bf} {refs : List Int} : ∀ (k i : Nat), i + k = L.length → (∀ i b, L[i]? = some b → refs.getD i 0 = (b.refs : Int)) → sameL L refs k i = true
  | 0, _, _, _ => rfl
  | k + 1, i, hi, h => by
    have hlt : i < L.length := by omega
    have hb := List.getElem?_eq_getElem hlt
    have e := h i _ hb
    unfold sameL
    rw [same_ok k (i + 1) (by omega) h, Bool.and_true]
    unfold sameB seeF
    rw [bufAt_nat, hb, e]
    simp only
    by_cases h0 : 0 < L[i].refs
    · rw [if_pos h0]; simp [h0]
    · rw [if_neg h0]
      have : L[i].refs = 0 := by omega
      simp [this]
theorem PJ.counted (H : PJ n L h t r []) (hn : t.length ≤ 15) (hr : r.length ≤ 15) {S : RingA} (hL : S.L = L) (hT : allL S.T = t) (hR : allL S.R = r) : countedF S h = true := by
  subst hL hT hR
  have i1 := inc_ok (allL S.T) h 1 (fun x hx => by rw [H.hl]; exact H.it x hx) H.hb (by omega)
  have hrx : ∀ x ∈ allL S.R, 0 ≤ x ∧ x < n := fun x hx => by
    have h1 := H.rb x hx
    have := H.lt h1.2
    omega
  have i2 := inc_ok (allL S.R) (incL (allL S.T) h).2 100 (fun x hx => by rw [inc_len, H.hl]; exact hrx x hx) (fun i => by
    rw [i1.2 i]
    have := H.hb i
    have := cnt_nn (allL S.T) i
    have := cnt_le (allL S.T) i
    omega) (by omega)
  unfold countedF
  simp only
  rw [i1.1, i2.1, same_ok _ 0 (by rw [inc_len, inc_len, H.hl, H.len]; omega) (fun i b hb => by
    rw [i2.2, i1.2]
    have := H.refs i b hb
    rw [List.map_nil, cnt_nil] at this
    omega)]
  rfl
end
end Go.Proofs.Ytghfkgcaglabpaa

/-
  The plain law of the ring: the device's part.
-/
namespace Go.Proofs.Ytghfkgcaglabpaa
open Go.RowKit
/-- The device beside its two lines: g was given and has not come, p was posted and has not been taken; m3: how many of the one line it has been told of. -/
structure DJ (A : NicA) (T R : Line) (m3 : Int) (g p : List (List UInt8)) : Prop where
  r0 : A.r 0 = 1
  r1 : A.r 1 = 1
  r5 : A.r 5 = lastI T
  pn : (p.length : Int) ≤ T.many
  r4 : A.r 4 = (T.first + T.many - p.length) % 16
  tb : ∀ (j : Nat) b, p[j]? = some b → A.tb ((A.r 4 + j) % 16).toNat = b
  gn : (g.length : Int) ≤ m3
  mm : m3 ≤ R.many
  r3 : A.r 3 = (R.first + m3) % 16
  r2 : A.r 2 = (R.first + g.length) % 16
  rx : ∀ (j : Nat) b, g[j]? = some b → A.has ((R.first + j) % 16).toNat = true ∧ A.cb ((R.first + j) % 16).toNat = b ∧ A.bad ((R.first + j) % 16).toNat = false ∧ b.length ≤ 274
  rm : ∀ (j : Nat), g.length ≤ j → (j : Int) < R.many → A.room ((R.first + j) % 16).toNat = 274
section
variable {A : NicA} {T R : Line} {m3 : Int} {g p : List (List UInt8)}
theorem lt_of_get {α : Type} {l : List α} {j : Nat} {b : α} (h : l[j]? = some b) : j < l.length := (List.getElem?_eq_some_iff.1 h).1
theorem snoc_get {α : Type} {l : List α} {x b : α} {j : Nat} (h : (l ++ [x])[j]? = some b) : (j < l.length ∧ l[j]? = some b) ∨ (j = l.length ∧ b = x) := by
  rcases Nat.lt_or_ge j l.length with h1 | h1
  · rw [List.getElem?_append_left h1] at h; exact .inl ⟨h1, h⟩
  · rw [List.getElem?_append_right h1] at h
    have := lt_of_get h
    simp at this
    have e : j = l.length := by omega
    subst e
    simp at h
    exact .inr ⟨rfl, h.symm⟩
theorem DJ.offB (H : DJ A T R m3 g p) : offB A = false := by unfold Proofs.Ytghfkgcaglabpaa.offB; rw [H.r0, H.r1]; rfl
theorem DJ.regs {r' : Nat → Int} {tp' : Nat → Int} (H : DJ A T R m3 g p) (h : ∀ k, k ≤ 5 → r' k = A.r k) : DJ { A with r := r', tp := tp' } T R m3 g p :=
  ⟨by simp only [h 0 (by omega)]; exact H.r0, by simp only [h 1 (by omega)]; exact H.r1, by simp only [h 5 (by omega)]; exact H.r5, H.pn, by simp only [h 4 (by omega)]; exact H.r4, by simp only [h 4 (by omega)]; exact H.tb, H.gn, H.mm, by simp only [h 3 (by omega)]; exact H.r3, by simp only [h 2 (by omega)]; exact H.r2, H.rx, H.rm⟩
theorem DJ.miss (H : DJ A T R m3 g p) : DJ (missA A) T R m3 g p := H.regs (tp' := A.tp) fun k hk => by rw [up_ne _ _ (by omega)]
theorem DJ.a6 (H : DJ A T R m3 g p) : DJ (A6 A) T R m3 g p := H.regs (tp' := A.tp) fun k hk => by rw [up_ne _ _ (by omega)]
/-- One more is taken. -/
theorem DJ.take {b : List UInt8} (H : DJ A T R m3 g (b :: p)) (hm : T.many ≤ 15) : A.r 4 ≠ A.r 5 ∧ A.tb (A.r 4).toNat = b ∧ DJ (takeF A) T R m3 g p := by
  have pn := H.pn
  simp only [List.length_cons] at pn
  have h4 := H.r4
  simp only [List.length_cons] at h4
  have ht := H.tb 0 b rfl
  refine ⟨?_, ?_, ?_⟩
  · rw [h4, H.r5]; unfold lastI; omega
  · rw [show ((A.r 4 + ((0 : Nat) : Int)) % 16) = A.r 4 by omega] at ht; exact ht
  · have e4 : (takeF A).r 4 = nx (A.r 4) := by
      unfold takeF; simp only; rw [up_ne _ _ (by decide), up_same]
    have eo : ∀ k, k ≠ 4 → k ≠ 6 → (takeF A).r k = A.r k := fun k h1 h2 => by unfold takeF; simp only; rw [up_ne _ _ h2, up_ne _ _ h1]
    refine ⟨by rw [eo 0 (by decide) (by decide)]; exact H.r0, by rw [eo 1 (by decide) (by decide)]; exact H.r1, by rw [eo 5 (by decide) (by decide)]; exact H.r5, by omega, by rw [e4, h4]; unfold nx; omega, fun j c hc => ?_, H.gn, H.mm, by rw [eo 3 (by decide) (by decide)]; exact H.r3, by rw [eo 2 (by decide) (by decide)]; exact H.r2, H.rx, H.rm⟩
    have := H.tb (j + 1) c hc
    rw [e4]
    rw [show (nx (A.r 4) + (j : Int)) % 16 = (A.r 4 + ((j + 1 : Nat) : Int)) % 16 by unfold nx; omega]
    exact this
/-- One more is given. -/
theorem DJ.come {f : List UInt8} (H : DJ A T R m3 g p) (hm : R.many ≤ 15) (hlt : (g.length : Int) < m3) (hf : f.length ≤ 274) : DJ (comeA A f false) T R m3 (g ++ [f]) p := by
  have m := H.mm
  have e2 : (comeA A f false).r 2 = nx (A.r 2) := by unfold comeA; simp only; rw [up_ne _ _ (by decide), up_same]
  have eo : ∀ k, k ≠ 2 → k ≠ 6 → (comeA A f false).r k = A.r k := fun k h1 h2 => by unfold comeA; simp only; rw [up_ne _ _ h2, up_ne _ _ h1]
  have ne : ∀ j : Nat, (j : Int) < 16 → j ≠ g.length → ((R.first + (j : Int)) % 16).toNat ≠ (A.r 2).toNat := fun j hj hne => by rw [H.r2]; omega
  refine ⟨by rw [eo 0 (by decide) (by decide)]; exact H.r0, by rw [eo 1 (by decide) (by decide)]; exact H.r1, by rw [eo 5 (by decide) (by decide)]; exact H.r5, H.pn, by rw [eo 4 (by decide) (by decide)]; exact H.r4, by rw [eo 4 (by decide) (by decide)]; exact H.tb, by simp only [List.length_append, List.length_cons, List.length_nil]; omega, m, by rw [eo 3 (by decide) (by decide)]; exact H.r3, by rw [e2, H.r2]; unfold nx; simp only [List.length_append, List.length_cons, List.length_nil]; omega, fun j b hb => ?_, fun j h1 h2 => ?_⟩
  · rcases snoc_get hb with ⟨h1, h2⟩ | ⟨rfl, rfl⟩
    · have := H.rx j b h2
      have hn := ne j (by omega) (by omega)
      unfold comeA
      simp only
      rw [up_ne _ _ hn, up_ne _ _ hn, up_ne _ _ hn]
      exact this
    · unfold comeA
      simp only
      rw [← H.r2, up_same, up_same, up_same]
      exact ⟨rfl, rfl, rfl, hf⟩
  · simp only [List.length_append, List.length_cons, List.length_nil] at h1
    have := H.rm j (by omega) h2
    unfold comeA
    simp only
    rw [up_ne _ _ (ne j (by omega) (by omega))]
    exact this
/-- One more is posted. -/
theorem DJ.send {f : List UInt8} {id : Int} (H : DJ A T R m3 g p) (hT : LineOk T) (hm : T.many < 15) : DJ (writeF { A with tb := up A.tb (lastI T).toNat f } 5 (lastI (putL T id))).2 (putL T id) R m3 g (p ++ [f]) := by
  have pn := H.pn
  have hf := hT.f
  have hm0 := hT.m
  have bd := lastI_bd (putL T id)
  unfold writeF
  rw [if_neg (by omega), if_neg (by omega), if_neg (by omega), if_pos rfl]
  have eo : ∀ k, k ≠ 5 → (up A.r (5 : Int).toNat (lastI (putL T id))) k = A.r k := fun k h1 => up_ne _ _ h1
  refine ⟨by simp only; rw [eo 0 (by decide)]; exact H.r0, by simp only; rw [eo 1 (by decide)]; exact H.r1, (by show up A.r 5 _ 5 = _; exact up_same _ _ _), by simp only [List.length_append, List.length_cons, List.length_nil, putL]; omega, ?_, fun j b hb => ?_, H.gn, H.mm, by simp only; rw [eo 3 (by decide)]; exact H.r3, by simp only; rw [eo 2 (by decide)]; exact H.r2, H.rx, H.rm⟩
  · simp only; rw [eo 4 (by decide), H.r4]; simp only [List.length_append, List.length_cons, List.length_nil, putL]; omega
  · simp only
    rw [eo 4 (by decide)]
    rcases snoc_get hb with ⟨h1, h2⟩ | ⟨rfl, rfl⟩
    · rw [up_ne _ _ (by rw [H.r4]; unfold lastI; omega)]
      exact H.tb j b h2
    · rw [show ((A.r 4 + (p.length : Int)) % 16).toNat = (lastI T).toNat by rw [H.r4]; unfold lastI; omega, up_same]
theorem DJ.popT (H : DJ A T R m3 g p) (h : (p.length : Int) < T.many) : DJ A (popL T) R m3 g p :=
  ⟨H.r0, H.r1, by rw [H.r5]; unfold lastI popL; simp only; omega, by unfold popL; simp only; omega, by rw [H.r4]; unfold popL; simp only; omega, H.tb, H.gn, H.mm, H.r3, H.r2, H.rx, H.rm⟩
theorem DJ.popR {b : List UInt8} (H : DJ A T R m3 (b :: g) p) (hf : 0 ≤ R.first ∧ R.first < 16) : rxR A R.first = ((b, false), 0) ∧ b.length ≤ 274 ∧ DJ A T (popL R) (m3 - 1) g p := by
  obtain ⟨x1, x2, x3, x4⟩ := H.rx 0 b rfl
  rw [show (R.first + ((0 : Nat) : Int)) % 16 = R.first by omega] at x1 x2 x3
  have gn := H.gn
  simp only [List.length_cons] at gn
  have h2 := H.r2
  simp only [List.length_cons] at h2
  have m := H.mm
  refine ⟨by unfold rxR; rw [if_neg (by omega), if_neg (by rw [x1]; simp), x2, x3], x4, H.r0, H.r1, H.r5, H.pn, H.r4, H.tb, by omega, by unfold popL; simp only; omega, by rw [H.r3]; unfold popL; simp only; omega, by rw [h2]; unfold popL; simp only; omega, fun j c hc => ?_, fun j h1 h2 => ?_⟩
  · have := H.rx (j + 1) c hc
    rw [show ((popL R).first + (j : Int)) % 16 = (R.first + ((j + 1 : Nat) : Int)) % 16 by unfold popL; simp only; omega]
    exact this
  · have := H.rm (j + 1) (by simp only [List.length_cons]; omega) (by unfold popL at h2; simp only at h2; omega)
    rw [show ((popL R).first + (j : Int)) % 16 = (R.first + ((j + 1 : Nat) : Int)) % 16 by unfold popL; simp only; omega]
    exact this
/-- One more buffer to be filled. -/
theorem DJ.fill (H : DJ A T R m3 g p) (hR : LineOk R) (hm : R.many < 15) (id : Int) : DJ (setRxF A (lastI R) 274).2 T (putL R id) m3 g p := by
  have gn := H.gn
  have m := H.mm
  have hf := hR.f
  have hb : hostB (lastI R) (A.r 2) (A.r 3) = true := by
    unfold hostB
    have := lastI_bd R
    rw [decide_eq_true (by omega), decide_eq_true (by omega), decide_eq_false (by rw [H.r2, H.r3]; unfold lastI; omega)]
    rfl
  unfold setRxF
  rw [if_neg (by rw [hb]; simp)]
  have ne : ∀ j : Nat, (j : Int) < R.many → ((R.first + (j : Int)) % 16).toNat ≠ (lastI R).toNat := fun j hj => by unfold lastI; omega
  refine ⟨H.r0, H.r1, H.r5, H.pn, H.r4, H.tb, gn, by simp only [putL]; omega, H.r3, H.r2, fun j b hb => ?_, fun j h1 h2 => ?_⟩
  · have := H.rx j b hb
    have hj := lt_of_get hb
    have hn := ne j (by omega)
    simp only [putL]
    rw [up_ne _ _ hn, up_ne _ _ hn, up_ne _ _ hn]
    exact this
  · simp only [putL] at h2 ⊢
    by_cases e : (j : Int) = R.many
    · rw [show ((R.first + (j : Int)) % 16).toNat = (lastI R).toNat by unfold lastI; omega, up_same]
    · rw [up_ne _ _ (ne j (by omega))]
      exact H.rm j h1 (by omega)
theorem DJ.told (H : DJ A T R m3 g p) : DJ (writeF A 3 (lastI R)).2 T R R.many g p := by
  have gn := H.gn
  have m := H.mm
  have bd := lastI_bd R
  unfold writeF
  rw [if_neg (by omega), if_neg (by omega), if_neg (by omega), if_neg (by omega), if_pos rfl]
  have eo : ∀ k, k ≠ 3 → (up A.r (3 : Int).toNat (lastI R)) k = A.r k := fun k h1 => up_ne _ _ h1
  exact ⟨by simp only; rw [eo 0 (by decide)]; exact H.r0, by simp only; rw [eo 1 (by decide)]; exact H.r1, by simp only; rw [eo 5 (by decide)]; exact H.r5, H.pn, by simp only; rw [eo 4 (by decide)]; exact H.r4, by simp only; rw [eo 4 (by decide)]; exact H.tb, by omega, Int.le_refl _, (by show up A.r 3 _ 3 = _; exact up_same _ _ _), by simp only; rw [eo 2 (by decide)]; exact H.r2, H.rx, H.rm⟩
end
end Go.Proofs.Ytghfkgcaglabpaa

/-
  The plain law of the ring: what is kept by every call.
-/
namespace Go.Proofs.Ytghfkgcaglabpaa
open Go.RowKit
section
variable {X : Line}
theorem allL_put (h : LineOk X) (hm : X.many < 15) (id : Int) : allL (putL X id) = allL X ++ [id] := by
  have h0 := h.m
  have hf := h.f
  unfold allL
  rw [show (putL X id).many.toNat = X.many.toNat + 1 by simp only [putL]; omega, List.range_succ, List.map_append]
  congr 1
  · refine List.map_congr_left fun i hi => ?_
    have := List.mem_range.1 hi
    simp only [putL]
    exact up_ne _ _ (by unfold lastI; omega)
  · simp only [putL, List.map_cons, List.map_nil]
    rw [show ((X.first + (X.many.toNat : Int)) % 16).toNat = (lastI X).toNat by unfold lastI; omega, up_same]
theorem allL_pop (h : LineOk X) (hm : 0 < X.many) : allL X = X.buf X.first.toNat :: allL (popL X) := by
  have hf := h.f
  unfold allL
  rw [show X.many.toNat = (popL X).many.toNat + 1 by simp only [popL]; omega, List.range_succ_eq_map, List.map_cons, List.map_map]
  congr 1
  · rw [show ((X.first + ((0 : Nat) : Int)) % 16).toNat = X.first.toNat by omega]
  · refine List.map_congr_left fun i hi => ?_
    simp only [popL, Function.comp]
    rw [show ((X.first + ((i.succ : Nat) : Int)) % 16).toNat = (((X.first + 1) % 16 + (i : Int)) % 16).toNat by omega]
theorem allL_len : (allL X).length = X.many.toNat := by simp [allL]
end
theorem getF_cases (L : List Bf) : (∃ (k : Nat) (b : Bf), L[k]? = some b ∧ b.refs = 0 ∧ getF L = (((k : Int), 0), L.set k ⟨1, [], []⟩)) ∨ getF L = ((0, 8), L) := by
  unfold getF
  cases e : L.findIdx? (fun b => b.refs == 0) with
  | none => exact .inr rfl
  | some k =>
    rw [List.findIdx?_eq_some_iff_getElem] at e
    obtain ⟨hk, hb, _⟩ := e
    exact .inl ⟨k, L[k], List.getElem?_eq_getElem hk, by simpa using hb, rfl⟩
section
variable {n : Nat} {A : NicA} {L : List Bf} {T R : Line} {m3 : Int} {h t r : List Int} {g p : List (List UInt8)} {o : List (Int × List UInt8)} {S : RingA}
theorem fillL_J : ∀ (k : Nat) {A : NicA} {L : List Bf} {R : Line}, LineOk R → R.many + k ≤ 15 → DJ A T R m3 g p → PJ n L h t (allL R) o → DJ (fillL k A L R).1 T (fillL k A L R).2.2 m3 g p ∧ PJ n (fillL k A L R).2.1 h t (allL (fillL k A L R).2.2) o ∧ R.many ≤ (fillL k A L R).2.2.many
  | 0, A, L, R, _, _, h1, h2 => ⟨h1, h2, Int.le_refl _⟩
  | k + 1, A, L, R, hR, hk, h1, h2 => by
    unfold fillL
    rcases getF_cases L with ⟨i, b, e1, e2, e3⟩ | e3
    · rw [e3]
      simp only [if_true]
      have := fillL_J k (A := (setRxF A (lastI R) 274).2) (L := L.set i ⟨1, [], []⟩) (R := putL R i) (putL_ok hR (by omega) _) (by simp only [putL]; omega) (h1.fill hR (by omega) _) (by rw [allL_put hR (by omega)]; exact h2.get_r e1 e2)
      refine ⟨this.1, this.2.1, ?_⟩
      have h3 := this.2.2
      simp only [putL] at h3 ⊢
      omega
    · rw [e3]
      rw [if_neg (show ¬ (8 : Int) = 0 by decide)]
      exact ⟨h1, h2, Int.le_refl _⟩
theorem fillF_J (hok : RingOk S) (h1 : DJ S.A S.T S.R S.R.many g p) (h2 : PJ n S.L h (allL S.T) (allL S.R) o) : DJ (fillF S).A (fillF S).T (fillF S).R (fillF S).R.many g p ∧ PJ n (fillF S).L h (allL (fillF S).T) (allL (fillF S).R) o ∧ (fillF S).T = S.T := by
  have hm := hok.r.m
  obtain ⟨z1, z2, z3⟩ := fillL_J (15 - S.R.many).toNat hok.r (by omega) h1 h2
  unfold fillF
  simp only
  split
  · exact ⟨z1.told, z2, rfl⟩
  · refine ⟨?_, z2, rfl⟩
    rename_i hn
    have e : (fillL (15 - S.R.many).toNat S.A S.L S.R).2.2.many = S.R.many := by omega
    simp only
    rw [e]
    exact z1
theorem free_put {x : Int} {b : Bf} (h1 : bufAt L x = some b) (h2 : 0 < b.refs) : freeF L x = (0, putF L x { b with refs := b.refs - 1 }) := by
  unfold freeF; rw [h1]; simp only [if_pos h2]
theorem own_put {x : Int} {d : List UInt8} {hh dd : List UInt8} (h1 : bufAt L x = some ⟨1, hh, dd⟩) (hd : d.length ≤ 288) : ownF L x (setF d) = (0, putF L x ⟨1, [], d⟩) := by
  have e : setF d = fun _ => (0, ⟨1, [], d⟩) := by funext b; unfold setF; rw [if_neg (by omega)]
  unfold ownF; rw [h1, e]; rfl
theorem uptoT_J {hd : Int} : ∀ (k : Nat) {L : List Bf} {T : Line}, LineOk T → k = T.many.toNat → hd = A.r 4 → DJ A T R m3 g p → PJ n L h (allL T) r o → DJ A (uptoT k hd L T).2 R m3 g p ∧ PJ n (uptoT k hd L T).1 h (allL (uptoT k hd L T).2) r o ∧ (uptoT k hd L T).2.many = p.length
  | 0, L, T, hT, hk, e, h1, h2 => ⟨h1, h2, by have := h1.pn; have := hT.m; unfold uptoT; simp only; omega⟩
  | k + 1, L, T, hT, hk, e, h1, h2 => by
    have hm := hT.m
    have hf := hT.f
    have hpn := h1.pn
    have hr4 := h1.r4
    unfold uptoT
    split
    · rename_i e1
      refine ⟨h1, h2, ?_⟩
      rw [e] at e1
      simp only
      omega
    · rename_i e1
      have hlt : (p.length : Int) < T.many := by
        rcases Int.lt_or_le (p.length : Int) T.many with h3 | h3
        · exact h3
        · exact absurd (show T.first = hd by rw [e, hr4]; omega) e1
      rw [allL_pop hT (by omega)] at h2
      obtain ⟨b, b1, b2, b3⟩ := h2.free_t
      rw [free_put b1 b2]
      exact uptoT_J k (popL_ok hT (by omega)) (by simp only [popL]; omega) e (h1.popT hlt) b3
theorem uptoR_J {hd : Int} : ∀ (k : Nat) {L : List Bf} {R : Line} {m3 : Int} {g : List (List UInt8)} {o : List (Int × List UInt8)} {acc : List (Int × Bool)}, LineOk R → k = R.many.toNat → hd = A.r 2 → m3 = R.many → DJ A T R m3 g p → PJ n L h t (allL R) o →
    ∃ od : List (Int × List UInt8), od.map (·.2) = g ∧ (uptoR A k hd L R acc).2.2 = acc ++ od.map (fun x => (x.1, false)) ∧ DJ A T (uptoR A k hd L R acc).2.1 (uptoR A k hd L R acc).2.1.many [] p ∧ PJ n (uptoR A k hd L R acc).1 h t (allL (uptoR A k hd L R acc).2.1) (o ++ od)
  | 0, L, R, m3, g, o, acc, hR, hk, e, em, h1, h2 => by
    have hm := hR.m
    have := h1.gn
    have hg : g = [] := List.eq_nil_of_length_eq_zero (by omega)
    subst hg em
    exact ⟨[], rfl, by simp [uptoR], h1, by rw [List.append_nil]; exact h2⟩
  | k + 1, L, R, m3, g, o, acc, hR, hk, e, em, h1, h2 => by
    have hm := hR.m
    have hf := hR.f
    have hgn := h1.gn
    have hr2 := h1.r2
    unfold uptoR
    split
    · rename_i e1
      rw [e] at e1
      have hg : g = [] := List.eq_nil_of_length_eq_zero (by omega)
      subst hg em
      exact ⟨[], rfl, by simp, h1, by rw [List.append_nil]; exact h2⟩
    · rename_i e1
      cases g with
      | nil => exact absurd (show R.first = hd by rw [e, hr2]; simp only [List.length_nil]; omega) e1
      | cons b g =>
        have hl : 0 < R.many := by simp only [List.length_cons] at hgn; omega
        obtain ⟨q1, q2, q3⟩ := h1.popR hf
        rw [allL_pop hR hl] at h2
        obtain ⟨b1, b2⟩ := h2.come b
        rw [q1]
        simp only
        rw [own_put b1 (by omega)]
        simp only
        obtain ⟨od, z1, z2, z3, z4⟩ := uptoR_J k (acc := acc ++ [(R.buf R.first.toNat, false)]) (popL_ok hR hl) (by simp only [popL]; omega) e (by rw [em]; rfl) q3 b2
        refine ⟨(R.buf R.first.toNat, b) :: od, by simp [z1], by rw [z2]; simp, z3, ?_⟩
        have := z4
        rw [List.append_assoc] at this
        exact this
theorem toldL_J : ∀ (od : List (Int × List UInt8)) {h : List Int}, PJ n L h t r od → ∃ h', toldL L (od.map (fun x => (x.1, false))) h (od.map (·.2)) = (true, h', []) ∧ PJ n L h' t r []
  | [], h, H => ⟨h, rfl, H⟩
  | x :: od, h, H => by
    obtain ⟨t1, t2, t3, t4⟩ := H.tell
    obtain ⟨h', z1, z2⟩ := toldL_J od t4
    refine ⟨h', ?_, z2⟩
    have hl := H.hl
    simp only [List.map_cons]
    unfold toldL
    rw [if_neg (by simp; omega), if_neg (by rw [t2]; simp), t3]
    rw [show IntKind.i64.wrap (0 + 1) = 1 by decide]
    exact z1
/-- What is kept. -/
structure RJ (n : Nat) (S : RingA) (h : List Int) (g p : List (List UInt8)) : Prop where
  ok : RingOk S
  d : DJ S.A S.T S.R S.R.many g p
  q : PJ n S.L h (allL S.T) (allL S.R) []
theorem RJ.few (H : RJ n S h g p) : Few S.L := fun b hb => by
  obtain ⟨i, hi⟩ := List.getElem?_of_mem hb
  have s := H.q.refs i b hi
  have := H.q.hb i
  have h1 := cnt_le (allL S.T) i
  have h2 := cnt_le (allL S.R) i
  rw [allL_len] at h1 h2
  have := H.ok.t.m
  have := H.ok.r.m
  rw [List.map_nil, cnt_nil] at s
  omega
theorem RJ.told (H : RJ n S h g p) : (toldF S h g p).1 = true ∧ RJ n (toldF S h g p).2.1 (toldF S h g p).2.2 [] p := by
  have hdn : downB S.A = false := by unfold downB; rw [H.d.r1]; simp
  have hm := H.ok.t.m
  have hm2 := H.ok.r.m
  obtain ⟨x1, x2, x3⟩ := uptoT_J (hd := S.A.r 4) (A := A6 S.A) S.T.many.toNat H.ok.t rfl rfl H.d.a6 H.q
  obtain ⟨xa, xb⟩ := uptoT_ok (hd := S.A.r 4) S.T.many.toNat H.few H.ok.t (by omega)
  obtain ⟨od, y1, y2, y3, y4⟩ := uptoR_J (hd := S.A.r 2) (A := A6 S.A) (acc := []) S.R.many.toNat H.ok.r rfl rfl rfl x1 x2
  obtain ⟨ya, yb⟩ := uptoR_ok (A := A6 S.A) (hd := S.A.r 2) (o := []) S.R.many.toNat xa H.ok.r (by omega)
  rw [List.nil_append] at y4 y2
  have e : pollF S = (fillF ⟨A6 S.A, (uptoR (A6 S.A) S.R.many.toNat (S.A.r 2) (uptoT S.T.many.toNat (S.A.r 4) S.L S.T).1 S.R []).1, (uptoT S.T.many.toNat (S.A.r 4) S.L S.T).2, (uptoR (A6 S.A) S.R.many.toNat (S.A.r 2) (uptoT S.T.many.toNat (S.A.r 4) S.L S.T).1 S.R []).2.1⟩, (uptoR (A6 S.A) S.R.many.toNat (S.A.r 2) (uptoT S.T.many.toNat (S.A.r 4) S.L S.T).1 S.R []).2.2) := by
    unfold pollF; rw [hdn]; rfl
  have hok : RingOk ⟨A6 S.A, (uptoR (A6 S.A) S.R.many.toNat (S.A.r 2) (uptoT S.T.many.toNat (S.A.r 4) S.L S.T).1 S.R []).1, (uptoT S.T.many.toNat (S.A.r 4) S.L S.T).2, (uptoR (A6 S.A) S.R.many.toNat (S.A.r 2) (uptoT S.T.many.toNat (S.A.r 4) S.L S.T).1 S.R []).2.1⟩ := ⟨read6_ok H.ok.a, xb, yb⟩
  obtain ⟨f1, f2, f3⟩ := fillF_J hok y3 y4
  have fk := fill_ok hok ya
  rw [y2] at e
  obtain ⟨h', t1, t2⟩ := toldL_J od f2
  rw [y1] at t1
  unfold toldF
  simp only
  rw [e]
  simp only
  rw [t1]
  simp only
  refine ⟨?_, fk.1, f1, t2⟩
  rw [f3, allV_len]
  simp only
  rw [x3]
  simp
theorem RJ.law (h1 : 1 ≤ n) : RigLaw n (RJ n) where
  beg := by
    have hd0 : DJ (writeF (writeF newA 0 2).2 0 1).2 line0 line0 line0.many [] [] := by
      refine ⟨rfl, rfl, rfl, by decide, rfl, fun j b hb => by simp at hb, by decide, Int.le_refl _, rfl, rfl, fun j b hb => by simp at hb, fun j _ hj => ?_⟩
      simp only [line0] at hj; omega
    have hp0 : PJ n (List.replicate n ⟨0, [], []⟩) (List.replicate n 0) (allL line0) (allL line0) [] := by
      have hz : ∀ i, (List.replicate n (0 : Int)).getD i 0 = 0 := fun i => by
        simp only [List.getD, List.getElem?_replicate]; split <;> rfl
      refine ⟨by simp, by simp, fun i b hb => ?_, fun i => by rw [hz]; omega, fun x hx => (by cases hx), fun x hx => (by cases hx), fun x hx => (by cases hx), fun b hb => by rw [(List.mem_replicate.1 hb).2]⟩
      rw [(List.mem_replicate.1 (List.mem_of_getElem? hb)).2, hz]
      rfl
    have hok0 : RingOk ⟨(writeF (writeF newA 0 2).2 0 1).2, List.replicate n ⟨0, [], []⟩, line0, line0⟩ := ⟨write_ok (write_ok newA_ok _ _) _ _, line0_ok, line0_ok⟩
    obtain ⟨f1, f2, _⟩ := fillF_J hok0 hd0 hp0
    exact ⟨beg0_ok.1, f1, f2⟩
  ok := fun H => by
    have := H.d.gn
    have := H.d.pn
    have := H.ok.t.m
    have := H.ok.r.m
    exact ⟨H.ok, H.few, H.q.hl, by omega, by omega⟩
  gets := fun {S h g p} H b => by
    rcases getF_cases S.L with ⟨k, c, e1, e2, e3⟩ | e3
    · have hk := H.q.lt e1
      have hl := H.q.hl
      have hs : (S.L.set k ⟨1, [], []⟩)[k]? = some ⟨1, [], []⟩ := by
        have := (List.getElem?_eq_some_iff.1 e1).1
        simp [List.getElem?_set, this]
      have f0 := H.q.free0 e1 e2
      have ew : IntKind.i64.wrap (h.getD k 0 + 1) = 1 := by rw [f0.1]; decide
      unfold getsF
      simp only
      rw [e3]
      simp only
      rw [if_neg (by decide), if_neg (by simp; omega), Int.toNat_natCast, ew]
      refine ⟨rfl, ?_⟩
      simp only
      by_cases hd : b.length ≤ 288
      · rw [own_put (by rw [bufAt_nat]; exact hs) hd]
        refine ⟨⟨H.ok.a, H.ok.t, H.ok.r⟩, H.d, ?_⟩
        simp only [putF, Int.toNat_natCast, List.set_set]
        exact H.q.get_h e1 e2 b
      · have : ownF (S.L.set k ⟨1, [], []⟩) (k : Int) (setF b) = (2, S.L.set k ⟨1, [], []⟩) := by
          have e : setF b = fun _ => (2, ⟨1, [], []⟩) := by funext c; unfold setF; rw [if_pos (by omega)]
          unfold ownF; rw [bufAt_nat, hs, e]; rfl
        rw [this]
        exact ⟨⟨H.ok.a, H.ok.t, H.ok.r⟩, H.d, H.q.get_h e1 e2 []⟩
    · unfold getsF
      simp only
      rw [e3, if_pos (show (8 : Int) ≠ 0 by decide)]
      exact ⟨rfl, H⟩
  lets := fun {S h g p} H k => by
    unfold letsF
    split
    · exact ⟨rfl, H⟩
    · rename_i hc
      simp only [Bool.or_eq_true, decide_eq_true_eq, beq_iff_eq, not_or, Int.not_lt, Int.not_le] at hc
      obtain ⟨⟨c1, c2⟩, c3⟩ := hc
      obtain ⟨k, rfl⟩ := Int.eq_ofNat_of_zero_le c1
      rw [Int.toNat_natCast] at c3 ⊢
      have hl := H.q.hl
      have hn := H.q.len
      have hk := List.getElem?_eq_getElem (show k < S.L.length by omega)
      obtain ⟨z1, z2, z3⟩ := H.q.free_h hk c3
      rw [free_put (by rw [bufAt_nat]; exact hk) z2, z3]
      refine ⟨rfl, ⟨H.ok.a, H.ok.t, H.ok.r⟩, H.d, ?_⟩
      simp only [putF, Int.toNat_natCast]
      rw [show IntKind.i64.wrap (1 - 1) = 0 by decide]
      exact z1
  told := fun H => H.told
  send := fun {S h g p} H id hne => by
    unfold sendF at hne ⊢
    simp only at hne ⊢
    split at hne
    · rename_i e1; rw [if_pos e1]; exact H
    · rename_i e1
      rw [if_neg e1]
      split at hne
      · rename_i e2; rw [if_pos e2]; exact H
      · rename_i e2
        rw [if_neg e2]
        split at hne
        · rename_i e3; rw [if_pos e3]; exact H
        · rename_i e3
          rw [if_neg e3]
          split at hne
          · rename_i e4
            rw [if_pos e4]
            have e5 : (setTxF S.A (lastI S.T) ((seeF S.L id).1.head ++ (seeF S.L id).1.data)).2 = S.A := by
              revert e4
              unfold setTxF
              split
              · exact fun _ => rfl
              · split
                · exact fun _ => rfl
                · split
                  · exact fun _ => rfl
                  · exact fun h => absurd rfl h
            rw [e5]
            exact H
          · exact absurd rfl hne
  send0 := fun {S h g p} H id h0 => by
    have hm := H.ok.t.m
    unfold sendF at h0 ⊢
    simp only at h0 ⊢
    split at h0
    · rename_i e1; exact absurd h0 e1
    · rename_i e1
      rw [if_neg e1]
      split at h0
      · exact absurd h0 (show ¬ (20 : Int) = 0 by decide)
      · rename_i e2
        rw [if_neg e2]
        split at h0
        · exact absurd h0 (show ¬ (21 : Int) = 0 by decide)
        · rename_i e3
          rw [if_neg e3]
          split at h0
          · rename_i e4; exact absurd h0 e4
          · rename_i e4
            rw [if_neg e4]
            have e1' : (seeF S.L id).2 = 0 := by simpa using e1
            obtain ⟨b, b1, b2, b3⟩ : ∃ b, bufAt S.L id = some b ∧ 0 < b.refs ∧ seeF S.L id = (b, 0) := by
              revert e1'
              unfold seeF
              cases bufAt S.L id with
              | none => simp
              | some b => simp only; split
                          · rename_i hr; exact fun _ => ⟨b, rfl, hr, rfl⟩
                          · simp
            rw [b3] at e4 ⊢
            simp only at e4 ⊢
            have hid : 0 ≤ id := by
              rcases Int.lt_or_le id 0 with h2 | h2
              · unfold bufAt at b1; rw [if_neg (by omega)] at b1; cases b1
              · exact h2
            obtain ⟨k, rfl⟩ := Int.eq_ofNat_of_zero_le hid
            rw [bufAt_nat] at b1
            have hh := H.q.hd b (List.mem_of_getElem? b1)
            rw [hh, List.nil_append] at e4 ⊢
            have e5 : setTxF S.A (lastI S.T) b.data = (0, { S.A with tb := up S.A.tb (lastI S.T).toNat b.data }) ∧ b.data ≠ [] := by
              revert e4
              unfold setTxF
              split
              · exact fun h => absurd (show (1 : Int) ≠ 0 by decide) h
              · split
                · exact fun h => absurd (show (3 : Int) ≠ 0 by decide) h
                · rename_i hl
                  split
                  · exact fun h => absurd (show (2 : Int) ≠ 0 by decide) h
                  · exact fun _ => ⟨rfl, fun h => hl (by rw [h]; rfl)⟩
            rw [e5.1]
            have hmm : S.T.many < 15 := by omega
            refine ⟨trivial, rfl, ⟨write_ok (by have := setTx_ok H.ok.a (lastI S.T) b.data; rw [e5.1] at this; exact this) _ _, putL_ok H.ok.t hmm _, H.ok.r⟩, H.d.send H.ok.t hmm, ?_⟩
            simp only
            rw [allL_put H.ok.t hmm]
            have : holdF S.L (k : Int) = (0, S.L.set k { b with refs := b.refs + 1 }) := by
              unfold holdF; rw [bufAt_nat, b1]; simp only [if_pos b2, putF, Int.toNat_natCast]
            rw [this]
            exact H.q.hold_t b1 e5.2
  take := fun {S h g p} H hne => by
    unfold takeR at hne ⊢
    rw [H.d.offB] at hne ⊢
    simp only [Bool.false_eq_true, if_false] at hne ⊢
    split at hne
    · rename_i e; rw [if_pos e]; exact H
    · exact absurd rfl hne
  take0 := fun {S h g p} H h0 => by
    have ok2 := takeR_ok H.ok.a
    have hm := H.ok.t.m
    unfold takeR at h0 ok2 ⊢
    rw [H.d.offB] at h0 ok2 ⊢
    simp only [Bool.false_eq_true, if_false] at h0 ok2 ⊢
    split at h0
    · exact absurd h0 (show ¬ (7 : Int) = 0 by decide)
    · rename_i e
      rw [if_neg e] at ok2 ⊢
      cases p with
      | nil =>
        refine absurd ?_ e
        rw [H.d.r4, H.d.r5]
        unfold lastI
        simp
      | cons b p =>
        obtain ⟨z1, z2, z3⟩ := H.d.take (by omega)
        exact ⟨by simp, z2, ⟨ok2, H.ok.t, H.ok.r⟩, z3, H.q⟩
  give := fun {S h g p} H b hne => by
    have ok2 := give_ok H.ok.a b false
    unfold giveF at hne ok2 ⊢
    rw [H.d.offB] at hne ok2 ⊢
    simp only [Bool.false_eq_true, if_false] at hne ok2 ⊢
    split at hne
    · rename_i e; rw [if_pos e] at ok2 ⊢; exact ⟨⟨ok2, H.ok.t, H.ok.r⟩, H.d.miss, H.q⟩
    · rename_i e
      rw [if_neg e] at ok2 ⊢
      split at hne
      · rename_i e2; rw [if_pos e2] at ok2 ⊢; exact ⟨⟨ok2, H.ok.t, H.ok.r⟩, H.d.miss, H.q⟩
      · exact absurd rfl hne
  give0 := fun {S h g p} H b h0 => by
    have ok2 := give_ok H.ok.a b false
    have hm := H.ok.r.m
    unfold giveF at h0 ok2 ⊢
    rw [H.d.offB] at h0 ok2 ⊢
    simp only [Bool.false_eq_true, if_false] at h0 ok2 ⊢
    split at h0
    · exact absurd h0 (show ¬ (21 : Int) = 0 by decide)
    · rename_i e
      rw [if_neg e] at ok2 ⊢
      split at h0
      · exact absurd h0 (show ¬ (2 : Int) = 0 by decide)
      · rename_i e2
        rw [if_neg e2] at ok2 ⊢
        have gn := H.d.gn
        have hlt : (g.length : Int) < S.R.many := by
          rcases Int.lt_or_le (g.length : Int) S.R.many with h2 | h2
          · exact h2
          · exact absurd (show S.A.r 2 = S.A.r 3 by rw [H.d.r2, H.d.r3, show (g.length : Int) = S.R.many by omega]) e
        have hr := H.d.rm g.length (Nat.le_refl _) hlt
        rw [← H.d.r2] at hr
        exact ⟨⟨ok2, H.ok.t, H.ok.r⟩, H.d.come (by omega) hlt (by rw [hr] at e2; omega), H.q⟩
  counted := fun {S h g p} H => by
    have hm := H.ok.t.m
    have hm2 := H.ok.r.m
    exact H.q.counted (by rw [allL_len]; omega) (by rw [allL_len]; omega) rfl rfl rfl
end
end Go.Proofs.Ytghfkgcaglabpaa

/-
  RingHolds answers true.
-/
namespace Go.Proofs.Ytghfkgcaglabpaa
open Go.RowKit
set_option maxRecDepth 100000
set_option maxHeartbeats 4000000
theorem holds_no {w : World} {many : Int} (hb : (decide ((many : Int) < 1) || decide ((60 : Int) < many)) = true) {vv : Value} {l : List OpX} (h : OpsX w vv l) : Calls Try.prog 3 #[iw many, vv] w fun e w' => e = .returned (bo true) ∧ Only (fun _ => False) w w' := by
  obtain ⟨oa, oc, rfl, hlen, hops⟩ := h
  refine calls_sc (l0 := []) (args := [iw many, Value.slice oa l.length oc]) (fun _ => False) Try.func3 rfl 159 Try.ntmps3 (le_b rfl) ⟨⟨by simp, List.Pairwise.nil⟩, Only.refl _ _⟩ ?_
  show SC _ _ _ _ [(0, iw many), (1, Value.slice oa l.length oc)] []
  refine SC.seq ?_
  refine SC.region ?_
  refine SL.ru rfl rfl (lt_b rfl) (ru_assign rfl rfl) ?_
  refine SL.nil ?_
  refine SC.of_SE ?_
  refine SC.norm [(0, iw many), (1, Value.slice oa l.length oc), (4, bo false)] [] ⟨rfl, rfl, rfl, trivial⟩ rfl ?_
  refine SC.seq ?_
  refine SC.region ?_
  refine SL.callv (bo true) rfl rfl co6 rfl rfl rfl (lt_b rfl) (fun w hI => H_only hI (awake_any _)) ?_
  refine SL.ru rfl rfl (lt_b rfl) (ru_assign rfl rfl) ?_
  refine SL.nil ?_
  refine SC.of_SE ?_
  refine SC.norm [(0, iw many), (1, Value.slice oa l.length oc), (4, bo false), (5, bo true)] [] ⟨rfl, rfl, rfl, rfl, trivial⟩ rfl ?_
  refine SC.seq ?_
  refine SC.region ?_
  refine SL.ru rfl rfl (lt_b rfl) (ru_move rfl rfl) ?_
  refine SL.callv (Value.pointer none) rfl rfl co7 rfl rfl rfl (lt_b rfl) (fun w hI => H_only hI (begun_no hb)) ?_
  refine SL.ru rfl rfl (lt_b rfl) (ru_assign rfl rfl) ?_
  refine SL.nil ?_
  refine SC.of_SE ?_
  refine SC.norm [(0, iw many), (1, Value.slice oa l.length oc), (4, bo false), (5, bo true), (6, Value.pointer none)] [] ⟨rfl, rfl, rfl, rfl, rfl, trivial⟩ rfl ?_
  refine SC.seq ?_
  refine SC.seq ?_
  refine SC.region ?_
  refine SL.ru rfl rfl (lt_b rfl) (ru_move rfl rfl) ?_
  refine SL.ru rfl rfl (lt_b rfl) (ru_not (c := false) rfl rfl rfl) ?_
  refine SL.ru rfl rfl (lt_b rfl) (ru_move rfl rfl) ?_
  refine SL.rug rfl rfl rfl rfl (lt_b rfl) (ru_move rfl rfl) ?_
  refine SL.rug rfl rfl rfl rfl (lt_b rfl) (ru_eqnil Try.underlying24 rfl rfl rfl rfl) ?_
  refine SL.ru rfl rfl (lt_b rfl) (ru_pick (u := bo true) (v := bo true) rfl rfl rfl rfl) ?_
  refine SL.nil ?_
  refine SC.of_SE ?_
  refine SC.norm [(0, iw many), (1, Value.slice oa l.length oc), (4, bo false), (5, bo true), (6, Value.pointer none), (30, bo true)] [] ⟨rfl, rfl, rfl, rfl, rfl, rfl, trivial⟩ rfl ?_
  refine SC.yes rfl ?_
  refine SC.seq ?_
  refine SC.region ?_
  refine SL.ru rfl rfl (lt_b rfl) (ru_move rfl rfl) ?_
  refine SL.ru rfl rfl (lt_b rfl) (ru_move rfl rfl) ?_
  refine SL.rug rfl rfl rfl rfl (lt_b rfl) (ru_move rfl rfl) ?_
  refine SL.rug rfl rfl rfl rfl (lt_b rfl) (ru_lt (b := (decide ((many : Int) < 1))) rfl rfl rfl rfl) ?_
  refine SL.rug rfl rfl rfl rfl (lt_b rfl) (ru_move rfl rfl) ?_
  refine SL.join 3 [(0, iw many), (1, Value.slice oa l.length oc), (4, bo false), (5, bo true), (6, Value.pointer none), (30, bo true), (31, bo true), (32, bo true), (33, iw many), (34, bo (decide ((many : Int) < 1))), (35, bo (decide ((many : Int) < 1))), (38, bo ((decide ((many : Int) < 1)) || (decide ((60 : Int) < many))))] [] ?_ ?_
  rotate_left
  · intro K hK
    rcases tf (decide ((many : Int) < 1)) with h1 | h1
    · skip
      refine SL.norm [(0, iw many), (1, Value.slice oa l.length oc), (4, bo false), (5, bo true), (6, Value.pointer none), (30, bo true), (31, bo true), (32, bo true), (33, iw many), (34, bo true), (35, bo true)] [] ⟨rfl, rfl, rfl, rfl, rfl, rfl, rfl, rfl, rfl, (congrArg (fun x => some (Value.bool x)) h1), (congrArg (fun x => some (Value.bool x)) h1), trivial⟩ rfl ?_
      refine SL.off (b := true) rfl rfl rfl rfl rfl (lt_b rfl) ?_
      refine SL.off (b := true) rfl rfl rfl rfl rfl (lt_b rfl) ?_
      refine SL.rug rfl rfl rfl rfl (lt_b rfl) (ru_pick (u := bo true) (v := undef) rfl rfl rfl rfl) ?_
      exact SL.joined hK ⟨rfl, rfl, rfl, rfl, rfl, rfl, rfl, rfl, rfl, (congrArg (fun x => some (Value.bool x)) h1.symm), (congrArg (fun x => some (Value.bool x)) h1.symm), (congrArg (fun bx => some (Value.bool (bx || (decide ((60 : Int) < many))))) h1.symm), trivial⟩ rfl
    · skip
      refine SL.norm [(0, iw many), (1, Value.slice oa l.length oc), (4, bo false), (5, bo true), (6, Value.pointer none), (30, bo true), (31, bo true), (32, bo true), (33, iw many), (34, bo false), (35, bo false)] [] ⟨rfl, rfl, rfl, rfl, rfl, rfl, rfl, rfl, rfl, (congrArg (fun x => some (Value.bool x)) h1), (congrArg (fun x => some (Value.bool x)) h1), trivial⟩ rfl ?_
      refine SL.rug rfl rfl rfl rfl (lt_b rfl) (ru_move rfl rfl) ?_
      refine SL.rug rfl rfl rfl rfl (lt_b rfl) (ru_gt (b := (decide ((60 : Int) < many))) rfl rfl rfl rfl) ?_
      refine SL.rug rfl rfl rfl rfl (lt_b rfl) (ru_pick (u := bo true) (v := bo (decide ((60 : Int) < many))) rfl rfl rfl rfl) ?_
      exact SL.joined hK ⟨rfl, rfl, rfl, rfl, rfl, rfl, rfl, rfl, rfl, (congrArg (fun x => some (Value.bool x)) h1.symm), (congrArg (fun x => some (Value.bool x)) h1.symm), (congrArg (fun bx => some (Value.bool (bx || (decide ((60 : Int) < many))))) h1.symm), trivial⟩ rfl
  skip
  refine SL.ru rfl rfl (lt_b rfl) (ru_pick (u := bo ((decide ((many : Int) < 1)) || (decide ((60 : Int) < many)))) (v := bo false) rfl rfl rfl rfl) ?_
  refine SL.ru rfl rfl (lt_b rfl) (ru_assign rfl rfl) ?_
  refine SL.nil ?_
  refine SC.of_SE ?_
  refine SC.norm [(0, iw many), (1, Value.slice oa l.length oc), (4, bo ((decide ((many : Int) < 1)) || (decide ((60 : Int) < many)))), (6, Value.pointer none)] [] ⟨rfl, rfl, rfl, rfl, trivial⟩ rfl ?_
  refine SC.ret ?_
  refine SE.passr ?_
  refine SE.res (.inl rfl) (res1 Try.results3 rfl) fun w1 hI => ⟨ret_bo hb.symm, hI.2⟩
theorem holds_walk (w : World) (many : Int) {vv : Value} {l : List OpX} (h : OpsX w vv l) : Calls Try.prog 3 #[iw many, vv] w fun e w' => e = .returned (.bool true) ∧ Only (fun _ => False) w w' := by
  by_cases hb : (decide ((many : Int) < 1) || decide ((60 : Int) < many)) = true
  · exact holds_no hb h
  · simp only [Bool.or_eq_true, decide_eq_true_eq, not_or, Int.not_lt] at hb
    obtain ⟨n, rfl⟩ := Int.eq_ofNat_of_zero_le (show 0 ≤ many by omega)
    exact holds_in (RJ.law (by omega)) (by omega) (by omega) h _ (fun _ h => h)

end Go.Proofs.Ytghfkgcaglabpaa

/-
  From a row's reading of the arguments to what the walks ask of memory; no statement is named here.
-/
namespace Go.Proofs.Ytghfkgcaglabpaa
open Go.ChangeShapes Go.WideShapes Go.ChangeAt Go.RowKit Go.Deep

def I64 (n : Int) : Prop := -9223372036854775808 ≤ n ∧ n ≤ 9223372036854775807
theorem sliceIn_nil {S : Nat → Prop} {n c : Nat} : sliceIn (.slice none n c) S := fun b o n c e _ => by simp at e

section
variable {H : Type} {enc : TypeId × Value → H} {P : Program} {w : World} {base : Nat} {spare : Nat → Bool} {held : Bool}

theorem open_slice_fields {t e : TypeId} {fs : Array Field} {fuel : Nat} {cs : List Value} {x : DataW H × List MemPlace} (ht : P.underlying t = some (.slice e)) (he : P.underlying e = some (.struct fs))
    (hone : oneCellFields P fs = true) (hC : P.cellsOf e = fs.size) (h : DataW.trod enc P w base spare held fuel t cs = some x) :
    (cs = [.slice none 0 0] ∧ x = (.nil, [])) ∨
    ∃ (a : Addr) (len cap m : Nat) (D : Nat → DataW H) (Pl : Nat → List MemPlace), cs = [.slice (some a) len cap] ∧ base ≤ a.block ∧ len ≤ cap ∧ cap ≤ maxLen ∧ m = (if spare a.block then cap else len) ∧
      x = (.slice ((List.range len).map D) ((List.range (m - len)).map fun j => D (len + j)), MemPlace.row a (m * fs.size) ++ (List.range m).flatMap Pl) ∧
      ∀ i, i < m → ∃ (ys : List (DataW H × List MemPlace)) (n : Nat), D i = .agg (ys.map (·.1)) ∧ Pl i = ys.flatMap (·.2) ∧ ys.length = fs.size ∧
        ∀ (j : Nat) (f : Field), fs[j]? = some f → ∃ (v : Value) (y : DataW H × List MemPlace), w.cell? (a.add (i * fs.size + j)) = some v ∧ ys[j]? = some y ∧ DataW.trod enc P w base spare held n f.type [v] = some y := by
  rcases open_slice ht h with h0 | ⟨a, len, cap, m, n, D, Pl, hcs, hb, hl, hm, hmm, hx, hi⟩
  · exact .inl h0
  · refine .inr ⟨a, len, cap, m, D, Pl, hcs, hb, hl, hm, hmm, by rw [hC] at hx; exact hx, fun i him => ?_⟩
    obtain ⟨cs', hc, ht'⟩ := hi i him
    rw [hC] at hc
    obtain ⟨ys, n', hn', hy, hlen, hyl, hf⟩ := DataW.trod_struct he ht'
    obtain ⟨_, hcl, hat⟩ := World.cells?_some hc
    simp only [Prod.mk.injEq] at hy
    refine ⟨ys, n', hy.1, hy.2, hyl, fun j f hj => ?_⟩
    obtain ⟨ho, hk⟩ := hone_of hone j f hj
    have hjl : j < fs.size := (Array.getElem?_eq_some_iff.1 hj).1
    have hcell := hat j hjl
    have hv : cs'[j]? = some (cs'[j]'(by omega)) := List.getElem?_eq_getElem (by omega)
    have h1 := hf j f hj
    rw [ho, hk] at h1
    have hone' : (cs'.drop j).take 1 = [cs'[j]'(by omega)] := by
      rw [List.drop_eq_getElem_cons (by omega)]
      rfl
    rw [hone'] at h1
    have hys : ys[j]? = some (ys[j]'(by omega)) := List.getElem?_eq_getElem (by omega)
    refine ⟨_, _, ?_, hys, h1.trans hys⟩
    rw [← Go.Deep.add_add, hcell, hv]

theorem plain_of_cell {a : Addr} {v : Value} (h : w.cell? (a.add 0) = some v) : a.spot = none := by
  cases hsp : a.spot with
  | none => rfl
  | some s =>
    unfold World.cell? Addr.add at h
    simp only [if_true, hsp, Option.isSome_some] at h
    split at h <;> simp at h
theorem plain_add {a : Addr} (hs : a.spot = none) (i : Nat) : a.add i = ⟨a.block, a.off + i, none⟩ := by
  cases a; simp only at hs; subst hs
  unfold Addr.add; split <;> simp_all
theorem wf_u8 {n : Int} (h : (Lit.int .u8 n).wf = true) : 0 ≤ n ∧ n < 256 := by
  simp only [Lit.wf, Bool.and_eq_true, decide_eq_true_eq] at h
  exact ⟨Int.le_trans (by decide) h.1, Int.lt_of_le_of_lt h.2 (by decide)⟩

/-- A slice of bytes. -/
theorem open_bytes {t e : TypeId} {fuel : Nat} {v : Value} {x : DataW H × List MemPlace} (ht : P.underlying t = some (.slice e)) (he : P.underlying e = some (.int .u8)) (hc : P.cellsOf e = 1) (hB : P.bytesOf e = 1)
    (h : DataW.trod enc P w base (fun _ => true) held fuel t [v] = some x) (hw : ∀ n ∈ x.1.weights P t, n ≤ reachBytes) :
    ∃ a n c l, v = .slice a n c ∧ BytesAt w (.slice a n c) l ∧ sliceIn (.slice a n c) (fun b => b < w.heap.size) := by
  rcases open_ints ht he hc h with ⟨hcs, _⟩ | ⟨a, len, cap, zs, hcs, _, hl, hm, hz, hx, hcell, hwf⟩
  · simp at hcs; subst hcs
    exact ⟨none, 0, 0, [], rfl, .nil _, sliceIn_nil⟩
  · simp at hcs; subst hcs
    simp only [if_true] at hz
    have hcap : cap ≤ 140737488351232 := by
      have := hw ((zs.take len).length * 1 + (zs.drop len).length * 1) (by
        rw [hx]
        simp only [DataW.weights, ht, hB, List.mem_cons]
        left
        simp [lits])
      simp only [reachBytes] at this
      have e1 : (zs.take len).length + (zs.drop len).length = zs.length := by rw [List.length_take, List.length_drop]; omega
      omega
    refine ⟨some a, len, cap, (zs.take len).map fun z => UInt8.ofNat z.toNat, rfl, ?_, ?_⟩
    · by_cases h0 : len = 0
      · subst h0
        exact .inl ⟨_, _, rfl, (fun h => by cases h), by simp⟩
      · have hs : a.spot = none := plain_of_cell (hcell 0 (by omega))
        have hll : ((zs.take len).map fun z => UInt8.ofNat z.toNat).length = len := by simp; omega
        refine .inr ⟨a.block, a.off, cap, ?_, by omega, by omega, fun j hj => ?_⟩
        · rw [hll]; cases a; simp only at hs; subst hs; rfl
        · rw [hll] at hj
          have hcj := hcell j (by omega)
          rw [plain_add hs] at hcj
          rw [hcj]
          have hzj : zs.getD j 0 = zs[j] := by simp [List.getElem?_eq_getElem (show j < zs.length by omega)]
          have hr := wf_u8 (hwf zs[j] (List.getElem_mem _))
          have e2 : ((UInt8.ofNat zs[j].toNat).toNat : Int) = zs[j] := by
            rw [UInt8.toNat_ofNat']; omega
          simp only [List.getElem_map, List.getElem_take, hzj, bv, e2]
    · intro b o n c e hn
      simp at e
      obtain ⟨rfl, rfl, rfl⟩ := e
      have := block_lt_of_cell (hcell 0 (by omega))
      exact this

theorem weights_agg {fs : Array Field} {t : TypeId} (hu : P.underlying t = some (.struct fs)) {ys : List (DataW H × List MemPlace)} (hl : ys.length = fs.size) {B : Nat} (hw : ∀ n ∈ (DataW.agg (ys.map (·.1))).weights P t, n ≤ B)
    {j : Nat} {f : Field} {y : DataW H × List MemPlace} (hf : fs[j]? = some f) (hy : ys[j]? = some y) : ∀ n ∈ y.1.weights P f.type, n ≤ B := by
  intro n hn
  refine hw n ?_
  simp only [DataW.weights, hu]
  exact DataW.weights_mem_each (j := j) (t := f.type) (d := y.1) (by simp [hf]) (by simp [hy]) n hn

theorem weights_all {t : TypeId} {l : List (DataW H)} {n : Nat} {d : DataW H} (hd : d ∈ l) (hn : n ∈ d.weights P t) : n ∈ DataW.weightsAll P t l := by
  induction l with
  | nil => cases hd
  | cons x l ih =>
    simp only [DataW.weightsAll, List.mem_append]
    rcases List.mem_cons.1 hd with rfl | h
    · exact .inl hn
    · exact .inr (ih h)
end
end Go.Proofs.Ytghfkgcaglabpaa

/-
  The arguments of the ring's statements, opened.
-/
namespace Go.Proofs.Ytghfkgcaglabpaa
open Go.ChangeShapes Go.WideShapes Go.ChangeAt Go.RowKit Go.Deep
set_option maxRecDepth 100000
variable {H : Type} {enc : TypeId × Value → H} {w : World} {base b0 : Nat} {held : Bool} {r : Reach}
theorem ops_nil (a : Option Addr) (c : Nat) : OpsX w (.slice a 0 c) [] := ⟨a, c, rfl, by simp, fun i hi => by simp at hi⟩
theorem open_ops_arg {v : Value} {d : DataW H} {p : List MemPlace} (hv : Value.okWide Try.prog w r b0 22 v) (h : DataW.Trod enc Try.prog w base (fun _ => true) held 22 v d p) (hw : ∀ n ∈ DataW.weights Try.prog 22 d, n ≤ reachBytes) :
    ∃ l, OpsX w v l := by
  obtain ⟨a0, n0, c0, rfl⟩ := okWide_slice Try.underlying22 hv
  obtain ⟨fuel, hf⟩ := h
  have hB : Try.prog.bytesOf 30 = 48 := by kernel_rfl
  rcases open_slice_fields (x := (d, p)) Try.underlying22 Try.underlying30 (by kernel_rfl) (by kernel_rfl) hf with ⟨hcs, _⟩ | ⟨a, len, cap, m, D, Pl, hcs, _, hl, _, hm, hx, hi⟩
  · simp [Value.cells] at hcs
    obtain ⟨rfl, rfl, rfl⟩ := hcs
    exact ⟨[], ops_nil _ _⟩
  · simp [Value.cells] at hcs
    obtain ⟨rfl, rfl, rfl⟩ := hcs
    simp only [if_true] at hm
    subst hm
    obtain ⟨hx, _⟩ := Prod.mk.inj hx
    subst hx
    by_cases h0 : n0 = 0
    · subst h0; exact ⟨[], ops_nil _ _⟩
    have hlen : n0 * 48 ≤ 140737488351232 := by
      have := hw ((((List.range n0).map D).length + ((List.range (m - n0)).map fun j => D (n0 + j)).length) * 48) (by
        simp only [DataW.weights, Try.underlying22, List.mem_cons, hB]
        left; trivial)
      simp only [List.length_map, List.length_range, reachBytes] at this
      omega
    have each : ∀ i, i < n0 → ∃ o : OpX, a.spot = none ∧ OpXAt w a.block (a.off + i * 4) o := by
      intro i hin
      obtain ⟨z, n, hD0, _, hys0, hf0⟩ := hi 0 (by omega)
      obtain ⟨v, y, hc0, _, _⟩ := hf0 0 _ rfl
      have hs : a.spot = none := plain_of_cell hc0
      obtain ⟨ys, n, hD, _, hys, hf⟩ := hi i (by omega)
      have hDm : D i ∈ (List.range n0).map D := List.mem_map.2 ⟨i, List.mem_range.2 hin, rfl⟩
      have hwi : ∀ n ∈ (DataW.agg (ys.map (·.1))).weights Try.prog 30, n ≤ reachBytes := by
        intro q hq
        refine hw q ?_
        simp only [DataW.weights, Try.underlying22, List.mem_cons, List.mem_append]
        right; left
        rw [← hD] at hq
        exact weights_all hDm hq
      obtain ⟨v0, y0, c0, q0, h0⟩ := hf 0 _ rfl
      obtain ⟨v1, y1, c1, q1, h1⟩ := hf 1 _ rfl
      obtain ⟨v3, y3, c2, q3, h3⟩ := hf 2 _ rfl
      obtain ⟨v4, y4, c3, q4, h4⟩ := hf 3 _ rfl
      have w3 := weights_agg Try.underlying30 hys hwi rfl q3
      obtain ⟨z0, hz0, _, u0⟩ := DataW.trod_int Try.underlying3 h0
      obtain ⟨z1, hz1, _, u1⟩ := DataW.trod_int Try.underlying3 h1
      obtain ⟨b, nn, cc, l, e, k1, k2⟩ := open_bytes Try.underlying28 Try.underlying5 (by kernel_rfl) (by kernel_rfl) h3 w3
      obtain ⟨z4, hz4, _⟩ := DataW.trod_bool Try.underlying4 h4
      simp at hz0 hz1 hz4
      subst hz0 hz1 hz4 e
      rw [plain_add hs] at c0 c1 c2 c3
      refine ⟨⟨z0, z1, .slice b nn cc, l, z4⟩, hs, fun j u hj => ?_, k1, k2⟩
      match j, hj with
      | 0, hj => simp at hj; subst hj; exact c0
      | 1, hj => simp at hj; subst hj; exact c1
      | 2, hj => simp at hj; subst hj; exact c2
      | 3, hj => simp at hj; subst hj; exact c3
      | j + 4, hj => simp at hj
    obtain ⟨_, hs, hfirst⟩ := each 0 (by omega)
    obtain ⟨g, hg⟩ : ∃ g : Nat → OpX, ∀ i, i < n0 → OpXAt w a.block (a.off + i * 4) (g i) := by
      refine ⟨fun i => if h : i < n0 then Classical.choose (each i h) else ⟨0, 0, .slice none 0 0, [], false⟩, fun i h => ?_⟩
      simp only [h, dite_true]
      exact (Classical.choose_spec (each i h)).2
    refine ⟨(List.range n0).map g, some a, _, by simp; rfl, by simp; omega, fun i hi => ⟨a.block, a.off, ?_, ?_⟩⟩
    · cases a; simp only at hs; subst hs; rfl
    · simp at hi
      simpa using hg i hi
end Go.Proofs.Ytghfkgcaglabpaa
