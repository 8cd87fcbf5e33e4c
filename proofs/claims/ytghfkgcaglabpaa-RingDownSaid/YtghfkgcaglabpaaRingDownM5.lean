/-
  What the proof of RingDown stands on, part 5: each theorem by itself, under the conditions that it names.
-/
import Derived.Test.YtghfkgcaglabpaaRingDownM4
import Derived.ProofKit
import Derived.OpenShut
import Derived.ShutString
import Derived.ChangeOld
import Derived.SizedLaws
import Derived.ChangeSlices
import Derived.Deep.Slices
import Derived.Deep.Fields
import Derived.ChangeSame
/-
  RingDown, where the number is one of 20 to 60.
-/
namespace Go.Proofs.Ytghfkgcaglabpaa
open Go.RowKit
set_option maxRecDepth 100000
set_option maxHeartbeats 4000000
theorem down_in {w : World} {n : Nat} (h20 : 20 ≤ n) (h60 : n ≤ 60) {vv vb : Value} {l : List OpX} {bs : List UInt8} (h : OpsX w vv l) (hB : BytesAt w vb bs ∧ sliceIn vb (fun b => b < w.heap.size)) (G : Nat → Prop) (hGf : ∀ b, ¬ G b) : Calls Try.prog 4 #[iw (n : Int), vv, vb] w fun e w' => e = .returned (bo true) ∧ Only G w w' := by
  obtain ⟨oa, oc, rfl, hlen, hops⟩ := h
  obtain ⟨hbs, hbb⟩ := hB
  obtain ⟨qb, cb, rfl⟩ := hbs.form
  have h1n : 1 ≤ n := by omega
  refine calls_sc (l0 := []) (args := [iw (n : Int), Value.slice oa l.length oc, Value.slice qb bs.length cb]) G Try.func4 rfl 254 Try.ntmps4 (le_b rfl) ⟨⟨by simp, List.Pairwise.nil⟩, Only.refl _ _⟩ ?_
  show SC _ _ _ _ [(0, iw (n : Int)), (1, Value.slice oa l.length oc), (2, Value.slice qb bs.length cb)] []
  refine SC.sr ?_
  refine SL.as ?_
  refine SL.nn [(0, iw (n : Int)), (1, Value.slice oa l.length oc), (2, Value.slice qb bs.length cb), (6, bo false)] [] ⟨rfl, rfl, rfl, rfl, trivial⟩ ?_
  refine SC.sr ?_
  refine SL.callv (bo true) rfl rfl co6 rfl rfl rfl (lt_b rfl) (fun w hI => H_only hI (awake_any _)) ?_
  refine SL.as ?_
  refine SL.nn [(0, iw (n : Int)), (1, Value.slice oa l.length oc), (2, Value.slice qb bs.length cb), (6, bo false), (7, bo true)] _ ⟨rfl, rfl, rfl, rfl, rfl, trivial⟩ ?_
  refine SC.sr ?_
  refine SL.mv ?_
  refine SL.call (ζ := Nat × Nat × Nat × Nat × Nat × Nat × Nat × Nat × (Nat → Prop) × (Nat → Prop)) (fun z => pt z.1 0) (fun z => [rBlk z.1 [pt z.2.1 0, pt z.2.2.1 0, pt z.2.2.2.2.1 0, pt z.2.2.2.2.2.1 0, pt z.2.2.2.2.2.2.1 0, pt z.2.2.2.2.2.2.2.1 0, Value.slice none 0 0, Value.slice none 0 0] 43, rRing z.2.2.2.2.1 z.2.1 z.2.2.1 z.2.2.2.1 z.2.2.2.2.2.2.2.2.1 (beg0 n), rRefR z.2.2.2.2.2.2.2.1 z.2.2.2.2.2.1 z.2.2.2.2.2.2.1 z.2.2.2.2.2.2.2.2.2 (ref0 n)]) (fun z => GX G w.heap.size z.1 z.2.1 z.2.2.1 z.2.2.2.1 z.2.2.2.2.1 (ds0 n z.2.2.2.2.2.2.2.2.1 z.2.2.2.2.2.2.2.2.2)) rfl rfl co7 rfl rfl rfl (lt_b rfl) (fun w9 hI => (begun_in h1n h60).mono fun e2 w2 ⟨g, h1, l3, h2, h3⟩ => by obtain ⟨d, p, ab, r, e, q, s, F, K, k1, k2⟩ := h2.three hI h3; exact ⟨(g, d, p, ab, r, e, q, s, F, K), h1, k1, k2⟩) ?_
  rintro ⟨g, d, p, ab, r, e, q, s, F, KZ⟩ hX0
  dsimp only at hX0
  refine SL.as ?_
  refine SL.nn [(0, iw (n : Int)), (1, Value.slice oa l.length oc), (2, Value.slice qb bs.length cb), (6, bo false), (7, bo true), (8, pt g 0)] [rBlk g [pt d 0, pt p 0, pt r 0, pt e 0, pt q 0, pt s 0, Value.slice none 0 0, Value.slice none 0 0] 43, rRing r d p ab F (beg0 n), rRefR s e q KZ (ref0 n)] ⟨rfl, rfl, rfl, rfl, rfl, rfl, trivial⟩ ?_
  refine SC.seq ?_
  refine SC.sr ?_
  refine SL.mv ?_
  refine SL.uu (ru_not (c := false) rfl rfl rfl) ?_
  refine SL.mv ?_
  refine SL.gg (ru_move rfl rfl) ?_
  refine SL.gg (ru_eqnil Try.underlying24 rfl rfl rfl rfl) ?_
  refine SL.uu (ru_pick (u := bo true) (v := bo false) rfl rfl rfl rfl) ?_
  refine SL.mv ?_
  refine SL.gg (ru_move rfl rfl) ?_
  refine SL.gg (ru_lt (b := false) rfl rfl rfl ((show decide (((n : Int) : Int) < 20) = false from decide_eq_false (by omega)))) ?_
  refine SL.uu (ru_pick (u := bo true) (v := bo false) rfl rfl rfl rfl) ?_
  refine SL.nn [(0, iw (n : Int)), (1, Value.slice oa l.length oc), (2, Value.slice qb bs.length cb), (6, bo false), (7, bo true), (8, pt g 0), (35, bo false)] _ ⟨rfl, rfl, rfl, rfl, rfl, rfl, rfl, trivial⟩ ?_
  refine SC.no rfl ?_
  refine SC.skip ?_
  refine SC.of_SE ?_
  refine SC.norm [(1, Value.slice oa l.length oc), (2, Value.slice qb bs.length cb), (6, bo false), (8, pt g 0)] _ ⟨rfl, rfl, rfl, rfl, trivial⟩ rfl ?_
  refine SC.seq ?_
  refine SC.sr ?_
  refine SL.as ?_
  refine SL.nn [(1, Value.slice oa l.length oc), (2, Value.slice qb bs.length cb), (6, bo false), (8, pt g 0), (9, iw 0)] _ ⟨rfl, rfl, rfl, rfl, rfl, trivial⟩ ?_
  refine SC.block ?_
  refine SC.rows (rRowO (.slice none 0 0) (ivs []) 3) (fun b hb => by cases hb) (fun w => rowO_nil w 3) ?_
  refine SC.rows (rRowO (.slice none 0 0) (ivs []) 3) (fun b hb => by cases hb) (fun w => rowO_nil w 3) ?_
  refine SC.loop (γ := Nat × DS) (fun k z => [(1, Value.slice oa l.length oc), (2, Value.slice qb bs.length cb), (6, bo false), (8, pt g 0), (9, iw (z.1 : Int))]) (fun k z => [rBlk g [pt d 0, pt p 0, pt r 0, pt e 0, pt q 0, pt s 0, Value.slice z.2.qc z.2.come.length z.2.cc, Value.slice z.2.qm z.2.mine.length z.2.cm] 43, rRing r d p ab z.2.F z.2.S, rRefR s e q z.2.K z.2.Z, rRowO (.slice z.2.qc z.2.come.length z.2.cc) (ivs z.2.come) 3, rRowO (.slice z.2.qm z.2.mine.length z.2.cm) (ivs z.2.mine) 3]) (fun k z => k + z.1 = l.length ∧ FJ n z.2.S z.2.come z.2.mine ∧ RB (z.1 + 1) z.2.Z ∧ GX G w.heap.size g d p ab r z.2 ∧ z.2.S.A.r 1 = 1) l.length (0, ds0 n F KZ) ⟨rfl, fj0 h1n, rb0, hX0, beg0_r1⟩ ⟨rfl, rfl, rfl, rfl, rfl, trivial⟩ rfl ?_
  rintro N ⟨i, S, F, Z, KZ, come, mine, qc, cc, qm, cm⟩ ⟨hn, hj, hZ, hX, hlk⟩
  dsimp only at hn hj hZ hlk
  rcases N with _ | N
  · skip
    refine SC.seq ?_
    refine SC.sr ?_
    refine SL.mv ?_
    refine SL.mv ?_
    refine SL.uu (ru_len Try.underlying22 rfl rfl) ?_
    refine SL.uu (ru_lt (b := (decide (((i : Int) : Int) < (l.length : Int)))) rfl rfl rfl rfl) ?_
    refine SL.nn [(1, Value.slice oa l.length oc), (2, Value.slice qb bs.length cb), (6, bo false), (8, pt g 0), (9, iw (i : Int)), (52, bo (decide (((i : Int) : Int) < (l.length : Int))))] [rBlk g [pt d 0, pt p 0, pt r 0, pt e 0, pt q 0, pt s 0, Value.slice qc come.length cc, Value.slice qm mine.length cm] 43, rRing r d p ab F S, rRefR s e q KZ Z, rRowO (.slice qc come.length cc) (ivs come) 3, rRowO (.slice qm mine.length cm) (ivs mine) 3] ⟨rfl, rfl, rfl, rfl, rfl, rfl, trivial⟩ ?_
    refine SC.no (show some (Value.bool (decide (((i : Int) : Int) < (l.length : Int)))) = some (Value.bool false) from congrArg (fun x => some (Value.bool x)) (decide_eq_false (by omega))) ?_
    refine SC.exit ?_
    refine SE.passe ?_
    refine SE.passe ?_
    refine SE.blke ?_
    refine SC.of_SE ?_
    refine SC.norm [(2, Value.slice qb bs.length cb), (6, bo false), (8, pt g 0)] _ ⟨rfl, rfl, rfl, trivial⟩ rfl ?_
    refine SC.seq ?_
    have hG : ∀ b, rS r d p ab b → G b ∨ w.heap.size ≤ b := hX.r
    have hF : ∀ b, F b → G b ∨ w.heap.size ≤ b := hX.f
    refine SC.region ?_
    refine SL.mv ?_
    refine SL.nk ?_
    refine SL.uu (ru_fieldAddr (o2 := 1) fd43_1 rfl rfl rfl) ?_
    refine SL.uu (ru_load (i := 0) ts37 rfl rfl rfl rfl) ?_
    refine SL.call (ζ := Nat → Prop) (fun F1 => Value.tuple #[iw (dnI S), iw ((getF S.L).1.2)]) (fun F1 => [rBlk g [pt d 0, pt p 0, pt r 0, pt e 0, pt q 0, pt s 0, Value.slice qc come.length cc, Value.slice qm mine.length cm] 43, rRing r d p ab F1 (dn1 S), rRefR s e q KZ Z, rRowO (.slice qc come.length cc) (ivs come) 3, rRowO (.slice qm mine.length cm) (ivs mine) 3]) (fun F1 => (∀ b, F1 b → G b ∨ w.heap.size ≤ b)) rfl rfl co17 rfl rfl rfl (lt_b rfl) (fun w hI => (get_any (ring_at hI (i := 1) rfl).pool).mono fun e w2 ⟨h1, h2⟩ => by obtain ⟨F2, k1, k2⟩ := hI.ringTo (F0 := G) (i := 1) rfl hG ((ring_at hI (i := 1) rfl).poolTo h2) hF; exact ⟨F2, h1, k1, k2⟩) ?_
    intro F1 hF1
    refine SL.mv ?_
    refine SL.uu (ru_extract rfl rfl rfl) ?_
    refine SL.uu (ru_extract rfl rfl rfl) ?_
    refine SL.as ?_
    refine SL.as ?_
    refine SL.nn [(2, Value.slice qb bs.length cb), (6, bo false), (8, pt g 0), (10, iw (dnI S)), (11, iw ((getF S.L).1.2))] [rBlk g [pt d 0, pt p 0, pt r 0, pt e 0, pt q 0, pt s 0, Value.slice qc come.length cc, Value.slice qm mine.length cm] 43, rRing r d p ab F1 (dn1 S), rRefR s e q KZ Z, rRowO (.slice qc come.length cc) (ivs come) 3, rRowO (.slice qm mine.length cm) (ivs mine) 3] ⟨rfl, rfl, rfl, rfl, rfl, trivial⟩ ?_
    refine SC.seq ?_
    refine SC.sr ?_
    refine SL.mv ?_
    refine SL.uu (ru_ne (b := ((((getF S.L).1.2) : Int) != 0)) rfl rfl rfl rfl) ?_
    refine SL.mv ?_
    refine SL.join 4 [(2, Value.slice qb bs.length cb), (6, bo false), (8, pt g 0), (10, iw (dnI S)), (11, iw ((getF S.L).1.2)), (75, iw ((getF S.L).1.2)), (76, bo ((((getF S.L).1.2) : Int) != 0)), (77, bo ((((getF S.L).1.2) : Int) != 0)), (81, bo (((((getF S.L).1.2) : Int) != 0) || (decide (((bs.length : Int) : Int) < 1))))] [rBlk g [pt d 0, pt p 0, pt r 0, pt e 0, pt q 0, pt s 0, Value.slice qc come.length cc, Value.slice qm mine.length cm] 43, rRing r d p ab F1 (dn1 S), rRefR s e q KZ Z, rRowO (.slice qc come.length cc) (ivs come) 3, rRowO (.slice qm mine.length cm) (ivs mine) 3] ?_ ?_
    rotate_left
    · intro K hK
      rcases tf ((((getF S.L).1.2) : Int) != 0) with h2 | h2
      · skip
        refine SL.norm [(2, Value.slice qb bs.length cb), (6, bo false), (8, pt g 0), (10, iw (dnI S)), (11, iw ((getF S.L).1.2)), (75, iw ((getF S.L).1.2)), (76, bo true), (77, bo true)] _ ⟨rfl, rfl, rfl, rfl, rfl, rfl, (congrArg (fun x => some (Value.bool x)) h2), (congrArg (fun x => some (Value.bool x)) h2), trivial⟩ rfl ?_
        refine SL.oo ?_
        refine SL.oo ?_
        refine SL.oo ?_
        refine SL.uu (ru_pick (u := bo true) (v := undef) rfl rfl rfl rfl) ?_
        exact SL.joined hK ⟨rfl, rfl, rfl, rfl, rfl, rfl, (congrArg (fun x => some (Value.bool x)) h2.symm), (congrArg (fun x => some (Value.bool x)) h2.symm), (congrArg (fun bx => some (Value.bool (bx || (decide (((bs.length : Int) : Int) < 1))))) h2.symm), trivial⟩ rfl
      refine SL.norm [(2, Value.slice qb bs.length cb), (6, bo false), (8, pt g 0), (10, iw (dnI S)), (11, iw ((getF S.L).1.2)), (75, iw ((getF S.L).1.2)), (76, bo false), (77, bo false)] _ ⟨rfl, rfl, rfl, rfl, rfl, rfl, (congrArg (fun x => some (Value.bool x)) h2), (congrArg (fun x => some (Value.bool x)) h2), trivial⟩ rfl ?_
      refine SL.gg (ru_move rfl rfl) ?_
      refine SL.gg (ru_len Try.underlying28 rfl rfl) ?_
      refine SL.gg (ru_lt (b := (decide (((bs.length : Int) : Int) < 1))) rfl rfl rfl rfl) ?_
      refine SL.uu (ru_pick (u := bo true) (v := bo (decide (((bs.length : Int) : Int) < 1))) rfl rfl rfl rfl) ?_
      exact SL.joined hK ⟨rfl, rfl, rfl, rfl, rfl, rfl, (congrArg (fun x => some (Value.bool x)) h2.symm), (congrArg (fun x => some (Value.bool x)) h2.symm), (congrArg (fun bx => some (Value.bool (bx || (decide (((bs.length : Int) : Int) < 1))))) h2.symm), trivial⟩ rfl
    skip
    refine SL.mv ?_
    refine SL.join 4 [(2, Value.slice qb bs.length cb), (6, bo false), (8, pt g 0), (10, iw (dnI S)), (11, iw ((getF S.L).1.2)), (75, iw ((getF S.L).1.2)), (76, bo ((((getF S.L).1.2) : Int) != 0)), (77, bo ((((getF S.L).1.2) : Int) != 0)), (81, bo (((((getF S.L).1.2) : Int) != 0) || (decide (((bs.length : Int) : Int) < 1)))), (82, bo (((((getF S.L).1.2) : Int) != 0) || (decide (((bs.length : Int) : Int) < 1)))), (86, bo ((((((getF S.L).1.2) : Int) != 0) || (decide (((bs.length : Int) : Int) < 1))) || (decide ((200 : Int) < (bs.length : Int)))))] [rBlk g [pt d 0, pt p 0, pt r 0, pt e 0, pt q 0, pt s 0, Value.slice qc come.length cc, Value.slice qm mine.length cm] 43, rRing r d p ab F1 (dn1 S), rRefR s e q KZ Z, rRowO (.slice qc come.length cc) (ivs come) 3, rRowO (.slice qm mine.length cm) (ivs mine) 3] ?_ ?_
    rotate_left
    · intro K hK
      rcases tf (((((getF S.L).1.2) : Int) != 0) || (decide (((bs.length : Int) : Int) < 1))) with h3 | h3
      · skip
        refine SL.norm [(2, Value.slice qb bs.length cb), (6, bo false), (8, pt g 0), (10, iw (dnI S)), (11, iw ((getF S.L).1.2)), (75, iw ((getF S.L).1.2)), (76, bo ((((getF S.L).1.2) : Int) != 0)), (77, bo ((((getF S.L).1.2) : Int) != 0)), (81, bo true), (82, bo true)] _ ⟨rfl, rfl, rfl, rfl, rfl, rfl, rfl, rfl, (congrArg (fun x => some (Value.bool x)) h3), (congrArg (fun x => some (Value.bool x)) h3), trivial⟩ rfl ?_
        refine SL.oo ?_
        refine SL.oo ?_
        refine SL.oo ?_
        refine SL.uu (ru_pick (u := bo true) (v := undef) rfl rfl rfl rfl) ?_
        exact SL.joined hK ⟨rfl, rfl, rfl, rfl, rfl, rfl, rfl, rfl, (congrArg (fun x => some (Value.bool x)) h3.symm), (congrArg (fun x => some (Value.bool x)) h3.symm), (congrArg (fun bx => some (Value.bool (bx || (decide ((200 : Int) < (bs.length : Int)))))) h3.symm), trivial⟩ rfl
      refine SL.norm [(2, Value.slice qb bs.length cb), (6, bo false), (8, pt g 0), (10, iw (dnI S)), (11, iw ((getF S.L).1.2)), (75, iw ((getF S.L).1.2)), (76, bo ((((getF S.L).1.2) : Int) != 0)), (77, bo ((((getF S.L).1.2) : Int) != 0)), (81, bo false), (82, bo false)] _ ⟨rfl, rfl, rfl, rfl, rfl, rfl, rfl, rfl, (congrArg (fun x => some (Value.bool x)) h3), (congrArg (fun x => some (Value.bool x)) h3), trivial⟩ rfl ?_
      refine SL.gg (ru_move rfl rfl) ?_
      refine SL.gg (ru_len Try.underlying28 rfl rfl) ?_
      refine SL.gg (ru_gt (b := (decide ((200 : Int) < (bs.length : Int)))) rfl rfl rfl rfl) ?_
      refine SL.uu (ru_pick (u := bo true) (v := bo (decide ((200 : Int) < (bs.length : Int)))) rfl rfl rfl rfl) ?_
      exact SL.joined hK ⟨rfl, rfl, rfl, rfl, rfl, rfl, rfl, rfl, (congrArg (fun x => some (Value.bool x)) h3.symm), (congrArg (fun x => some (Value.bool x)) h3.symm), (congrArg (fun bx => some (Value.bool (bx || (decide ((200 : Int) < (bs.length : Int)))))) h3.symm), trivial⟩ rfl
    skip
    refine SL.nn [(2, Value.slice qb bs.length cb), (6, bo false), (8, pt g 0), (10, iw (dnI S)), (86, bo ((((((getF S.L).1.2) : Int) != 0) || (decide (((bs.length : Int) : Int) < 1))) || (decide ((200 : Int) < (bs.length : Int)))))] _ ⟨rfl, rfl, rfl, rfl, rfl, trivial⟩ ?_
    refine SC.both ((((((getF S.L).1.2) : Int) != 0) || (decide (((bs.length : Int) : Int) < 1))) || (decide ((200 : Int) < (bs.length : Int)))) rfl (fun h4 => ?_) (fun h4 => ?_)
    · skip
      refine SC.sr ?_
      refine SL.as ?_
      refine SL.nn [(2, Value.slice qb bs.length cb), (6, bo true), (8, pt g 0), (10, iw (dnI S))] _ ⟨rfl, rfl, rfl, rfl, trivial⟩ ?_
      refine SC.ret ?_
      refine SE.passr ?_
      refine SE.res (.inl rfl) (res1 Try.results4 rfl) fun w1 hI => ⟨rfl, hI.2⟩
    have hg2 := or_f (or_f h4).1
    have he := bne_no hg2.1
    have hb1 := of_decide_eq_false hg2.2
    have hb2 := of_decide_eq_false (or_f h4).2
    have D := hj.down (bs := bs) hlk he (by omega) (by omega)
    refine SC.skip ?_
    refine SC.of_SE ?_
    refine SC.norm [(2, Value.slice qb bs.length cb), (6, bo false), (8, pt g 0), (10, iw (dnI S))] _ ⟨rfl, rfl, rfl, rfl, trivial⟩ rfl ?_
    refine SC.sr ?_
    refine SL.mv ?_
    refine SL.nk ?_
    refine SL.uu (ru_fieldAddr (o2 := 1) fd43_1 rfl rfl rfl) ?_
    refine SL.uu (ru_load (i := 0) ts37 rfl rfl rfl rfl) ?_
    refine SL.mv ?_
    refine SL.mv ?_
    refine SL.call (ζ := Nat → Prop) (fun F5 => iw ((ownF (dn1 S).L (dnI S) (setF bs)).1)) (fun F5 => [rBlk g [pt d 0, pt p 0, pt r 0, pt e 0, pt q 0, pt s 0, Value.slice qc come.length cc, Value.slice qm mine.length cm] 43, rRing r d p ab F5 (dn2 S bs), rRefR s e q KZ Z, rRowO (.slice qc come.length cc) (ivs come) 3, rRowO (.slice qm mine.length cm) (ivs mine) 3]) (fun F5 => (∀ b, F5 b → G b ∨ w.heap.size ≤ b)) rfl rfl co18 rfl rfl rfl (lt_b rfl) (fun w hI => (set_any (ring_at hI (i := 1) rfl).pool (dnI S) (hbs.only hI.2 (hbb.mono fun b9 _ h9 => hGf b9 h9)) (hbb.mono fun b9 hlt e9 => by have := (hX.r b9 (.inr (.inr (.inr e9)))).resolve_left (hGf b9); omega)).mono fun e w2 ⟨h1, h2⟩ => by obtain ⟨F2, k1, k2⟩ := hI.ringTo (F0 := G) (i := 1) rfl hG ((ring_at hI (i := 1) rfl).poolTo h2) hF1; exact ⟨F2, h1, k1, k2⟩) ?_
    intro F5 hF5
    refine SL.nn [(2, Value.slice qb bs.length cb), (6, bo false), (8, pt g 0), (10, iw (dnI S))] [rBlk g [pt d 0, pt p 0, pt r 0, pt e 0, pt q 0, pt s 0, Value.slice qc come.length cc, Value.slice qm mine.length cm] 43, rRing r d p ab F5 (dn2 S bs), rRefR s e q KZ Z, rRowO (.slice qc come.length cc) (ivs come) 3, rRowO (.slice qm mine.length cm) (ivs mine) 3] ⟨rfl, rfl, rfl, rfl, trivial⟩ ?_
    refine SC.sr ?_
    refine SL.mv ?_
    refine SL.nk ?_
    refine SL.uu (ru_fieldAddr (o2 := 2) fd43_2 rfl rfl rfl) ?_
    refine SL.uu (ru_load (i := 0) ts38 rfl rfl rfl rfl) ?_
    refine SL.mv ?_
    refine SL.call (ζ := Nat → Prop) (fun F6 => iw ((sendF (dn2 S bs) (dnI S)).1)) (fun F6 => [rBlk g [pt d 0, pt p 0, pt r 0, pt e 0, pt q 0, pt s 0, Value.slice qc come.length cc, Value.slice qm mine.length cm] 43, rRing r d p ab F6 (dn3 S bs), rRefR s e q KZ Z, rRowO (.slice qc come.length cc) (ivs come) 3, rRowO (.slice qm mine.length cm) (ivs mine) 3]) (fun F6 => (∀ b, F6 b → G b ∨ w.heap.size ≤ b)) rfl rfl co10 rfl rfl rfl (lt_b rfl) (fun w hI => (send_anyR D.ok2 D.few2 (ring_at hI (i := 1) rfl) (dnI S)).mono fun e w2 ⟨h1, h2⟩ => by obtain ⟨F2, k1, k2⟩ := hI.ringTo (F0 := G) (i := 1) rfl hG h2 hF5; exact ⟨F2, h1, k1, k2⟩) ?_
    intro F6 hF6
    refine SL.nn [(2, Value.slice qb bs.length cb), (6, bo false), (8, pt g 0), (10, iw (dnI S))] [rBlk g [pt d 0, pt p 0, pt r 0, pt e 0, pt q 0, pt s 0, Value.slice qc come.length cc, Value.slice qm mine.length cm] 43, rRing r d p ab F6 (dn3 S bs), rRefR s e q KZ Z, rRowO (.slice qc come.length cc) (ivs come) 3, rRowO (.slice qm mine.length cm) (ivs mine) 3] ⟨rfl, rfl, rfl, rfl, trivial⟩ ?_
    refine SC.sr ?_
    refine SL.mv ?_
    refine SL.nk ?_
    refine SL.uu (ru_fieldAddr (o2 := 0) fd43_0 rfl rfl rfl) ?_
    refine SL.uu (ru_load (i := 0) ts36 rfl rfl rfl rfl) ?_
    refine SL.call (ζ := Nat → Prop) (fun F7 => Value.tuple #[]) (fun F7 => [rBlk g [pt d 0, pt p 0, pt r 0, pt e 0, pt q 0, pt s 0, Value.slice qc come.length cc, Value.slice qm mine.length cm] 43, rRing r d p ab F7 (dn4 S bs), rRefR s e q KZ Z, rRowO (.slice qc come.length cc) (ivs come) 3, rRowO (.slice qm mine.length cm) (ivs mine) 3]) (fun F7 => (∀ b, F7 b → G b ∨ w.heap.size ≤ b)) rfl rfl co19 rfl rfl rfl (lt_b rfl) (fun w hI => (p_link D.ok3.a (ring_at hI (i := 1) rfl).dev false).mono fun e w2 ⟨h1, h2⟩ => by obtain ⟨F2, k1, k2⟩ := hI.ringTo (F0 := G) (i := 1) rfl hG ((ring_at hI (i := 1) rfl).devTo h2) hF6; exact ⟨F2, h1, k1, k2⟩) ?_
    intro F7 hF7
    refine SL.nn [(2, Value.slice qb bs.length cb), (6, bo false), (8, pt g 0), (10, iw (dnI S))] [rBlk g [pt d 0, pt p 0, pt r 0, pt e 0, pt q 0, pt s 0, Value.slice qc come.length cc, Value.slice qm mine.length cm] 43, rRing r d p ab F7 (dn4 S bs), rRefR s e q KZ Z, rRowO (.slice qc come.length cc) (ivs come) 3, rRowO (.slice qm mine.length cm) (ivs mine) 3] ⟨rfl, rfl, rfl, rfl, trivial⟩ ?_
    refine SC.sr ?_
    refine SL.mv ?_
    refine SL.nk ?_
    refine SL.uu (ru_fieldAddr (o2 := 2) fd43_2 rfl rfl rfl) ?_
    refine SL.uu (ru_load (i := 0) ts38 rfl rfl rfl rfl) ?_
    refine SL.call (ζ := (Nat → Prop) × Option Addr × Nat) (fun z => Value.slice z.2.1 ((pollF (dn4 S bs)).2.length) z.2.2) (fun z => [rBlk g [pt d 0, pt p 0, pt r 0, pt e 0, pt q 0, pt s 0, Value.slice qc come.length cc, Value.slice qm mine.length cm] 43, rRing r d p ab z.1 (dn5 S bs), rRefR s e q KZ Z, rRowO (.slice qc come.length cc) (ivs come) 3, rRowO (.slice qm mine.length cm) (ivs mine) 3, rRowN (.slice z.2.1 (pollF (dn4 S bs)).2.length z.2.2) (comeV (pollF (dn4 S bs)).2) 67 2]) (fun z => (∀ b, z.1 b → G b ∨ w.heap.size ≤ b)) rfl rfl co20 rfl rfl rfl (lt_b rfl) (fun w hI => (poll_any D.ok4.a D.ok4.t D.ok4.r D.few3 (ring_at hI (i := 1) rfl)).mono fun e w2 ⟨q, c, h1, h2⟩ => by obtain ⟨F2, k1, k2, k3⟩ := hI.ringToW (F0 := G) (i := 1) rfl hG h2 hF7; exact ⟨(F2, q, c), h1, k1, k2⟩) ?_
    rintro ⟨F10, q8, c9⟩ hF10
    refine SL.as ?_
    refine SL.nn [(2, Value.slice qb bs.length cb), (6, bo false), (8, pt g 0), (10, iw (dnI S)), (12, Value.slice q8 ((pollF (dn4 S bs)).2.length) c9)] [rBlk g [pt d 0, pt p 0, pt r 0, pt e 0, pt q 0, pt s 0, Value.slice qc come.length cc, Value.slice qm mine.length cm] 43, rRing r d p ab F10 (dn5 S bs), rRefR s e q KZ Z, rRowO (.slice qc come.length cc) (ivs come) 3, rRowO (.slice qm mine.length cm) (ivs mine) 3, rRowN (.slice q8 (pollF (dn4 S bs)).2.length c9) (comeV (pollF (dn4 S bs)).2) 67 2] ⟨rfl, rfl, rfl, rfl, rfl, trivial⟩ ?_
    refine SC.sr ?_
    refine SL.mv ?_
    refine SL.nk ?_
    refine SL.uu (ru_fieldAddr (o2 := 1) fd43_1 rfl rfl rfl) ?_
    refine SL.uu (ru_load (i := 0) ts37 rfl rfl rfl rfl) ?_
    refine SL.mv ?_
    refine SL.mk (Mk.see ⟨254, w, G⟩ (seeF (dn5 S bs).L (dnI S)).1.refs (seeF (dn5 S bs).L (dnI S)).1.head (seeF (dn5 S bs).L (dnI S)).1.data (seeF (dn5 S bs).L (dnI S)).2 5) (w_all rfl) rfl co9 rfl rfl rfl (lt_b rfl) (fun l' w hI => (see_any (ring_at hI (i := 1) rfl).pool (dnI S)).mono fun e w2 ⟨qh, ch, qd, cd, h1, h2, h3, h4, h5, h6, h7⟩ => ⟨_, h1, ⟨qh, ch, qd, cd, fun b hb => Nat.le_trans hI.2.size (h4 b hb), fun b hb => Nat.le_trans hI.2.size (h5 b hb), rfl⟩, hI.saw2 h2 h3 h4 h5 h6 h7⟩) ?_
    rintro _ ⟨qh11, ch12, qd13, cd14, hqh11, hqd13, rfl⟩
    refine SL.norm [(2, Value.slice qb bs.length cb), (6, bo false), (8, pt g 0), (10, iw (dnI S)), (12, Value.slice q8 ((pollF (dn4 S bs)).2.length) c9), (111, pt g 0), (112, pt g 0), (113, pt g 1), (114, pt p 0), (115, iw (dnI S)), (116, Value.tuple #[Value.agg #[iw ((seeF (dn5 S bs).L (dnI S)).1.refs : Int), Value.slice qh11 ((seeF (dn5 S bs).L (dnI S)).1.head.length) ch12, Value.slice qd13 ((seeF (dn5 S bs).L (dnI S)).1.data.length) cd14], iw ((seeF (dn5 S bs).L (dnI S)).2)])] [rBlk g [pt d 0, pt p 0, pt r 0, pt e 0, pt q 0, pt s 0, Value.slice qc come.length cc, Value.slice qm mine.length cm] 43, rRing r d p ab F10 (dn5 S bs), rRefR s e q KZ Z, rRowO (.slice qc come.length cc) (ivs come) 3, rRowO (.slice qm mine.length cm) (ivs mine) 3, rRowN (.slice q8 (pollF (dn4 S bs)).2.length c9) (comeV (pollF (dn4 S bs)).2) 67 2, rMine (.slice qh11 ((seeF (dn5 S bs).L (dnI S)).1.head).length ch12) ((seeF (dn5 S bs).L (dnI S)).1.head) 5, rMine (.slice qd13 ((seeF (dn5 S bs).L (dnI S)).1.data).length cd14) ((seeF (dn5 S bs).L (dnI S)).1.data) 5] ⟨rfl, rfl, rfl, rfl, rfl, rfl, rfl, rfl, rfl, rfl, rfl, trivial⟩ rfl ?_
    refine SL.mv ?_
    refine SL.uu (ru_extract rfl rfl rfl) ?_
    refine SL.uu (ru_extract rfl rfl rfl) ?_
    refine SL.alloca rfl rfl (lt_b rfl) ta33 rfl fun b15 hb15 => ?_
    refine SL.storea (i := 8) (vs := [iw ((seeF (dn5 S bs).L (dnI S)).1.refs : Int), Value.slice qh11 ((seeF (dn5 S bs).L (dnI S)).1.head.length) ch12, Value.slice qd13 ((seeF (dn5 S bs).L (dnI S)).1.data.length) cd14]) (c' := [iw ((seeF (dn5 S bs).L (dnI S)).1.refs : Int), Value.slice qh11 ((seeF (dn5 S bs).L (dnI S)).1.head.length) ch12, Value.slice qd13 ((seeF (dn5 S bs).L (dnI S)).1.data.length) cd14]) rfl rfl ta33 rfl rfl rfl rfl rfl rfl (le_b rfl) (.inr hb15) rfl ?_
    refine SL.as ?_
    refine SL.nn [(2, Value.slice qb bs.length cb), (6, bo false), (8, pt g 0), (10, iw (dnI S)), (12, Value.slice q8 ((pollF (dn4 S bs)).2.length) c9), (13, pt b15 0), (14, iw ((seeF (dn5 S bs).L (dnI S)).2))] [rBlk g [pt d 0, pt p 0, pt r 0, pt e 0, pt q 0, pt s 0, Value.slice qc come.length cc, Value.slice qm mine.length cm] 43, rRing r d p ab F10 (dn5 S bs), rRefR s e q KZ Z, rRowO (.slice qc come.length cc) (ivs come) 3, rRowO (.slice qm mine.length cm) (ivs mine) 3, rRowN (.slice q8 (pollF (dn4 S bs)).2.length c9) (comeV (pollF (dn4 S bs)).2) 67 2, rMine (.slice qh11 ((seeF (dn5 S bs).L (dnI S)).1.head).length ch12) ((seeF (dn5 S bs).L (dnI S)).1.head) 5, rMine (.slice qd13 ((seeF (dn5 S bs).L (dnI S)).1.data).length cd14) ((seeF (dn5 S bs).L (dnI S)).1.data) 5, rBlk b15 [iw ((seeF (dn5 S bs).L (dnI S)).1.refs : Int), Value.slice qh11 ((seeF (dn5 S bs).L (dnI S)).1.head.length) ch12, Value.slice qd13 ((seeF (dn5 S bs).L (dnI S)).1.data.length) cd14] 33] ⟨rfl, rfl, rfl, rfl, rfl, rfl, rfl, trivial⟩ ?_
    refine SC.sr ?_
    refine SL.mv ?_
    refine SL.nk ?_
    refine SL.uu (ru_fieldAddr (o2 := 2) fd43_2 rfl rfl rfl) ?_
    refine SL.uu (ru_load (i := 0) ts38 rfl rfl rfl rfl) ?_
    refine SL.mv ?_
    refine SL.call (ζ := Nat → Prop) (fun F16 => iw ((sendF (dn5 S bs) (dnI S)).1)) (fun F16 => [rBlk g [pt d 0, pt p 0, pt r 0, pt e 0, pt q 0, pt s 0, Value.slice qc come.length cc, Value.slice qm mine.length cm] 43, rRing r d p ab F16 (dn5 S bs), rRefR s e q KZ Z, rRowO (.slice qc come.length cc) (ivs come) 3, rRowO (.slice qm mine.length cm) (ivs mine) 3, rRowN (.slice q8 (pollF (dn4 S bs)).2.length c9) (comeV (pollF (dn4 S bs)).2) 67 2, rMine (.slice qh11 ((seeF (dn5 S bs).L (dnI S)).1.head).length ch12) ((seeF (dn5 S bs).L (dnI S)).1.head) 5, rMine (.slice qd13 ((seeF (dn5 S bs).L (dnI S)).1.data).length cd14) ((seeF (dn5 S bs).L (dnI S)).1.data) 5, rBlk b15 [iw ((seeF (dn5 S bs).L (dnI S)).1.refs : Int), Value.slice qh11 ((seeF (dn5 S bs).L (dnI S)).1.head.length) ch12, Value.slice qd13 ((seeF (dn5 S bs).L (dnI S)).1.data.length) cd14] 33]) (fun F16 => (∀ b, F16 b → G b ∨ w.heap.size ≤ b)) rfl rfl co10 rfl rfl rfl (lt_b rfl) (fun w hI => (send_anyR D.ok5 D.few5 (ring_at hI (i := 1) rfl) (dnI S)).mono fun e w2 ⟨h1, h2⟩ => by obtain ⟨F2, k1, k2⟩ := hI.ringTo (F0 := G) (i := 1) rfl hG (show RingTo _ _ _ _ _ _ (dn5 S bs) _ from by rw [D.p3] at h2; exact h2) hF10; exact ⟨F2, h1, k1, k2⟩) ?_
    intro F16 hF16
    refine SL.as ?_
    refine SL.nn [(2, Value.slice qb bs.length cb), (6, bo false), (8, pt g 0), (10, iw (dnI S)), (12, Value.slice q8 ((pollF (dn4 S bs)).2.length) c9), (13, pt b15 0), (14, iw ((seeF (dn5 S bs).L (dnI S)).2)), (15, iw ((sendF (dn5 S bs) (dnI S)).1))] [rBlk g [pt d 0, pt p 0, pt r 0, pt e 0, pt q 0, pt s 0, Value.slice qc come.length cc, Value.slice qm mine.length cm] 43, rRing r d p ab F16 (dn5 S bs), rRefR s e q KZ Z, rRowO (.slice qc come.length cc) (ivs come) 3, rRowO (.slice qm mine.length cm) (ivs mine) 3, rRowN (.slice q8 (pollF (dn4 S bs)).2.length c9) (comeV (pollF (dn4 S bs)).2) 67 2, rMine (.slice qh11 ((seeF (dn5 S bs).L (dnI S)).1.head).length ch12) ((seeF (dn5 S bs).L (dnI S)).1.head) 5, rMine (.slice qd13 ((seeF (dn5 S bs).L (dnI S)).1.data).length cd14) ((seeF (dn5 S bs).L (dnI S)).1.data) 5, rBlk b15 [iw ((seeF (dn5 S bs).L (dnI S)).1.refs : Int), Value.slice qh11 ((seeF (dn5 S bs).L (dnI S)).1.head.length) ch12, Value.slice qd13 ((seeF (dn5 S bs).L (dnI S)).1.data.length) cd14] 33] ⟨rfl, rfl, rfl, rfl, rfl, rfl, rfl, rfl, trivial⟩ ?_
    refine SC.seq ?_
    refine SC.sr ?_
    refine SL.mv ?_
    refine SL.uu (ru_len Try.underlying61 rfl rfl) ?_
    refine SL.uu (ru_ne (b := false) rfl rfl rfl ((show ((((pollF (dn4 S bs)).2.length : Int) : Int) != 0) = false from by rw [D.p1]; rfl))) ?_
    refine SL.mv ?_
    refine SL.gg (ru_move rfl rfl) ?_
    refine SL.gg (ru_nilCheck rfl rfl) ?_
    refine SL.gg (ru_fieldAddr (o2 := 2) fd43_2 rfl rfl rfl) ?_
    refine SL.gg (ru_load (i := 0) ts38 rfl rfl rfl rfl) ?_
    refine SL.mk (Mk.ints ⟨254, w, G⟩ (allV ((dn5 S bs).T)) 3) (w_yes rfl rfl rfl) rfl co21 rfl rfl rfl (lt_b rfl) (fun l' w hI => (sending_any D.ok5.t D.ok5.r (ring_at hI (i := 1) rfl)).mono fun e w2 ⟨q, c, h1, h2, h3, h4⟩ => ⟨_, h1, ⟨q, c, fun b hb => Nat.le_trans hI.2.size (h3 b hb), rfl⟩, hI.add h4 h2 h3⟩) ?_
    rintro _ ⟨q17, c18, hq17, rfl⟩
    refine SL.norm [(2, Value.slice qb bs.length cb), (6, bo false), (8, pt g 0), (10, iw (dnI S)), (12, Value.slice q8 ((pollF (dn4 S bs)).2.length) c9), (13, pt b15 0), (14, iw ((seeF (dn5 S bs).L (dnI S)).2)), (15, iw ((sendF (dn5 S bs) (dnI S)).1)), (125, Value.slice q8 ((pollF (dn4 S bs)).2.length) c9), (126, iw ((pollF (dn4 S bs)).2.length : Int)), (127, bo false), (128, bo false), (129, pt g 0), (130, pt g 0), (131, pt g 2), (132, pt r 0), (133, Value.slice q17 ((allV ((dn5 S bs).T)).length) c18)] [rBlk g [pt d 0, pt p 0, pt r 0, pt e 0, pt q 0, pt s 0, Value.slice qc come.length cc, Value.slice qm mine.length cm] 43, rRing r d p ab F16 (dn5 S bs), rRefR s e q KZ Z, rRowO (.slice qc come.length cc) (ivs come) 3, rRowO (.slice qm mine.length cm) (ivs mine) 3, rRowN (.slice q8 (pollF (dn4 S bs)).2.length c9) (comeV (pollF (dn4 S bs)).2) 67 2, rMine (.slice qh11 ((seeF (dn5 S bs).L (dnI S)).1.head).length ch12) ((seeF (dn5 S bs).L (dnI S)).1.head) 5, rMine (.slice qd13 ((seeF (dn5 S bs).L (dnI S)).1.data).length cd14) ((seeF (dn5 S bs).L (dnI S)).1.data) 5, rBlk b15 [iw ((seeF (dn5 S bs).L (dnI S)).1.refs : Int), Value.slice qh11 ((seeF (dn5 S bs).L (dnI S)).1.head.length) ch12, Value.slice qd13 ((seeF (dn5 S bs).L (dnI S)).1.data.length) cd14] 33, rRow (.slice q17 ((allV ((dn5 S bs).T)).length) c18) (allV ((dn5 S bs).T)) 3] ⟨rfl, rfl, rfl, rfl, rfl, rfl, rfl, rfl, rfl, rfl, rfl, rfl, rfl, rfl, rfl, rfl, rfl, trivial⟩ rfl ?_
    refine SL.gg (ru_len Try.underlying26 rfl rfl) ?_
    refine SL.gg (ru_ne (b := false) rfl rfl rfl ((show ((((allV ((dn5 S bs).T)).length : Int) : Int) != 0) = false from by rw [allV_len, D.p4]; rfl))) ?_
    refine SL.uu (ru_pick (u := bo true) (v := bo false) rfl rfl rfl rfl) ?_
    refine SL.mv ?_
    refine SL.gg (ru_move rfl rfl) ?_
    refine SL.gg (ru_ne (b := false) rfl rfl rfl ((show ((((seeF (dn5 S bs).L (dnI S)).2) : Int) != 0) = false from by rw [D.p2]; rfl))) ?_
    refine SL.uu (ru_pick (u := bo true) (v := bo false) rfl rfl rfl rfl) ?_
    refine SL.mv ?_
    refine SL.gg (ru_fieldAddr (o2 := 0) fd33_0 rfl rfl rfl) ?_
    refine SL.gg (ru_load (i := 8) ts3 rfl rfl rfl rfl) ?_
    refine SL.gg (ru_ne (b := false) rfl rfl rfl ((show ((((seeF (dn5 S bs).L (dnI S)).1.refs : Int) : Int) != 1) = false from by rw [D.p2]; rfl))) ?_
    refine SL.uu (ru_pick (u := bo true) (v := bo false) rfl rfl rfl rfl) ?_
    refine SL.mv ?_
    refine SL.gg (ru_move rfl rfl) ?_
    refine SL.gg (ru_ne (b := false) rfl rfl rfl ((show ((((sendF (dn5 S bs) (dnI S)).1) : Int) != 20) = false from by rw [D.p3]; rfl))) ?_
    refine SL.uu (ru_pick (u := bo true) (v := bo false) rfl rfl rfl rfl) ?_
    refine SL.mv ?_
    refine SL.gg (ru_move rfl rfl) ?_
    refine SL.gg (ru_nilCheck rfl rfl) ?_
    refine SL.gg (ru_fieldAddr (o2 := 2) fd43_2 rfl rfl rfl) ?_
    refine SL.gg (ru_load (i := 0) ts38 rfl rfl rfl rfl) ?_
    refine SL.callvg (iw (15 - (dn5 S bs).T.many)) rfl rfl rfl rfl co22 rfl rfl rfl (lt_b rfl) (fun w hI => (room_any D.ok5.t (ring_at hI (i := 1) rfl).ring).mono fun e w2 ⟨h1, h2⟩ => ⟨h1, hI.only h2⟩) ?_
    refine SL.gg (ru_ne (b := false) rfl rfl rfl ((show (((15 - (dn5 S bs).T.many) : Int) != 15) = false from by rw [D.p4]; rfl))) ?_
    refine SL.uu (ru_pick (u := bo true) (v := bo false) rfl rfl rfl rfl) ?_
    refine SL.nn [(2, Value.slice qb bs.length cb), (6, bo false), (8, pt g 0), (10, iw (dnI S)), (157, bo false)] _ ⟨rfl, rfl, rfl, rfl, rfl, trivial⟩ ?_
    refine SC.no rfl ?_
    refine SC.skip ?_
    refine SC.of_SE ?_
    refine SC.norm [(2, Value.slice qb bs.length cb), (6, bo false), (8, pt g 0), (10, iw (dnI S))] _ ⟨rfl, rfl, rfl, rfl, trivial⟩ rfl ?_
    refine SC.sr ?_
    refine SL.mv ?_
    refine SL.nk ?_
    refine SL.uu (ru_fieldAddr (o2 := 0) fd43_0 rfl rfl rfl) ?_
    refine SL.uu (ru_load (i := 0) ts36 rfl rfl rfl rfl) ?_
    refine SL.call (ζ := Nat → Prop) (fun F19 => Value.tuple #[]) (fun F19 => [rBlk g [pt d 0, pt p 0, pt r 0, pt e 0, pt q 0, pt s 0, Value.slice qc come.length cc, Value.slice qm mine.length cm] 43, rRing r d p ab F19 (dn6 S bs), rRefR s e q KZ Z, rRowO (.slice qc come.length cc) (ivs come) 3, rRowO (.slice qm mine.length cm) (ivs mine) 3, rRowN (.slice q8 (pollF (dn4 S bs)).2.length c9) (comeV (pollF (dn4 S bs)).2) 67 2, rMine (.slice qh11 ((seeF (dn5 S bs).L (dnI S)).1.head).length ch12) ((seeF (dn5 S bs).L (dnI S)).1.head) 5, rMine (.slice qd13 ((seeF (dn5 S bs).L (dnI S)).1.data).length cd14) ((seeF (dn5 S bs).L (dnI S)).1.data) 5, rBlk b15 [iw ((seeF (dn5 S bs).L (dnI S)).1.refs : Int), Value.slice qh11 ((seeF (dn5 S bs).L (dnI S)).1.head.length) ch12, Value.slice qd13 ((seeF (dn5 S bs).L (dnI S)).1.data.length) cd14] 33, rRow (.slice q17 ((allV ((dn5 S bs).T)).length) c18) (allV ((dn5 S bs).T)) 3]) (fun F19 => (∀ b, F19 b → G b ∨ w.heap.size ≤ b)) rfl rfl co19 rfl rfl rfl (lt_b rfl) (fun w hI => (p_link D.ok5.a (ring_at hI (i := 1) rfl).dev true).mono fun e w2 ⟨h1, h2⟩ => by obtain ⟨F2, k1, k2⟩ := hI.ringTo (F0 := G) (i := 1) rfl hG ((ring_at hI (i := 1) rfl).devTo h2) hF16; exact ⟨F2, h1, k1, k2⟩) ?_
    intro F19 hF19
    refine SL.nn [(2, Value.slice qb bs.length cb), (6, bo false), (8, pt g 0), (10, iw (dnI S))] [rBlk g [pt d 0, pt p 0, pt r 0, pt e 0, pt q 0, pt s 0, Value.slice qc come.length cc, Value.slice qm mine.length cm] 43, rRing r d p ab F19 (dn6 S bs), rRefR s e q KZ Z, rRowO (.slice qc come.length cc) (ivs come) 3, rRowO (.slice qm mine.length cm) (ivs mine) 3, rRowN (.slice q8 (pollF (dn4 S bs)).2.length c9) (comeV (pollF (dn4 S bs)).2) 67 2, rMine (.slice qh11 ((seeF (dn5 S bs).L (dnI S)).1.head).length ch12) ((seeF (dn5 S bs).L (dnI S)).1.head) 5, rMine (.slice qd13 ((seeF (dn5 S bs).L (dnI S)).1.data).length cd14) ((seeF (dn5 S bs).L (dnI S)).1.data) 5, rBlk b15 [iw ((seeF (dn5 S bs).L (dnI S)).1.refs : Int), Value.slice qh11 ((seeF (dn5 S bs).L (dnI S)).1.head.length) ch12, Value.slice qd13 ((seeF (dn5 S bs).L (dnI S)).1.data.length) cd14] 33, rRow (.slice q17 ((allV ((dn5 S bs).T)).length) c18) (allV ((dn5 S bs).T)) 3] ⟨rfl, rfl, rfl, rfl, trivial⟩ ?_
    refine SC.sr ?_
    refine SL.mv ?_
    refine SL.nk ?_
    refine SL.uu (ru_fieldAddr (o2 := 2) fd43_2 rfl rfl rfl) ?_
    refine SL.uu (ru_load (i := 0) ts38 rfl rfl rfl rfl) ?_
    refine SL.mv ?_
    refine SL.call (ζ := Nat → Prop) (fun F20 => iw ((sendF (dn6 S bs) (dnI S)).1)) (fun F20 => [rBlk g [pt d 0, pt p 0, pt r 0, pt e 0, pt q 0, pt s 0, Value.slice qc come.length cc, Value.slice qm mine.length cm] 43, rRing r d p ab F20 (dn7 S bs), rRefR s e q KZ Z, rRowO (.slice qc come.length cc) (ivs come) 3, rRowO (.slice qm mine.length cm) (ivs mine) 3, rRowN (.slice q8 (pollF (dn4 S bs)).2.length c9) (comeV (pollF (dn4 S bs)).2) 67 2, rMine (.slice qh11 ((seeF (dn5 S bs).L (dnI S)).1.head).length ch12) ((seeF (dn5 S bs).L (dnI S)).1.head) 5, rMine (.slice qd13 ((seeF (dn5 S bs).L (dnI S)).1.data).length cd14) ((seeF (dn5 S bs).L (dnI S)).1.data) 5, rBlk b15 [iw ((seeF (dn5 S bs).L (dnI S)).1.refs : Int), Value.slice qh11 ((seeF (dn5 S bs).L (dnI S)).1.head.length) ch12, Value.slice qd13 ((seeF (dn5 S bs).L (dnI S)).1.data.length) cd14] 33, rRow (.slice q17 ((allV ((dn5 S bs).T)).length) c18) (allV ((dn5 S bs).T)) 3]) (fun F20 => (∀ b, F20 b → G b ∨ w.heap.size ≤ b)) rfl rfl co10 rfl rfl rfl (lt_b rfl) (fun w hI => (send_anyR D.ok6 D.few5 (ring_at hI (i := 1) rfl) (dnI S)).mono fun e w2 ⟨h1, h2⟩ => by obtain ⟨F2, k1, k2⟩ := hI.ringTo (F0 := G) (i := 1) rfl hG h2 hF19; exact ⟨F2, h1, k1, k2⟩) ?_
    intro F20 hF20
    refine SL.as ?_
    refine SL.nn [(2, Value.slice qb bs.length cb), (6, bo false), (8, pt g 0), (16, iw ((sendF (dn6 S bs) (dnI S)).1))] [rBlk g [pt d 0, pt p 0, pt r 0, pt e 0, pt q 0, pt s 0, Value.slice qc come.length cc, Value.slice qm mine.length cm] 43, rRing r d p ab F20 (dn7 S bs), rRefR s e q KZ Z, rRowO (.slice qc come.length cc) (ivs come) 3, rRowO (.slice qm mine.length cm) (ivs mine) 3, rRowN (.slice q8 (pollF (dn4 S bs)).2.length c9) (comeV (pollF (dn4 S bs)).2) 67 2, rMine (.slice qh11 ((seeF (dn5 S bs).L (dnI S)).1.head).length ch12) ((seeF (dn5 S bs).L (dnI S)).1.head) 5, rMine (.slice qd13 ((seeF (dn5 S bs).L (dnI S)).1.data).length cd14) ((seeF (dn5 S bs).L (dnI S)).1.data) 5, rBlk b15 [iw ((seeF (dn5 S bs).L (dnI S)).1.refs : Int), Value.slice qh11 ((seeF (dn5 S bs).L (dnI S)).1.head.length) ch12, Value.slice qd13 ((seeF (dn5 S bs).L (dnI S)).1.data.length) cd14] 33, rRow (.slice q17 ((allV ((dn5 S bs).T)).length) c18) (allV ((dn5 S bs).T)) 3] ⟨rfl, rfl, rfl, rfl, trivial⟩ ?_
    refine SC.sr ?_
    refine SL.mv ?_
    refine SL.nk ?_
    refine SL.uu (ru_fieldAddr (o2 := 0) fd43_0 rfl rfl rfl) ?_
    refine SL.uu (ru_load (i := 0) ts36 rfl rfl rfl rfl) ?_
    refine SL.call (ζ := (Nat → Prop) × Option Addr × Nat) (fun z => Value.tuple #[Value.agg #[Value.slice z.2.1 ((takeR (dn7 S bs).A).1.1.1.length) z.2.2, bo false, iw ((takeR (dn7 S bs).A).1.1.2)], iw ((takeR (dn7 S bs).A).1.2)]) (fun z => [rBlk g [pt d 0, pt p 0, pt r 0, pt e 0, pt q 0, pt s 0, Value.slice qc come.length cc, Value.slice qm mine.length cm] 43, rRing r d p ab z.1 (dn8 S bs), rRefR s e q KZ Z, rRowO (.slice qc come.length cc) (ivs come) 3, rRowO (.slice qm mine.length cm) (ivs mine) 3, rRowN (.slice q8 (pollF (dn4 S bs)).2.length c9) (comeV (pollF (dn4 S bs)).2) 67 2, rMine (.slice qh11 ((seeF (dn5 S bs).L (dnI S)).1.head).length ch12) ((seeF (dn5 S bs).L (dnI S)).1.head) 5, rMine (.slice qd13 ((seeF (dn5 S bs).L (dnI S)).1.data).length cd14) ((seeF (dn5 S bs).L (dnI S)).1.data) 5, rBlk b15 [iw ((seeF (dn5 S bs).L (dnI S)).1.refs : Int), Value.slice qh11 ((seeF (dn5 S bs).L (dnI S)).1.head.length) ch12, Value.slice qd13 ((seeF (dn5 S bs).L (dnI S)).1.data.length) cd14] 33, rRow (.slice q17 ((allV ((dn5 S bs).T)).length) c18) (allV ((dn5 S bs).T)) 3, rMine (.slice z.2.1 ((takeR (dn7 S bs).A).1.1.1).length z.2.2) ((takeR (dn7 S bs).A).1.1.1) 5]) (fun z => (∀ b, z.1 b → G b ∨ w.heap.size ≤ b)) rfl rfl co12 rfl rfl rfl (lt_b rfl) (fun w hI => (p_take D.ok7.a (ring_at hI (i := 1) rfl).dev).mono fun e w2 ⟨v, h1, h2, h3, h4⟩ => by obtain ⟨qa, qc, rfl, k0⟩ := (ring_at hI (i := 1) rfl).tookW (take_len D.ok7.a) h2 h3 h4; obtain ⟨F2, k1, k2, k3⟩ := hI.ringToW (F0 := G) (i := 1) rfl hG k0 hF20; exact ⟨(F2, qa, qc), h1, k1, k2⟩) ?_
    rintro ⟨F23, a21, c22⟩ hF23
    refine SL.mv ?_
    refine SL.uu (ru_extract rfl rfl rfl) ?_
    refine SL.uu (ru_extract rfl rfl rfl) ?_
    refine SL.alloca rfl rfl (lt_b rfl) ta49 rfl fun b24 hb24 => ?_
    refine SL.storea (i := 11) (vs := [Value.slice a21 ((takeR (dn7 S bs).A).1.1.1.length) c22, bo false, iw ((takeR (dn7 S bs).A).1.1.2)]) (c' := [Value.slice a21 ((takeR (dn7 S bs).A).1.1.1.length) c22, bo false, iw ((takeR (dn7 S bs).A).1.1.2)]) rfl rfl ta49 rfl rfl rfl rfl rfl rfl (le_b rfl) (.inr hb24) rfl ?_
    refine SL.as ?_
    refine SL.nn [(2, Value.slice qb bs.length cb), (6, bo false), (8, pt g 0), (16, iw ((sendF (dn6 S bs) (dnI S)).1)), (17, pt b24 0), (18, iw ((takeR (dn7 S bs).A).1.2))] [rBlk g [pt d 0, pt p 0, pt r 0, pt e 0, pt q 0, pt s 0, Value.slice qc come.length cc, Value.slice qm mine.length cm] 43, rRing r d p ab F23 (dn8 S bs), rRefR s e q KZ Z, rRowO (.slice qc come.length cc) (ivs come) 3, rRowO (.slice qm mine.length cm) (ivs mine) 3, rRowN (.slice q8 (pollF (dn4 S bs)).2.length c9) (comeV (pollF (dn4 S bs)).2) 67 2, rMine (.slice qh11 ((seeF (dn5 S bs).L (dnI S)).1.head).length ch12) ((seeF (dn5 S bs).L (dnI S)).1.head) 5, rMine (.slice qd13 ((seeF (dn5 S bs).L (dnI S)).1.data).length cd14) ((seeF (dn5 S bs).L (dnI S)).1.data) 5, rBlk b15 [iw ((seeF (dn5 S bs).L (dnI S)).1.refs : Int), Value.slice qh11 ((seeF (dn5 S bs).L (dnI S)).1.head.length) ch12, Value.slice qd13 ((seeF (dn5 S bs).L (dnI S)).1.data.length) cd14] 33, rRow (.slice q17 ((allV ((dn5 S bs).T)).length) c18) (allV ((dn5 S bs).T)) 3, rMine (.slice a21 ((takeR (dn7 S bs).A).1.1.1).length c22) ((takeR (dn7 S bs).A).1.1.1) 5, rBlk b24 [Value.slice a21 ((takeR (dn7 S bs).A).1.1.1.length) c22, bo false, iw ((takeR (dn7 S bs).A).1.1.2)] 49] ⟨rfl, rfl, rfl, rfl, rfl, rfl, trivial⟩ ?_
    refine SC.seq ?_
    refine SC.sr ?_
    refine SL.mv ?_
    refine SL.uu (ru_ne (b := false) rfl rfl rfl ((show ((((sendF (dn6 S bs) (dnI S)).1) : Int) != 0) = false from by rw [D.p5]; rfl))) ?_
    refine SL.mv ?_
    refine SL.gg (ru_move rfl rfl) ?_
    refine SL.gg (ru_ne (b := false) rfl rfl rfl ((show ((((takeR (dn7 S bs).A).1.2) : Int) != 0) = false from by rw [D.p6.1]; rfl))) ?_
    refine SL.uu (ru_pick (u := bo true) (v := bo false) rfl rfl rfl rfl) ?_
    refine SL.mv ?_
    refine SL.gg (ru_fieldAddr (o2 := 0) fd49_0 rfl rfl rfl) ?_
    refine SL.gg (ru_load (i := 11) ts28 rfl rfl rfl rfl) ?_
    refine SL.gg (ru_str (f := ((takeR (dn7 S bs).A).1.1.1)) Try.underlying28 Try.underlying5 Try.underlying9 rfl rfl (fun w hI => mine_bytes hI (j := 10) rfl (take_len D.ok7.a))) ?_
    refine SL.gg (ru_move rfl rfl) ?_
    refine SL.gg (ru_str (f := bs) Try.underlying28 Try.underlying5 Try.underlying9 rfl rfl (fun w hI => (hbs.only hI.2 (hbb.mono fun b9 _ h9 => hGf b9 h9)))) ?_
    refine SL.gg (ru_strne (f := ((takeR (dn7 S bs).A).1.1.1)) (h := bs) (b := false) Try.underlying9 rfl rfl rfl (show (!decide (((takeR (dn7 S bs).A).1.1.1) = bs)) = false from by rw [D.p6.2]; simp)) ?_
    refine SL.uu (ru_pick (u := bo true) (v := bo false) rfl rfl rfl rfl) ?_
    refine SL.mv ?_
    refine SL.callg (ζ := Nat) (fun z => pt z 0) (fun z => [rBlk g [pt d 0, pt p 0, pt r 0, pt e 0, pt q 0, pt s 0, Value.slice qc come.length cc, Value.slice qm mine.length cm] 43, rRing r d p ab F23 (dn8 S bs), rRefR s e q KZ Z, rRowO (.slice qc come.length cc) (ivs come) 3, rRowO (.slice qm mine.length cm) (ivs mine) 3, rRowN (.slice q8 (pollF (dn4 S bs)).2.length c9) (comeV (pollF (dn4 S bs)).2) 67 2, rMine (.slice qh11 ((seeF (dn5 S bs).L (dnI S)).1.head).length ch12) ((seeF (dn5 S bs).L (dnI S)).1.head) 5, rMine (.slice qd13 ((seeF (dn5 S bs).L (dnI S)).1.data).length cd14) ((seeF (dn5 S bs).L (dnI S)).1.data) 5, rBlk b15 [iw ((seeF (dn5 S bs).L (dnI S)).1.refs : Int), Value.slice qh11 ((seeF (dn5 S bs).L (dnI S)).1.head.length) ch12, Value.slice qd13 ((seeF (dn5 S bs).L (dnI S)).1.data.length) cd14] 33, rRow (.slice q17 ((allV ((dn5 S bs).T)).length) c18) (allV ((dn5 S bs).T)) 3, rMine (.slice a21 ((takeR (dn7 S bs).A).1.1.1).length c22) ((takeR (dn7 S bs).A).1.1.1) 5, rBlk b24 [Value.slice a21 ((takeR (dn7 S bs).A).1.1.1.length) c22, bo false, iw ((takeR (dn7 S bs).A).1.1.2)] 49]) (fun z => True) rfl rfl rfl rfl co23 rfl rfl rfl (lt_b rfl) (fun w hI => (q_new _).mono fun e w2 ⟨g9, k1, k2, k3, k4⟩ => ⟨g9, k2, hI.only k4, trivial⟩) ?_
    rintro zz _
    refine SL.gg (ru_eqnil Try.underlying39 rfl rfl rfl rfl) ?_
    refine SL.uu (ru_pick (u := bo true) (v := bo false) rfl rfl rfl rfl) ?_
    refine SL.nn [(2, Value.slice qb bs.length cb), (6, bo false), (8, pt g 0), (194, bo false)] _ ⟨rfl, rfl, rfl, rfl, trivial⟩ ?_
    refine SC.no rfl ?_
    refine SC.skip ?_
    refine SC.of_SE ?_
    refine SC.norm [(2, Value.slice qb bs.length cb), (6, bo false), (8, pt g 0)] _ ⟨rfl, rfl, rfl, trivial⟩ rfl ?_
    refine SC.seq ?_
    refine SC.sr ?_
    refine SL.mv ?_
    refine SL.nk ?_
    refine SL.uu (ru_fieldAddr (o2 := 2) fd43_2 rfl rfl rfl) ?_
    refine SL.uu (ru_load (i := 0) ts38 rfl rfl rfl rfl) ?_
    refine SL.mk (Mk.ints ⟨254, w, G⟩ (allV ((dn8 S bs).R)) 3) (w_all rfl) rfl co24 rfl rfl rfl (lt_b rfl) (fun l' w hI => (coming_any D.ok8.t D.ok8.r (ring_at hI (i := 1) rfl)).mono fun e w2 ⟨q, c, h1, h2, h3, h4⟩ => ⟨_, h1, ⟨q, c, fun b hb => Nat.le_trans hI.2.size (h3 b hb), rfl⟩, hI.add h4 h2 h3⟩) ?_
    rintro _ ⟨q25, c26, hq25, rfl⟩
    refine SL.norm [(2, Value.slice qb bs.length cb), (6, bo false), (8, pt g 0), (195, pt g 0), (196, pt g 0), (197, pt g 2), (198, pt r 0), (199, Value.slice q25 ((allV ((dn8 S bs).R)).length) c26)] [rBlk g [pt d 0, pt p 0, pt r 0, pt e 0, pt q 0, pt s 0, Value.slice qc come.length cc, Value.slice qm mine.length cm] 43, rRing r d p ab F23 (dn8 S bs), rRefR s e q KZ Z, rRowO (.slice qc come.length cc) (ivs come) 3, rRowO (.slice qm mine.length cm) (ivs mine) 3, rRowN (.slice q8 (pollF (dn4 S bs)).2.length c9) (comeV (pollF (dn4 S bs)).2) 67 2, rMine (.slice qh11 ((seeF (dn5 S bs).L (dnI S)).1.head).length ch12) ((seeF (dn5 S bs).L (dnI S)).1.head) 5, rMine (.slice qd13 ((seeF (dn5 S bs).L (dnI S)).1.data).length cd14) ((seeF (dn5 S bs).L (dnI S)).1.data) 5, rBlk b15 [iw ((seeF (dn5 S bs).L (dnI S)).1.refs : Int), Value.slice qh11 ((seeF (dn5 S bs).L (dnI S)).1.head.length) ch12, Value.slice qd13 ((seeF (dn5 S bs).L (dnI S)).1.data.length) cd14] 33, rRow (.slice q17 ((allV ((dn5 S bs).T)).length) c18) (allV ((dn5 S bs).T)) 3, rMine (.slice a21 ((takeR (dn7 S bs).A).1.1.1).length c22) ((takeR (dn7 S bs).A).1.1.1) 5, rBlk b24 [Value.slice a21 ((takeR (dn7 S bs).A).1.1.1.length) c22, bo false, iw ((takeR (dn7 S bs).A).1.1.2)] 49, rRow (.slice q25 ((allV ((dn8 S bs).R)).length) c26) (allV ((dn8 S bs).R)) 3] ⟨rfl, rfl, rfl, rfl, rfl, rfl, rfl, rfl, trivial⟩ rfl ?_
    refine SL.uu (ru_len Try.underlying26 rfl rfl) ?_
    refine SL.uu (ru_eq (b := ((((allV ((dn8 S bs).R)).length : Int) : Int) == 0)) rfl rfl rfl rfl) ?_
    refine SL.nn [(2, Value.slice qb bs.length cb), (6, bo false), (8, pt g 0), (201, bo ((((allV ((dn8 S bs).R)).length : Int) : Int) == 0))] _ ⟨rfl, rfl, rfl, rfl, trivial⟩ ?_
    refine SC.both ((((allV ((dn8 S bs).R)).length : Int) : Int) == 0) rfl (fun h27 => ?_) (fun h27 => ?_)
    · skip
      refine SC.sr ?_
      refine SL.as ?_
      refine SL.nn [(2, Value.slice qb bs.length cb), (6, bo true), (8, pt g 0)] _ ⟨rfl, rfl, rfl, trivial⟩ ?_
      refine SC.ret ?_
      refine SE.passr ?_
      refine SE.res (.inl rfl) (res1 Try.results4 rfl) fun w1 hI => ⟨rfl, hI.2⟩
    have hc0 : 0 < (dn8 S bs).R.many := by have h9 := eq_f h27; rw [allV_len] at h9; have := D.ok8.r.m; omega
    obtain ⟨hp7a, c7, hp7b, hp7c⟩ := D.p7 hc0
    have hpl1 : (pollF (dn9 S bs)).2.length = 1 := by rw [hp7b]; rfl
    refine SC.skip ?_
    refine SC.of_SE ?_
    refine SC.norm [(2, Value.slice qb bs.length cb), (6, bo false), (8, pt g 0)] _ ⟨rfl, rfl, rfl, trivial⟩ rfl ?_
    refine SC.sr ?_
    refine SL.mv ?_
    refine SL.nk ?_
    refine SL.uu (ru_fieldAddr (o2 := 0) fd43_0 rfl rfl rfl) ?_
    refine SL.uu (ru_load (i := 0) ts36 rfl rfl rfl rfl) ?_
    refine SL.mv ?_
    refine SL.call (ζ := Nat → Prop) (fun F28 => iw ((giveF (dn8 S bs).A bs true).1)) (fun F28 => [rBlk g [pt d 0, pt p 0, pt r 0, pt e 0, pt q 0, pt s 0, Value.slice qc come.length cc, Value.slice qm mine.length cm] 43, rRing r d p ab F28 (dn9 S bs), rRefR s e q KZ Z, rRowO (.slice qc come.length cc) (ivs come) 3, rRowO (.slice qm mine.length cm) (ivs mine) 3, rRowN (.slice q8 (pollF (dn4 S bs)).2.length c9) (comeV (pollF (dn4 S bs)).2) 67 2, rMine (.slice qh11 ((seeF (dn5 S bs).L (dnI S)).1.head).length ch12) ((seeF (dn5 S bs).L (dnI S)).1.head) 5, rMine (.slice qd13 ((seeF (dn5 S bs).L (dnI S)).1.data).length cd14) ((seeF (dn5 S bs).L (dnI S)).1.data) 5, rBlk b15 [iw ((seeF (dn5 S bs).L (dnI S)).1.refs : Int), Value.slice qh11 ((seeF (dn5 S bs).L (dnI S)).1.head.length) ch12, Value.slice qd13 ((seeF (dn5 S bs).L (dnI S)).1.data.length) cd14] 33, rRow (.slice q17 ((allV ((dn5 S bs).T)).length) c18) (allV ((dn5 S bs).T)) 3, rMine (.slice a21 ((takeR (dn7 S bs).A).1.1.1).length c22) ((takeR (dn7 S bs).A).1.1.1) 5, rBlk b24 [Value.slice a21 ((takeR (dn7 S bs).A).1.1.1.length) c22, bo false, iw ((takeR (dn7 S bs).A).1.1.2)] 49, rRow (.slice q25 ((allV ((dn8 S bs).R)).length) c26) (allV ((dn8 S bs).R)) 3]) (fun F28 => (∀ b, F28 b → G b ∨ w.heap.size ≤ b)) rfl rfl co13 rfl rfl rfl (lt_b rfl) (fun w hI => (p_give D.ok8.a (ring_at hI (i := 1) rfl).dev (hbs.only hI.2 (hbb.mono fun b9 _ h9 => hGf b9 h9)) (hbb.mono fun b9 hlt e9 => by have := (hX.r b9 (.inr (.inl e9))).resolve_left (hGf b9); omega) true).mono fun e w2 ⟨h1, h2⟩ => by obtain ⟨F2, k1, k2⟩ := hI.ringTo (F0 := G) (i := 1) rfl hG ((ring_at hI (i := 1) rfl).devTo h2) hF23; exact ⟨F2, h1, k1, k2⟩) ?_
    intro F28 hF28
    refine SL.as ?_
    refine SL.nn [(2, Value.slice qb bs.length cb), (6, bo false), (8, pt g 0), (19, iw ((giveF (dn8 S bs).A bs true).1))] [rBlk g [pt d 0, pt p 0, pt r 0, pt e 0, pt q 0, pt s 0, Value.slice qc come.length cc, Value.slice qm mine.length cm] 43, rRing r d p ab F28 (dn9 S bs), rRefR s e q KZ Z, rRowO (.slice qc come.length cc) (ivs come) 3, rRowO (.slice qm mine.length cm) (ivs mine) 3, rRowN (.slice q8 (pollF (dn4 S bs)).2.length c9) (comeV (pollF (dn4 S bs)).2) 67 2, rMine (.slice qh11 ((seeF (dn5 S bs).L (dnI S)).1.head).length ch12) ((seeF (dn5 S bs).L (dnI S)).1.head) 5, rMine (.slice qd13 ((seeF (dn5 S bs).L (dnI S)).1.data).length cd14) ((seeF (dn5 S bs).L (dnI S)).1.data) 5, rBlk b15 [iw ((seeF (dn5 S bs).L (dnI S)).1.refs : Int), Value.slice qh11 ((seeF (dn5 S bs).L (dnI S)).1.head.length) ch12, Value.slice qd13 ((seeF (dn5 S bs).L (dnI S)).1.data.length) cd14] 33, rRow (.slice q17 ((allV ((dn5 S bs).T)).length) c18) (allV ((dn5 S bs).T)) 3, rMine (.slice a21 ((takeR (dn7 S bs).A).1.1.1).length c22) ((takeR (dn7 S bs).A).1.1.1) 5, rBlk b24 [Value.slice a21 ((takeR (dn7 S bs).A).1.1.1.length) c22, bo false, iw ((takeR (dn7 S bs).A).1.1.2)] 49, rRow (.slice q25 ((allV ((dn8 S bs).R)).length) c26) (allV ((dn8 S bs).R)) 3] ⟨rfl, rfl, rfl, rfl, trivial⟩ ?_
    refine SC.sr ?_
    refine SL.mv ?_
    refine SL.nk ?_
    refine SL.uu (ru_fieldAddr (o2 := 2) fd43_2 rfl rfl rfl) ?_
    refine SL.uu (ru_load (i := 0) ts38 rfl rfl rfl rfl) ?_
    refine SL.call (ζ := (Nat → Prop) × Option Addr × Nat) (fun z => Value.slice z.2.1 ((pollF (dn9 S bs)).2.length) z.2.2) (fun z => [rBlk g [pt d 0, pt p 0, pt r 0, pt e 0, pt q 0, pt s 0, Value.slice qc come.length cc, Value.slice qm mine.length cm] 43, rRing r d p ab z.1 (dn10 S bs), rRefR s e q KZ Z, rRowO (.slice qc come.length cc) (ivs come) 3, rRowO (.slice qm mine.length cm) (ivs mine) 3, rRowN (.slice q8 (pollF (dn4 S bs)).2.length c9) (comeV (pollF (dn4 S bs)).2) 67 2, rMine (.slice qh11 ((seeF (dn5 S bs).L (dnI S)).1.head).length ch12) ((seeF (dn5 S bs).L (dnI S)).1.head) 5, rMine (.slice qd13 ((seeF (dn5 S bs).L (dnI S)).1.data).length cd14) ((seeF (dn5 S bs).L (dnI S)).1.data) 5, rBlk b15 [iw ((seeF (dn5 S bs).L (dnI S)).1.refs : Int), Value.slice qh11 ((seeF (dn5 S bs).L (dnI S)).1.head.length) ch12, Value.slice qd13 ((seeF (dn5 S bs).L (dnI S)).1.data.length) cd14] 33, rRow (.slice q17 ((allV ((dn5 S bs).T)).length) c18) (allV ((dn5 S bs).T)) 3, rMine (.slice a21 ((takeR (dn7 S bs).A).1.1.1).length c22) ((takeR (dn7 S bs).A).1.1.1) 5, rBlk b24 [Value.slice a21 ((takeR (dn7 S bs).A).1.1.1.length) c22, bo false, iw ((takeR (dn7 S bs).A).1.1.2)] 49, rRow (.slice q25 ((allV ((dn8 S bs).R)).length) c26) (allV ((dn8 S bs).R)) 3, rRowN (.slice z.2.1 (pollF (dn9 S bs)).2.length z.2.2) (comeV (pollF (dn9 S bs)).2) 67 2]) (fun z => (∀ b, z.1 b → G b ∨ w.heap.size ≤ b)) rfl rfl co20 rfl rfl rfl (lt_b rfl) (fun w hI => (poll_any D.ok9.a D.ok9.t D.ok9.r D.few7 (ring_at hI (i := 1) rfl)).mono fun e w2 ⟨q, c, h1, h2⟩ => by obtain ⟨F2, k1, k2, k3⟩ := hI.ringToW (F0 := G) (i := 1) rfl hG h2 hF28; exact ⟨(F2, q, c), h1, k1, k2⟩) ?_
    rintro ⟨F31, q29, c30⟩ hF31
    refine SL.as ?_
    refine SL.nn [(2, Value.slice qb bs.length cb), (6, bo false), (8, pt g 0), (19, iw ((giveF (dn8 S bs).A bs true).1)), (20, Value.slice q29 ((pollF (dn9 S bs)).2.length) c30)] [rBlk g [pt d 0, pt p 0, pt r 0, pt e 0, pt q 0, pt s 0, Value.slice qc come.length cc, Value.slice qm mine.length cm] 43, rRing r d p ab F31 (dn10 S bs), rRefR s e q KZ Z, rRowO (.slice qc come.length cc) (ivs come) 3, rRowO (.slice qm mine.length cm) (ivs mine) 3, rRowN (.slice q8 (pollF (dn4 S bs)).2.length c9) (comeV (pollF (dn4 S bs)).2) 67 2, rMine (.slice qh11 ((seeF (dn5 S bs).L (dnI S)).1.head).length ch12) ((seeF (dn5 S bs).L (dnI S)).1.head) 5, rMine (.slice qd13 ((seeF (dn5 S bs).L (dnI S)).1.data).length cd14) ((seeF (dn5 S bs).L (dnI S)).1.data) 5, rBlk b15 [iw ((seeF (dn5 S bs).L (dnI S)).1.refs : Int), Value.slice qh11 ((seeF (dn5 S bs).L (dnI S)).1.head.length) ch12, Value.slice qd13 ((seeF (dn5 S bs).L (dnI S)).1.data.length) cd14] 33, rRow (.slice q17 ((allV ((dn5 S bs).T)).length) c18) (allV ((dn5 S bs).T)) 3, rMine (.slice a21 ((takeR (dn7 S bs).A).1.1.1).length c22) ((takeR (dn7 S bs).A).1.1.1) 5, rBlk b24 [Value.slice a21 ((takeR (dn7 S bs).A).1.1.1.length) c22, bo false, iw ((takeR (dn7 S bs).A).1.1.2)] 49, rRow (.slice q25 ((allV ((dn8 S bs).R)).length) c26) (allV ((dn8 S bs).R)) 3, rRowN (.slice q29 (pollF (dn9 S bs)).2.length c30) (comeV (pollF (dn9 S bs)).2) 67 2] ⟨rfl, rfl, rfl, rfl, rfl, trivial⟩ ?_
    refine SC.seq ?_
    refine SC.sr ?_
    refine SL.mv ?_
    refine SL.uu (ru_ne (b := false) rfl rfl rfl ((show ((((giveF (dn8 S bs).A bs true).1) : Int) != 0) = false from by rw [hp7a]; rfl))) ?_
    refine SL.mv ?_
    refine SL.gg (ru_move rfl rfl) ?_
    refine SL.gg (ru_len Try.underlying61 rfl rfl) ?_
    refine SL.gg (ru_ne (b := false) rfl rfl rfl ((show ((((pollF (dn9 S bs)).2.length : Int) : Int) != 1) = false from by rw [hp7b]; rfl))) ?_
    refine SL.uu (ru_pick (u := bo true) (v := bo false) rfl rfl rfl rfl) ?_
    refine SL.mv ?_
    refine SL.gg (ru_move rfl rfl) ?_
    refine SL.gg (ru_index_rowN (ri := 13) si61 rfl rfl rfl rfl (by omega) (by omega)) ?_
    refine SL.gg (ru_fieldAddr (o2 := ((0 : Int).toNat * 2 + 1)) fd67_1 rfl rfl rfl) ?_
    refine SL.gg (ru_load_rowN (ri := 13) (i := (0 : Int).toNat) (k := 1) (size := 2) ts4 rfl rfl rfl (come_get (i := 0) (x := (c7, true)) (by rw [hp7b]; rfl)) (by decide) rfl) ?_
    refine SL.gg (ru_not (c := false) rfl rfl rfl) ?_
    refine SL.uu (ru_pick (u := bo true) (v := bo false) rfl rfl rfl rfl) ?_
    refine SL.nn [(2, Value.slice qb bs.length cb), (6, bo false), (8, pt g 0), (20, Value.slice q29 ((pollF (dn9 S bs)).2.length) c30), (226, bo false)] _ ⟨rfl, rfl, rfl, rfl, rfl, trivial⟩ ?_
    refine SC.no rfl ?_
    refine SC.skip ?_
    refine SC.of_SE ?_
    refine SC.norm [(2, Value.slice qb bs.length cb), (6, bo false), (8, pt g 0), (20, Value.slice q29 ((pollF (dn9 S bs)).2.length) c30)] _ ⟨rfl, rfl, rfl, rfl, trivial⟩ rfl ?_
    refine SC.seq ?_
    refine SC.region_mk_tailE [(13, 11)] 13 [(8, Mk.see ⟨254, w, G⟩ (seeF (dn10 S bs).L c7).1.refs (seeF (dn10 S bs).L c7).1.head (seeF (dn10 S bs).L c7).1.data (seeF (dn10 S bs).L c7).2 5), (12, Mk.blk ⟨254, w, G⟩ [iw 0, Value.slice none 0 0, Value.slice none 0 0] 33)] [(9, [8]), (10, [8]), (11, [8])] rfl rfl (by kernel_rfl) (by kernel_rfl) (by kernel_rfl) (by kernel_rfl) ?_
    refine SM.ru rfl rfl rfl (w_all rfl) rfl (lt_b rfl) (ru_move rfl rfl) ?_
    refine SM.ru rfl rfl rfl (w_all rfl) rfl (lt_b rfl) (ru_nilCheck rfl rfl) ?_
    refine SM.ru rfl rfl rfl (w_all rfl) rfl (lt_b rfl) (ru_fieldAddr (o2 := 1) fd43_1 rfl rfl rfl) ?_
    refine SM.ru rfl rfl rfl (w_all rfl) rfl (lt_b rfl) (ru_load (i := 0) ts37 rfl rfl rfl rfl) ?_
    refine SM.ru rfl rfl rfl (w_all rfl) rfl (lt_b rfl) (ru_move rfl rfl) ?_
    refine SM.ru rfl rfl rfl (w_all rfl) rfl (lt_b rfl) (ru_index_rowN (ri := 13) si61 rfl rfl rfl rfl (by omega) (by omega)) ?_
    refine SM.ru rfl rfl rfl (w_all rfl) rfl (lt_b rfl) (ru_fieldAddr (o2 := ((0 : Int).toNat * 2 + 0)) fd67_0 rfl rfl rfl) ?_
    refine SM.ru rfl rfl rfl (w_all rfl) rfl (lt_b rfl) (ru_load_rowN (ri := 13) (i := (0 : Int).toNat) (k := 0) (size := 2) ts3 rfl rfl rfl (come_get (i := 0) (x := (c7, true)) (by rw [hp7b]; rfl)) (by decide) rfl) ?_
    refine SM.mkcall (s := Mk.see ⟨254, w, G⟩ (seeF (dn10 S bs).L c7).1.refs (seeF (dn10 S bs).L c7).1.head (seeF (dn10 S bs).L c7).1.data (seeF (dn10 S bs).L c7).2 5) rfl rfl rfl rfl (w_all rfl) rfl (lt_b rfl) rfl rfl rfl co9 rfl rfl (fun l' w hI => (see_any (ring_at hI (i := 1) rfl).pool c7).mono fun e w2 ⟨qh, ch, qd, cd, h1, h2, h3, h4, h5, h6, h7⟩ => ⟨_, h1, ⟨qh, ch, qd, cd, fun b hb => Nat.le_trans hI.2.size (h4 b hb), fun b hb => Nat.le_trans hI.2.size (h5 b hb), rfl⟩, hI.saw2 h2 h3 h4 h5 h6 h7⟩) ?_
    rintro _ ⟨qh32, ch33, qd34, cd35, hqh32, hqd34, rfl⟩
    refine SM.ru rfl rfl rfl (w_all rfl) rfl (lt_b rfl) (ru_move rfl rfl) ?_
    refine SM.ru rfl rfl rfl (w_all rfl) rfl (lt_b rfl) (ru_extract rfl rfl rfl) ?_
    refine SM.ru rfl rfl rfl (w_all rfl) rfl (lt_b rfl) (ru_extract rfl rfl rfl) ?_
    refine SM.alloca rfl rfl rfl rfl (w_all rfl) rfl (lt_b rfl) rfl ta33 rfl fun b36 hb36 => ?_
    refine SM.nilL (l' := [rBlk g [pt d 0, pt p 0, pt r 0, pt e 0, pt q 0, pt s 0, Value.slice qc come.length cc, Value.slice qm mine.length cm] 43, rRing r d p ab F31 (dn10 S bs), rRefR s e q KZ Z, rRowO (.slice qc come.length cc) (ivs come) 3, rRowO (.slice qm mine.length cm) (ivs mine) 3, rRowN (.slice q8 (pollF (dn4 S bs)).2.length c9) (comeV (pollF (dn4 S bs)).2) 67 2, rMine (.slice qh11 ((seeF (dn5 S bs).L (dnI S)).1.head).length ch12) ((seeF (dn5 S bs).L (dnI S)).1.head) 5, rMine (.slice qd13 ((seeF (dn5 S bs).L (dnI S)).1.data).length cd14) ((seeF (dn5 S bs).L (dnI S)).1.data) 5, rBlk b15 [iw ((seeF (dn5 S bs).L (dnI S)).1.refs : Int), Value.slice qh11 ((seeF (dn5 S bs).L (dnI S)).1.head.length) ch12, Value.slice qd13 ((seeF (dn5 S bs).L (dnI S)).1.data.length) cd14] 33, rRow (.slice q17 ((allV ((dn5 S bs).T)).length) c18) (allV ((dn5 S bs).T)) 3, rMine (.slice a21 ((takeR (dn7 S bs).A).1.1.1).length c22) ((takeR (dn7 S bs).A).1.1.1) 5, rBlk b24 [Value.slice a21 ((takeR (dn7 S bs).A).1.1.1.length) c22, bo false, iw ((takeR (dn7 S bs).A).1.1.2)] 49, rRow (.slice q25 ((allV ((dn8 S bs).R)).length) c26) (allV ((dn8 S bs).R)) 3, rRowN (.slice q29 (pollF (dn9 S bs)).2.length c30) (comeV (pollF (dn9 S bs)).2) 67 2, rMine (.slice qh32 ((seeF (dn10 S bs).L c7).1.head).length ch33) ((seeF (dn10 S bs).L c7).1.head) 5, rMine (.slice qd34 ((seeF (dn10 S bs).L c7).1.data).length cd35) ((seeF (dn10 S bs).L c7).1.data) 5, rBlk b36 [iw 0, Value.slice none 0 0, Value.slice none 0 0] 33]) rfl ?_
    refine SL.storea (i := 16) (vs := [iw ((seeF (dn10 S bs).L c7).1.refs : Int), Value.slice qh32 ((seeF (dn10 S bs).L c7).1.head.length) ch33, Value.slice qd34 ((seeF (dn10 S bs).L c7).1.data.length) cd35]) (c' := [iw ((seeF (dn10 S bs).L c7).1.refs : Int), Value.slice qh32 ((seeF (dn10 S bs).L c7).1.head.length) ch33, Value.slice qd34 ((seeF (dn10 S bs).L c7).1.data.length) cd35]) rfl rfl ta33 rfl rfl rfl rfl rfl rfl (le_b rfl) (.inr hb36) rfl ?_
    refine SL.as ?_
    refine SL.nil ?_
    refine SE.onlyN ?_
    refine SC.of_SE ?_
    refine SC.norm [(2, Value.slice qb bs.length cb), (6, bo false), (21, pt b36 0), (22, iw ((seeF (dn10 S bs).L c7).2))] [rBlk g [pt d 0, pt p 0, pt r 0, pt e 0, pt q 0, pt s 0, Value.slice qc come.length cc, Value.slice qm mine.length cm] 43, rRing r d p ab F31 (dn10 S bs), rRefR s e q KZ Z, rRowO (.slice qc come.length cc) (ivs come) 3, rRowO (.slice qm mine.length cm) (ivs mine) 3, rRowN (.slice q8 (pollF (dn4 S bs)).2.length c9) (comeV (pollF (dn4 S bs)).2) 67 2, rMine (.slice qh11 ((seeF (dn5 S bs).L (dnI S)).1.head).length ch12) ((seeF (dn5 S bs).L (dnI S)).1.head) 5, rMine (.slice qd13 ((seeF (dn5 S bs).L (dnI S)).1.data).length cd14) ((seeF (dn5 S bs).L (dnI S)).1.data) 5, rBlk b15 [iw ((seeF (dn5 S bs).L (dnI S)).1.refs : Int), Value.slice qh11 ((seeF (dn5 S bs).L (dnI S)).1.head.length) ch12, Value.slice qd13 ((seeF (dn5 S bs).L (dnI S)).1.data.length) cd14] 33, rRow (.slice q17 ((allV ((dn5 S bs).T)).length) c18) (allV ((dn5 S bs).T)) 3, rMine (.slice a21 ((takeR (dn7 S bs).A).1.1.1).length c22) ((takeR (dn7 S bs).A).1.1.1) 5, rBlk b24 [Value.slice a21 ((takeR (dn7 S bs).A).1.1.1.length) c22, bo false, iw ((takeR (dn7 S bs).A).1.1.2)] 49, rRow (.slice q25 ((allV ((dn8 S bs).R)).length) c26) (allV ((dn8 S bs).R)) 3, rRowN (.slice q29 (pollF (dn9 S bs)).2.length c30) (comeV (pollF (dn9 S bs)).2) 67 2, rMine (.slice qh32 ((seeF (dn10 S bs).L c7).1.head).length ch33) ((seeF (dn10 S bs).L c7).1.head) 5, rMine (.slice qd34 ((seeF (dn10 S bs).L c7).1.data).length cd35) ((seeF (dn10 S bs).L c7).1.data) 5, rBlk b36 [iw ((seeF (dn10 S bs).L c7).1.refs : Int), Value.slice qh32 ((seeF (dn10 S bs).L c7).1.head.length) ch33, Value.slice qd34 ((seeF (dn10 S bs).L c7).1.data.length) cd35] 33] ⟨rfl, rfl, rfl, rfl, trivial⟩ rfl ?_
    refine SC.sr ?_
    refine SL.mv ?_
    refine SL.uu (ru_eq (b := true) rfl rfl rfl ((show ((((seeF (dn10 S bs).L c7).2) : Int) == 0) = true from by rw [hp7c]; rfl))) ?_
    refine SL.mv ?_
    refine SL.gg (ru_fieldAddr (o2 := 2) fd33_2 rfl rfl rfl) ?_
    refine SL.gg (ru_load (i := 16) ts28 rfl rfl rfl rfl) ?_
    refine SL.gg (ru_str (f := ((seeF (dn10 S bs).L c7).1.data)) Try.underlying28 Try.underlying5 Try.underlying9 rfl rfl (fun w hI => mine_bytes hI (j := 15) rfl (Nat.le_trans (see_sizes (ring_at hI (i := 1) rfl).pool c7).2 (by decide)))) ?_
    refine SL.gg (ru_move rfl rfl) ?_
    refine SL.gg (ru_str (f := bs) Try.underlying28 Try.underlying5 Try.underlying9 rfl rfl (fun w hI => (hbs.only hI.2 (hbb.mono fun b9 _ h9 => hGf b9 h9)))) ?_
    refine SL.gg (ru_streq (f := ((seeF (dn10 S bs).L c7).1.data)) (h := bs) (b := true) Try.underlying9 rfl rfl rfl (show (decide (((seeF (dn10 S bs).L c7).1.data) = bs)) = true from by rw [hp7c]; simp)) ?_
    refine SL.uu (ru_pick (u := bo true) (v := bo false) rfl rfl rfl rfl) ?_
    refine SL.mv ?_
    refine SL.gg (ru_fieldAddr (o2 := 0) fd33_0 rfl rfl rfl) ?_
    refine SL.gg (ru_load (i := 16) ts3 rfl rfl rfl rfl) ?_
    refine SL.gg (ru_eq (b := true) rfl rfl rfl ((show ((((seeF (dn10 S bs).L c7).1.refs : Int) : Int) == 1) = true from by rw [hp7c]; rfl))) ?_
    refine SL.uu (ru_pick (u := bo true) (v := bo false) rfl rfl rfl rfl) ?_
    refine SL.as ?_
    refine SL.nn [(6, bo true)] _ ⟨rfl, trivial⟩ ?_
    refine SC.ret ?_
    refine SE.res (.inl rfl) (res1 Try.results4 rfl) fun w1 hI => ⟨rfl, hI.2⟩
  obtain ⟨ob, oo, ea, hop⟩ := hops i (by omega)
  obtain ⟨⟨k, m, ov, f, y⟩, hl⟩ : ∃ op : OpX, op = l[i]'(by omega) := ⟨_, rfl⟩
  rw [← hl] at hop
  obtain ⟨hc, hb0, hs0⟩ := hop
  simp only at hc hb0 hs0
  obtain ⟨fa, fc, rfl⟩ := hb0.form
  subst ea
  refine SC.seq ?_
  refine SC.sr ?_
  refine SL.mv ?_
  refine SL.mv ?_
  refine SL.uu (ru_len Try.underlying22 rfl rfl) ?_
  refine SL.uu (ru_lt (b := (decide (((i : Int) : Int) < (l.length : Int)))) rfl rfl rfl rfl) ?_
  refine SL.nn [(1, sl ob oo l.length oc), (2, Value.slice qb bs.length cb), (6, bo false), (8, pt g 0), (9, iw (i : Int)), (52, bo (decide (((i : Int) : Int) < (l.length : Int))))] [rBlk g [pt d 0, pt p 0, pt r 0, pt e 0, pt q 0, pt s 0, Value.slice qc come.length cc, Value.slice qm mine.length cm] 43, rRing r d p ab F S, rRefR s e q KZ Z, rRowO (.slice qc come.length cc) (ivs come) 3, rRowO (.slice qm mine.length cm) (ivs mine) 3] ⟨rfl, rfl, rfl, rfl, rfl, rfl, trivial⟩ ?_
  refine SC.yes (show some (Value.bool (decide (((i : Int) : Int) < (l.length : Int)))) = some (Value.bool true) from congrArg (fun x => some (Value.bool x)) (decide_eq_true (by omega))) ?_
  refine SC.skip ?_
  refine SC.of_SE ?_
  refine SC.norm [(1, sl ob oo l.length oc), (2, Value.slice qb bs.length cb), (6, bo false), (8, pt g 0), (9, iw (i : Int))] _ ⟨rfl, rfl, rfl, rfl, rfl, trivial⟩ rfl ?_
  refine SC.seq ?_
  refine SC.block ?_
  refine SC.sr ?_
  refine SL.mv ?_
  refine SL.mv ?_
  refine SL.uu (ru_indexS (o2 := oo + (i : Int).toNat * 4) si22 rfl rfl rfl (by omega) (by omega) rfl) ?_
  refine SL.uu (ru_fieldAddr (o2 := (oo + (i : Int).toNat * 4 + 0)) fd30_0 rfl rfl rfl) ?_
  refine SL.uu (ru_load_old hGf ts3 rfl rfl (by rw [Int.toNat_natCast]; exact hc 0 _ rfl)) ?_
  refine SL.uu (ru_ne (b := ((k : Int) != 6)) rfl rfl rfl rfl) ?_
  refine SL.nn [(1, sl ob oo l.length oc), (2, Value.slice qb bs.length cb), (6, bo false), (8, pt g 0), (9, iw (i : Int)), (60, bo ((k : Int) != 6))] _ ⟨rfl, rfl, rfl, rfl, rfl, rfl, trivial⟩ ?_
  refine SC.both ((k : Int) != 6) rfl (fun h37 => ?_) (fun h37 => ?_)
  · skip
    have hk6 := ne_t h37
    refine SC.region ?_
    refine SL.mv ?_
    refine SL.mv ?_
    refine SL.mv ?_
    refine SL.uu (ru_indexS (o2 := oo + (i : Int).toNat * 4) si22 rfl rfl rfl (by omega) (by omega) rfl) ?_
    refine SL.uu (ru_loada_old (vs := [iw k, iw m, Value.slice fa f.length fc, bo y]) hGf ta30 rfl rfl rfl (by rw [Int.toNat_natCast]; exact hc)) ?_
    refine SL.call (ζ := Bool × DS) (fun z => bo z.1) (fun z => [rBlk g [pt d 0, pt p 0, pt r 0, pt e 0, pt q 0, pt s 0, Value.slice z.2.qc z.2.come.length z.2.cc, Value.slice z.2.qm z.2.mine.length z.2.cm] 43, rRing r d p ab z.2.F z.2.S, rRefR s e q z.2.K z.2.Z, rRowO (.slice z.2.qc z.2.come.length z.2.cc) (ivs z.2.come) 3, rRowO (.slice z.2.qm z.2.mine.length z.2.cm) (ivs z.2.mine) 3]) (fun z => FJ n z.2.S z.2.come z.2.mine ∧ RB (i + 1 + 1) z.2.Z ∧ z.2.S.A.r 1 = (if k = 6 then (linkF S.A y).r 1 else S.A.r 1) ∧ GX G w.heap.size g d p ab r z.2) rfl rfl co16 rfl rfl rfl (lt_b rfl) (fun w9 hI => (does_any (G := fpl (RX g d p ab r e q s ⟨S, F, Z, KZ, come, mine, qc, cc, qm, cm⟩)) hj h60 hZ (by omega) (by omega) GX.self (hb0.only hI.2 (hs0.mono fun b _ h => hGf b h)) (hs0.mono fun b hlt h9 => by have := (hX.fp b h9).resolve_left (hGf b); omega) (hs0.mono fun b hlt h9 => by have := (hX.fp b h9).resolve_left (hGf b); omega) (Inv.headL (l1 := (RX g d p ab r e q s ⟨S, F, Z, KZ, come, mine, qc, cc, qm, cm⟩)) hI)).mono fun e2 w2 ⟨⟨v, h1⟩, h2⟩ => by obtain ⟨x9, k1, k2, k3, k4, k5⟩ := DTo.lift (x := ⟨S, F, Z, KZ, come, mine, qc, cc, qm, cm⟩) hI hX h2; exact ⟨(v, x9), h1, k1, k2, k3, k4, k5⟩) ?_
    rintro ⟨v39, x38⟩ ⟨hx38j, hx38z, hx38r, hx38X⟩
    refine SL.nil ?_
    refine SE.blkn ?_
    refine SC.of_SE ?_
    refine SC.norm [(1, sl ob oo l.length oc), (2, Value.slice qb bs.length cb), (6, bo false), (8, pt g 0), (9, iw (i : Int))] [rBlk g [pt d 0, pt p 0, pt r 0, pt e 0, pt q 0, pt s 0, Value.slice x38.qc x38.come.length x38.cc, Value.slice x38.qm x38.mine.length x38.cm] 43, rRing r d p ab x38.F x38.S, rRefR s e q x38.K x38.Z, rRowO (.slice x38.qc x38.come.length x38.cc) (ivs x38.come) 3, rRowO (.slice x38.qm x38.mine.length x38.cm) (ivs x38.mine) 3] ⟨rfl, rfl, rfl, rfl, rfl, trivial⟩ rfl ?_
    refine SC.region ?_
    refine SL.mv ?_
    refine SL.uu (ru_add (r := (IntKind.i64.wrap ((i : Int) + 1))) rfl rfl rfl rfl) ?_
    refine SL.as ?_
    refine SL.nil ?_
    refine SE.pick [0, 1, 2, 3, 4] rfl ?_
    refine SE.again N (i + 1, x38) (by omega) ⟨by simp only; omega, hx38j, hx38z, hx38X, hx38r.trans ((if_neg hk6).trans hlk)⟩ ⟨rfl, rfl, rfl, rfl, (congrArg (fun x => some (iw x)) (show IntKind.i64.wrap ((i : Int) + 1) = ((i + 1 : Nat) : Int) by rw [IntKind.wrap_i64]; omega)), trivial⟩ rfl
  refine SC.skip ?_
  refine SE.blkn ?_
  refine SC.of_SE ?_
  refine SC.norm [(1, sl ob oo l.length oc), (2, Value.slice qb bs.length cb), (6, bo false), (8, pt g 0), (9, iw (i : Int))] _ ⟨rfl, rfl, rfl, rfl, rfl, trivial⟩ rfl ?_
  refine SC.region ?_
  refine SL.mv ?_
  refine SL.uu (ru_add (r := (IntKind.i64.wrap ((i : Int) + 1))) rfl rfl rfl rfl) ?_
  refine SL.as ?_
  refine SL.nil ?_
  refine SE.pick [0, 1, 2, 3, 4] rfl ?_
  refine SE.again N (i + 1, ⟨S, F, Z, KZ, come, mine, qc, cc, qm, cm⟩) (by omega) ⟨by simp only; omega, hj, hZ.up, hX, hlk⟩ ⟨rfl, rfl, rfl, rfl, (congrArg (fun x => some (iw x)) (show IntKind.i64.wrap ((i : Int) + 1) = ((i + 1 : Nat) : Int) by rw [IntKind.wrap_i64]; omega)), trivial⟩ rfl

end Go.Proofs.Ytghfkgcaglabpaa

/-
  RingDown answers true.
-/
namespace Go.Proofs.Ytghfkgcaglabpaa
open Go.RowKit
set_option maxRecDepth 100000
set_option maxHeartbeats 4000000
theorem down_lt {w : World} {n : Nat} (h1n : 1 ≤ n) (h19 : n < 20) {vv vb : Value} {l : List OpX} {bs : List UInt8} (h : OpsX w vv l) (hB : BytesAt w vb bs ∧ sliceIn vb (fun b => b < w.heap.size)) (G : Nat → Prop) (hGf : ∀ b, ¬ G b) : Calls Try.prog 4 #[iw (n : Int), vv, vb] w fun e w' => e = .returned (bo true) ∧ Only G w w' := by
  obtain ⟨oa, oc, rfl, hlen, hops⟩ := h
  obtain ⟨hbs, hbb⟩ := hB
  obtain ⟨qb, cb, rfl⟩ := hbs.form
  have h60 : n ≤ 60 := by omega
  refine calls_sc (l0 := []) (args := [iw (n : Int), Value.slice oa l.length oc, Value.slice qb bs.length cb]) G Try.func4 rfl 254 Try.ntmps4 (le_b rfl) ⟨⟨by simp, List.Pairwise.nil⟩, Only.refl _ _⟩ ?_
  show SC _ _ _ _ [(0, iw (n : Int)), (1, Value.slice oa l.length oc), (2, Value.slice qb bs.length cb)] []
  refine SC.sr ?_
  refine SL.as ?_
  refine SL.nn [(0, iw (n : Int)), (1, Value.slice oa l.length oc), (2, Value.slice qb bs.length cb), (6, bo false)] [] ⟨rfl, rfl, rfl, rfl, trivial⟩ ?_
  refine SC.sr ?_
  refine SL.callv (bo true) rfl rfl co6 rfl rfl rfl (lt_b rfl) (fun w hI => H_only hI (awake_any _)) ?_
  refine SL.as ?_
  refine SL.nn [(0, iw (n : Int)), (1, Value.slice oa l.length oc), (2, Value.slice qb bs.length cb), (6, bo false), (7, bo true)] _ ⟨rfl, rfl, rfl, rfl, rfl, trivial⟩ ?_
  refine SC.sr ?_
  refine SL.mv ?_
  refine SL.call (ζ := Nat × Nat × Nat × Nat × Nat × Nat × Nat × Nat × (Nat → Prop) × (Nat → Prop)) (fun z => pt z.1 0) (fun z => [rBlk z.1 [pt z.2.1 0, pt z.2.2.1 0, pt z.2.2.2.2.1 0, pt z.2.2.2.2.2.1 0, pt z.2.2.2.2.2.2.1 0, pt z.2.2.2.2.2.2.2.1 0, Value.slice none 0 0, Value.slice none 0 0] 43, rRing z.2.2.2.2.1 z.2.1 z.2.2.1 z.2.2.2.1 z.2.2.2.2.2.2.2.2.1 (beg0 n), rRefR z.2.2.2.2.2.2.2.1 z.2.2.2.2.2.1 z.2.2.2.2.2.2.1 z.2.2.2.2.2.2.2.2.2 (ref0 n)]) (fun z => GX G w.heap.size z.1 z.2.1 z.2.2.1 z.2.2.2.1 z.2.2.2.2.1 (ds0 n z.2.2.2.2.2.2.2.2.1 z.2.2.2.2.2.2.2.2.2)) rfl rfl co7 rfl rfl rfl (lt_b rfl) (fun w9 hI => (begun_in h1n h60).mono fun e2 w2 ⟨g, h1, l3, h2, h3⟩ => by obtain ⟨d, p, ab, r, e, q, s, F, K, k1, k2⟩ := h2.three hI h3; exact ⟨(g, d, p, ab, r, e, q, s, F, K), h1, k1, k2⟩) ?_
  rintro ⟨g, d, p, ab, r, e, q, s, F, KZ⟩ hX0
  dsimp only at hX0
  refine SL.as ?_
  refine SL.nn [(0, iw (n : Int)), (1, Value.slice oa l.length oc), (2, Value.slice qb bs.length cb), (6, bo false), (7, bo true), (8, pt g 0)] [rBlk g [pt d 0, pt p 0, pt r 0, pt e 0, pt q 0, pt s 0, Value.slice none 0 0, Value.slice none 0 0] 43, rRing r d p ab F (beg0 n), rRefR s e q KZ (ref0 n)] ⟨rfl, rfl, rfl, rfl, rfl, rfl, trivial⟩ ?_
  refine SC.seq ?_
  refine SC.sr ?_
  refine SL.mv ?_
  refine SL.uu (ru_not (c := false) rfl rfl rfl) ?_
  refine SL.mv ?_
  refine SL.gg (ru_move rfl rfl) ?_
  refine SL.gg (ru_eqnil Try.underlying24 rfl rfl rfl rfl) ?_
  refine SL.uu (ru_pick (u := bo true) (v := bo false) rfl rfl rfl rfl) ?_
  refine SL.mv ?_
  refine SL.gg (ru_move rfl rfl) ?_
  refine SL.gg (ru_lt (b := true) rfl rfl rfl ((show decide (((n : Int) : Int) < 20) = true from decide_eq_true (by omega)))) ?_
  refine SL.uu (ru_pick (u := bo true) (v := bo true) rfl rfl rfl rfl) ?_
  refine SL.nn [(0, iw (n : Int)), (1, Value.slice oa l.length oc), (2, Value.slice qb bs.length cb), (6, bo false), (7, bo true), (8, pt g 0), (35, bo true)] _ ⟨rfl, rfl, rfl, rfl, rfl, rfl, rfl, trivial⟩ ?_
  refine SC.yes rfl ?_
  refine SC.sr ?_
  refine SL.mv ?_
  refine SL.mv ?_
  refine SL.gg (ru_move rfl rfl) ?_
  refine SL.gg (ru_lt (b := false) rfl rfl rfl ((show decide (((n : Int) : Int) < 1) = false from decide_eq_false (by omega)))) ?_
  refine SL.gg (ru_move rfl rfl) ?_
  refine SL.gg (ru_move rfl rfl) ?_
  refine SL.gg (ru_gt (b := false) rfl rfl rfl ((show decide ((60 : Int) < (n : Int)) = false from decide_eq_false (by omega)))) ?_
  refine SL.gg (ru_pick (u := bo true) (v := bo false) rfl rfl rfl rfl) ?_
  refine SL.gg (ru_move rfl rfl) ?_
  refine SL.gg (ru_move rfl rfl) ?_
  refine SL.gg (ru_lt (b := true) rfl rfl rfl ((show decide (((n : Int) : Int) < 20) = true from decide_eq_true (by omega)))) ?_
  refine SL.gg (ru_pick (u := bo true) (v := bo true) rfl rfl rfl rfl) ?_
  refine SL.uu (ru_pick (u := bo true) (v := bo false) rfl rfl rfl rfl) ?_
  refine SL.as ?_
  refine SL.nn [(1, Value.slice oa l.length oc), (2, Value.slice qb bs.length cb), (6, bo true), (8, pt g 0)] _ ⟨rfl, rfl, rfl, rfl, trivial⟩ ?_
  refine SC.ret ?_
  refine SE.passr ?_
  refine SE.res (.inl rfl) (res1 Try.results4 rfl) fun w1 hI => ⟨rfl, hI.2⟩
theorem down_no {w : World} {many : Int} (hb : (decide ((many : Int) < 1) || decide ((60 : Int) < many)) = true) {vv vb : Value} {l : List OpX} {bs : List UInt8} (h : OpsX w vv l) (hB : BytesAt w vb bs ∧ sliceIn vb (fun b => b < w.heap.size)) : Calls Try.prog 4 #[iw many, vv, vb] w fun e w' => e = .returned (bo true) ∧ Only (fun _ => False) w w' := by
  obtain ⟨oa, oc, rfl, hlen, hops⟩ := h
  obtain ⟨hbs, hbb⟩ := hB
  obtain ⟨qb, cb, rfl⟩ := hbs.form
  refine calls_sc (l0 := []) (args := [iw many, Value.slice oa l.length oc, Value.slice qb bs.length cb]) (fun _ => False) Try.func4 rfl 254 Try.ntmps4 (le_b rfl) ⟨⟨by simp, List.Pairwise.nil⟩, Only.refl _ _⟩ ?_
  show SC _ _ _ _ [(0, iw many), (1, Value.slice oa l.length oc), (2, Value.slice qb bs.length cb)] []
  refine SC.sr ?_
  refine SL.as ?_
  refine SL.nn [(0, iw many), (1, Value.slice oa l.length oc), (2, Value.slice qb bs.length cb), (6, bo false)] [] ⟨rfl, rfl, rfl, rfl, trivial⟩ ?_
  refine SC.sr ?_
  refine SL.callv (bo true) rfl rfl co6 rfl rfl rfl (lt_b rfl) (fun w hI => H_only hI (awake_any _)) ?_
  refine SL.as ?_
  refine SL.nn [(0, iw many), (1, Value.slice oa l.length oc), (2, Value.slice qb bs.length cb), (6, bo false), (7, bo true)] _ ⟨rfl, rfl, rfl, rfl, rfl, trivial⟩ ?_
  refine SC.sr ?_
  refine SL.mv ?_
  refine SL.callv (Value.pointer none) rfl rfl co7 rfl rfl rfl (lt_b rfl) (fun w hI => H_only hI (begun_no hb)) ?_
  refine SL.as ?_
  refine SL.nn [(0, iw many), (1, Value.slice oa l.length oc), (2, Value.slice qb bs.length cb), (6, bo false), (7, bo true), (8, Value.pointer none)] _ ⟨rfl, rfl, rfl, rfl, rfl, rfl, trivial⟩ ?_
  refine SC.seq ?_
  refine SC.sr ?_
  refine SL.mv ?_
  refine SL.uu (ru_not (c := false) rfl rfl rfl) ?_
  refine SL.mv ?_
  refine SL.gg (ru_move rfl rfl) ?_
  refine SL.gg (ru_eqnil Try.underlying24 rfl rfl rfl rfl) ?_
  refine SL.uu (ru_pick (u := bo true) (v := bo true) rfl rfl rfl rfl) ?_
  refine SL.mv ?_
  refine SL.oo ?_
  refine SL.oo ?_
  refine SL.uu (ru_pick (u := bo true) (v := undef) rfl rfl rfl rfl) ?_
  refine SL.nn [(0, iw many), (1, Value.slice oa l.length oc), (2, Value.slice qb bs.length cb), (6, bo false), (7, bo true), (8, Value.pointer none), (35, bo true)] _ ⟨rfl, rfl, rfl, rfl, rfl, rfl, rfl, trivial⟩ ?_
  refine SC.yes rfl ?_
  refine SC.sr ?_
  refine SL.mv ?_
  refine SL.mv ?_
  refine SL.gg (ru_move rfl rfl) ?_
  refine SL.gg (ru_lt (b := (decide ((many : Int) < 1))) rfl rfl rfl rfl) ?_
  refine SL.gg (ru_move rfl rfl) ?_
  refine SL.join 3 [(0, iw many), (1, Value.slice oa l.length oc), (2, Value.slice qb bs.length cb), (6, bo false), (7, bo true), (8, Value.pointer none), (35, bo true), (36, bo true), (37, bo true), (38, iw many), (39, bo (decide ((many : Int) < 1))), (40, bo (decide ((many : Int) < 1))), (43, bo ((decide ((many : Int) < 1)) || (decide ((60 : Int) < many))))] [] ?_ ?_
  rotate_left
  · intro K hK
    rcases tf (decide ((many : Int) < 1)) with h1 | h1
    · skip
      refine SL.norm [(0, iw many), (1, Value.slice oa l.length oc), (2, Value.slice qb bs.length cb), (6, bo false), (7, bo true), (8, Value.pointer none), (35, bo true), (36, bo true), (37, bo true), (38, iw many), (39, bo true), (40, bo true)] _ ⟨rfl, rfl, rfl, rfl, rfl, rfl, rfl, rfl, rfl, rfl, (congrArg (fun x => some (Value.bool x)) h1), (congrArg (fun x => some (Value.bool x)) h1), trivial⟩ rfl ?_
      refine SL.oo ?_
      refine SL.oo ?_
      refine SL.gg (ru_pick (u := bo true) (v := undef) rfl rfl rfl rfl) ?_
      exact SL.joined hK ⟨rfl, rfl, rfl, rfl, rfl, rfl, rfl, rfl, rfl, rfl, (congrArg (fun x => some (Value.bool x)) h1.symm), (congrArg (fun x => some (Value.bool x)) h1.symm), (congrArg (fun bx => some (Value.bool (bx || (decide ((60 : Int) < many))))) h1.symm), trivial⟩ rfl
    refine SL.norm [(0, iw many), (1, Value.slice oa l.length oc), (2, Value.slice qb bs.length cb), (6, bo false), (7, bo true), (8, Value.pointer none), (35, bo true), (36, bo true), (37, bo true), (38, iw many), (39, bo false), (40, bo false)] _ ⟨rfl, rfl, rfl, rfl, rfl, rfl, rfl, rfl, rfl, rfl, (congrArg (fun x => some (Value.bool x)) h1), (congrArg (fun x => some (Value.bool x)) h1), trivial⟩ rfl ?_
    refine SL.gg (ru_move rfl rfl) ?_
    refine SL.gg (ru_gt (b := (decide ((60 : Int) < many))) rfl rfl rfl rfl) ?_
    refine SL.gg (ru_pick (u := bo true) (v := bo (decide ((60 : Int) < many))) rfl rfl rfl rfl) ?_
    exact SL.joined hK ⟨rfl, rfl, rfl, rfl, rfl, rfl, rfl, rfl, rfl, rfl, (congrArg (fun x => some (Value.bool x)) h1.symm), (congrArg (fun x => some (Value.bool x)) h1.symm), (congrArg (fun bx => some (Value.bool (bx || (decide ((60 : Int) < many))))) h1.symm), trivial⟩ rfl
  skip
  refine SL.gg (ru_move rfl rfl) ?_
  refine SL.join 3 [(0, iw many), (1, Value.slice oa l.length oc), (2, Value.slice qb bs.length cb), (6, bo false), (7, bo true), (8, Value.pointer none), (35, bo true), (36, bo true), (37, bo true), (38, iw many), (39, bo (decide ((many : Int) < 1))), (40, bo (decide ((many : Int) < 1))), (43, bo ((decide ((many : Int) < 1)) || (decide ((60 : Int) < many)))), (44, bo ((decide ((many : Int) < 1)) || (decide ((60 : Int) < many)))), (47, bo (((decide ((many : Int) < 1)) || (decide ((60 : Int) < many))) || (decide ((many : Int) < 20))))] [] ?_ ?_
  rotate_left
  · intro K hK
    rcases tf ((decide ((many : Int) < 1)) || (decide ((60 : Int) < many))) with h2 | h2
    · skip
      refine SL.norm [(0, iw many), (1, Value.slice oa l.length oc), (2, Value.slice qb bs.length cb), (6, bo false), (7, bo true), (8, Value.pointer none), (35, bo true), (36, bo true), (37, bo true), (38, iw many), (39, bo (decide ((many : Int) < 1))), (40, bo (decide ((many : Int) < 1))), (43, bo true), (44, bo true)] _ ⟨rfl, rfl, rfl, rfl, rfl, rfl, rfl, rfl, rfl, rfl, rfl, rfl, (congrArg (fun x => some (Value.bool x)) h2), (congrArg (fun x => some (Value.bool x)) h2), trivial⟩ rfl ?_
      refine SL.oo ?_
      refine SL.oo ?_
      refine SL.gg (ru_pick (u := bo true) (v := undef) rfl rfl rfl rfl) ?_
      exact SL.joined hK ⟨rfl, rfl, rfl, rfl, rfl, rfl, rfl, rfl, rfl, rfl, rfl, rfl, (congrArg (fun x => some (Value.bool x)) h2.symm), (congrArg (fun x => some (Value.bool x)) h2.symm), (congrArg (fun bx => some (Value.bool (bx || (decide ((many : Int) < 20))))) h2.symm), trivial⟩ rfl
    refine SL.norm [(0, iw many), (1, Value.slice oa l.length oc), (2, Value.slice qb bs.length cb), (6, bo false), (7, bo true), (8, Value.pointer none), (35, bo true), (36, bo true), (37, bo true), (38, iw many), (39, bo (decide ((many : Int) < 1))), (40, bo (decide ((many : Int) < 1))), (43, bo false), (44, bo false)] _ ⟨rfl, rfl, rfl, rfl, rfl, rfl, rfl, rfl, rfl, rfl, rfl, rfl, (congrArg (fun x => some (Value.bool x)) h2), (congrArg (fun x => some (Value.bool x)) h2), trivial⟩ rfl ?_
    refine SL.gg (ru_move rfl rfl) ?_
    refine SL.gg (ru_lt (b := (decide ((many : Int) < 20))) rfl rfl rfl rfl) ?_
    refine SL.gg (ru_pick (u := bo true) (v := bo (decide ((many : Int) < 20))) rfl rfl rfl rfl) ?_
    exact SL.joined hK ⟨rfl, rfl, rfl, rfl, rfl, rfl, rfl, rfl, rfl, rfl, rfl, rfl, (congrArg (fun x => some (Value.bool x)) h2.symm), (congrArg (fun x => some (Value.bool x)) h2.symm), (congrArg (fun bx => some (Value.bool (bx || (decide ((many : Int) < 20))))) h2.symm), trivial⟩ rfl
  skip
  refine SL.uu (ru_pick (u := bo (((decide ((many : Int) < 1)) || (decide ((60 : Int) < many))) || (decide ((many : Int) < 20)))) (v := bo false) rfl rfl rfl rfl) ?_
  refine SL.as ?_
  refine SL.nn [(1, Value.slice oa l.length oc), (2, Value.slice qb bs.length cb), (6, bo (((decide ((many : Int) < 1)) || (decide ((60 : Int) < many))) || (decide ((many : Int) < 20)))), (8, Value.pointer none)] _ ⟨rfl, rfl, rfl, rfl, trivial⟩ ?_
  refine SC.ret ?_
  refine SE.passr ?_
  refine SE.res (.inl rfl) (res1 Try.results4 rfl) fun w1 hI => ⟨ret_bo (Eq.symm (show ((((decide ((many : Int) < 1)) || (decide ((60 : Int) < many))) || (decide ((many : Int) < 20)))) = true from by rw [hb]; rfl)), hI.2⟩
theorem down_walk (w : World) (many : Int) {vv vb : Value} {l : List OpX} {bs : List UInt8} (h : OpsX w vv l) (hB : BytesAt w vb bs ∧ sliceIn vb (fun b => b < w.heap.size)) : Calls Try.prog 4 #[iw many, vv, vb] w fun e w' => e = .returned (.bool true) ∧ Only (fun _ => False) w w' := by
  by_cases hb : (decide ((many : Int) < 1) || decide ((60 : Int) < many)) = true
  · exact down_no hb h hB
  · simp only [Bool.or_eq_true, decide_eq_true_eq, not_or, Int.not_lt] at hb
    obtain ⟨n, rfl⟩ := Int.eq_ofNat_of_zero_le (show 0 ≤ many by omega)
    by_cases h20 : n < 20
    · exact down_lt (by omega) h20 h hB _ (fun _ h => h)
    · exact down_in (by omega) (by omega) h hB _ (fun _ h => h)

end Go.Proofs.Ytghfkgcaglabpaa

/-
  From a row's reading of the arguments to what the walks ask of memory; no statement is named here.
-/
namespace Go.Proofs.Ytghfkgcaglabpaa
open Go.ChangeShapes Go.WideShapes Go.ChangeAt Go.RowKit Go.Deep

def I64 (n : Int) : Prop := -9223372036854775808 ≤ n ∧ n ≤ 9223372036854775807
theorem sliceIn_nil {S : Nat → Prop} {n c : Nat} : sliceIn (.slice none n c) S := fun b o n c e _ => by simp at e

section
variable {H : Type} {enc : TypeId × Value → H} {P : Program} {w : World} {base : Nat} {spare : Nat → Bool} {held : Bool}

theorem open_slice_fields {t e : TypeId} {fs : Array Field} {fuel : Nat} {cs : List Value} {x : DataW H × List MemPlace} (ht : P.underlying t = some (.slice e)) (he : P.underlying e = some (.struct fs))
    (hone : oneCellFields P fs = true) (hC : P.cellsOf e = fs.size) (h : DataW.trod enc P w base spare held fuel t cs = some x) :
    (cs = [.slice none 0 0] ∧ x = (.nil, [])) ∨
    ∃ (a : Addr) (len cap m : Nat) (D : Nat → DataW H) (Pl : Nat → List MemPlace), cs = [.slice (some a) len cap] ∧ base ≤ a.block ∧ len ≤ cap ∧ cap ≤ maxLen ∧ m = (if spare a.block then cap else len) ∧
      x = (.slice ((List.range len).map D) ((List.range (m - len)).map fun j => D (len + j)), MemPlace.row a (m * fs.size) ++ (List.range m).flatMap Pl) ∧
      ∀ i, i < m → ∃ (ys : List (DataW H × List MemPlace)) (n : Nat), D i = .agg (ys.map (·.1)) ∧ Pl i = ys.flatMap (·.2) ∧ ys.length = fs.size ∧
        ∀ (j : Nat) (f : Field), fs[j]? = some f → ∃ (v : Value) (y : DataW H × List MemPlace), w.cell? (a.add (i * fs.size + j)) = some v ∧ ys[j]? = some y ∧ DataW.trod enc P w base spare held n f.type [v] = some y := by
  rcases open_slice ht h with h0 | ⟨a, len, cap, m, n, D, Pl, hcs, hb, hl, hm, hmm, hx, hi⟩
  · exact .inl h0
  · refine .inr ⟨a, len, cap, m, D, Pl, hcs, hb, hl, hm, hmm, by rw [hC] at hx; exact hx, fun i him => ?_⟩
    obtain ⟨cs', hc, ht'⟩ := hi i him
    rw [hC] at hc
    obtain ⟨ys, n', hn', hy, hlen, hyl, hf⟩ := DataW.trod_struct he ht'
    obtain ⟨_, hcl, hat⟩ := World.cells?_some hc
    simp only [Prod.mk.injEq] at hy
    refine ⟨ys, n', hy.1, hy.2, hyl, fun j f hj => ?_⟩
    obtain ⟨ho, hk⟩ := hone_of hone j f hj
    have hjl : j < fs.size := (Array.getElem?_eq_some_iff.1 hj).1
    have hcell := hat j hjl
    have hv : cs'[j]? = some (cs'[j]'(by omega)) := List.getElem?_eq_getElem (by omega)
    have h1 := hf j f hj
    rw [ho, hk] at h1
    have hone' : (cs'.drop j).take 1 = [cs'[j]'(by omega)] := by
      rw [List.drop_eq_getElem_cons (by omega)]
      rfl
    rw [hone'] at h1
    have hys : ys[j]? = some (ys[j]'(by omega)) := List.getElem?_eq_getElem (by omega)
    refine ⟨_, _, ?_, hys, h1.trans hys⟩
    rw [← Go.Deep.add_add, hcell, hv]

theorem plain_of_cell {a : Addr} {v : Value} (h : w.cell? (a.add 0) = some v) : a.spot = none := by
  cases hsp : a.spot with
  | none => rfl
  | some s =>
    unfold World.cell? Addr.add at h
    simp only [if_true, hsp, Option.isSome_some] at h
    split at h <;> simp at h
theorem plain_add {a : Addr} (hs : a.spot = none) (i : Nat) : a.add i = ⟨a.block, a.off + i, none⟩ := by
  cases a; simp only at hs; subst hs
  unfold Addr.add; split <;> simp_all
theorem wf_u8 {n : Int} (h : (Lit.int .u8 n).wf = true) : 0 ≤ n ∧ n < 256 := by
  simp only [Lit.wf, Bool.and_eq_true, decide_eq_true_eq] at h
  exact ⟨Int.le_trans (by decide) h.1, Int.lt_of_le_of_lt h.2 (by decide)⟩

theorem open_bytes {t e : TypeId} {fuel : Nat} {v : Value} {x : DataW H × List MemPlace} (ht : P.underlying t = some (.slice e)) (he : P.underlying e = some (.int .u8)) (hc : P.cellsOf e = 1) (hB : P.bytesOf e = 1)
    (h : DataW.trod enc P w base (fun _ => true) held fuel t [v] = some x) (hw : ∀ n ∈ x.1.weights P t, n ≤ reachBytes) :
    ∃ a n c l, v = .slice a n c ∧ BytesAt w (.slice a n c) l ∧ sliceIn (.slice a n c) (fun b => b < w.heap.size) := by
  rcases open_ints ht he hc h with ⟨hcs, _⟩ | ⟨a, len, cap, zs, hcs, _, hl, hm, hz, hx, hcell, hwf⟩
  · simp at hcs; subst hcs
    exact ⟨none, 0, 0, [], rfl, .nil _, sliceIn_nil⟩
  · simp at hcs; subst hcs
    simp only [if_true] at hz
    have hcap : cap ≤ 140737488351232 := by
      have := hw ((zs.take len).length * 1 + (zs.drop len).length * 1) (by
        rw [hx]
        simp only [DataW.weights, ht, hB, List.mem_cons]
        left
        simp [lits])
      simp only [reachBytes] at this
      have e1 : (zs.take len).length + (zs.drop len).length = zs.length := by rw [List.length_take, List.length_drop]; omega
      omega
    refine ⟨some a, len, cap, (zs.take len).map fun z => UInt8.ofNat z.toNat, rfl, ?_, ?_⟩
    · by_cases h0 : len = 0
      · subst h0
        exact .inl ⟨_, _, rfl, (fun h => by cases h), by simp⟩
      · have hs : a.spot = none := plain_of_cell (hcell 0 (by omega))
        have hll : ((zs.take len).map fun z => UInt8.ofNat z.toNat).length = len := by simp; omega
        refine .inr ⟨a.block, a.off, cap, ?_, by omega, by omega, fun j hj => ?_⟩
        · rw [hll]; cases a; simp only at hs; subst hs; rfl
        · rw [hll] at hj
          have hcj := hcell j (by omega)
          rw [plain_add hs] at hcj
          rw [hcj]
          have hzj : zs.getD j 0 = zs[j] := by simp [List.getElem?_eq_getElem (show j < zs.length by omega)]
          have hr := wf_u8 (hwf zs[j] (List.getElem_mem _))
          have e2 : ((UInt8.ofNat zs[j].toNat).toNat : Int) = zs[j] := by
            rw [UInt8.toNat_ofNat']; omega
          simp only [List.getElem_map, List.getElem_take, hzj, bv, e2]
    · intro b o n c e hn
      simp at e
      obtain ⟨rfl, rfl, rfl⟩ := e
      have := block_lt_of_cell (hcell 0 (by omega))
      exact this

theorem weights_agg {fs : Array Field} {t : TypeId} (hu : P.underlying t = some (.struct fs)) {ys : List (DataW H × List MemPlace)} (hl : ys.length = fs.size) {B : Nat} (hw : ∀ n ∈ (DataW.agg (ys.map (·.1))).weights P t, n ≤ B)
    {j : Nat} {f : Field} {y : DataW H × List MemPlace} (hf : fs[j]? = some f) (hy : ys[j]? = some y) : ∀ n ∈ y.1.weights P f.type, n ≤ B := by
  intro n hn
  refine hw n ?_
  simp only [DataW.weights, hu]
  exact DataW.weights_mem_each (j := j) (t := f.type) (d := y.1) (by simp [hf]) (by simp [hy]) n hn

theorem weights_all {t : TypeId} {l : List (DataW H)} {n : Nat} {d : DataW H} (hd : d ∈ l) (hn : n ∈ d.weights P t) : n ∈ DataW.weightsAll P t l := by
  induction l with
  | nil => cases hd
  | cons x l ih =>
    simp only [DataW.weightsAll, List.mem_append]
    rcases List.mem_cons.1 hd with rfl | h
    · exact .inl hn
    · exact .inr (ih h)
end
end Go.Proofs.Ytghfkgcaglabpaa

/-
  The arguments of the ring's statements, opened.
-/
namespace Go.Proofs.Ytghfkgcaglabpaa
open Go.ChangeShapes Go.WideShapes Go.ChangeAt Go.RowKit Go.Deep
set_option maxRecDepth 100000
variable {H : Type} {enc : TypeId × Value → H} {w : World} {base b0 : Nat} {held : Bool} {r : Reach}

theorem open_bytes_arg {v : Value} {d : DataW H} {p : List MemPlace} (hv : Value.okWide Try.prog w r b0 28 v) (h : DataW.Trod enc Try.prog w base (fun _ => true) held 28 v d p) (hw : ∀ n ∈ DataW.weights Try.prog 28 d, n ≤ reachBytes) :
    ∃ l, BytesAt w v l ∧ sliceIn v (fun b => b < w.heap.size) := by
  obtain ⟨a, n, c, rfl⟩ := okWide_slice Try.underlying28 hv
  obtain ⟨fuel, hf⟩ := h
  obtain ⟨a', n', c', l, e, h1, h2⟩ := open_bytes (x := (d, p)) Try.underlying28 Try.underlying5 (by kernel_rfl) (by kernel_rfl) hf hw
  rw [e]
  exact ⟨l, h1, h2⟩
theorem ops_nil (a : Option Addr) (c : Nat) : OpsX w (.slice a 0 c) [] := ⟨a, c, rfl, by simp, fun i hi => by simp at hi⟩
theorem open_ops_arg {v : Value} {d : DataW H} {p : List MemPlace} (hv : Value.okWide Try.prog w r b0 22 v) (h : DataW.Trod enc Try.prog w base (fun _ => true) held 22 v d p) (hw : ∀ n ∈ DataW.weights Try.prog 22 d, n ≤ reachBytes) :
    ∃ l, OpsX w v l := by
  obtain ⟨a0, n0, c0, rfl⟩ := okWide_slice Try.underlying22 hv
  obtain ⟨fuel, hf⟩ := h
  have hB : Try.prog.bytesOf 30 = 48 := by kernel_rfl
  rcases open_slice_fields (x := (d, p)) Try.underlying22 Try.underlying30 (by kernel_rfl) (by kernel_rfl) hf with ⟨hcs, _⟩ | ⟨a, len, cap, m, D, Pl, hcs, _, hl, _, hm, hx, hi⟩
  · simp [Value.cells] at hcs
    obtain ⟨rfl, rfl, rfl⟩ := hcs
    exact ⟨[], ops_nil _ _⟩
  · simp [Value.cells] at hcs
    obtain ⟨rfl, rfl, rfl⟩ := hcs
    simp only [if_true] at hm
    subst hm
    obtain ⟨hx, _⟩ := Prod.mk.inj hx
    subst hx
    by_cases h0 : n0 = 0
    · subst h0; exact ⟨[], ops_nil _ _⟩
    have hlen : n0 * 48 ≤ 140737488351232 := by
      have := hw ((((List.range n0).map D).length + ((List.range (m - n0)).map fun j => D (n0 + j)).length) * 48) (by
        simp only [DataW.weights, Try.underlying22, List.mem_cons, hB]
        left; trivial)
      simp only [List.length_map, List.length_range, reachBytes] at this
      omega
    have each : ∀ i, i < n0 → ∃ o : OpX, a.spot = none ∧ OpXAt w a.block (a.off + i * 4) o := by
      intro i hin
      obtain ⟨z, n, hD0, _, hys0, hf0⟩ := hi 0 (by omega)
      obtain ⟨v, y, hc0, _, _⟩ := hf0 0 _ rfl
      have hs : a.spot = none := plain_of_cell hc0
      obtain ⟨ys, n, hD, _, hys, hf⟩ := hi i (by omega)
      have hDm : D i ∈ (List.range n0).map D := List.mem_map.2 ⟨i, List.mem_range.2 hin, rfl⟩
      have hwi : ∀ n ∈ (DataW.agg (ys.map (·.1))).weights Try.prog 30, n ≤ reachBytes := by
        intro q hq
        refine hw q ?_
        simp only [DataW.weights, Try.underlying22, List.mem_cons, List.mem_append]
        right; left
        rw [← hD] at hq
        exact weights_all hDm hq
      obtain ⟨v0, y0, c0, q0, h0⟩ := hf 0 _ rfl
      obtain ⟨v1, y1, c1, q1, h1⟩ := hf 1 _ rfl
      obtain ⟨v3, y3, c2, q3, h3⟩ := hf 2 _ rfl
      obtain ⟨v4, y4, c3, q4, h4⟩ := hf 3 _ rfl
      have w3 := weights_agg Try.underlying30 hys hwi rfl q3
      obtain ⟨z0, hz0, _, u0⟩ := DataW.trod_int Try.underlying3 h0
      obtain ⟨z1, hz1, _, u1⟩ := DataW.trod_int Try.underlying3 h1
      obtain ⟨b, nn, cc, l, e, k1, k2⟩ := open_bytes Try.underlying28 Try.underlying5 (by kernel_rfl) (by kernel_rfl) h3 w3
      obtain ⟨z4, hz4, _⟩ := DataW.trod_bool Try.underlying4 h4
      simp at hz0 hz1 hz4
      subst hz0 hz1 hz4 e
      rw [plain_add hs] at c0 c1 c2 c3
      refine ⟨⟨z0, z1, .slice b nn cc, l, z4⟩, hs, fun j u hj => ?_, k1, k2⟩
      match j, hj with
      | 0, hj => simp at hj; subst hj; exact c0
      | 1, hj => simp at hj; subst hj; exact c1
      | 2, hj => simp at hj; subst hj; exact c2
      | 3, hj => simp at hj; subst hj; exact c3
      | j + 4, hj => simp at hj
    obtain ⟨_, hs, hfirst⟩ := each 0 (by omega)
    obtain ⟨g, hg⟩ : ∃ g : Nat → OpX, ∀ i, i < n0 → OpXAt w a.block (a.off + i * 4) (g i) := by
      refine ⟨fun i => if h : i < n0 then Classical.choose (each i h) else ⟨0, 0, .slice none 0 0, [], false⟩, fun i h => ?_⟩
      simp only [h, dite_true]
      exact (Classical.choose_spec (each i h)).2
    refine ⟨(List.range n0).map g, some a, _, by simp; rfl, by simp; omega, fun i hi => ⟨a.block, a.off, ?_, ?_⟩⟩
    · cases a; simp only at hs; subst hs; rfl
    · simp at hi
      simpa using hg i hi
end Go.Proofs.Ytghfkgcaglabpaa
