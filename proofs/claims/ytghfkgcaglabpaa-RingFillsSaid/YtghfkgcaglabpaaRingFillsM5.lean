/-
  What the proof of RingFills stands on, part 5: each theorem by itself, under the conditions that it names.
-/
import Derived.Test.YtghfkgcaglabpaaRingFillsM4
import Derived.ProofKit
import Derived.OpenShut
import Derived.ShutString
import Derived.ChangeOld
import Derived.SizedLaws
import Derived.ChangeSlices
import Derived.Deep.Slices
import Derived.Deep.Fields
import Derived.ChangeSame
/-
  does.
-/
namespace Go.Proofs.Ytghfkgcaglabpaa
open Go.RowKit
set_option maxRecDepth 100000
set_option maxHeartbeats 1000000
theorem RRAt.e {w : World} {s e q : Nat} {G : Nat → Prop} {Z : RefS} (h : RRAt w s e q G Z) : G e := by
  obtain ⟨rb, FE, FQ, qt, ct, qc, cc, h1, g1, g2, _⟩ := h
  exact g2
theorem does_any {w : World} {n B g d p ab r e q s : Nat} {G F KZ : Nat → Prop} {S : RingA} {Z : RefS} {come mine : List Int} {qc qm : Option Addr} {cc cm : Nat} {k m : Int} {fa : Option Addr} {fc : Nat} {f : List UInt8} {y : Bool} (hj : FJ n S come mine) (hn60 : n ≤ 60) (hZ : RB B Z) (h1B : 1 ≤ B) (hB : B ≤ 10000000000000) (hX : GX G w.heap.size g d p ab r ⟨S, F, Z, KZ, come, mine, qc, cc, qm, cm⟩) (hbs : BytesAt w (.slice fa f.length fc) f) (hbx : sliceIn (.slice fa f.length fc) (fun b => ¬ G b)) (hbl : sliceIn (.slice fa f.length fc) (fun b => ¬ fpl (RX g d p ab r e q s ⟨S, F, Z, KZ, come, mine, qc, cc, qm, cm⟩) b)) (h : Sep w (RX g d p ab r e q s ⟨S, F, Z, KZ, come, mine, qc, cc, qm, cm⟩)) : Calls Try.prog 16 #[pt g 0, Value.agg #[iw k, iw m, Value.slice fa f.length fc, bo y]] w fun e' w' => (∃ v : Bool, e' = .returned (bo v)) ∧ DTo n (B + 1) w g d p ab r e q s G (if k = 6 then (linkF S.A y).r 1 else S.A.r 1) w' := by
  have hg : G g ∨ w.heap.size ≤ g := hX.g
  have hG : ∀ b, rS r d p ab b → G b ∨ w.heap.size ≤ b := hX.r
  have hF : ∀ b, F b → G b ∨ w.heap.size ≤ b := hX.f
  have hKZ : ∀ b, KZ b → G b ∨ w.heap.size ≤ b := hX.k
  have hqc : ∀ b, (Value.slice qc come.length cc).ownBlock = some b → G b ∨ w.heap.size ≤ b := hX.c
  have hqm : ∀ b, (Value.slice qm mine.length cm).ownBlock = some b → G b ∨ w.heap.size ≤ b := hX.m
  have hcl := hj.lens.1
  have hml := hj.lens.2
  have hKe : KZ e := RRAt.e (h.1 (rRefR s e q KZ Z) (by simp))
  refine calls_sc (l0 := (RX g d p ab r e q s ⟨S, F, Z, KZ, come, mine, qc, cc, qm, cm⟩)) (args := [pt g 0, Value.agg #[iw k, iw m, Value.slice fa f.length fc, bo y]]) G Try.func16 rfl 146 Try.ntmps16 (le_b rfl) ⟨h, Only.refl _ _⟩ ?_
  show SC _ _ _ _ [(0, pt g 0), (1, Value.agg #[iw k, iw m, Value.slice fa f.length fc, bo y])] (RX g d p ab r e q s ⟨S, F, Z, KZ, come, mine, qc, cc, qm, cm⟩)
  refine SC.sr ?_
  refine SL.box (c := [iw k, iw m, Value.slice fa f.length fc, bo y]) rfl rfl (lt_b rfl) rfl rfl rfl fun b1 hb1 => ?_
  refine SL.as ?_
  refine SL.nn [(0, pt g 0), (3, pt b1 0), (4, bo false)] [rBlk g [pt d 0, pt p 0, pt r 0, pt e 0, pt q 0, pt s 0, Value.slice qc come.length cc, Value.slice qm mine.length cm] 43, rRing r d p ab F S, rRefR s e q KZ Z, rRowO (.slice qc come.length cc) (ivs come) 3, rRowO (.slice qm mine.length cm) (ivs mine) 3, rBlk b1 [iw k, iw m, Value.slice fa f.length fc, bo y] 30] ⟨rfl, rfl, rfl, trivial⟩ ?_
  refine SC.seq ?_
  refine SC.sr ?_
  refine SL.uu (ru_fieldAddr (o2 := 0) fd30_0 rfl rfl rfl) ?_
  refine SL.uu (ru_load (i := 5) ts3 rfl rfl rfl rfl) ?_
  refine SL.nn [(0, pt g 0), (3, pt b1 0), (4, bo false), (10, iw k)] _ ⟨rfl, rfl, rfl, rfl, trivial⟩ ?_
  refine SC.block ?_
  refine SC.sr ?_
  refine SL.uu (ru_eq (b := ((k : Int) == 0)) rfl rfl rfl rfl) ?_
  refine SL.as ?_
  refine SL.nn [(0, pt g 0), (3, pt b1 0), (4, bo false), (10, iw k), (11, bo ((k : Int) == 0))] _ ⟨rfl, rfl, rfl, rfl, rfl, trivial⟩ ?_
  refine SC.both ((k : Int) == 0) rfl (fun h2 => ?_) (fun h2 => ?_)
  · skip
    have hk0 := eq_t h2
    refine SC.sr ?_
    refine SL.mv ?_
    refine SL.uu (ru_loada (i := 5) (vs := [iw k, iw m, Value.slice fa f.length fc, bo y]) ta30 rfl rfl rfl rfl (le_b rfl)) ?_
    refine SL.call (ζ := Bool × DS) (fun z => bo z.1) (fun z => [rBlk g [pt d 0, pt p 0, pt r 0, pt e 0, pt q 0, pt s 0, Value.slice z.2.qc z.2.come.length z.2.cc, Value.slice z.2.qm z.2.mine.length z.2.cm] 43, rRing r d p ab z.2.F z.2.S, rRefR s e q z.2.K z.2.Z, rRowO (.slice z.2.qc z.2.come.length z.2.cc) (ivs z.2.come) 3, rRowO (.slice z.2.qm z.2.mine.length z.2.cm) (ivs z.2.mine) 3, rBlk b1 [iw k, iw m, Value.slice fa f.length fc, bo y] 30]) (fun z => FJ n z.2.S z.2.come z.2.mine ∧ RB (B + 1) z.2.Z ∧ z.2.S.A.r 1 = S.A.r 1 ∧ GX G w.heap.size g d p ab r z.2) rfl rfl co44 rfl rfl rfl (lt_b rfl) (fun w9 hI => (takes_any (G := fpl (RX g d p ab r e q s ⟨S, F, Z, KZ, come, mine, qc, cc, qm, cm⟩)) hj hn60 hZ h1B hB GX.self (hbs.only hI.2 hbx) hbl hbl (Inv.headL (l1 := (RX g d p ab r e q s ⟨S, F, Z, KZ, come, mine, qc, cc, qm, cm⟩)) hI)).mono fun e2 w2 ⟨⟨v, h1⟩, h2⟩ => by obtain ⟨x9, k1, k2, k3, k4, k5⟩ := DTo.lift (x := ⟨S, F, Z, KZ, come, mine, qc, cc, qm, cm⟩) hI hX h2; exact ⟨(v, x9), h1, k1, k2, k3, k4, k5⟩) ?_
    rintro ⟨v4, x3⟩ ⟨hx3j, hx3z, hx3r, hx3X⟩
    refine SL.as ?_
    refine SL.nn [(4, bo v4)] [rBlk g [pt d 0, pt p 0, pt r 0, pt e 0, pt q 0, pt s 0, Value.slice x3.qc x3.come.length x3.cc, Value.slice x3.qm x3.mine.length x3.cm] 43, rRing r d p ab x3.F x3.S, rRefR s e q x3.K x3.Z, rRowO (.slice x3.qc x3.come.length x3.cc) (ivs x3.come) 3, rRowO (.slice x3.qm x3.mine.length x3.cm) (ivs x3.mine) 3, rBlk b1 [iw k, iw m, Value.slice fa f.length fc, bo y] 30] ⟨rfl, trivial⟩ ?_
    refine SC.ret ?_
    refine SE.blkr ?_
    refine SE.passr ?_
    refine SE.res (.inl rfl) (res1 Try.results16 rfl) fun w1 hI => ⟨⟨_, rfl⟩, x3, hx3j, hx3z, (Eq.trans hx3r (if_neg (by omega)).symm), (hI.pick (js := [0, 1, 2, 3, 4]) rfl).1, hx3X, hI.2⟩
  have hk0 := eq_f h2
  refine SC.sr ?_
  refine SL.uu (ru_eq (b := ((k : Int) == 1)) rfl rfl rfl rfl) ?_
  refine SL.as ?_
  refine SL.nn [(0, pt g 0), (3, pt b1 0), (4, bo false), (10, iw k), (16, bo ((k : Int) == 1))] _ ⟨rfl, rfl, rfl, rfl, rfl, trivial⟩ ?_
  refine SC.both ((k : Int) == 1) rfl (fun h5 => ?_) (fun h5 => ?_)
  · skip
    have hk1 := eq_t h5
    refine SC.seq ?_
    have hcb7 := CU.base (X := ⟨146, w, G⟩) (l := [rBlk g [pt d 0, pt p 0, pt r 0, pt e 0, pt q 0, pt s 0, Value.slice qc come.length cc, Value.slice qm mine.length cm] 43, rRing r d p ab F S, rRefR s e q KZ Z, rRowO (.slice qc come.length cc) (ivs come) 3, rRowO (.slice qm mine.length cm) (ivs mine) 3, rBlk b1 [iw k, iw m, Value.slice fa f.length fc, bo y] 30]) (l2 := fun (F6 : Nat → Prop) => [rBlk g [pt d 0, pt p 0, pt r 0, pt e 0, pt q 0, pt s 0, Value.slice qc come.length cc, Value.slice qm mine.length cm] 43, rRing r d p ab F6 ((sendF S m).2), rRefR s e q KZ Z, rRowO (.slice qc come.length cc) (ivs come) 3, rRowO (.slice qm mine.length cm) (ivs mine) 3, rBlk b1 [iw k, iw m, Value.slice fa f.length fc, bo y] 30]) (p := fun (F6 : Nat → Prop) => (∀ b, F6 b → G b ∨ w.heap.size ≤ b)) (k := 6) (lb := [rBlk g [pt d 0, pt p 0, pt r 0, pt e 0, pt q 0, pt s 0, Value.slice qc come.length cc, Value.slice qm mine.length cm] 43, rNone, rRefR s e q KZ Z, rRowO (.slice qc come.length cc) (ivs come) 3, rRowO (.slice qm mine.length cm) (ivs mine) 3, rBlk b1 [iw k, iw m, Value.slice fa f.length fc, bo y] 30]) (fun w hI => hI.weak (i := 1) (r' := rNone) rfl (fun _ => trivial) (fun b hb => hb.elim)) (fun z w hI => hI.weak (i := 1) (r' := rNone) rfl (fun _ => trivial) (fun b hb => hb.elim))
    refine SC.region_turn (ζ := Nat → Prop) 13 6 (fun F6 => [rBlk g [pt d 0, pt p 0, pt r 0, pt e 0, pt q 0, pt s 0, Value.slice qc come.length cc, Value.slice qm mine.length cm] 43, rRing r d p ab F6 ((sendF S m).2), rRefR s e q KZ Z, rRowO (.slice qc come.length cc) (ivs come) 3, rRowO (.slice qm mine.length cm) (ivs mine) 3, rBlk b1 [iw k, iw m, Value.slice fa f.length fc, bo y] 30]) (fun F6 => (∀ b, F6 b → G b ∨ w.heap.size ≤ b)) (by kernel_rfl) (by kernel_rfl) rfl ?_
    refine SS.ru _ hcb7 rfl rfl rfl (lt_b rfl) (ru_move rfl rfl) ?_
    refine SS.ru _ hcb7 rfl rfl rfl (lt_b rfl) (ru_nilCheck rfl rfl) ?_
    refine SS.ru _ hcb7 rfl rfl rfl (lt_b rfl) (ru_fieldAddr (o2 := 2) fd43_2 rfl rfl rfl) ?_
    refine SS.ru _ hcb7 rfl rfl rfl (lt_b rfl) (ru_load (i := 0) ts38 rfl rfl rfl rfl) ?_
    refine SS.ru _ hcb7 rfl rfl rfl (lt_b rfl) (ru_fieldAddr (o2 := 1) fd30_1 rfl rfl rfl) ?_
    refine SS.ru _ hcb7 rfl rfl rfl (lt_b rfl) (ru_load (i := 5) ts3 rfl rfl rfl rfl) ?_
    refine SS.turnc (iw ((sendF S m).1)) rfl rfl co10 rfl rfl rfl (lt_b rfl) (fun w hI => (send_anyR hj.ok hj.few (ring_at hI (i := 1) rfl) m).mono fun e w2 ⟨h1, h2⟩ => by obtain ⟨F2, k1, k2⟩ := hI.ringTo (F0 := G) (i := 1) rfl hG h2 hF; exact ⟨F2, h1, k1, k2⟩) ?_
    refine SS.ru _ hcb7 rfl rfl rfl (lt_b rfl) (ru_move rfl rfl) ?_
    refine SS.ru _ hcb7 rfl rfl rfl (lt_b rfl) (ru_nilCheck rfl rfl) ?_
    refine SS.ru _ hcb7 rfl rfl rfl (lt_b rfl) (ru_fieldAddr (o2 := 5) fd43_5 rfl rfl rfl) ?_
    refine SS.ru _ hcb7 rfl rfl rfl (lt_b rfl) (ru_load (i := 0) ts41 rfl rfl rfl rfl) ?_
    refine SS.ru _ hcb7 rfl rfl rfl (lt_b rfl) (ru_fieldAddr (o2 := 1) fd30_1 rfl rfl rfl) ?_
    refine SS.ru _ hcb7 rfl rfl rfl (lt_b rfl) (ru_load (i := 5) ts3 rfl rfl rfl rfl) ?_
    refine SS.nilU ?_
    intro F6 hF6
    refine SL.call (ζ := Int × RefS × (Nat → Prop)) (fun z => iw z.1) (fun z => [rBlk g [pt d 0, pt p 0, pt r 0, pt e 0, pt q 0, pt s 0, Value.slice qc come.length cc, Value.slice qm mine.length cm] 43, rRing r d p ab F6 ((sendF S m).2), rRefR s e q z.2.2 z.2.1, rRowO (.slice qc come.length cc) (ivs come) 3, rRowO (.slice qm mine.length cm) (ivs mine) 3, rBlk b1 [iw k, iw m, Value.slice fa f.length fc, bo y] 30]) (fun z => RB (B + 1) z.2.1 ∧ ∀ b, z.2.2 b → G b ∨ w.heap.size ≤ b) rfl rfl co45 rfl rfl rfl (lt_b rfl) (fun w9 hI => rr_send (Z := Z) (G := KZ) (s := s) (e := e) (q := q) (j := 2) hI rfl hKZ hZ h1B hB m) ?_
    rintro ⟨x8, Z9, K10⟩ ⟨hZ9, hK10⟩
    refine SL.uu (ru_eq (b := ((((sendF S m).1) : Int) == x8)) rfl rfl rfl rfl) ?_
    refine SL.as ?_
    refine SL.nn [(4, bo ((((sendF S m).1) : Int) == x8))] [rBlk g [pt d 0, pt p 0, pt r 0, pt e 0, pt q 0, pt s 0, Value.slice qc come.length cc, Value.slice qm mine.length cm] 43, rRing r d p ab F6 ((sendF S m).2), rRefR s e q K10 Z9, rRowO (.slice qc come.length cc) (ivs come) 3, rRowO (.slice qm mine.length cm) (ivs mine) 3, rBlk b1 [iw k, iw m, Value.slice fa f.length fc, bo y] 30] ⟨rfl, trivial⟩ ?_
    refine SC.ret ?_
    refine SE.blkr ?_
    refine SE.passr ?_
    refine SE.res (.inl rfl) (res1 Try.results16 rfl) fun w1 hI => ⟨⟨_, rfl⟩, ⟨(sendF S m).2, F6, Z9, K10, come, mine, qc, cc, qm, cm⟩, (hj.send m), hZ9, (Eq.trans r1_send (if_neg (by omega)).symm), ?_, ⟨hg, hG, hF6, hK10, hqc, hqm⟩, hI.2⟩
    exact (hI.pick (js := [0, 1, 2, 3, 4]) rfl).1
  have hk1 := eq_f h5
  refine SC.sr ?_
  refine SL.uu (ru_eq (b := ((k : Int) == 2)) rfl rfl rfl rfl) ?_
  refine SL.as ?_
  refine SL.nn [(0, pt g 0), (3, pt b1 0), (4, bo false), (10, iw k), (33, bo ((k : Int) == 2))] _ ⟨rfl, rfl, rfl, rfl, rfl, trivial⟩ ?_
  refine SC.both ((k : Int) == 2) rfl (fun h11 => ?_) (fun h11 => ?_)
  · skip
    have hk2 := eq_t h11
    refine SC.sr ?_
    refine SL.mv ?_
    refine SL.call (ζ := Bool × DS) (fun z => bo z.1) (fun z => [rBlk g [pt d 0, pt p 0, pt r 0, pt e 0, pt q 0, pt s 0, Value.slice z.2.qc z.2.come.length z.2.cc, Value.slice z.2.qm z.2.mine.length z.2.cm] 43, rRing r d p ab z.2.F z.2.S, rRefR s e q z.2.K z.2.Z, rRowO (.slice z.2.qc z.2.come.length z.2.cc) (ivs z.2.come) 3, rRowO (.slice z.2.qm z.2.mine.length z.2.cm) (ivs z.2.mine) 3, rBlk b1 [iw k, iw m, Value.slice fa f.length fc, bo y] 30]) (fun z => FJ n z.2.S z.2.come z.2.mine ∧ RB (B + 1) z.2.Z ∧ z.2.S.A.r 1 = S.A.r 1 ∧ GX G w.heap.size g d p ab r z.2) rfl rfl co46 rfl rfl rfl (lt_b rfl) (fun w9 hI => (polls_any (G := fpl (RX g d p ab r e q s ⟨S, F, Z, KZ, come, mine, qc, cc, qm, cm⟩)) hj hn60 hZ h1B hB GX.self (Inv.headL (l1 := (RX g d p ab r e q s ⟨S, F, Z, KZ, come, mine, qc, cc, qm, cm⟩)) hI)).mono fun e2 w2 ⟨⟨v, h1⟩, h2⟩ => by obtain ⟨x9, k1, k2, k3, k4, k5⟩ := DTo.lift (x := ⟨S, F, Z, KZ, come, mine, qc, cc, qm, cm⟩) hI hX h2; exact ⟨(v, x9), h1, k1, k2, k3, k4, k5⟩) ?_
    rintro ⟨v13, x12⟩ ⟨hx12j, hx12z, hx12r, hx12X⟩
    refine SL.as ?_
    refine SL.nn [(4, bo v13)] [rBlk g [pt d 0, pt p 0, pt r 0, pt e 0, pt q 0, pt s 0, Value.slice x12.qc x12.come.length x12.cc, Value.slice x12.qm x12.mine.length x12.cm] 43, rRing r d p ab x12.F x12.S, rRefR s e q x12.K x12.Z, rRowO (.slice x12.qc x12.come.length x12.cc) (ivs x12.come) 3, rRowO (.slice x12.qm x12.mine.length x12.cm) (ivs x12.mine) 3, rBlk b1 [iw k, iw m, Value.slice fa f.length fc, bo y] 30] ⟨rfl, trivial⟩ ?_
    refine SC.ret ?_
    refine SE.blkr ?_
    refine SE.passr ?_
    refine SE.res (.inl rfl) (res1 Try.results16 rfl) fun w1 hI => ⟨⟨_, rfl⟩, x12, hx12j, hx12z, (Eq.trans hx12r (if_neg (by omega)).symm), (hI.pick (js := [0, 1, 2, 3, 4]) rfl).1, hx12X, hI.2⟩
  have hk2 := eq_f h11
  refine SC.sr ?_
  refine SL.uu (ru_eq (b := ((k : Int) == 3)) rfl rfl rfl rfl) ?_
  refine SL.as ?_
  refine SL.nn [(0, pt g 0), (3, pt b1 0), (4, bo false), (10, iw k), (37, bo ((k : Int) == 3))] _ ⟨rfl, rfl, rfl, rfl, rfl, trivial⟩ ?_
  refine SC.both ((k : Int) == 3) rfl (fun h14 => ?_) (fun h14 => ?_)
  · skip
    have hk3 := eq_t h14
    refine SC.sr ?_
    refine SL.mv ?_
    refine SL.nk ?_
    refine SL.uu (ru_fieldAddr (o2 := 2) fd43_2 rfl rfl rfl) ?_
    refine SL.uu (ru_load (i := 0) ts38 rfl rfl rfl rfl) ?_
    refine SL.call (ζ := Nat → Prop) (fun F15 => Value.tuple #[]) (fun F15 => [rBlk g [pt d 0, pt p 0, pt r 0, pt e 0, pt q 0, pt s 0, Value.slice qc come.length cc, Value.slice qm mine.length cm] 43, rRing r d p ab F15 (resetF S), rRefR s e q KZ Z, rRowO (.slice qc come.length cc) (ivs come) 3, rRowO (.slice qm mine.length cm) (ivs mine) 3, rBlk b1 [iw k, iw m, Value.slice fa f.length fc, bo y] 30]) (fun F15 => (∀ b, F15 b → G b ∨ w.heap.size ≤ b)) rfl rfl co47 rfl rfl rfl (lt_b rfl) (fun w hI => (reset_any hj.ok.a hj.ok.t hj.ok.r hj.few (ring_at hI (i := 1) rfl)).mono fun e w2 ⟨h1, h2⟩ => by obtain ⟨F2, k1, k2⟩ := hI.ringTo (F0 := G) (i := 1) rfl hG h2 hF; exact ⟨F2, h1, k1, k2⟩) ?_
    intro F15 hF15
    refine SL.nn [(0, pt g 0), (4, bo false)] [rBlk g [pt d 0, pt p 0, pt r 0, pt e 0, pt q 0, pt s 0, Value.slice qc come.length cc, Value.slice qm mine.length cm] 43, rRing r d p ab F15 (resetF S), rRefR s e q KZ Z, rRowO (.slice qc come.length cc) (ivs come) 3, rRowO (.slice qm mine.length cm) (ivs mine) 3, rBlk b1 [iw k, iw m, Value.slice fa f.length fc, bo y] 30] ⟨rfl, rfl, trivial⟩ ?_
    refine SC.region ?_
    refine SL.mv ?_
    refine SL.nk ?_
    refine SL.uu (ru_fieldAddr (o2 := 5) fd43_5 rfl rfl rfl) ?_
    refine SL.uu (ru_load (i := 0) ts41 rfl rfl rfl rfl) ?_
    refine SL.call (ζ := Unit × RefS × (Nat → Prop)) (fun z => Value.tuple #[]) (fun z => [rBlk g [pt d 0, pt p 0, pt r 0, pt e 0, pt q 0, pt s 0, Value.slice qc come.length cc, Value.slice qm mine.length cm] 43, rRing r d p ab F15 (resetF S), rRefR s e q z.2.2 z.2.1, rRowO (.slice qc come.length cc) (ivs come) 3, rRowO (.slice qm mine.length cm) (ivs mine) 3, rBlk b1 [iw k, iw m, Value.slice fa f.length fc, bo y] 30]) (fun z => RB (B + 1) z.2.1 ∧ ∀ b, z.2.2 b → G b ∨ w.heap.size ≤ b) rfl rfl co48 rfl rfl rfl (lt_b rfl) (fun w9 hI => rr_reset (Z := Z) (G := KZ) (s := s) (e := e) (q := q) (j := 2) hI rfl hKZ hZ h1B hB) ?_
    rintro ⟨x16, Z17, K18⟩ ⟨hZ17, hK18⟩
    refine SL.nil ?_
    refine SE.blkn ?_
    refine SC.of_SE ?_
    refine SC.norm [(4, bo false)] [rBlk g [pt d 0, pt p 0, pt r 0, pt e 0, pt q 0, pt s 0, Value.slice qc come.length cc, Value.slice qm mine.length cm] 43, rRing r d p ab F15 (resetF S), rRefR s e q K18 Z17, rRowO (.slice qc come.length cc) (ivs come) 3, rRowO (.slice qm mine.length cm) (ivs mine) 3, rBlk b1 [iw k, iw m, Value.slice fa f.length fc, bo y] 30] ⟨rfl, trivial⟩ rfl ?_
    refine SC.sr ?_
    refine SL.as ?_
    refine SL.nn [(4, bo true)] _ ⟨rfl, trivial⟩ ?_
    refine SC.ret ?_
    refine SE.res (.inl rfl) (res1 Try.results16 rfl) fun w1 hI => ⟨⟨_, rfl⟩, ⟨resetF S, F15, Z17, K18, come, mine, qc, cc, qm, cm⟩, hj.reset.1, hZ17, (Eq.trans r1_reset (if_neg (by omega)).symm), ?_, ⟨hg, hG, hF15, hK18, hqc, hqm⟩, hI.2⟩
    exact (hI.pick (js := [0, 1, 2, 3, 4]) rfl).1
  have hk3 := eq_f h14
  refine SC.sr ?_
  refine SL.uu (ru_eq (b := ((k : Int) == 4)) rfl rfl rfl rfl) ?_
  refine SL.as ?_
  refine SL.nn [(0, pt g 0), (3, pt b1 0), (4, bo false), (10, iw k), (49, bo ((k : Int) == 4))] _ ⟨rfl, rfl, rfl, rfl, rfl, trivial⟩ ?_
  refine SC.both ((k : Int) == 4) rfl (fun h19 => ?_) (fun h19 => ?_)
  · skip
    have hk4 := eq_t h19
    refine SC.sr ?_
    refine SL.mv ?_
    refine SL.nk ?_
    refine SL.uu (ru_fieldAddr (o2 := 0) fd43_0 rfl rfl rfl) ?_
    refine SL.uu (ru_load (i := 0) ts36 rfl rfl rfl rfl) ?_
    refine SL.call (ζ := (Nat → Prop) × Option Addr × Nat) (fun z => Value.tuple #[Value.agg #[Value.slice z.2.1 ((takeR S.A).1.1.1.length) z.2.2, bo false, iw ((takeR S.A).1.1.2)], iw ((takeR S.A).1.2)]) (fun z => [rBlk g [pt d 0, pt p 0, pt r 0, pt e 0, pt q 0, pt s 0, Value.slice qc come.length cc, Value.slice qm mine.length cm] 43, rRing r d p ab z.1 ({ S with A := (takeR S.A).2 }), rRefR s e q KZ Z, rRowO (.slice qc come.length cc) (ivs come) 3, rRowO (.slice qm mine.length cm) (ivs mine) 3, rBlk b1 [iw k, iw m, Value.slice fa f.length fc, bo y] 30, rMine (.slice z.2.1 ((takeR S.A).1.1.1).length z.2.2) ((takeR S.A).1.1.1) 5]) (fun z => (∀ b, z.1 b → G b ∨ w.heap.size ≤ b) ∧ ∀ b, (Value.slice z.2.1 (takeR S.A).1.1.1.length z.2.2).ownBlock = some b → w.heap.size ≤ b) rfl rfl co12 rfl rfl rfl (lt_b rfl) (fun w hI => (p_take hj.ok.a (ring_at hI (i := 1) rfl).dev).mono fun e w2 ⟨v, h1, h2, h3, h4⟩ => by obtain ⟨qa, qc, rfl, k0⟩ := (ring_at hI (i := 1) rfl).tookW (take_len hj.ok.a) h2 h3 h4; obtain ⟨F2, k1, k2, k3⟩ := hI.ringToW (F0 := G) (i := 1) rfl hG k0 hF; exact ⟨(F2, qa, qc), h1, k1, k2, fun b hb => k3 _ List.mem_cons_self b hb⟩) ?_
    rintro ⟨F22, a20, c21⟩ ⟨hF22, hoa20⟩
    refine SL.mv ?_
    refine SL.uu (ru_extract rfl rfl rfl) ?_
    refine SL.uu (ru_extract rfl rfl rfl) ?_
    refine SL.alloca rfl rfl (lt_b rfl) ta49 rfl fun b23 hb23 => ?_
    refine SL.storea (i := 7) (vs := [Value.slice a20 ((takeR S.A).1.1.1.length) c21, bo false, iw ((takeR S.A).1.1.2)]) (c' := [Value.slice a20 ((takeR S.A).1.1.1.length) c21, bo false, iw ((takeR S.A).1.1.2)]) rfl rfl ta49 rfl rfl rfl rfl rfl rfl (le_b rfl) (.inr hb23) rfl ?_
    refine SL.as ?_
    refine SL.nn [(0, pt g 0), (4, bo false), (5, pt b23 0), (6, iw ((takeR S.A).1.2))] [rBlk g [pt d 0, pt p 0, pt r 0, pt e 0, pt q 0, pt s 0, Value.slice qc come.length cc, Value.slice qm mine.length cm] 43, rRing r d p ab F22 ({ S with A := (takeR S.A).2 }), rRefR s e q KZ Z, rRowO (.slice qc come.length cc) (ivs come) 3, rRowO (.slice qm mine.length cm) (ivs mine) 3, rBlk b1 [iw k, iw m, Value.slice fa f.length fc, bo y] 30, rMine (.slice a20 ((takeR S.A).1.1.1).length c21) ((takeR S.A).1.1.1) 5, rBlk b23 [Value.slice a20 ((takeR S.A).1.1.1.length) c21, bo false, iw ((takeR S.A).1.1.2)] 49] ⟨rfl, rfl, rfl, rfl, trivial⟩ ?_
    refine SC.sr ?_
    refine SL.mv ?_
    refine SL.nk ?_
    refine SL.uu (ru_fieldAddr (o2 := 3) fd43_3 rfl rfl rfl) ?_
    refine SL.uu (ru_load (i := 0) ts39 rfl rfl rfl rfl) ?_
    refine SL.call (ζ := (Option Addr × Nat) × RefS × (Nat → Prop)) (fun z => Value.tuple #[Value.agg #[Value.slice z.1.1 ((takeR Z.A).1.1.1.length) z.1.2, bo false, iw ((takeR Z.A).1.1.2)], iw ((takeR Z.A).1.2)]) (fun z => [rBlk g [pt d 0, pt p 0, pt r 0, pt e 0, pt q 0, pt s 0, Value.slice qc come.length cc, Value.slice qm mine.length cm] 43, rRing r d p ab F22 ({ S with A := (takeR S.A).2 }), rRefRL s e q z.2.2 z.2.1 (.slice z.1.1 (takeR Z.A).1.1.1.length z.1.2) (takeR Z.A).1.1.1, rRowO (.slice qc come.length cc) (ivs come) 3, rRowO (.slice qm mine.length cm) (ivs mine) 3, rBlk b1 [iw k, iw m, Value.slice fa f.length fc, bo y] 30, rMine (.slice a20 ((takeR S.A).1.1.1).length c21) ((takeR S.A).1.1.1) 5, rBlk b23 [Value.slice a20 ((takeR S.A).1.1.1.length) c21, bo false, iw ((takeR S.A).1.1.2)] 49]) (fun z => RB (B) z.2.1 ∧ ∀ b, z.2.2 b → G b ∨ w.heap.size ≤ b) rfl rfl co49 rfl rfl rfl (lt_b rfl) (fun w9 hI => rr_take (Z := Z) (G := KZ) (s := s) (e := e) (q := q) (j := 2) hI rfl hKZ hZ) ?_
    rintro ⟨⟨a26, c27⟩, Z24, K25⟩ ⟨hZ24, hK25⟩
    refine SL.mv ?_
    refine SL.uu (ru_extract rfl rfl rfl) ?_
    refine SL.uu (ru_extract rfl rfl rfl) ?_
    refine SL.alloca rfl rfl (lt_b rfl) ta49 rfl fun b28 hb28 => ?_
    refine SL.storea (i := 8) (vs := [Value.slice a26 ((takeR Z.A).1.1.1.length) c27, bo false, iw ((takeR Z.A).1.1.2)]) (c' := [Value.slice a26 ((takeR Z.A).1.1.1.length) c27, bo false, iw ((takeR Z.A).1.1.2)]) rfl rfl ta49 rfl rfl rfl rfl rfl rfl (le_b rfl) (.inr hb28) rfl ?_
    refine SL.as ?_
    refine SL.nn [(4, bo false), (5, pt b23 0), (6, iw ((takeR S.A).1.2)), (7, pt b28 0), (8, iw ((takeR Z.A).1.2))] [rBlk g [pt d 0, pt p 0, pt r 0, pt e 0, pt q 0, pt s 0, Value.slice qc come.length cc, Value.slice qm mine.length cm] 43, rRing r d p ab F22 ({ S with A := (takeR S.A).2 }), rRefRL s e q K25 Z24 (.slice a26 (takeR Z.A).1.1.1.length c27) (takeR Z.A).1.1.1, rRowO (.slice qc come.length cc) (ivs come) 3, rRowO (.slice qm mine.length cm) (ivs mine) 3, rBlk b1 [iw k, iw m, Value.slice fa f.length fc, bo y] 30, rMine (.slice a20 ((takeR S.A).1.1.1).length c21) ((takeR S.A).1.1.1) 5, rBlk b23 [Value.slice a20 ((takeR S.A).1.1.1.length) c21, bo false, iw ((takeR S.A).1.1.2)] 49, rBlk b28 [Value.slice a26 ((takeR Z.A).1.1.1.length) c27, bo false, iw ((takeR Z.A).1.1.2)] 49] ⟨rfl, rfl, rfl, rfl, rfl, trivial⟩ ?_
    refine SC.sr ?_
    refine SL.uu (ru_fieldAddr (o2 := 0) fd49_0 rfl rfl rfl) ?_
    refine SL.uu (ru_load (i := 7) ts28 rfl rfl rfl rfl) ?_
    refine SL.uu (ru_str (f := ((takeR S.A).1.1.1)) Try.underlying28 Try.underlying5 Try.underlying9 rfl rfl (fun w hI => mine_bytes hI (j := 6) rfl (take_len hj.ok.a))) ?_
    refine SL.uu (ru_fieldAddr (o2 := 0) fd49_0 rfl rfl rfl) ?_
    refine SL.uu (ru_load (i := 8) ts28 rfl rfl rfl rfl) ?_
    refine SL.uu (ru_str (f := ((takeR Z.A).1.1.1)) Try.underlying28 Try.underlying5 Try.underlying9 rfl rfl (fun w hI => (hI.1.get (i := 2) rfl).2.1)) ?_
    refine SL.uu (ru_streq (f := ((takeR S.A).1.1.1)) (h := ((takeR Z.A).1.1.1)) (b := (decide (((takeR S.A).1.1.1) = ((takeR Z.A).1.1.1)))) Try.underlying9 rfl rfl rfl rfl) ?_
    refine SL.mv ?_
    refine SL.join 6 [(4, bo false), (5, pt b23 0), (6, iw ((takeR S.A).1.2)), (7, pt b28 0), (8, iw ((takeR Z.A).1.2)), (67, pt b23 0), (68, Value.slice a20 ((takeR S.A).1.1.1.length) c21), (69, Value.string ⟨((takeR S.A).1.1.1).toArray⟩), (70, pt b28 0), (71, Value.slice a26 ((takeR Z.A).1.1.1.length) c27), (72, Value.string ⟨((takeR Z.A).1.1.1).toArray⟩), (73, bo (decide (((takeR S.A).1.1.1) = ((takeR Z.A).1.1.1)))), (74, bo (decide (((takeR S.A).1.1.1) = ((takeR Z.A).1.1.1)))), (80, bo ((decide (((takeR S.A).1.1.1) = ((takeR Z.A).1.1.1))) && ((((takeR S.A).1.1.2) : Int) == ((takeR Z.A).1.1.2))))] [rBlk g [pt d 0, pt p 0, pt r 0, pt e 0, pt q 0, pt s 0, Value.slice qc come.length cc, Value.slice qm mine.length cm] 43, rRing r d p ab F22 ({ S with A := (takeR S.A).2 }), rRefRL s e q K25 Z24 (.slice a26 (takeR Z.A).1.1.1.length c27) (takeR Z.A).1.1.1, rRowO (.slice qc come.length cc) (ivs come) 3, rRowO (.slice qm mine.length cm) (ivs mine) 3, rBlk b1 [iw k, iw m, Value.slice fa f.length fc, bo y] 30, rMine (.slice a20 ((takeR S.A).1.1.1).length c21) ((takeR S.A).1.1.1) 5, rBlk b23 [Value.slice a20 ((takeR S.A).1.1.1.length) c21, bo false, iw ((takeR S.A).1.1.2)] 49, rBlk b28 [Value.slice a26 ((takeR Z.A).1.1.1.length) c27, bo false, iw ((takeR Z.A).1.1.2)] 49] ?_ ?_
    rotate_left
    · intro K hK
      rcases tf (decide (((takeR S.A).1.1.1) = ((takeR Z.A).1.1.1))) with h29 | h29
      · skip
        refine SL.norm [(4, bo false), (5, pt b23 0), (6, iw ((takeR S.A).1.2)), (7, pt b28 0), (8, iw ((takeR Z.A).1.2)), (67, pt b23 0), (68, Value.slice a20 ((takeR S.A).1.1.1.length) c21), (69, Value.string ⟨((takeR S.A).1.1.1).toArray⟩), (70, pt b28 0), (71, Value.slice a26 ((takeR Z.A).1.1.1.length) c27), (72, Value.string ⟨((takeR Z.A).1.1.1).toArray⟩), (73, bo true), (74, bo true)] _ ⟨rfl, rfl, rfl, rfl, rfl, rfl, rfl, rfl, rfl, rfl, rfl, (congrArg (fun x => some (Value.bool x)) h29), (congrArg (fun x => some (Value.bool x)) h29), trivial⟩ rfl ?_
        refine SL.rug rfl rfl rfl rfl (lt_b rfl) (ru_fieldAddr (o2 := 2) fd49_2 rfl rfl rfl) ?_
        refine SL.rug rfl rfl rfl rfl (lt_b rfl) (ru_load (i := 7) ts3 rfl rfl rfl rfl) ?_
        refine SL.rug rfl rfl rfl rfl (lt_b rfl) (ru_fieldAddr (o2 := 2) fd49_2 rfl rfl rfl) ?_
        refine SL.rug rfl rfl rfl rfl (lt_b rfl) (ru_load (i := 8) ts3 rfl rfl rfl rfl) ?_
        refine SL.rug rfl rfl rfl rfl (lt_b rfl) (ru_eq (b := ((((takeR S.A).1.1.2) : Int) == ((takeR Z.A).1.1.2))) rfl rfl rfl rfl) ?_
        refine SL.uu (ru_pick (u := bo ((((takeR S.A).1.1.2) : Int) == ((takeR Z.A).1.1.2))) (v := bo false) rfl rfl rfl rfl) ?_
        exact SL.joined hK ⟨rfl, rfl, rfl, rfl, rfl, rfl, rfl, rfl, rfl, rfl, rfl, (congrArg (fun x => some (Value.bool x)) h29.symm), (congrArg (fun x => some (Value.bool x)) h29.symm), (congrArg (fun bx => some (Value.bool (bx && ((((takeR S.A).1.1.2) : Int) == ((takeR Z.A).1.1.2))))) h29.symm), trivial⟩ rfl
      refine SL.norm [(4, bo false), (5, pt b23 0), (6, iw ((takeR S.A).1.2)), (7, pt b28 0), (8, iw ((takeR Z.A).1.2)), (67, pt b23 0), (68, Value.slice a20 ((takeR S.A).1.1.1.length) c21), (69, Value.string ⟨((takeR S.A).1.1.1).toArray⟩), (70, pt b28 0), (71, Value.slice a26 ((takeR Z.A).1.1.1.length) c27), (72, Value.string ⟨((takeR Z.A).1.1.1).toArray⟩), (73, bo false), (74, bo false)] _ ⟨rfl, rfl, rfl, rfl, rfl, rfl, rfl, rfl, rfl, rfl, rfl, (congrArg (fun x => some (Value.bool x)) h29), (congrArg (fun x => some (Value.bool x)) h29), trivial⟩ rfl ?_
      refine SL.off (b := false) rfl rfl rfl rfl rfl (lt_b rfl) ?_
      refine SL.off (b := false) rfl rfl rfl rfl rfl (lt_b rfl) ?_
      refine SL.off (b := false) rfl rfl rfl rfl rfl (lt_b rfl) ?_
      refine SL.off (b := false) rfl rfl rfl rfl rfl (lt_b rfl) ?_
      refine SL.off (b := false) rfl rfl rfl rfl rfl (lt_b rfl) ?_
      refine SL.uu (ru_pick (u := undef) (v := bo false) rfl rfl rfl rfl) ?_
      exact SL.joined hK ⟨rfl, rfl, rfl, rfl, rfl, rfl, rfl, rfl, rfl, rfl, rfl, (congrArg (fun x => some (Value.bool x)) h29.symm), (congrArg (fun x => some (Value.bool x)) h29.symm), (congrArg (fun bx => some (Value.bool (bx && ((((takeR S.A).1.1.2) : Int) == ((takeR Z.A).1.1.2))))) h29.symm), trivial⟩ rfl
    skip
    refine SL.mv ?_
    refine SL.join 4 [(4, bo false), (5, pt b23 0), (6, iw ((takeR S.A).1.2)), (7, pt b28 0), (8, iw ((takeR Z.A).1.2)), (67, pt b23 0), (68, Value.slice a20 ((takeR S.A).1.1.1.length) c21), (69, Value.string ⟨((takeR S.A).1.1.1).toArray⟩), (70, pt b28 0), (71, Value.slice a26 ((takeR Z.A).1.1.1.length) c27), (72, Value.string ⟨((takeR Z.A).1.1.1).toArray⟩), (73, bo (decide (((takeR S.A).1.1.1) = ((takeR Z.A).1.1.1)))), (74, bo (decide (((takeR S.A).1.1.1) = ((takeR Z.A).1.1.1)))), (80, bo ((decide (((takeR S.A).1.1.1) = ((takeR Z.A).1.1.1))) && ((((takeR S.A).1.1.2) : Int) == ((takeR Z.A).1.1.2)))), (81, bo ((decide (((takeR S.A).1.1.1) = ((takeR Z.A).1.1.1))) && ((((takeR S.A).1.1.2) : Int) == ((takeR Z.A).1.1.2)))), (85, bo (((decide (((takeR S.A).1.1.1) = ((takeR Z.A).1.1.1))) && ((((takeR S.A).1.1.2) : Int) == ((takeR Z.A).1.1.2))) && ((((takeR S.A).1.2) : Int) == ((takeR Z.A).1.2))))] [rBlk g [pt d 0, pt p 0, pt r 0, pt e 0, pt q 0, pt s 0, Value.slice qc come.length cc, Value.slice qm mine.length cm] 43, rRing r d p ab F22 ({ S with A := (takeR S.A).2 }), rRefRL s e q K25 Z24 (.slice a26 (takeR Z.A).1.1.1.length c27) (takeR Z.A).1.1.1, rRowO (.slice qc come.length cc) (ivs come) 3, rRowO (.slice qm mine.length cm) (ivs mine) 3, rBlk b1 [iw k, iw m, Value.slice fa f.length fc, bo y] 30, rMine (.slice a20 ((takeR S.A).1.1.1).length c21) ((takeR S.A).1.1.1) 5, rBlk b23 [Value.slice a20 ((takeR S.A).1.1.1.length) c21, bo false, iw ((takeR S.A).1.1.2)] 49, rBlk b28 [Value.slice a26 ((takeR Z.A).1.1.1.length) c27, bo false, iw ((takeR Z.A).1.1.2)] 49] ?_ ?_
    rotate_left
    · intro K hK
      rcases tf ((decide (((takeR S.A).1.1.1) = ((takeR Z.A).1.1.1))) && ((((takeR S.A).1.1.2) : Int) == ((takeR Z.A).1.1.2))) with h30 | h30
      · skip
        refine SL.norm [(4, bo false), (5, pt b23 0), (6, iw ((takeR S.A).1.2)), (7, pt b28 0), (8, iw ((takeR Z.A).1.2)), (67, pt b23 0), (68, Value.slice a20 ((takeR S.A).1.1.1.length) c21), (69, Value.string ⟨((takeR S.A).1.1.1).toArray⟩), (70, pt b28 0), (71, Value.slice a26 ((takeR Z.A).1.1.1.length) c27), (72, Value.string ⟨((takeR Z.A).1.1.1).toArray⟩), (73, bo (decide (((takeR S.A).1.1.1) = ((takeR Z.A).1.1.1)))), (74, bo (decide (((takeR S.A).1.1.1) = ((takeR Z.A).1.1.1)))), (80, bo true), (81, bo true)] _ ⟨rfl, rfl, rfl, rfl, rfl, rfl, rfl, rfl, rfl, rfl, rfl, rfl, rfl, (congrArg (fun x => some (Value.bool x)) h30), (congrArg (fun x => some (Value.bool x)) h30), trivial⟩ rfl ?_
        refine SL.rug rfl rfl rfl rfl (lt_b rfl) (ru_move rfl rfl) ?_
        refine SL.rug rfl rfl rfl rfl (lt_b rfl) (ru_move rfl rfl) ?_
        refine SL.rug rfl rfl rfl rfl (lt_b rfl) (ru_eq (b := ((((takeR S.A).1.2) : Int) == ((takeR Z.A).1.2))) rfl rfl rfl rfl) ?_
        refine SL.uu (ru_pick (u := bo ((((takeR S.A).1.2) : Int) == ((takeR Z.A).1.2))) (v := bo false) rfl rfl rfl rfl) ?_
        exact SL.joined hK ⟨rfl, rfl, rfl, rfl, rfl, rfl, rfl, rfl, rfl, rfl, rfl, rfl, rfl, (congrArg (fun x => some (Value.bool x)) h30.symm), (congrArg (fun x => some (Value.bool x)) h30.symm), (congrArg (fun bx => some (Value.bool (bx && ((((takeR S.A).1.2) : Int) == ((takeR Z.A).1.2))))) h30.symm), trivial⟩ rfl
      refine SL.norm [(4, bo false), (5, pt b23 0), (6, iw ((takeR S.A).1.2)), (7, pt b28 0), (8, iw ((takeR Z.A).1.2)), (67, pt b23 0), (68, Value.slice a20 ((takeR S.A).1.1.1.length) c21), (69, Value.string ⟨((takeR S.A).1.1.1).toArray⟩), (70, pt b28 0), (71, Value.slice a26 ((takeR Z.A).1.1.1.length) c27), (72, Value.string ⟨((takeR Z.A).1.1.1).toArray⟩), (73, bo (decide (((takeR S.A).1.1.1) = ((takeR Z.A).1.1.1)))), (74, bo (decide (((takeR S.A).1.1.1) = ((takeR Z.A).1.1.1)))), (80, bo false), (81, bo false)] _ ⟨rfl, rfl, rfl, rfl, rfl, rfl, rfl, rfl, rfl, rfl, rfl, rfl, rfl, (congrArg (fun x => some (Value.bool x)) h30), (congrArg (fun x => some (Value.bool x)) h30), trivial⟩ rfl ?_
      refine SL.off (b := false) rfl rfl rfl rfl rfl (lt_b rfl) ?_
      refine SL.off (b := false) rfl rfl rfl rfl rfl (lt_b rfl) ?_
      refine SL.off (b := false) rfl rfl rfl rfl rfl (lt_b rfl) ?_
      refine SL.uu (ru_pick (u := undef) (v := bo false) rfl rfl rfl rfl) ?_
      exact SL.joined hK ⟨rfl, rfl, rfl, rfl, rfl, rfl, rfl, rfl, rfl, rfl, rfl, rfl, rfl, (congrArg (fun x => some (Value.bool x)) h30.symm), (congrArg (fun x => some (Value.bool x)) h30.symm), (congrArg (fun bx => some (Value.bool (bx && ((((takeR S.A).1.2) : Int) == ((takeR Z.A).1.2))))) h30.symm), trivial⟩ rfl
    skip
    refine SL.as ?_
    refine SL.nn [(4, bo (((decide (((takeR S.A).1.1.1) = ((takeR Z.A).1.1.1))) && ((((takeR S.A).1.1.2) : Int) == ((takeR Z.A).1.1.2))) && ((((takeR S.A).1.2) : Int) == ((takeR Z.A).1.2))))] _ ⟨rfl, trivial⟩ ?_
    refine SC.ret ?_
    refine SE.blkr ?_
    refine SE.passr ?_
    refine SE.weak (i := 2) (rRefR s e q K25 Z24) rfl (fun w h => h.1) (fun b hb => hb) ?_
    refine SE.res (.inl rfl) (res1 Try.results16 rfl) fun w1 hI => ⟨⟨_, rfl⟩, ⟨{ S with A := (takeR S.A).2 }, F22, Z24, K25, come, mine, qc, cc, qm, cm⟩, (hj.dev (takeR_ok hj.ok.a)), hZ24.up, (Eq.trans r1_take (if_neg (by omega)).symm), ?_, ⟨hg, hG, hF22, hK25, hqc, hqm⟩, hI.2⟩
    exact (hI.pick (js := [0, 1, 2, 3, 4]) rfl).1
  have hk4 := eq_f h19
  refine SC.sr ?_
  refine SL.uu (ru_eq (b := ((k : Int) == 5)) rfl rfl rfl rfl) ?_
  refine SL.as ?_
  refine SL.nn [(0, pt g 0), (3, pt b1 0), (4, bo false), (10, iw k), (86, bo ((k : Int) == 5))] _ ⟨rfl, rfl, rfl, rfl, rfl, trivial⟩ ?_
  refine SC.both ((k : Int) == 5) rfl (fun h31 => ?_) (fun h31 => ?_)
  · skip
    have hk5 := eq_t h31
    refine SC.seq ?_
    have hcb33 := CU.base (X := ⟨146, w, G⟩) (l := [rBlk g [pt d 0, pt p 0, pt r 0, pt e 0, pt q 0, pt s 0, Value.slice qc come.length cc, Value.slice qm mine.length cm] 43, rRing r d p ab F S, rRefR s e q KZ Z, rRowO (.slice qc come.length cc) (ivs come) 3, rRowO (.slice qm mine.length cm) (ivs mine) 3, rBlk b1 [iw k, iw m, Value.slice fa f.length fc, bo y] 30]) (l2 := fun (F32 : Nat → Prop) => [rBlk g [pt d 0, pt p 0, pt r 0, pt e 0, pt q 0, pt s 0, Value.slice qc come.length cc, Value.slice qm mine.length cm] 43, rRing r d p ab F32 ({ S with A := (giveF S.A f y).2 }), rRefR s e q KZ Z, rRowO (.slice qc come.length cc) (ivs come) 3, rRowO (.slice qm mine.length cm) (ivs mine) 3, rBlk b1 [iw k, iw m, Value.slice fa f.length fc, bo y] 30]) (p := fun (F32 : Nat → Prop) => (∀ b, F32 b → G b ∨ w.heap.size ≤ b)) (k := 8) (lb := [rBlk g [pt d 0, pt p 0, pt r 0, pt e 0, pt q 0, pt s 0, Value.slice qc come.length cc, Value.slice qm mine.length cm] 43, rNone, rRefR s e q KZ Z, rRowO (.slice qc come.length cc) (ivs come) 3, rRowO (.slice qm mine.length cm) (ivs mine) 3, rBlk b1 [iw k, iw m, Value.slice fa f.length fc, bo y] 30]) (fun w hI => hI.weak (i := 1) (r' := rNone) rfl (fun _ => trivial) (fun b hb => hb.elim)) (fun z w hI => hI.weak (i := 1) (r' := rNone) rfl (fun _ => trivial) (fun b hb => hb.elim))
    refine SC.region_turn (ζ := Nat → Prop) 17 8 (fun F32 => [rBlk g [pt d 0, pt p 0, pt r 0, pt e 0, pt q 0, pt s 0, Value.slice qc come.length cc, Value.slice qm mine.length cm] 43, rRing r d p ab F32 ({ S with A := (giveF S.A f y).2 }), rRefR s e q KZ Z, rRowO (.slice qc come.length cc) (ivs come) 3, rRowO (.slice qm mine.length cm) (ivs mine) 3, rBlk b1 [iw k, iw m, Value.slice fa f.length fc, bo y] 30]) (fun F32 => (∀ b, F32 b → G b ∨ w.heap.size ≤ b)) (by kernel_rfl) (by kernel_rfl) rfl ?_
    refine SS.ru _ hcb33 rfl rfl rfl (lt_b rfl) (ru_move rfl rfl) ?_
    refine SS.ru _ hcb33 rfl rfl rfl (lt_b rfl) (ru_nilCheck rfl rfl) ?_
    refine SS.ru _ hcb33 rfl rfl rfl (lt_b rfl) (ru_fieldAddr (o2 := 0) fd43_0 rfl rfl rfl) ?_
    refine SS.ru _ hcb33 rfl rfl rfl (lt_b rfl) (ru_load (i := 0) ts36 rfl rfl rfl rfl) ?_
    refine SS.ru _ hcb33 rfl rfl rfl (lt_b rfl) (ru_fieldAddr (o2 := 2) fd30_2 rfl rfl rfl) ?_
    refine SS.ru _ hcb33 rfl rfl rfl (lt_b rfl) (ru_load (i := 5) ts28 rfl rfl rfl rfl) ?_
    refine SS.ru _ hcb33 rfl rfl rfl (lt_b rfl) (ru_fieldAddr (o2 := 3) fd30_3 rfl rfl rfl) ?_
    refine SS.ru _ hcb33 rfl rfl rfl (lt_b rfl) (ru_load (i := 5) ts4 rfl rfl rfl rfl) ?_
    refine SS.turnc (iw ((giveF S.A f y).1)) rfl rfl co13 rfl rfl rfl (lt_b rfl) (fun w hI => (p_give hj.ok.a (ring_at hI (i := 1) rfl).dev (hbs.only hI.2 hbx) (hbl.mono fun b hb e1 => hb ⟨rRing r d p ab F S, by simp, rS_rfp (.inr (.inl e1))⟩) y).mono fun e w2 ⟨h1, h2⟩ => by obtain ⟨F2, k1, k2⟩ := hI.ringTo (F0 := G) (i := 1) rfl hG ((ring_at hI (i := 1) rfl).devTo h2) hF; exact ⟨F2, h1, k1, k2⟩) ?_
    refine SS.ru _ hcb33 rfl rfl rfl (lt_b rfl) (ru_move rfl rfl) ?_
    refine SS.ru _ hcb33 rfl rfl rfl (lt_b rfl) (ru_nilCheck rfl rfl) ?_
    refine SS.ru _ hcb33 rfl rfl rfl (lt_b rfl) (ru_fieldAddr (o2 := 3) fd43_3 rfl rfl rfl) ?_
    refine SS.ru _ hcb33 rfl rfl rfl (lt_b rfl) (ru_load (i := 0) ts39 rfl rfl rfl rfl) ?_
    refine SS.ru _ hcb33 rfl rfl rfl (lt_b rfl) (ru_fieldAddr (o2 := 2) fd30_2 rfl rfl rfl) ?_
    refine SS.ru _ hcb33 rfl rfl rfl (lt_b rfl) (ru_load (i := 5) ts28 rfl rfl rfl rfl) ?_
    refine SS.ru _ hcb33 rfl rfl rfl (lt_b rfl) (ru_fieldAddr (o2 := 3) fd30_3 rfl rfl rfl) ?_
    refine SS.ru _ hcb33 rfl rfl rfl (lt_b rfl) (ru_load (i := 5) ts4 rfl rfl rfl rfl) ?_
    refine SS.nilU ?_
    intro F32 hF32
    refine SL.call (ζ := Unit × RefS × (Nat → Prop)) (fun z => iw ((giveF Z.A f y).1)) (fun z => [rBlk g [pt d 0, pt p 0, pt r 0, pt e 0, pt q 0, pt s 0, Value.slice qc come.length cc, Value.slice qm mine.length cm] 43, rRing r d p ab F32 ({ S with A := (giveF S.A f y).2 }), rRefR s e q z.2.2 z.2.1, rRowO (.slice qc come.length cc) (ivs come) 3, rRowO (.slice qm mine.length cm) (ivs mine) 3, rBlk b1 [iw k, iw m, Value.slice fa f.length fc, bo y] 30]) (fun z => RB (B) z.2.1 ∧ ∀ b, z.2.2 b → G b ∨ w.heap.size ≤ b) rfl rfl co50 rfl rfl rfl (lt_b rfl) (fun w9 hI => by refine rr_dev (v := iw ((giveF Z.A f y).1)) (A' := (giveF Z.A f y).2) (B := B) (Z := Z) (G := KZ) (s := s) (e := e) (q := q) (j := 2) hI rfl hKZ hZ ?_ ?_; exact give_ok hZ.ok.a f y; intro F9 hN; exact q_give hZ.ok.a hN (hbs.only hI.2 hbx) (hbl.mono fun b hb e1 => hb ⟨rRefR s e q KZ Z, by simp, by rw [e1]; exact hKe⟩) y) ?_
    rintro ⟨x34, Z35, K36⟩ ⟨hZ35, hK36⟩
    refine SL.uu (ru_eq (b := ((((giveF S.A f y).1) : Int) == ((giveF Z.A f y).1))) rfl rfl rfl rfl) ?_
    refine SL.as ?_
    refine SL.nn [(4, bo ((((giveF S.A f y).1) : Int) == ((giveF Z.A f y).1)))] [rBlk g [pt d 0, pt p 0, pt r 0, pt e 0, pt q 0, pt s 0, Value.slice qc come.length cc, Value.slice qm mine.length cm] 43, rRing r d p ab F32 ({ S with A := (giveF S.A f y).2 }), rRefR s e q K36 Z35, rRowO (.slice qc come.length cc) (ivs come) 3, rRowO (.slice qm mine.length cm) (ivs mine) 3, rBlk b1 [iw k, iw m, Value.slice fa f.length fc, bo y] 30] ⟨rfl, trivial⟩ ?_
    refine SC.ret ?_
    refine SE.blkr ?_
    refine SE.passr ?_
    refine SE.res (.inl rfl) (res1 Try.results16 rfl) fun w1 hI => ⟨⟨_, rfl⟩, ⟨{ S with A := (giveF S.A f y).2 }, F32, Z35, K36, come, mine, qc, cc, qm, cm⟩, (hj.dev (give_ok hj.ok.a f y)), hZ35.up, (Eq.trans r1_give (if_neg (by omega)).symm), ?_, ⟨hg, hG, hF32, hK36, hqc, hqm⟩, hI.2⟩
    exact (hI.pick (js := [0, 1, 2, 3, 4]) rfl).1
  have hk5 := eq_f h31
  refine SC.sr ?_
  refine SL.uu (ru_eq (b := ((k : Int) == 6)) rfl rfl rfl rfl) ?_
  refine SL.as ?_
  refine SL.nn [(0, pt g 0), (3, pt b1 0), (4, bo false), (10, iw k), (107, bo ((k : Int) == 6))] _ ⟨rfl, rfl, rfl, rfl, rfl, trivial⟩ ?_
  refine SC.both ((k : Int) == 6) rfl (fun h37 => ?_) (fun h37 => ?_)
  · skip
    have hk6 := eq_t h37
    refine SC.seq ?_
    refine SC.region_tail 6 (by kernel_rfl) (by kernel_rfl) ?_
    refine SQ.ru rfl rfl (lt_b rfl) (ru_move rfl rfl) ?_
    refine SQ.ru rfl rfl (lt_b rfl) (ru_nilCheck rfl rfl) ?_
    refine SQ.ru rfl rfl (lt_b rfl) (ru_fieldAddr (o2 := 0) fd43_0 rfl rfl rfl) ?_
    refine SQ.ru rfl rfl (lt_b rfl) (ru_load (i := 0) ts36 rfl rfl rfl rfl) ?_
    refine SQ.ru rfl rfl (lt_b rfl) (ru_fieldAddr (o2 := 3) fd30_3 rfl rfl rfl) ?_
    refine SQ.ru rfl rfl (lt_b rfl) (ru_load (i := 5) ts4 rfl rfl rfl rfl) ?_
    refine SQ.nilL ?_
    refine SL.call (ζ := Nat → Prop) (fun F38 => Value.tuple #[]) (fun F38 => [rBlk g [pt d 0, pt p 0, pt r 0, pt e 0, pt q 0, pt s 0, Value.slice qc come.length cc, Value.slice qm mine.length cm] 43, rRing r d p ab F38 ({ S with A := linkF S.A y }), rRefR s e q KZ Z, rRowO (.slice qc come.length cc) (ivs come) 3, rRowO (.slice qm mine.length cm) (ivs mine) 3, rBlk b1 [iw k, iw m, Value.slice fa f.length fc, bo y] 30]) (fun F38 => (∀ b, F38 b → G b ∨ w.heap.size ≤ b)) rfl rfl co19 rfl rfl rfl (lt_b rfl) (fun w hI => (p_link hj.ok.a (ring_at hI (i := 1) rfl).dev y).mono fun e w2 ⟨h1, h2⟩ => by obtain ⟨F2, k1, k2⟩ := hI.ringTo (F0 := G) (i := 1) rfl hG ((ring_at hI (i := 1) rfl).devTo h2) hF; exact ⟨F2, h1, k1, k2⟩) ?_
    intro F38 hF38
    refine SL.nn [(0, pt g 0), (3, pt b1 0), (4, bo false)] [rBlk g [pt d 0, pt p 0, pt r 0, pt e 0, pt q 0, pt s 0, Value.slice qc come.length cc, Value.slice qm mine.length cm] 43, rRing r d p ab F38 ({ S with A := linkF S.A y }), rRefR s e q KZ Z, rRowO (.slice qc come.length cc) (ivs come) 3, rRowO (.slice qm mine.length cm) (ivs mine) 3, rBlk b1 [iw k, iw m, Value.slice fa f.length fc, bo y] 30] ⟨rfl, rfl, rfl, trivial⟩ ?_
    refine SC.region_tail 6 (by kernel_rfl) (by kernel_rfl) ?_
    refine SQ.ru rfl rfl (lt_b rfl) (ru_move rfl rfl) ?_
    refine SQ.ru rfl rfl (lt_b rfl) (ru_nilCheck rfl rfl) ?_
    refine SQ.ru rfl rfl (lt_b rfl) (ru_fieldAddr (o2 := 3) fd43_3 rfl rfl rfl) ?_
    refine SQ.ru rfl rfl (lt_b rfl) (ru_load (i := 0) ts39 rfl rfl rfl rfl) ?_
    refine SQ.ru rfl rfl (lt_b rfl) (ru_fieldAddr (o2 := 3) fd30_3 rfl rfl rfl) ?_
    refine SQ.ru rfl rfl (lt_b rfl) (ru_load (i := 5) ts4 rfl rfl rfl rfl) ?_
    refine SQ.nilL ?_
    refine SL.call (ζ := Unit × RefS × (Nat → Prop)) (fun z => Value.tuple #[]) (fun z => [rBlk g [pt d 0, pt p 0, pt r 0, pt e 0, pt q 0, pt s 0, Value.slice qc come.length cc, Value.slice qm mine.length cm] 43, rRing r d p ab F38 ({ S with A := linkF S.A y }), rRefR s e q z.2.2 z.2.1, rRowO (.slice qc come.length cc) (ivs come) 3, rRowO (.slice qm mine.length cm) (ivs mine) 3, rBlk b1 [iw k, iw m, Value.slice fa f.length fc, bo y] 30]) (fun z => RB (B) z.2.1 ∧ ∀ b, z.2.2 b → G b ∨ w.heap.size ≤ b) rfl rfl co51 rfl rfl rfl (lt_b rfl) (fun w9 hI => by refine rr_dev (v := Value.tuple #[]) (A' := linkF Z.A y) (B := B) (Z := Z) (G := KZ) (s := s) (e := e) (q := q) (j := 2) hI rfl hKZ hZ ?_ ?_; exact link_ok hZ.ok.a _; intro F9 hN; exact q_link hZ.ok.a hN y) ?_
    rintro ⟨x39, Z40, K41⟩ ⟨hZ40, hK41⟩
    refine SL.nil ?_
    refine SE.blkn ?_
    refine SC.of_SE ?_
    refine SC.norm [(4, bo false)] [rBlk g [pt d 0, pt p 0, pt r 0, pt e 0, pt q 0, pt s 0, Value.slice qc come.length cc, Value.slice qm mine.length cm] 43, rRing r d p ab F38 ({ S with A := linkF S.A y }), rRefR s e q K41 Z40, rRowO (.slice qc come.length cc) (ivs come) 3, rRowO (.slice qm mine.length cm) (ivs mine) 3, rBlk b1 [iw k, iw m, Value.slice fa f.length fc, bo y] 30] ⟨rfl, trivial⟩ rfl ?_
    refine SC.sr ?_
    refine SL.as ?_
    refine SL.nn [(4, bo true)] _ ⟨rfl, trivial⟩ ?_
    refine SC.ret ?_
    refine SE.res (.inl rfl) (res1 Try.results16 rfl) fun w1 hI => ⟨⟨_, rfl⟩, ⟨{ S with A := linkF S.A y }, F38, Z40, K41, come, mine, qc, cc, qm, cm⟩, (hj.dev (link_ok hj.ok.a _)), hZ40.up, (Eq.trans rfl (if_pos (by omega)).symm), ?_, ⟨hg, hG, hF38, hK41, hqc, hqm⟩, hI.2⟩
    exact (hI.pick (js := [0, 1, 2, 3, 4]) rfl).1
  have hk6 := eq_f h37
  refine SC.sr ?_
  refine SL.uu (ru_eq (b := ((k : Int) == 7)) rfl rfl rfl rfl) ?_
  refine SL.as ?_
  refine SL.nn [(0, pt g 0), (3, pt b1 0), (4, bo false), (10, iw k), (123, bo ((k : Int) == 7))] _ ⟨rfl, rfl, rfl, rfl, rfl, trivial⟩ ?_
  refine SC.both ((k : Int) == 7) rfl (fun h42 => ?_) (fun h42 => ?_)
  · skip
    have hk7 := eq_t h42
    refine SC.sr ?_
    refine SL.mv ?_
    refine SL.nk ?_
    refine SL.uu (ru_fieldAddr (o2 := 0) fd43_0 rfl rfl rfl) ?_
    refine SL.uu (ru_load (i := 0) ts36 rfl rfl rfl rfl) ?_
    refine SL.call (ζ := Nat → Prop) (fun F43 => Value.tuple #[]) (fun F43 => [rBlk g [pt d 0, pt p 0, pt r 0, pt e 0, pt q 0, pt s 0, Value.slice qc come.length cc, Value.slice qm mine.length cm] 43, rRing r d p ab F43 ({ S with A := tickF S.A }), rRefR s e q KZ Z, rRowO (.slice qc come.length cc) (ivs come) 3, rRowO (.slice qm mine.length cm) (ivs mine) 3, rBlk b1 [iw k, iw m, Value.slice fa f.length fc, bo y] 30]) (fun F43 => (∀ b, F43 b → G b ∨ w.heap.size ≤ b)) rfl rfl co52 rfl rfl rfl (lt_b rfl) (fun w hI => (p_tick hj.ok.a (ring_at hI (i := 1) rfl).dev).mono fun e w2 ⟨h1, h2⟩ => by obtain ⟨F2, k1, k2⟩ := hI.ringTo (F0 := G) (i := 1) rfl hG ((ring_at hI (i := 1) rfl).devTo h2) hF; exact ⟨F2, h1, k1, k2⟩) ?_
    intro F43 hF43
    refine SL.nn [(0, pt g 0), (4, bo false)] [rBlk g [pt d 0, pt p 0, pt r 0, pt e 0, pt q 0, pt s 0, Value.slice qc come.length cc, Value.slice qm mine.length cm] 43, rRing r d p ab F43 ({ S with A := tickF S.A }), rRefR s e q KZ Z, rRowO (.slice qc come.length cc) (ivs come) 3, rRowO (.slice qm mine.length cm) (ivs mine) 3, rBlk b1 [iw k, iw m, Value.slice fa f.length fc, bo y] 30] ⟨rfl, rfl, trivial⟩ ?_
    refine SC.region ?_
    refine SL.mv ?_
    refine SL.nk ?_
    refine SL.uu (ru_fieldAddr (o2 := 3) fd43_3 rfl rfl rfl) ?_
    refine SL.uu (ru_load (i := 0) ts39 rfl rfl rfl rfl) ?_
    refine SL.nk ?_
    refine SL.uu (ru_fieldAddr (o2 := 104) fd108_3 rfl rfl rfl) ?_
    refine SL.uu (ru_ref_clk (j := 2) ts3 rfl rfl rfl) ?_
    refine SL.uu (ru_add (r := (IntKind.i64.wrap (Z.A.clk + 1))) rfl rfl rfl rfl) ?_
    refine SL.nk ?_
    refine SL.uu (ru_fieldAddr (o2 := 104) fd108_3 rfl rfl rfl) ?_
    refine SL.ref_clk (j := 2) (B := B) rfl rfl ts3 rfl rfl rfl rfl hKZ hZ fun Z44 K45 hZ44 hK45 => ?_
    refine SL.nil ?_
    refine SE.blkn ?_
    refine SC.of_SE ?_
    refine SC.norm [(4, bo false)] [rBlk g [pt d 0, pt p 0, pt r 0, pt e 0, pt q 0, pt s 0, Value.slice qc come.length cc, Value.slice qm mine.length cm] 43, rRing r d p ab F43 ({ S with A := tickF S.A }), rRefR s e q K45 Z44, rRowO (.slice qc come.length cc) (ivs come) 3, rRowO (.slice qm mine.length cm) (ivs mine) 3, rBlk b1 [iw k, iw m, Value.slice fa f.length fc, bo y] 30] ⟨rfl, trivial⟩ rfl ?_
    refine SC.sr ?_
    refine SL.as ?_
    refine SL.nn [(4, bo true)] _ ⟨rfl, trivial⟩ ?_
    refine SC.ret ?_
    refine SE.res (.inl rfl) (res1 Try.results16 rfl) fun w1 hI => ⟨⟨_, rfl⟩, ⟨{ S with A := tickF S.A }, F43, Z44, K45, come, mine, qc, cc, qm, cm⟩, (hj.dev (tick_ok hj.ok.a)), hZ44.up, (Eq.trans rfl (if_neg (by omega)).symm), ?_, ⟨hg, hG, hF43, hK45, hqc, hqm⟩, hI.2⟩
    exact (hI.pick (js := [0, 1, 2, 3, 4]) rfl).1
  have hk7 := eq_f h42
  refine SC.seq ?_
  refine SC.sr ?_
  refine SL.uu (ru_eq (b := ((k : Int) == 8)) rfl rfl rfl rfl) ?_
  refine SL.as ?_
  refine SL.nn [(0, pt g 0), (3, pt b1 0), (4, bo false), (10, iw k), (140, bo ((k : Int) == 8))] _ ⟨rfl, rfl, rfl, rfl, rfl, trivial⟩ ?_
  refine SC.both ((k : Int) == 8) rfl (fun h46 => ?_) (fun h46 => ?_)
  · skip
    have hk8 := eq_t h46
    refine SC.skip ?_
    refine SC.of_SE ?_
    refine SC.norm [(0, pt g 0), (3, pt b1 0), (4, bo false), (140, bo ((k : Int) == 8))] _ ⟨rfl, rfl, rfl, rfl, trivial⟩ rfl ?_
    refine SC.both ((k : Int) == 8) rfl (fun h47 => ?_) (fun h47 => ?_)
    · skip
      have hk8 := eq_t h47
      refine SC.sr ?_
      refine SL.mv ?_
      refine SL.uu (ru_loada (i := 5) (vs := [iw k, iw m, Value.slice fa f.length fc, bo y]) ta30 rfl rfl rfl rfl (le_b rfl)) ?_
      refine SL.call (ζ := Bool × DS) (fun z => bo z.1) (fun z => [rBlk g [pt d 0, pt p 0, pt r 0, pt e 0, pt q 0, pt s 0, Value.slice z.2.qc z.2.come.length z.2.cc, Value.slice z.2.qm z.2.mine.length z.2.cm] 43, rRing r d p ab z.2.F z.2.S, rRefR s e q z.2.K z.2.Z, rRowO (.slice z.2.qc z.2.come.length z.2.cc) (ivs z.2.come) 3, rRowO (.slice z.2.qm z.2.mine.length z.2.cm) (ivs z.2.mine) 3, rBlk b1 [iw k, iw m, Value.slice fa f.length fc, bo y] 30]) (fun z => FJ n z.2.S z.2.come z.2.mine ∧ RB (B + 1) z.2.Z ∧ z.2.S.A.r 1 = S.A.r 1 ∧ GX G w.heap.size g d p ab r z.2) rfl rfl co53 rfl rfl rfl (lt_b rfl) (fun w9 hI => (frees_any (G := fpl (RX g d p ab r e q s ⟨S, F, Z, KZ, come, mine, qc, cc, qm, cm⟩)) hj hn60 hZ h1B hB GX.self (Inv.headL (l1 := (RX g d p ab r e q s ⟨S, F, Z, KZ, come, mine, qc, cc, qm, cm⟩)) hI)).mono fun e2 w2 ⟨⟨v, h1⟩, h2⟩ => by obtain ⟨x9, k1, k2, k3, k4, k5⟩ := DTo.lift (x := ⟨S, F, Z, KZ, come, mine, qc, cc, qm, cm⟩) hI hX h2; exact ⟨(v, x9), h1, k1, k2, k3, k4, k5⟩) ?_
      rintro ⟨v49, x48⟩ ⟨hx48j, hx48z, hx48r, hx48X⟩
      refine SL.as ?_
      refine SL.nn [(4, bo v49)] [rBlk g [pt d 0, pt p 0, pt r 0, pt e 0, pt q 0, pt s 0, Value.slice x48.qc x48.come.length x48.cc, Value.slice x48.qm x48.mine.length x48.cm] 43, rRing r d p ab x48.F x48.S, rRefR s e q x48.K x48.Z, rRowO (.slice x48.qc x48.come.length x48.cc) (ivs x48.come) 3, rRowO (.slice x48.qm x48.mine.length x48.cm) (ivs x48.mine) 3, rBlk b1 [iw k, iw m, Value.slice fa f.length fc, bo y] 30] ⟨rfl, trivial⟩ ?_
      refine SC.ret ?_
      refine SE.blkr ?_
      refine SE.passr ?_
      refine SE.res (.inl rfl) (res1 Try.results16 rfl) fun w1 hI => ⟨⟨_, rfl⟩, x48, hx48j, hx48z, (Eq.trans hx48r (if_neg (by omega)).symm), (hI.pick (js := [0, 1, 2, 3, 4]) rfl).1, hx48X, hI.2⟩
    have hk8 := eq_f h47
    refine SC.skip ?_
    refine SE.blkn ?_
    refine SC.of_SE ?_
    refine SC.norm [(4, bo false)] _ ⟨rfl, trivial⟩ rfl ?_
    refine SC.sr ?_
    refine SL.as ?_
    refine SL.nn [(4, bo true)] _ ⟨rfl, trivial⟩ ?_
    refine SC.ret ?_
    refine SE.res (.inl rfl) (res1 Try.results16 rfl) fun w1 hI => ⟨⟨_, rfl⟩, ⟨S, F, Z, KZ, come, mine, qc, cc, qm, cm⟩, hj, hZ.up, (Eq.trans rfl (if_neg (by omega)).symm), ?_, ⟨hg, hG, hF, hKZ, hqc, hqm⟩, hI.2⟩
    exact (hI.pick (js := [0, 1, 2, 3, 4]) rfl).1
  have hk8 := eq_f h46
  refine SC.region ?_
  refine SL.uu (ru_eq (b := ((k : Int) == 9)) rfl rfl rfl rfl) ?_
  refine SL.as ?_
  refine SL.nn [(0, pt g 0), (3, pt b1 0), (4, bo false), (140, bo ((k : Int) == 9))] _ ⟨rfl, rfl, rfl, rfl, trivial⟩ ?_
  refine SC.both ((k : Int) == 9) rfl (fun h50 => ?_) (fun h50 => ?_)
  · skip
    have hk9 := eq_t h50
    refine SC.sr ?_
    refine SL.mv ?_
    refine SL.uu (ru_loada (i := 5) (vs := [iw k, iw m, Value.slice fa f.length fc, bo y]) ta30 rfl rfl rfl rfl (le_b rfl)) ?_
    refine SL.call (ζ := Bool × DS) (fun z => bo z.1) (fun z => [rBlk g [pt d 0, pt p 0, pt r 0, pt e 0, pt q 0, pt s 0, Value.slice z.2.qc z.2.come.length z.2.cc, Value.slice z.2.qm z.2.mine.length z.2.cm] 43, rRing r d p ab z.2.F z.2.S, rRefR s e q z.2.K z.2.Z, rRowO (.slice z.2.qc z.2.come.length z.2.cc) (ivs z.2.come) 3, rRowO (.slice z.2.qm z.2.mine.length z.2.cm) (ivs z.2.mine) 3, rBlk b1 [iw k, iw m, Value.slice fa f.length fc, bo y] 30]) (fun z => FJ n z.2.S z.2.come z.2.mine ∧ RB (B + 1) z.2.Z ∧ z.2.S.A.r 1 = S.A.r 1 ∧ GX G w.heap.size g d p ab r z.2) rfl rfl co53 rfl rfl rfl (lt_b rfl) (fun w9 hI => (frees_any (G := fpl (RX g d p ab r e q s ⟨S, F, Z, KZ, come, mine, qc, cc, qm, cm⟩)) hj hn60 hZ h1B hB GX.self (Inv.headL (l1 := (RX g d p ab r e q s ⟨S, F, Z, KZ, come, mine, qc, cc, qm, cm⟩)) hI)).mono fun e2 w2 ⟨⟨v, h1⟩, h2⟩ => by obtain ⟨x9, k1, k2, k3, k4, k5⟩ := DTo.lift (x := ⟨S, F, Z, KZ, come, mine, qc, cc, qm, cm⟩) hI hX h2; exact ⟨(v, x9), h1, k1, k2, k3, k4, k5⟩) ?_
    rintro ⟨v52, x51⟩ ⟨hx51j, hx51z, hx51r, hx51X⟩
    refine SL.as ?_
    refine SL.nn [(4, bo v52)] [rBlk g [pt d 0, pt p 0, pt r 0, pt e 0, pt q 0, pt s 0, Value.slice x51.qc x51.come.length x51.cc, Value.slice x51.qm x51.mine.length x51.cm] 43, rRing r d p ab x51.F x51.S, rRefR s e q x51.K x51.Z, rRowO (.slice x51.qc x51.come.length x51.cc) (ivs x51.come) 3, rRowO (.slice x51.qm x51.mine.length x51.cm) (ivs x51.mine) 3, rBlk b1 [iw k, iw m, Value.slice fa f.length fc, bo y] 30] ⟨rfl, trivial⟩ ?_
    refine SC.ret ?_
    refine SE.blkr ?_
    refine SE.passr ?_
    refine SE.res (.inl rfl) (res1 Try.results16 rfl) fun w1 hI => ⟨⟨_, rfl⟩, x51, hx51j, hx51z, (Eq.trans hx51r (if_neg (by omega)).symm), (hI.pick (js := [0, 1, 2, 3, 4]) rfl).1, hx51X, hI.2⟩
  have hk9 := eq_f h50
  refine SC.skip ?_
  refine SE.blkn ?_
  refine SC.of_SE ?_
  refine SC.norm [(4, bo false)] _ ⟨rfl, trivial⟩ rfl ?_
  refine SC.sr ?_
  refine SL.as ?_
  refine SL.nn [(4, bo true)] _ ⟨rfl, trivial⟩ ?_
  refine SC.ret ?_
  refine SE.res (.inl rfl) (res1 Try.results16 rfl) fun w1 hI => ⟨⟨_, rfl⟩, ⟨S, F, Z, KZ, come, mine, qc, cc, qm, cm⟩, hj, hZ.up, (Eq.trans rfl (if_neg (by omega)).symm), ?_, ⟨hg, hG, hF, hKZ, hqc, hqm⟩, hI.2⟩
  exact (hI.pick (js := [0, 1, 2, 3, 4]) rfl).1

end Go.Proofs.Ytghfkgcaglabpaa

/-
  For the walks of RingFills and RingDown: what begun leaves, of both rings; what is known ahead of the first call.
-/
namespace Go.Proofs.Ytghfkgcaglabpaa
open Go.RowKit
section
variable {X : Cx} {w w' : World} {n g : Nat}
def ds0 (n : Nat) (F K : Nat → Prop) : DS := ⟨beg0 n, F, ref0 n, K, [], [], none, 0, none, 0⟩
theorem Rig.three {l' : List Res} (h : Rig w n g l' w') (hI : Inv X w []) (hO : Only (fun _ => False) w w') : ∃ d p ab r e q s F K, Inv X w' [rBlk g [pt d 0, pt p 0, pt r 0, pt e 0, pt q 0, pt s 0, .slice none 0 0, .slice none 0 0] 43, rRing r d p ab F (beg0 n), rRefR s e q K (ref0 n)] ∧
    GX X.S X.w0.heap.size g d p ab r (ds0 n F K) := by
  obtain ⟨d, p, ab, r, e, q, s, F, K, rfl, h2, h3⟩ := h
  have hsz := hI.2.size
  have big : ∀ b, rfp r d p ab F b → X.w0.heap.size ≤ b := fun b hb => Nat.le_trans hsz (h3 (rRing r d p ab F (beg0 n)) (by simp) b hb)
  refine ⟨d, p, ab, r, e, q, s, F, K, ⟨h2, hI.2.trans' hO (fun _ h => h.elim)⟩, .inr (Nat.le_trans hsz (h3 _ List.mem_cons_self g rfl)), fun b hb => .inr (big b (rS_rfp hb)), fun b hb => .inr (big b (.inr (.inr (.inl hb)))), fun b hb => .inr (Nat.le_trans hsz (h3 (rRefR s e q K (ref0 n)) (by simp) b hb)), fun b hb => ?_, fun b hb => ?_⟩
  · simp [ds0, Value.ownBlock] at hb
  · simp [ds0, Value.ownBlock] at hb
end
theorem fj0 {n : Nat} (h1 : 1 ≤ n) : FJ n (beg0 n) [] [] := by
  have h := (RJ.law h1).beg
  obtain ⟨a, b, c, d, e, f, k, _⟩ := h.q
  exact ⟨h.ok, _, ⟨a, b, c, d, e, f, k, fun z => z.elim⟩, fun i => (by rw [cnt_nil]; exact (h.q.hb i).1), fun x hx => (by cases hx), fun x hx => (by cases hx)⟩
theorem rb0 {n : Nat} : RB 1 (ref0 n) := ⟨(rbegin_ok (Z := ⟨newA, List.replicate n ⟨0, [], []⟩, [], [], 0, 0⟩) newA_ok few0).1, lim_rbegin (Z := ⟨newA, List.replicate n ⟨0, [], []⟩, [], [], 0, 0⟩) (fun b hb => by rw [(List.mem_replicate.1 hb).2]; simp) (Nat.le_refl _)⟩
theorem FJ.poll0 {n : Nat} {S : RingA} {come mine : List Int} (H : FJ n S come mine) : FJ n (pollF S).1 come mine := by have := H.poll.1 0; simpa using this
theorem nfree0 {L : List Bf} (h : ∀ b ∈ L, b.refs ≠ 0) : nfree L = 0 := by
  unfold nfree
  rw [List.countP_eq_zero]
  intro b hb
  have := h b hb
  simp only [beq_iff_eq]
  exact this
end Go.Proofs.Ytghfkgcaglabpaa

/-
  RingFills, where the number is one of 1 to 60.
-/
namespace Go.Proofs.Ytghfkgcaglabpaa
open Go.RowKit
set_option maxRecDepth 100000
set_option maxHeartbeats 1000000
theorem fills_in {w : World} {n : Nat} (h1n : 1 ≤ n) (h60 : n ≤ 60) {vv : Value} {l : List OpX} (h : OpsX w vv l) (G : Nat → Prop) (hGf : ∀ b, ¬ G b) : Calls Try.prog 5 #[iw (n : Int), vv] w fun e w' => e = .returned (bo true) ∧ Only G w w' := by
  obtain ⟨oa, oc, rfl, hlen, hops⟩ := h
  refine calls_sc (l0 := []) (args := [iw (n : Int), Value.slice oa l.length oc]) G Try.func5 rfl 114 Try.ntmps5 (le_b rfl) ⟨⟨by simp, List.Pairwise.nil⟩, Only.refl _ _⟩ ?_
  show SC _ _ _ _ [(0, iw (n : Int)), (1, Value.slice oa l.length oc)] []
  refine SC.sr ?_
  refine SL.as ?_
  refine SL.nn [(0, iw (n : Int)), (1, Value.slice oa l.length oc), (4, bo false)] [] ⟨rfl, rfl, rfl, trivial⟩ ?_
  refine SC.sr ?_
  refine SL.callv (bo true) rfl rfl co6 rfl rfl rfl (lt_b rfl) (fun w hI => H_only hI (awake_any _)) ?_
  refine SL.as ?_
  refine SL.nn [(0, iw (n : Int)), (1, Value.slice oa l.length oc), (4, bo false), (5, bo true)] _ ⟨rfl, rfl, rfl, rfl, trivial⟩ ?_
  refine SC.sr ?_
  refine SL.mv ?_
  refine SL.call (ζ := Nat × Nat × Nat × Nat × Nat × Nat × Nat × Nat × (Nat → Prop) × (Nat → Prop)) (fun z => pt z.1 0) (fun z => [rBlk z.1 [pt z.2.1 0, pt z.2.2.1 0, pt z.2.2.2.2.1 0, pt z.2.2.2.2.2.1 0, pt z.2.2.2.2.2.2.1 0, pt z.2.2.2.2.2.2.2.1 0, Value.slice none 0 0, Value.slice none 0 0] 43, rRing z.2.2.2.2.1 z.2.1 z.2.2.1 z.2.2.2.1 z.2.2.2.2.2.2.2.2.1 (beg0 n), rRefR z.2.2.2.2.2.2.2.1 z.2.2.2.2.2.1 z.2.2.2.2.2.2.1 z.2.2.2.2.2.2.2.2.2 (ref0 n)]) (fun z => GX G w.heap.size z.1 z.2.1 z.2.2.1 z.2.2.2.1 z.2.2.2.2.1 (ds0 n z.2.2.2.2.2.2.2.2.1 z.2.2.2.2.2.2.2.2.2)) rfl rfl co7 rfl rfl rfl (lt_b rfl) (fun w9 hI => (begun_in h1n h60).mono fun e2 w2 ⟨g, h1, l3, h2, h3⟩ => by obtain ⟨d, p, ab, r, e, q, s, F, K, k1, k2⟩ := h2.three hI h3; exact ⟨(g, d, p, ab, r, e, q, s, F, K), h1, k1, k2⟩) ?_
  rintro ⟨g, d, p, ab, r, e, q, s, F, KZ⟩ hX0
  dsimp only at hX0
  refine SL.as ?_
  refine SL.nn [(0, iw (n : Int)), (1, Value.slice oa l.length oc), (4, bo false), (5, bo true), (6, pt g 0)] [rBlk g [pt d 0, pt p 0, pt r 0, pt e 0, pt q 0, pt s 0, Value.slice none 0 0, Value.slice none 0 0] 43, rRing r d p ab F (beg0 n), rRefR s e q KZ (ref0 n)] ⟨rfl, rfl, rfl, rfl, rfl, trivial⟩ ?_
  refine SC.seq ?_
  refine SC.sr ?_
  refine SL.mv ?_
  refine SL.uu (ru_not (c := false) rfl rfl rfl) ?_
  refine SL.mv ?_
  refine SL.rug rfl rfl rfl rfl (lt_b rfl) (ru_move rfl rfl) ?_
  refine SL.rug rfl rfl rfl rfl (lt_b rfl) (ru_eqnil Try.underlying24 rfl rfl rfl rfl) ?_
  refine SL.uu (ru_pick (u := bo true) (v := bo false) rfl rfl rfl rfl) ?_
  refine SL.nn [(0, iw (n : Int)), (1, Value.slice oa l.length oc), (4, bo false), (5, bo true), (6, pt g 0), (21, bo false)] _ ⟨rfl, rfl, rfl, rfl, rfl, rfl, trivial⟩ ?_
  refine SC.no rfl ?_
  refine SC.skip ?_
  refine SC.of_SE ?_
  refine SC.norm [(1, Value.slice oa l.length oc), (4, bo false), (6, pt g 0)] _ ⟨rfl, rfl, rfl, trivial⟩ rfl ?_
  refine SC.seq ?_
  refine SC.sr ?_
  refine SL.as ?_
  refine SL.nn [(1, Value.slice oa l.length oc), (4, bo false), (6, pt g 0), (7, iw 0)] _ ⟨rfl, rfl, rfl, rfl, trivial⟩ ?_
  refine SC.block ?_
  refine SC.rows (rRowO (.slice none 0 0) (ivs []) 3) (fun b hb => by cases hb) (fun w => rowO_nil w 3) ?_
  refine SC.rows (rRowO (.slice none 0 0) (ivs []) 3) (fun b hb => by cases hb) (fun w => rowO_nil w 3) ?_
  refine SC.loop (γ := Nat × DS) (fun k z => [(1, Value.slice oa l.length oc), (4, bo false), (6, pt g 0), (7, iw (z.1 : Int))]) (fun k z => [rBlk g [pt d 0, pt p 0, pt r 0, pt e 0, pt q 0, pt s 0, Value.slice z.2.qc z.2.come.length z.2.cc, Value.slice z.2.qm z.2.mine.length z.2.cm] 43, rRing r d p ab z.2.F z.2.S, rRefR s e q z.2.K z.2.Z, rRowO (.slice z.2.qc z.2.come.length z.2.cc) (ivs z.2.come) 3, rRowO (.slice z.2.qm z.2.mine.length z.2.cm) (ivs z.2.mine) 3]) (fun k z => k + z.1 = l.length ∧ FJ n z.2.S z.2.come z.2.mine ∧ RB (z.1 + 1) z.2.Z ∧ GX G w.heap.size g d p ab r z.2) l.length (0, ds0 n F KZ) ⟨rfl, fj0 h1n, rb0, hX0⟩ ⟨rfl, rfl, rfl, rfl, trivial⟩ rfl ?_
  rintro N ⟨i, S, F, Z, KZ, come, mine, qc, cc, qm, cm⟩ ⟨hn, hj, hZ, hX⟩
  dsimp only at hn hj hZ
  rcases N with _ | N
  · skip
    refine SC.seq ?_
    refine SC.sr ?_
    refine SL.mv ?_
    refine SL.mv ?_
    refine SL.uu (ru_len Try.underlying22 rfl rfl) ?_
    refine SL.uu (ru_lt (b := (decide (((i : Int) : Int) < (l.length : Int)))) rfl rfl rfl rfl) ?_
    refine SL.nn [(1, Value.slice oa l.length oc), (4, bo false), (6, pt g 0), (7, iw (i : Int)), (34, bo (decide (((i : Int) : Int) < (l.length : Int))))] [rBlk g [pt d 0, pt p 0, pt r 0, pt e 0, pt q 0, pt s 0, Value.slice qc come.length cc, Value.slice qm mine.length cm] 43, rRing r d p ab F S, rRefR s e q KZ Z, rRowO (.slice qc come.length cc) (ivs come) 3, rRowO (.slice qm mine.length cm) (ivs mine) 3] ⟨rfl, rfl, rfl, rfl, rfl, trivial⟩ ?_
    refine SC.no (show some (Value.bool (decide (((i : Int) : Int) < (l.length : Int)))) = some (Value.bool false) from congrArg (fun x => some (Value.bool x)) (decide_eq_false (by omega))) ?_
    refine SC.exit ?_
    refine SE.passe ?_
    refine SE.passe ?_
    refine SE.blke ?_
    refine SC.of_SE ?_
    refine SC.norm [(4, bo false)] _ ⟨rfl, trivial⟩ rfl ?_
    refine SC.sr ?_
    refine SL.as ?_
    refine SL.nn [(4, bo true)] _ ⟨rfl, trivial⟩ ?_
    refine SC.ret ?_
    refine SE.res (.inl rfl) (res1 Try.results5 rfl) fun w1 hI => ⟨rfl, hI.2⟩
  obtain ⟨ob, oo, ea, hop⟩ := hops i (by omega)
  obtain ⟨⟨k, m, ov, f, y⟩, hl⟩ : ∃ op : OpX, op = l[i]'(by omega) := ⟨_, rfl⟩
  rw [← hl] at hop
  obtain ⟨hc, hb0, hs0⟩ := hop
  simp only at hc hb0 hs0
  obtain ⟨fa, fc, rfl⟩ := hb0.form
  subst ea
  refine SC.seq ?_
  refine SC.sr ?_
  refine SL.mv ?_
  refine SL.mv ?_
  refine SL.uu (ru_len Try.underlying22 rfl rfl) ?_
  refine SL.uu (ru_lt (b := (decide (((i : Int) : Int) < (l.length : Int)))) rfl rfl rfl rfl) ?_
  refine SL.nn [(1, sl ob oo l.length oc), (4, bo false), (6, pt g 0), (7, iw (i : Int)), (34, bo (decide (((i : Int) : Int) < (l.length : Int))))] [rBlk g [pt d 0, pt p 0, pt r 0, pt e 0, pt q 0, pt s 0, Value.slice qc come.length cc, Value.slice qm mine.length cm] 43, rRing r d p ab F S, rRefR s e q KZ Z, rRowO (.slice qc come.length cc) (ivs come) 3, rRowO (.slice qm mine.length cm) (ivs mine) 3] ⟨rfl, rfl, rfl, rfl, rfl, trivial⟩ ?_
  refine SC.yes (show some (Value.bool (decide (((i : Int) : Int) < (l.length : Int)))) = some (Value.bool true) from congrArg (fun x => some (Value.bool x)) (decide_eq_true (by omega))) ?_
  refine SC.skip ?_
  refine SC.of_SE ?_
  refine SC.norm [(1, sl ob oo l.length oc), (4, bo false), (6, pt g 0), (7, iw (i : Int))] _ ⟨rfl, rfl, rfl, rfl, trivial⟩ rfl ?_
  refine SC.seq ?_
  refine SC.block ?_
  refine SC.sr ?_
  refine SL.mv ?_
  refine SL.mv ?_
  refine SL.mv ?_
  refine SL.uu (ru_indexS (o2 := oo + (i : Int).toNat * 4) si22 rfl rfl rfl (by omega) (by omega) rfl) ?_
  refine SL.uu (ru_loada_old (vs := [iw k, iw m, Value.slice fa f.length fc, bo y]) hGf ta30 rfl rfl rfl (by rw [Int.toNat_natCast]; exact hc)) ?_
  refine SL.call (ζ := Bool × DS) (fun z => bo z.1) (fun z => [rBlk g [pt d 0, pt p 0, pt r 0, pt e 0, pt q 0, pt s 0, Value.slice z.2.qc z.2.come.length z.2.cc, Value.slice z.2.qm z.2.mine.length z.2.cm] 43, rRing r d p ab z.2.F z.2.S, rRefR s e q z.2.K z.2.Z, rRowO (.slice z.2.qc z.2.come.length z.2.cc) (ivs z.2.come) 3, rRowO (.slice z.2.qm z.2.mine.length z.2.cm) (ivs z.2.mine) 3]) (fun z => FJ n z.2.S z.2.come z.2.mine ∧ RB (i + 1 + 1) z.2.Z ∧ z.2.S.A.r 1 = (if k = 6 then (linkF S.A y).r 1 else S.A.r 1) ∧ GX G w.heap.size g d p ab r z.2) rfl rfl co16 rfl rfl rfl (lt_b rfl) (fun w9 hI => (does_any (G := fpl (RX g d p ab r e q s ⟨S, F, Z, KZ, come, mine, qc, cc, qm, cm⟩)) hj h60 hZ (by omega) (by omega) GX.self (hb0.only hI.2 (hs0.mono fun b _ h => hGf b h)) (hs0.mono fun b hlt h9 => by have := (hX.fp b h9).resolve_left (hGf b); omega) (hs0.mono fun b hlt h9 => by have := (hX.fp b h9).resolve_left (hGf b); omega) (Inv.headL (l1 := (RX g d p ab r e q s ⟨S, F, Z, KZ, come, mine, qc, cc, qm, cm⟩)) hI)).mono fun e2 w2 ⟨⟨v, h1⟩, h2⟩ => by obtain ⟨x9, k1, k2, k3, k4, k5⟩ := DTo.lift (x := ⟨S, F, Z, KZ, come, mine, qc, cc, qm, cm⟩) hI hX h2; exact ⟨(v, x9), h1, k1, k2, k3, k4, k5⟩) ?_
  rintro ⟨v2, x1⟩ ⟨hx1j, hx1z, hx1r, hx1X⟩
  refine SL.nn [(1, sl ob oo l.length oc), (4, bo false), (6, pt g 0), (7, iw (i : Int))] [rBlk g [pt d 0, pt p 0, pt r 0, pt e 0, pt q 0, pt s 0, Value.slice x1.qc x1.come.length x1.cc, Value.slice x1.qm x1.mine.length x1.cm] 43, rRing r d p ab x1.F x1.S, rRefR s e q x1.K x1.Z, rRowO (.slice x1.qc x1.come.length x1.cc) (ivs x1.come) 3, rRowO (.slice x1.qm x1.mine.length x1.cm) (ivs x1.mine) 3] ⟨rfl, rfl, rfl, rfl, trivial⟩ ?_
  refine SC.sr ?_
  refine SL.mv ?_
  refine SL.nk ?_
  refine SL.uu (ru_fieldAddr (o2 := 2) fd43_2 rfl rfl rfl) ?_
  refine SL.uu (ru_load (i := 0) ts38 rfl rfl rfl rfl) ?_
  have hG : ∀ b, rS r d p ab b → G b ∨ w.heap.size ≤ b := hx1X.r
  refine SL.call (ζ := (Nat → Prop) × Option Addr × Nat) (fun z => Value.slice z.2.1 ((pollF x1.S).2.length) z.2.2) (fun z => [rBlk g [pt d 0, pt p 0, pt r 0, pt e 0, pt q 0, pt s 0, Value.slice x1.qc x1.come.length x1.cc, Value.slice x1.qm x1.mine.length x1.cm] 43, rRing r d p ab z.1 ((pollF x1.S).1), rRefR s e q x1.K x1.Z, rRowO (.slice x1.qc x1.come.length x1.cc) (ivs x1.come) 3, rRowO (.slice x1.qm x1.mine.length x1.cm) (ivs x1.mine) 3, rRowN (.slice z.2.1 ((pollF x1.S).2.length) z.2.2) (comeV (pollF x1.S).2) 67 2]) (fun z => (∀ b, z.1 b → G b ∨ w.heap.size ≤ b) ∧ ∀ b, (Value.slice z.2.1 (pollF x1.S).2.length z.2.2).ownBlock = some b → w.heap.size ≤ b) rfl rfl co20 rfl rfl rfl (lt_b rfl) (fun w hI => (poll_any hx1j.ok.a hx1j.ok.t hx1j.ok.r hx1j.few (ring_at hI (i := 1) rfl)).mono fun e w2 ⟨q, c, h1, h2⟩ => by obtain ⟨F2, k1, k2, k3⟩ := hI.ringToW (F0 := G) (i := 1) rfl hG h2 hx1X.f; exact ⟨(F2, q, c), h1, k1, k2, fun b hb => k3 _ List.mem_cons_self b hb⟩) ?_
  rintro ⟨F5, q3, c4⟩ ⟨hF5, hqa⟩
  refine SL.nn [(1, sl ob oo l.length oc), (4, bo false), (6, pt g 0), (7, iw (i : Int))] [rBlk g [pt d 0, pt p 0, pt r 0, pt e 0, pt q 0, pt s 0, Value.slice x1.qc x1.come.length x1.cc, Value.slice x1.qm x1.mine.length x1.cm] 43, rRing r d p ab F5 ((pollF x1.S).1), rRefR s e q x1.K x1.Z, rRowO (.slice x1.qc x1.come.length x1.cc) (ivs x1.come) 3, rRowO (.slice x1.qm x1.mine.length x1.cm) (ivs x1.mine) 3, rRowN (.slice q3 ((pollF x1.S).2.length) c4) (comeV (pollF x1.S).2) 67 2] ⟨rfl, rfl, rfl, rfl, trivial⟩ ?_
  refine SC.sr ?_
  refine SL.mv ?_
  refine SL.nk ?_
  refine SL.uu (ru_fieldAddr (o2 := 2) fd43_2 rfl rfl rfl) ?_
  refine SL.uu (ru_load (i := 0) ts38 rfl rfl rfl rfl) ?_
  refine SL.mk (Mk.ints ⟨114, w, G⟩ (allV (((pollF x1.S).1).R)) 3) (w_all rfl) rfl co24 rfl rfl rfl (lt_b rfl) (fun l' w hI => (coming_any ((poll_ok hx1j.ok hx1j.few).1).t ((poll_ok hx1j.ok hx1j.few).1).r (ring_at hI (i := 1) rfl)).mono fun e w2 ⟨q, c, h1, h2, h3, h4⟩ => ⟨_, h1, ⟨q, c, fun b hb => Nat.le_trans hI.2.size (h3 b hb), rfl⟩, hI.add h4 h2 h3⟩) ?_
  rintro _ ⟨q6, c7, hq6, rfl⟩
  refine SL.norm [(1, sl ob oo l.length oc), (4, bo false), (6, pt g 0), (7, iw (i : Int)), (48, pt g 0), (49, pt g 0), (50, pt g 2), (51, pt r 0), (52, Value.slice q6 ((allV (((pollF x1.S).1).R)).length) c7)] [rBlk g [pt d 0, pt p 0, pt r 0, pt e 0, pt q 0, pt s 0, Value.slice x1.qc x1.come.length x1.cc, Value.slice x1.qm x1.mine.length x1.cm] 43, rRing r d p ab F5 ((pollF x1.S).1), rRefR s e q x1.K x1.Z, rRowO (.slice x1.qc x1.come.length x1.cc) (ivs x1.come) 3, rRowO (.slice x1.qm x1.mine.length x1.cm) (ivs x1.mine) 3, rRowN (.slice q3 ((pollF x1.S).2.length) c4) (comeV (pollF x1.S).2) 67 2, rRow (.slice q6 ((allV (((pollF x1.S).1).R)).length) c7) (allV (((pollF x1.S).1).R)) 3] ⟨rfl, rfl, rfl, rfl, rfl, rfl, rfl, rfl, rfl, trivial⟩ rfl ?_
  refine SL.as ?_
  refine SL.nn [(1, sl ob oo l.length oc), (4, bo false), (6, pt g 0), (7, iw (i : Int)), (8, Value.slice q6 ((allV (((pollF x1.S).1).R)).length) c7)] _ ⟨rfl, rfl, rfl, rfl, rfl, trivial⟩ ?_
  refine SC.seq ?_
  refine SC.seq ?_
  have hjp : FJ n (pollF x1.S).1 x1.come x1.mine := hx1j.poll0
  have hRl : (allV (pollF x1.S).1.R).length = (allL (pollF x1.S).1.R).length := by simp [allV]
  have hRm : (allL (pollF x1.S).1.R).length = (pollF x1.S).1.R.many.toNat := allL_len
  have hRk := hjp.ok.r.m
  rcases hx1j.poll.2 with hfl | hfl
  · skip
    have hl15 : (allV (pollF x1.S).1.R).length = 15 := by rw [hRl, hRm, hfl]; rfl
    refine SC.region ?_
    refine SL.mv ?_
    refine SL.uu (ru_len Try.underlying26 rfl rfl) ?_
    refine SL.uu (ru_gt (b := false) rfl rfl rfl ((show decide ((15 : Int) < ((allV (((pollF x1.S).1).R)).length : Int)) = false from decide_eq_false (by omega)))) ?_
    refine SL.mv ?_
    refine SL.rug rfl rfl rfl rfl (lt_b rfl) (ru_move rfl rfl) ?_
    refine SL.rug rfl rfl rfl rfl (lt_b rfl) (ru_len Try.underlying26 rfl rfl) ?_
    refine SL.rug rfl rfl rfl rfl (lt_b rfl) (ru_lt (b := false) rfl rfl rfl ((show decide ((((allV (((pollF x1.S).1).R)).length : Int) : Int) < 15) = false from decide_eq_false (by rw [hl15]; decide)))) ?_
    refine SL.rug rfl rfl rfl rfl (lt_b rfl) (ru_move rfl rfl) ?_
    refine SL.off (b := false) rfl rfl rfl rfl rfl (lt_b rfl) ?_
    refine SL.off (b := false) rfl rfl rfl rfl rfl (lt_b rfl) ?_
    refine SL.off (b := false) rfl rfl rfl rfl rfl (lt_b rfl) ?_
    refine SL.off (b := false) rfl rfl rfl rfl rfl (lt_b rfl) ?_
    refine SL.off (b := false) rfl rfl rfl rfl rfl (lt_b rfl) ?_
    refine SL.off (b := false) rfl rfl rfl rfl rfl (lt_b rfl) ?_
    refine SL.rug rfl rfl rfl rfl (lt_b rfl) (ru_pick (u := undef) (v := bo false) rfl rfl rfl rfl) ?_
    refine SL.uu (ru_pick (u := bo true) (v := bo false) rfl rfl rfl rfl) ?_
    refine SL.nn [(1, sl ob oo l.length oc), (4, bo false), (6, pt g 0), (7, iw (i : Int)), (8, Value.slice q6 ((allV (((pollF x1.S).1).R)).length) c7), (68, bo false)] _ ⟨rfl, rfl, rfl, rfl, rfl, rfl, trivial⟩ ?_
    refine SC.no rfl ?_
    refine SC.skip ?_
    refine SC.of_SE ?_
    refine SC.norm [(1, sl ob oo l.length oc), (4, bo false), (6, pt g 0), (7, iw (i : Int)), (8, Value.slice q6 ((allV (((pollF x1.S).1).R)).length) c7)] _ ⟨rfl, rfl, rfl, rfl, rfl, trivial⟩ rfl ?_
    refine SC.sr ?_
    refine SL.as ?_
    refine SL.nn [(1, sl ob oo l.length oc), (4, bo false), (6, pt g 0), (7, iw (i : Int)), (8, Value.slice q6 ((allV (((pollF x1.S).1).R)).length) c7), (9, iw 0)] _ ⟨rfl, rfl, rfl, rfl, rfl, rfl, trivial⟩ ?_
    refine SC.block ?_
    refine SC.loop (γ := Nat) (fun n9 z => [(1, sl ob oo l.length oc), (4, bo false), (6, pt g 0), (7, iw (i : Int)), (8, Value.slice q6 ((allV (((pollF x1.S).1).R)).length) c7), (9, iw (z : Int))]) (fun n9 z => [rBlk g [pt d 0, pt p 0, pt r 0, pt e 0, pt q 0, pt s 0, Value.slice x1.qc x1.come.length x1.cc, Value.slice x1.qm x1.mine.length x1.cm] 43, rRing r d p ab F5 ((pollF x1.S).1), rRefR s e q x1.K x1.Z, rRowO (.slice x1.qc x1.come.length x1.cc) (ivs x1.come) 3, rRowO (.slice x1.qm x1.mine.length x1.cm) (ivs x1.mine) 3, rRowN (.slice q3 ((pollF x1.S).2.length) c4) (comeV (pollF x1.S).2) 67 2, rRow (.slice q6 ((allV (((pollF x1.S).1).R)).length) c7) (allV (((pollF x1.S).1).R)) 3]) (fun n9 z => n9 + z = (allL (pollF x1.S).1.R).length) (allL (pollF x1.S).1.R).length 0 rfl ⟨rfl, rfl, rfl, rfl, rfl, rfl, trivial⟩ rfl ?_
    rintro Nkk kk hnkk
    rcases Nkk with _ | Nkk
    · skip
      refine SC.seq ?_
      refine SC.sr ?_
      refine SL.mv ?_
      refine SL.mv ?_
      refine SL.uu (ru_len Try.underlying26 rfl rfl) ?_
      refine SL.uu (ru_lt (b := (decide (((kk : Int) : Int) < ((allV (((pollF x1.S).1).R)).length : Int)))) rfl rfl rfl rfl) ?_
      refine SL.nn [(1, sl ob oo l.length oc), (4, bo false), (6, pt g 0), (7, iw (i : Int)), (8, Value.slice q6 ((allV (((pollF x1.S).1).R)).length) c7), (9, iw (kk : Int)), (72, bo (decide (((kk : Int) : Int) < ((allV (((pollF x1.S).1).R)).length : Int))))] _ ⟨rfl, rfl, rfl, rfl, rfl, rfl, rfl, trivial⟩ ?_
      refine SC.no (show some (Value.bool (decide (((kk : Int) : Int) < ((allV (((pollF x1.S).1).R)).length : Int)))) = some (Value.bool false) from congrArg (fun x => some (Value.bool x)) (decide_eq_false (by omega))) ?_
      refine SC.exit ?_
      refine SE.passe ?_
      refine SE.passe ?_
      refine SE.blke ?_
      refine SE.blkn ?_
      refine SC.of_SE ?_
      refine SC.norm [(1, sl ob oo l.length oc), (4, bo false), (6, pt g 0), (7, iw (i : Int))] _ ⟨rfl, rfl, rfl, rfl, trivial⟩ rfl ?_
      refine SC.region ?_
      refine SL.mv ?_
      refine SL.uu (ru_add (r := (IntKind.i64.wrap ((i : Int) + 1))) rfl rfl rfl rfl) ?_
      refine SL.as ?_
      refine SL.nil ?_
      refine SE.pick [0, 1, 2, 3, 4] rfl ?_
      refine SE.again N (i + 1, ⟨(pollF x1.S).1, F5, x1.Z, x1.K, x1.come, x1.mine, x1.qc, x1.cc, x1.qm, x1.cm⟩) (by omega) ⟨by simp only; omega, hx1j.poll0, hx1z, ⟨hx1X.g, hx1X.r, hF5, hx1X.k, hx1X.c, hx1X.m⟩⟩ ⟨rfl, rfl, rfl, (congrArg (fun x => some (iw x)) (show IntKind.i64.wrap ((i : Int) + 1) = ((i + 1 : Nat) : Int) by rw [IntKind.wrap_i64]; omega)), trivial⟩ rfl
    have hlies := hjp.lies (k := kk) (by omega)
    have hsee := hlies.1
    refine SC.seq ?_
    refine SC.sr ?_
    refine SL.mv ?_
    refine SL.mv ?_
    refine SL.uu (ru_len Try.underlying26 rfl rfl) ?_
    refine SL.uu (ru_lt (b := (decide (((kk : Int) : Int) < ((allV (((pollF x1.S).1).R)).length : Int)))) rfl rfl rfl rfl) ?_
    refine SL.nn [(1, sl ob oo l.length oc), (4, bo false), (6, pt g 0), (7, iw (i : Int)), (8, Value.slice q6 ((allV (((pollF x1.S).1).R)).length) c7), (9, iw (kk : Int)), (72, bo (decide (((kk : Int) : Int) < ((allV (((pollF x1.S).1).R)).length : Int))))] _ ⟨rfl, rfl, rfl, rfl, rfl, rfl, rfl, trivial⟩ ?_
    refine SC.yes (show some (Value.bool (decide (((kk : Int) : Int) < ((allV (((pollF x1.S).1).R)).length : Int)))) = some (Value.bool true) from congrArg (fun x => some (Value.bool x)) (decide_eq_true (by omega))) ?_
    refine SC.skip ?_
    refine SC.of_SE ?_
    refine SC.norm [(1, sl ob oo l.length oc), (4, bo false), (6, pt g 0), (7, iw (i : Int)), (8, Value.slice q6 ((allV (((pollF x1.S).1).R)).length) c7), (9, iw (kk : Int))] _ ⟨rfl, rfl, rfl, rfl, rfl, rfl, trivial⟩ rfl ?_
    refine SC.seq ?_
    refine SC.block ?_
    refine SC.seq ?_
    refine SC.region_mk_tailE [(13, 11)] 13 [(8, Mk.see ⟨114, w, G⟩ (seeF ((pollF x1.S).1).L ((allL (pollF x1.S).1.R).getD kk 0)).1.refs (seeF ((pollF x1.S).1).L ((allL (pollF x1.S).1.R).getD kk 0)).1.head (seeF ((pollF x1.S).1).L ((allL (pollF x1.S).1.R).getD kk 0)).1.data (seeF ((pollF x1.S).1).L ((allL (pollF x1.S).1.R).getD kk 0)).2 5), (12, Mk.blk ⟨114, w, G⟩ [iw 0, Value.slice none 0 0, Value.slice none 0 0] 33)] [(9, [8]), (10, [8]), (11, [8])] rfl rfl (by kernel_rfl) (by kernel_rfl) (by kernel_rfl) (by kernel_rfl) ?_
    refine SM.ru rfl rfl rfl (w_all rfl) rfl (lt_b rfl) (ru_move rfl rfl) ?_
    refine SM.ru rfl rfl rfl (w_all rfl) rfl (lt_b rfl) (ru_nilCheck rfl rfl) ?_
    refine SM.ru rfl rfl rfl (w_all rfl) rfl (lt_b rfl) (ru_fieldAddr (o2 := 1) fd43_1 rfl rfl rfl) ?_
    refine SM.ru rfl rfl rfl (w_all rfl) rfl (lt_b rfl) (ru_load (i := 0) ts37 rfl rfl rfl rfl) ?_
    refine SM.ru rfl rfl rfl (w_all rfl) rfl (lt_b rfl) (ru_move rfl rfl) ?_
    refine SM.ru rfl rfl rfl (w_all rfl) rfl (lt_b rfl) (ru_move rfl rfl) ?_
    refine SM.ru rfl rfl rfl (w_all rfl) rfl (lt_b rfl) (ru_index_row (ri := 6) si26 rfl rfl rfl rfl (by omega) (by omega)) ?_
    refine SM.ru rfl rfl rfl (w_all rfl) rfl (lt_b rfl) (ru_load_row (ri := 6) ts3 rfl rfl rfl (allV_get2 (by omega))) ?_
    refine SM.mkcall (s := Mk.see ⟨114, w, G⟩ (seeF ((pollF x1.S).1).L ((allL (pollF x1.S).1.R).getD kk 0)).1.refs (seeF ((pollF x1.S).1).L ((allL (pollF x1.S).1.R).getD kk 0)).1.head (seeF ((pollF x1.S).1).L ((allL (pollF x1.S).1.R).getD kk 0)).1.data (seeF ((pollF x1.S).1).L ((allL (pollF x1.S).1.R).getD kk 0)).2 5) rfl rfl rfl rfl (w_all rfl) rfl (lt_b rfl) rfl rfl rfl co9 rfl rfl (fun l' w hI => (see_any (ring_at hI (i := 1) rfl).pool ((allL (pollF x1.S).1.R).getD kk 0)).mono fun e w2 ⟨qh, ch, qd, cd, h1, h2, h3, h4, h5, h6, h7⟩ => ⟨_, h1, ⟨qh, ch, qd, cd, fun b hb => Nat.le_trans hI.2.size (h4 b hb), fun b hb => Nat.le_trans hI.2.size (h5 b hb), rfl⟩, hI.saw2 h2 h3 h4 h5 h6 h7⟩) ?_
    rintro _ ⟨qh8, ch9, qd10, cd11, hqh8, hqd10, rfl⟩
    refine SM.ru rfl rfl rfl (w_all rfl) rfl (lt_b rfl) (ru_move rfl rfl) ?_
    refine SM.ru rfl rfl rfl (w_all rfl) rfl (lt_b rfl) (ru_extract rfl rfl rfl) ?_
    refine SM.ru rfl rfl rfl (w_all rfl) rfl (lt_b rfl) (ru_extract rfl rfl rfl) ?_
    refine SM.alloca rfl rfl rfl rfl (w_all rfl) rfl (lt_b rfl) rfl ta33 rfl fun b12 hb12 => ?_
    refine SM.nilL (l' := [rBlk g [pt d 0, pt p 0, pt r 0, pt e 0, pt q 0, pt s 0, Value.slice x1.qc x1.come.length x1.cc, Value.slice x1.qm x1.mine.length x1.cm] 43, rRing r d p ab F5 ((pollF x1.S).1), rRefR s e q x1.K x1.Z, rRowO (.slice x1.qc x1.come.length x1.cc) (ivs x1.come) 3, rRowO (.slice x1.qm x1.mine.length x1.cm) (ivs x1.mine) 3, rRowN (.slice q3 ((pollF x1.S).2.length) c4) (comeV (pollF x1.S).2) 67 2, rRow (.slice q6 ((allV (((pollF x1.S).1).R)).length) c7) (allV (((pollF x1.S).1).R)) 3, rMine (.slice qh8 ((seeF ((pollF x1.S).1).L ((allL (pollF x1.S).1.R).getD kk 0)).1.head).length ch9) ((seeF ((pollF x1.S).1).L ((allL (pollF x1.S).1.R).getD kk 0)).1.head) 5, rMine (.slice qd10 ((seeF ((pollF x1.S).1).L ((allL (pollF x1.S).1.R).getD kk 0)).1.data).length cd11) ((seeF ((pollF x1.S).1).L ((allL (pollF x1.S).1.R).getD kk 0)).1.data) 5, rBlk b12 [iw 0, Value.slice none 0 0, Value.slice none 0 0] 33]) rfl ?_
    refine SL.storea (i := 9) (vs := [iw ((seeF ((pollF x1.S).1).L ((allL (pollF x1.S).1.R).getD kk 0)).1.refs : Int), Value.slice qh8 ((seeF ((pollF x1.S).1).L ((allL (pollF x1.S).1.R).getD kk 0)).1.head.length) ch9, Value.slice qd10 ((seeF ((pollF x1.S).1).L ((allL (pollF x1.S).1.R).getD kk 0)).1.data.length) cd11]) (c' := [iw ((seeF ((pollF x1.S).1).L ((allL (pollF x1.S).1.R).getD kk 0)).1.refs : Int), Value.slice qh8 ((seeF ((pollF x1.S).1).L ((allL (pollF x1.S).1.R).getD kk 0)).1.head.length) ch9, Value.slice qd10 ((seeF ((pollF x1.S).1).L ((allL (pollF x1.S).1.R).getD kk 0)).1.data.length) cd11]) rfl rfl ta33 rfl rfl rfl rfl rfl rfl (le_b rfl) (.inr hb12) rfl ?_
    refine SL.as ?_
    refine SL.nil ?_
    refine SE.onlyN ?_
    refine SC.of_SE ?_
    refine SC.norm [(1, sl ob oo l.length oc), (4, bo false), (6, pt g 0), (7, iw (i : Int)), (8, Value.slice q6 ((allV (((pollF x1.S).1).R)).length) c7), (9, iw (kk : Int)), (10, pt b12 0), (11, iw ((seeF ((pollF x1.S).1).L ((allL (pollF x1.S).1.R).getD kk 0)).2))] [rBlk g [pt d 0, pt p 0, pt r 0, pt e 0, pt q 0, pt s 0, Value.slice x1.qc x1.come.length x1.cc, Value.slice x1.qm x1.mine.length x1.cm] 43, rRing r d p ab F5 ((pollF x1.S).1), rRefR s e q x1.K x1.Z, rRowO (.slice x1.qc x1.come.length x1.cc) (ivs x1.come) 3, rRowO (.slice x1.qm x1.mine.length x1.cm) (ivs x1.mine) 3, rRowN (.slice q3 ((pollF x1.S).2.length) c4) (comeV (pollF x1.S).2) 67 2, rRow (.slice q6 ((allV (((pollF x1.S).1).R)).length) c7) (allV (((pollF x1.S).1).R)) 3, rMine (.slice qh8 ((seeF ((pollF x1.S).1).L ((allL (pollF x1.S).1.R).getD kk 0)).1.head).length ch9) ((seeF ((pollF x1.S).1).L ((allL (pollF x1.S).1.R).getD kk 0)).1.head) 5, rMine (.slice qd10 ((seeF ((pollF x1.S).1).L ((allL (pollF x1.S).1.R).getD kk 0)).1.data).length cd11) ((seeF ((pollF x1.S).1).L ((allL (pollF x1.S).1.R).getD kk 0)).1.data) 5, rBlk b12 [iw ((seeF ((pollF x1.S).1).L ((allL (pollF x1.S).1.R).getD kk 0)).1.refs : Int), Value.slice qh8 ((seeF ((pollF x1.S).1).L ((allL (pollF x1.S).1.R).getD kk 0)).1.head.length) ch9, Value.slice qd10 ((seeF ((pollF x1.S).1).L ((allL (pollF x1.S).1.R).getD kk 0)).1.data.length) cd11] 33] ⟨rfl, rfl, rfl, rfl, rfl, rfl, rfl, rfl, trivial⟩ rfl ?_
    refine SC.seq ?_
    refine SC.sr ?_
    refine SL.mv ?_
    refine SL.uu (ru_ne (b := ((((seeF ((pollF x1.S).1).L ((allL (pollF x1.S).1.R).getD kk 0)).2) : Int) != 0)) rfl rfl rfl rfl) ?_
    refine SL.mv ?_
    refine SL.norm [(1, sl ob oo l.length oc), (4, bo false), (6, pt g 0), (7, iw (i : Int)), (8, Value.slice q6 ((allV (((pollF x1.S).1).R)).length) c7), (9, iw (kk : Int)), (10, pt b12 0), (11, iw ((seeF ((pollF x1.S).1).L ((allL (pollF x1.S).1.R).getD kk 0)).2)), (87, iw ((seeF ((pollF x1.S).1).L ((allL (pollF x1.S).1.R).getD kk 0)).2)), (88, bo false), (89, bo false)] _ ⟨rfl, rfl, rfl, rfl, rfl, rfl, rfl, rfl, rfl, (congrArg (fun bx => some (Value.bool bx)) (show ((((seeF ((pollF x1.S).1).L ((allL (pollF x1.S).1.R).getD kk 0)).2) : Int) != 0) = false from (by rw [hsee]; rfl))), (congrArg (fun bx => some (Value.bool bx)) (show ((((seeF ((pollF x1.S).1).L ((allL (pollF x1.S).1.R).getD kk 0)).2) : Int) != 0) = false from (by rw [hsee]; rfl))), trivial⟩ rfl ?_
    refine SL.rug rfl rfl rfl rfl (lt_b rfl) (ru_fieldAddr (o2 := 0) fd33_0 rfl rfl rfl) ?_
    refine SL.rug rfl rfl rfl rfl (lt_b rfl) (ru_load (i := 9) ts3 rfl rfl rfl rfl) ?_
    refine SL.rug rfl rfl rfl rfl (lt_b rfl) (ru_ne (b := ((((seeF ((pollF x1.S).1).L ((allL (pollF x1.S).1.R).getD kk 0)).1.refs : Int) : Int) != 1)) rfl rfl rfl rfl) ?_
    refine SL.uu (ru_pick (u := bo true) (v := bo ((((seeF ((pollF x1.S).1).L ((allL (pollF x1.S).1.R).getD kk 0)).1.refs : Int) : Int) != 1)) rfl rfl rfl rfl) ?_
    refine SL.mv ?_
    refine SL.norm [(1, sl ob oo l.length oc), (4, bo false), (6, pt g 0), (7, iw (i : Int)), (8, Value.slice q6 ((allV (((pollF x1.S).1).R)).length) c7), (9, iw (kk : Int)), (10, pt b12 0), (11, iw ((seeF ((pollF x1.S).1).L ((allL (pollF x1.S).1.R).getD kk 0)).2)), (87, iw ((seeF ((pollF x1.S).1).L ((allL (pollF x1.S).1.R).getD kk 0)).2)), (88, bo false), (89, bo false), (90, pt b12 0), (91, iw ((seeF ((pollF x1.S).1).L ((allL (pollF x1.S).1.R).getD kk 0)).1.refs : Int)), (92, bo false), (93, bo false), (94, bo false)] _ ⟨rfl, rfl, rfl, rfl, rfl, rfl, rfl, rfl, rfl, rfl, rfl, rfl, rfl, (congrArg (fun bx => some (Value.bool bx)) (show ((((seeF ((pollF x1.S).1).L ((allL (pollF x1.S).1.R).getD kk 0)).1.refs : Int) : Int) != 1) = false from (by rw [hsee]; rfl))), (congrArg (fun bx => some (Value.bool bx)) (show ((((seeF ((pollF x1.S).1).L ((allL (pollF x1.S).1.R).getD kk 0)).1.refs : Int) : Int) != 1) = false from (by rw [hsee]; rfl))), (congrArg (fun bx => some (Value.bool bx)) (show ((((seeF ((pollF x1.S).1).L ((allL (pollF x1.S).1.R).getD kk 0)).1.refs : Int) : Int) != 1) = false from (by rw [hsee]; rfl))), trivial⟩ rfl ?_
    refine SL.rug rfl rfl rfl rfl (lt_b rfl) (ru_fieldAddr (o2 := 2) fd33_2 rfl rfl rfl) ?_
    refine SL.rug rfl rfl rfl rfl (lt_b rfl) (ru_load (i := 9) ts28 rfl rfl rfl rfl) ?_
    refine SL.rug rfl rfl rfl rfl (lt_b rfl) (ru_len Try.underlying28 rfl rfl) ?_
    refine SL.rug rfl rfl rfl rfl (lt_b rfl) (ru_ne (b := ((((seeF ((pollF x1.S).1).L ((allL (pollF x1.S).1.R).getD kk 0)).1.data.length : Int) : Int) != 0)) rfl rfl rfl rfl) ?_
    refine SL.uu (ru_pick (u := bo true) (v := bo ((((seeF ((pollF x1.S).1).L ((allL (pollF x1.S).1.R).getD kk 0)).1.data.length : Int) : Int) != 0)) rfl rfl rfl rfl) ?_
    refine SL.nn [(1, sl ob oo l.length oc), (4, bo false), (6, pt g 0), (7, iw (i : Int)), (8, Value.slice q6 ((allV (((pollF x1.S).1).R)).length) c7), (9, iw (kk : Int)), (99, bo ((((seeF ((pollF x1.S).1).L ((allL (pollF x1.S).1.R).getD kk 0)).1.data.length : Int) : Int) != 0))] _ ⟨rfl, rfl, rfl, rfl, rfl, rfl, rfl, trivial⟩ ?_
    refine SC.no (show some (Value.bool ((((seeF ((pollF x1.S).1).L ((allL (pollF x1.S).1.R).getD kk 0)).1.data.length : Int) : Int) != 0)) = some (Value.bool false) from congrArg (fun x => some (Value.bool x)) (by rw [hsee]; rfl)) ?_
    refine SC.skip ?_
    refine SC.of_SE ?_
    refine SC.norm [(1, sl ob oo l.length oc), (4, bo false), (6, pt g 0), (7, iw (i : Int)), (8, Value.slice q6 ((allV (((pollF x1.S).1).R)).length) c7), (9, iw (kk : Int))] _ ⟨rfl, rfl, rfl, rfl, rfl, rfl, trivial⟩ rfl ?_
    refine SC.sr ?_
    refine SL.as ?_
    refine SL.nn [(1, sl ob oo l.length oc), (4, bo false), (6, pt g 0), (7, iw (i : Int)), (8, Value.slice q6 ((allV (((pollF x1.S).1).R)).length) c7), (9, iw (kk : Int)), (12, iw 0)] _ ⟨rfl, rfl, rfl, rfl, rfl, rfl, rfl, trivial⟩ ?_
    refine SC.block ?_
    refine SC.loop (γ := Nat) (fun n9 z => [(1, sl ob oo l.length oc), (4, bo false), (6, pt g 0), (7, iw (i : Int)), (8, Value.slice q6 ((allV (((pollF x1.S).1).R)).length) c7), (9, iw (kk : Int)), (12, iw (z : Int))]) (fun n9 z => [rBlk g [pt d 0, pt p 0, pt r 0, pt e 0, pt q 0, pt s 0, Value.slice x1.qc x1.come.length x1.cc, Value.slice x1.qm x1.mine.length x1.cm] 43, rRing r d p ab F5 ((pollF x1.S).1), rRefR s e q x1.K x1.Z, rRowO (.slice x1.qc x1.come.length x1.cc) (ivs x1.come) 3, rRowO (.slice x1.qm x1.mine.length x1.cm) (ivs x1.mine) 3, rRowN (.slice q3 ((pollF x1.S).2.length) c4) (comeV (pollF x1.S).2) 67 2, rRow (.slice q6 ((allV (((pollF x1.S).1).R)).length) c7) (allV (((pollF x1.S).1).R)) 3, rMine (.slice qh8 ((seeF ((pollF x1.S).1).L ((allL (pollF x1.S).1.R).getD kk 0)).1.head).length ch9) ((seeF ((pollF x1.S).1).L ((allL (pollF x1.S).1.R).getD kk 0)).1.head) 5, rMine (.slice qd10 ((seeF ((pollF x1.S).1).L ((allL (pollF x1.S).1.R).getD kk 0)).1.data).length cd11) ((seeF ((pollF x1.S).1).L ((allL (pollF x1.S).1.R).getD kk 0)).1.data) 5, rBlk b12 [iw ((seeF ((pollF x1.S).1).L ((allL (pollF x1.S).1.R).getD kk 0)).1.refs : Int), Value.slice qh8 ((seeF ((pollF x1.S).1).L ((allL (pollF x1.S).1.R).getD kk 0)).1.head.length) ch9, Value.slice qd10 ((seeF ((pollF x1.S).1).L ((allL (pollF x1.S).1.R).getD kk 0)).1.data.length) cd11] 33]) (fun n9 z => n9 + z = kk) kk 0 rfl ⟨rfl, rfl, rfl, rfl, rfl, rfl, rfl, trivial⟩ rfl ?_
    rintro Njj jj hnjj
    rcases Njj with _ | Njj
    · skip
      refine SC.seq ?_
      refine SC.sr ?_
      refine SL.mv ?_
      refine SL.mv ?_
      refine SL.uu (ru_lt (b := (decide (((jj : Int) : Int) < (kk : Int)))) rfl rfl rfl rfl) ?_
      refine SL.nn [(1, sl ob oo l.length oc), (4, bo false), (6, pt g 0), (7, iw (i : Int)), (8, Value.slice q6 ((allV (((pollF x1.S).1).R)).length) c7), (9, iw (kk : Int)), (12, iw (jj : Int)), (102, bo (decide (((jj : Int) : Int) < (kk : Int))))] _ ⟨rfl, rfl, rfl, rfl, rfl, rfl, rfl, rfl, trivial⟩ ?_
      refine SC.no (show some (Value.bool (decide (((jj : Int) : Int) < (kk : Int)))) = some (Value.bool false) from congrArg (fun x => some (Value.bool x)) (decide_eq_false (by omega))) ?_
      refine SC.exit ?_
      refine SE.passe ?_
      refine SE.passe ?_
      refine SE.blke ?_
      refine SE.blkn ?_
      refine SC.of_SE ?_
      refine SC.norm [(1, sl ob oo l.length oc), (4, bo false), (6, pt g 0), (7, iw (i : Int)), (8, Value.slice q6 ((allV (((pollF x1.S).1).R)).length) c7), (9, iw (kk : Int))] _ ⟨rfl, rfl, rfl, rfl, rfl, rfl, trivial⟩ rfl ?_
      refine SC.region ?_
      refine SL.mv ?_
      refine SL.uu (ru_add (r := (IntKind.i64.wrap ((kk : Int) + 1))) rfl rfl rfl rfl) ?_
      refine SL.as ?_
      refine SL.nil ?_
      refine SE.pick [0, 1, 2, 3, 4, 5, 6] rfl ?_
      refine SE.again Nkk (kk + 1) (by omega) (by omega) ⟨rfl, rfl, rfl, rfl, rfl, (congrArg (fun x => some (iw x)) (show IntKind.i64.wrap ((kk : Int) + 1) = ((kk + 1 : Nat) : Int) by rw [IntKind.wrap_i64]; omega)), trivial⟩ rfl
    have hne := hlies.2 jj (by omega)
    refine SC.seq ?_
    refine SC.sr ?_
    refine SL.mv ?_
    refine SL.mv ?_
    refine SL.uu (ru_lt (b := (decide (((jj : Int) : Int) < (kk : Int)))) rfl rfl rfl rfl) ?_
    refine SL.nn [(1, sl ob oo l.length oc), (4, bo false), (6, pt g 0), (7, iw (i : Int)), (8, Value.slice q6 ((allV (((pollF x1.S).1).R)).length) c7), (9, iw (kk : Int)), (12, iw (jj : Int)), (102, bo (decide (((jj : Int) : Int) < (kk : Int))))] _ ⟨rfl, rfl, rfl, rfl, rfl, rfl, rfl, rfl, trivial⟩ ?_
    refine SC.yes (show some (Value.bool (decide (((jj : Int) : Int) < (kk : Int)))) = some (Value.bool true) from congrArg (fun x => some (Value.bool x)) (decide_eq_true (by omega))) ?_
    refine SC.skip ?_
    refine SC.of_SE ?_
    refine SC.norm [(1, sl ob oo l.length oc), (4, bo false), (6, pt g 0), (7, iw (i : Int)), (8, Value.slice q6 ((allV (((pollF x1.S).1).R)).length) c7), (9, iw (kk : Int)), (12, iw (jj : Int))] _ ⟨rfl, rfl, rfl, rfl, rfl, rfl, rfl, trivial⟩ rfl ?_
    refine SC.seq ?_
    refine SC.block ?_
    refine SC.seq ?_
    refine SC.region_quiet (by kernel_rfl) (by kernel_rfl) ?_
    refine SQ.ru rfl rfl (lt_b rfl) (ru_move rfl rfl) ?_
    refine SQ.ru rfl rfl (lt_b rfl) (ru_move rfl rfl) ?_
    refine SQ.ru rfl rfl (lt_b rfl) (ru_index_row (ri := 6) si26 rfl rfl rfl rfl (by omega) (by omega)) ?_
    refine SQ.ru rfl rfl (lt_b rfl) (ru_load_row (ri := 6) ts3 rfl rfl rfl (allV_get2 (by omega))) ?_
    refine SQ.ru rfl rfl (lt_b rfl) (ru_move rfl rfl) ?_
    refine SQ.ru rfl rfl (lt_b rfl) (ru_move rfl rfl) ?_
    refine SQ.ru rfl rfl (lt_b rfl) (ru_index_row (ri := 6) si26 rfl rfl rfl rfl (by omega) (by omega)) ?_
    refine SQ.ru rfl rfl (lt_b rfl) (ru_load_row (ri := 6) ts3 rfl rfl rfl (allV_get2 (by omega))) ?_
    refine SQ.ru rfl rfl (lt_b rfl) (ru_eq (b := ((((allL (pollF x1.S).1.R).getD jj 0) : Int) == ((allL (pollF x1.S).1.R).getD kk 0))) rfl rfl rfl rfl) ?_
    refine SQ.nilE ?_
    refine SC.of_SE ?_
    refine SC.norm [(1, sl ob oo l.length oc), (4, bo false), (6, pt g 0), (7, iw (i : Int)), (8, Value.slice q6 ((allV (((pollF x1.S).1).R)).length) c7), (9, iw (kk : Int)), (12, iw (jj : Int)), (113, bo ((((allL (pollF x1.S).1.R).getD jj 0) : Int) == ((allL (pollF x1.S).1.R).getD kk 0)))] _ ⟨rfl, rfl, rfl, rfl, rfl, rfl, rfl, rfl, trivial⟩ rfl ?_
    refine SC.no (show some (Value.bool ((((allL (pollF x1.S).1.R).getD jj 0) : Int) == ((allL (pollF x1.S).1.R).getD kk 0))) = some (Value.bool false) from congrArg (fun x => some (Value.bool x)) hne) ?_
    refine SC.skip ?_
    refine SE.blkn ?_
    refine SC.of_SE ?_
    refine SC.norm [(1, sl ob oo l.length oc), (4, bo false), (6, pt g 0), (7, iw (i : Int)), (8, Value.slice q6 ((allV (((pollF x1.S).1).R)).length) c7), (9, iw (kk : Int)), (12, iw (jj : Int))] _ ⟨rfl, rfl, rfl, rfl, rfl, rfl, rfl, trivial⟩ rfl ?_
    refine SC.region ?_
    refine SL.mv ?_
    refine SL.uu (ru_add (r := (IntKind.i64.wrap ((jj : Int) + 1))) rfl rfl rfl rfl) ?_
    refine SL.as ?_
    refine SL.nil ?_
    refine SE.pick [0, 1, 2, 3, 4, 5, 6, 7, 8, 9] rfl ?_
    refine SE.again Njj (jj + 1) (by omega) (by omega) ⟨rfl, rfl, rfl, rfl, rfl, rfl, (congrArg (fun x => some (iw x)) (show IntKind.i64.wrap ((jj : Int) + 1) = ((jj + 1 : Nat) : Int) by rw [IntKind.wrap_i64]; omega)), trivial⟩ rfl
  have hnf := nfree0 hfl
  refine SC.region ?_
  refine SL.mv ?_
  refine SL.uu (ru_len Try.underlying26 rfl rfl) ?_
  refine SL.uu (ru_gt (b := false) rfl rfl rfl ((show decide ((15 : Int) < ((allV (((pollF x1.S).1).R)).length : Int)) = false from decide_eq_false (by omega)))) ?_
  refine SL.mv ?_
  refine SL.rug rfl rfl rfl rfl (lt_b rfl) (ru_move rfl rfl) ?_
  refine SL.rug rfl rfl rfl rfl (lt_b rfl) (ru_len Try.underlying26 rfl rfl) ?_
  refine SL.rug rfl rfl rfl rfl (lt_b rfl) (ru_lt (b := (decide ((((allV (((pollF x1.S).1).R)).length : Int) : Int) < 15))) rfl rfl rfl rfl) ?_
  refine SL.rug rfl rfl rfl rfl (lt_b rfl) (ru_move rfl rfl) ?_
  refine SL.join 7 [(1, sl ob oo l.length oc), (4, bo false), (6, pt g 0), (7, iw (i : Int)), (8, Value.slice q6 ((allV (((pollF x1.S).1).R)).length) c7), (53, Value.slice q6 ((allV (((pollF x1.S).1).R)).length) c7), (54, iw ((allV (((pollF x1.S).1).R)).length : Int)), (55, bo false), (56, bo false), (57, Value.slice q6 ((allV (((pollF x1.S).1).R)).length) c7), (58, iw ((allV (((pollF x1.S).1).R)).length : Int)), (59, bo (decide ((((allV (((pollF x1.S).1).R)).length : Int) : Int) < 15))), (60, bo (decide ((((allV (((pollF x1.S).1).R)).length : Int) : Int) < 15))), (67, bo ((decide ((((allV (((pollF x1.S).1).R)).length : Int) : Int) < 15)) && false))] [rBlk g [pt d 0, pt p 0, pt r 0, pt e 0, pt q 0, pt s 0, Value.slice x1.qc x1.come.length x1.cc, Value.slice x1.qm x1.mine.length x1.cm] 43, rRing r d p ab F5 ((pollF x1.S).1), rRefR s e q x1.K x1.Z, rRowO (.slice x1.qc x1.come.length x1.cc) (ivs x1.come) 3, rRowO (.slice x1.qm x1.mine.length x1.cm) (ivs x1.mine) 3, rRowN (.slice q3 ((pollF x1.S).2.length) c4) (comeV (pollF x1.S).2) 67 2, rRow (.slice q6 ((allV (((pollF x1.S).1).R)).length) c7) (allV (((pollF x1.S).1).R)) 3] ?_ ?_
  rotate_left
  · intro K hK
    rcases tf (decide ((((allV (((pollF x1.S).1).R)).length : Int) : Int) < 15)) with h13 | h13
    · skip
      refine SL.norm [(1, sl ob oo l.length oc), (4, bo false), (6, pt g 0), (7, iw (i : Int)), (8, Value.slice q6 ((allV (((pollF x1.S).1).R)).length) c7), (53, Value.slice q6 ((allV (((pollF x1.S).1).R)).length) c7), (54, iw ((allV (((pollF x1.S).1).R)).length : Int)), (55, bo false), (56, bo false), (57, Value.slice q6 ((allV (((pollF x1.S).1).R)).length) c7), (58, iw ((allV (((pollF x1.S).1).R)).length : Int)), (59, bo true), (60, bo true)] _ ⟨rfl, rfl, rfl, rfl, rfl, rfl, rfl, rfl, rfl, rfl, rfl, (congrArg (fun x => some (Value.bool x)) h13), (congrArg (fun x => some (Value.bool x)) h13), trivial⟩ rfl ?_
      refine SL.rug rfl rfl rfl rfl (lt_b rfl) (ru_move rfl rfl) ?_
      refine SL.rug rfl rfl rfl rfl (lt_b rfl) (ru_nilCheck rfl rfl) ?_
      refine SL.rug rfl rfl rfl rfl (lt_b rfl) (ru_fieldAddr (o2 := 1) fd43_1 rfl rfl rfl) ?_
      refine SL.rug rfl rfl rfl rfl (lt_b rfl) (ru_load (i := 0) ts37 rfl rfl rfl rfl) ?_
      refine SL.callvg (iw (nfree ((pollF x1.S).1).L : Int)) rfl rfl rfl rfl co25 rfl rfl rfl (lt_b rfl) (fun w hI => (left_any (ring_at hI (i := 1) rfl).pool).mono fun e w2 ⟨h1, h2⟩ => ⟨h1, h2 ▸ hI⟩) ?_
      refine SL.rug rfl rfl rfl rfl (lt_b rfl) (ru_gt (b := false) rfl rfl rfl ((decide_eq_false (by rw [hnf]; decide)))) ?_
      refine SL.rug rfl rfl rfl rfl (lt_b rfl) (ru_pick (u := bo false) (v := bo false) rfl rfl rfl rfl) ?_
      exact SL.joined hK ⟨rfl, rfl, rfl, rfl, rfl, rfl, rfl, rfl, rfl, rfl, rfl, (congrArg (fun x => some (Value.bool x)) h13.symm), (congrArg (fun x => some (Value.bool x)) h13.symm), (congrArg (fun bx => some (Value.bool (bx && false))) h13.symm), trivial⟩ rfl
    refine SL.norm [(1, sl ob oo l.length oc), (4, bo false), (6, pt g 0), (7, iw (i : Int)), (8, Value.slice q6 ((allV (((pollF x1.S).1).R)).length) c7), (53, Value.slice q6 ((allV (((pollF x1.S).1).R)).length) c7), (54, iw ((allV (((pollF x1.S).1).R)).length : Int)), (55, bo false), (56, bo false), (57, Value.slice q6 ((allV (((pollF x1.S).1).R)).length) c7), (58, iw ((allV (((pollF x1.S).1).R)).length : Int)), (59, bo false), (60, bo false)] _ ⟨rfl, rfl, rfl, rfl, rfl, rfl, rfl, rfl, rfl, rfl, rfl, (congrArg (fun x => some (Value.bool x)) h13), (congrArg (fun x => some (Value.bool x)) h13), trivial⟩ rfl ?_
    refine SL.off (b := false) rfl rfl rfl rfl rfl (lt_b rfl) ?_
    refine SL.off (b := false) rfl rfl rfl rfl rfl (lt_b rfl) ?_
    refine SL.off (b := false) rfl rfl rfl rfl rfl (lt_b rfl) ?_
    refine SL.off (b := false) rfl rfl rfl rfl rfl (lt_b rfl) ?_
    refine SL.off (b := false) rfl rfl rfl rfl rfl (lt_b rfl) ?_
    refine SL.off (b := false) rfl rfl rfl rfl rfl (lt_b rfl) ?_
    refine SL.rug rfl rfl rfl rfl (lt_b rfl) (ru_pick (u := undef) (v := bo false) rfl rfl rfl rfl) ?_
    exact SL.joined hK ⟨rfl, rfl, rfl, rfl, rfl, rfl, rfl, rfl, rfl, rfl, rfl, (congrArg (fun x => some (Value.bool x)) h13.symm), (congrArg (fun x => some (Value.bool x)) h13.symm), (congrArg (fun bx => some (Value.bool (bx && false))) h13.symm), trivial⟩ rfl
  skip
  refine SL.uu (ru_pick (u := bo true) (v := bo ((decide ((((allV (((pollF x1.S).1).R)).length : Int) : Int) < 15)) && false)) rfl rfl rfl rfl) ?_
  refine SL.nn [(1, sl ob oo l.length oc), (4, bo false), (6, pt g 0), (7, iw (i : Int)), (8, Value.slice q6 ((allV (((pollF x1.S).1).R)).length) c7), (68, bo ((decide ((((allV (((pollF x1.S).1).R)).length : Int) : Int) < 15)) && false))] _ ⟨rfl, rfl, rfl, rfl, rfl, rfl, trivial⟩ ?_
  refine SC.no (show some (Value.bool ((decide ((((allV (((pollF x1.S).1).R)).length : Int) : Int) < 15)) && false)) = some (Value.bool false) from congrArg (fun x => some (Value.bool x)) (by simp)) ?_
  refine SC.skip ?_
  refine SC.of_SE ?_
  refine SC.norm [(1, sl ob oo l.length oc), (4, bo false), (6, pt g 0), (7, iw (i : Int)), (8, Value.slice q6 ((allV (((pollF x1.S).1).R)).length) c7)] _ ⟨rfl, rfl, rfl, rfl, rfl, trivial⟩ rfl ?_
  refine SC.sr ?_
  refine SL.as ?_
  refine SL.nn [(1, sl ob oo l.length oc), (4, bo false), (6, pt g 0), (7, iw (i : Int)), (8, Value.slice q6 ((allV (((pollF x1.S).1).R)).length) c7), (9, iw 0)] _ ⟨rfl, rfl, rfl, rfl, rfl, rfl, trivial⟩ ?_
  refine SC.block ?_
  refine SC.loop (γ := Nat) (fun n9 z => [(1, sl ob oo l.length oc), (4, bo false), (6, pt g 0), (7, iw (i : Int)), (8, Value.slice q6 ((allV (((pollF x1.S).1).R)).length) c7), (9, iw (z : Int))]) (fun n9 z => [rBlk g [pt d 0, pt p 0, pt r 0, pt e 0, pt q 0, pt s 0, Value.slice x1.qc x1.come.length x1.cc, Value.slice x1.qm x1.mine.length x1.cm] 43, rRing r d p ab F5 ((pollF x1.S).1), rRefR s e q x1.K x1.Z, rRowO (.slice x1.qc x1.come.length x1.cc) (ivs x1.come) 3, rRowO (.slice x1.qm x1.mine.length x1.cm) (ivs x1.mine) 3, rRowN (.slice q3 ((pollF x1.S).2.length) c4) (comeV (pollF x1.S).2) 67 2, rRow (.slice q6 ((allV (((pollF x1.S).1).R)).length) c7) (allV (((pollF x1.S).1).R)) 3]) (fun n9 z => n9 + z = (allL (pollF x1.S).1.R).length) (allL (pollF x1.S).1.R).length 0 rfl ⟨rfl, rfl, rfl, rfl, rfl, rfl, trivial⟩ rfl ?_
  rintro Nkk kk hnkk
  rcases Nkk with _ | Nkk
  · skip
    refine SC.seq ?_
    refine SC.sr ?_
    refine SL.mv ?_
    refine SL.mv ?_
    refine SL.uu (ru_len Try.underlying26 rfl rfl) ?_
    refine SL.uu (ru_lt (b := (decide (((kk : Int) : Int) < ((allV (((pollF x1.S).1).R)).length : Int)))) rfl rfl rfl rfl) ?_
    refine SL.nn [(1, sl ob oo l.length oc), (4, bo false), (6, pt g 0), (7, iw (i : Int)), (8, Value.slice q6 ((allV (((pollF x1.S).1).R)).length) c7), (9, iw (kk : Int)), (72, bo (decide (((kk : Int) : Int) < ((allV (((pollF x1.S).1).R)).length : Int))))] _ ⟨rfl, rfl, rfl, rfl, rfl, rfl, rfl, trivial⟩ ?_
    refine SC.no (show some (Value.bool (decide (((kk : Int) : Int) < ((allV (((pollF x1.S).1).R)).length : Int)))) = some (Value.bool false) from congrArg (fun x => some (Value.bool x)) (decide_eq_false (by omega))) ?_
    refine SC.exit ?_
    refine SE.passe ?_
    refine SE.passe ?_
    refine SE.blke ?_
    refine SE.blkn ?_
    refine SC.of_SE ?_
    refine SC.norm [(1, sl ob oo l.length oc), (4, bo false), (6, pt g 0), (7, iw (i : Int))] _ ⟨rfl, rfl, rfl, rfl, trivial⟩ rfl ?_
    refine SC.region ?_
    refine SL.mv ?_
    refine SL.uu (ru_add (r := (IntKind.i64.wrap ((i : Int) + 1))) rfl rfl rfl rfl) ?_
    refine SL.as ?_
    refine SL.nil ?_
    refine SE.pick [0, 1, 2, 3, 4] rfl ?_
    refine SE.again N (i + 1, ⟨(pollF x1.S).1, F5, x1.Z, x1.K, x1.come, x1.mine, x1.qc, x1.cc, x1.qm, x1.cm⟩) (by omega) ⟨by simp only; omega, hx1j.poll0, hx1z, ⟨hx1X.g, hx1X.r, hF5, hx1X.k, hx1X.c, hx1X.m⟩⟩ ⟨rfl, rfl, rfl, (congrArg (fun x => some (iw x)) (show IntKind.i64.wrap ((i : Int) + 1) = ((i + 1 : Nat) : Int) by rw [IntKind.wrap_i64]; omega)), trivial⟩ rfl
  have hlies := hjp.lies (k := kk) (by omega)
  have hsee := hlies.1
  refine SC.seq ?_
  refine SC.sr ?_
  refine SL.mv ?_
  refine SL.mv ?_
  refine SL.uu (ru_len Try.underlying26 rfl rfl) ?_
  refine SL.uu (ru_lt (b := (decide (((kk : Int) : Int) < ((allV (((pollF x1.S).1).R)).length : Int)))) rfl rfl rfl rfl) ?_
  refine SL.nn [(1, sl ob oo l.length oc), (4, bo false), (6, pt g 0), (7, iw (i : Int)), (8, Value.slice q6 ((allV (((pollF x1.S).1).R)).length) c7), (9, iw (kk : Int)), (72, bo (decide (((kk : Int) : Int) < ((allV (((pollF x1.S).1).R)).length : Int))))] _ ⟨rfl, rfl, rfl, rfl, rfl, rfl, rfl, trivial⟩ ?_
  refine SC.yes (show some (Value.bool (decide (((kk : Int) : Int) < ((allV (((pollF x1.S).1).R)).length : Int)))) = some (Value.bool true) from congrArg (fun x => some (Value.bool x)) (decide_eq_true (by omega))) ?_
  refine SC.skip ?_
  refine SC.of_SE ?_
  refine SC.norm [(1, sl ob oo l.length oc), (4, bo false), (6, pt g 0), (7, iw (i : Int)), (8, Value.slice q6 ((allV (((pollF x1.S).1).R)).length) c7), (9, iw (kk : Int))] _ ⟨rfl, rfl, rfl, rfl, rfl, rfl, trivial⟩ rfl ?_
  refine SC.seq ?_
  refine SC.block ?_
  refine SC.seq ?_
  refine SC.region_mk_tailE [(13, 11)] 13 [(8, Mk.see ⟨114, w, G⟩ (seeF ((pollF x1.S).1).L ((allL (pollF x1.S).1.R).getD kk 0)).1.refs (seeF ((pollF x1.S).1).L ((allL (pollF x1.S).1.R).getD kk 0)).1.head (seeF ((pollF x1.S).1).L ((allL (pollF x1.S).1.R).getD kk 0)).1.data (seeF ((pollF x1.S).1).L ((allL (pollF x1.S).1.R).getD kk 0)).2 5), (12, Mk.blk ⟨114, w, G⟩ [iw 0, Value.slice none 0 0, Value.slice none 0 0] 33)] [(9, [8]), (10, [8]), (11, [8])] rfl rfl (by kernel_rfl) (by kernel_rfl) (by kernel_rfl) (by kernel_rfl) ?_
  refine SM.ru rfl rfl rfl (w_all rfl) rfl (lt_b rfl) (ru_move rfl rfl) ?_
  refine SM.ru rfl rfl rfl (w_all rfl) rfl (lt_b rfl) (ru_nilCheck rfl rfl) ?_
  refine SM.ru rfl rfl rfl (w_all rfl) rfl (lt_b rfl) (ru_fieldAddr (o2 := 1) fd43_1 rfl rfl rfl) ?_
  refine SM.ru rfl rfl rfl (w_all rfl) rfl (lt_b rfl) (ru_load (i := 0) ts37 rfl rfl rfl rfl) ?_
  refine SM.ru rfl rfl rfl (w_all rfl) rfl (lt_b rfl) (ru_move rfl rfl) ?_
  refine SM.ru rfl rfl rfl (w_all rfl) rfl (lt_b rfl) (ru_move rfl rfl) ?_
  refine SM.ru rfl rfl rfl (w_all rfl) rfl (lt_b rfl) (ru_index_row (ri := 6) si26 rfl rfl rfl rfl (by omega) (by omega)) ?_
  refine SM.ru rfl rfl rfl (w_all rfl) rfl (lt_b rfl) (ru_load_row (ri := 6) ts3 rfl rfl rfl (allV_get2 (by omega))) ?_
  refine SM.mkcall (s := Mk.see ⟨114, w, G⟩ (seeF ((pollF x1.S).1).L ((allL (pollF x1.S).1.R).getD kk 0)).1.refs (seeF ((pollF x1.S).1).L ((allL (pollF x1.S).1.R).getD kk 0)).1.head (seeF ((pollF x1.S).1).L ((allL (pollF x1.S).1.R).getD kk 0)).1.data (seeF ((pollF x1.S).1).L ((allL (pollF x1.S).1.R).getD kk 0)).2 5) rfl rfl rfl rfl (w_all rfl) rfl (lt_b rfl) rfl rfl rfl co9 rfl rfl (fun l' w hI => (see_any (ring_at hI (i := 1) rfl).pool ((allL (pollF x1.S).1.R).getD kk 0)).mono fun e w2 ⟨qh, ch, qd, cd, h1, h2, h3, h4, h5, h6, h7⟩ => ⟨_, h1, ⟨qh, ch, qd, cd, fun b hb => Nat.le_trans hI.2.size (h4 b hb), fun b hb => Nat.le_trans hI.2.size (h5 b hb), rfl⟩, hI.saw2 h2 h3 h4 h5 h6 h7⟩) ?_
  rintro _ ⟨qh14, ch15, qd16, cd17, hqh14, hqd16, rfl⟩
  refine SM.ru rfl rfl rfl (w_all rfl) rfl (lt_b rfl) (ru_move rfl rfl) ?_
  refine SM.ru rfl rfl rfl (w_all rfl) rfl (lt_b rfl) (ru_extract rfl rfl rfl) ?_
  refine SM.ru rfl rfl rfl (w_all rfl) rfl (lt_b rfl) (ru_extract rfl rfl rfl) ?_
  refine SM.alloca rfl rfl rfl rfl (w_all rfl) rfl (lt_b rfl) rfl ta33 rfl fun b18 hb18 => ?_
  refine SM.nilL (l' := [rBlk g [pt d 0, pt p 0, pt r 0, pt e 0, pt q 0, pt s 0, Value.slice x1.qc x1.come.length x1.cc, Value.slice x1.qm x1.mine.length x1.cm] 43, rRing r d p ab F5 ((pollF x1.S).1), rRefR s e q x1.K x1.Z, rRowO (.slice x1.qc x1.come.length x1.cc) (ivs x1.come) 3, rRowO (.slice x1.qm x1.mine.length x1.cm) (ivs x1.mine) 3, rRowN (.slice q3 ((pollF x1.S).2.length) c4) (comeV (pollF x1.S).2) 67 2, rRow (.slice q6 ((allV (((pollF x1.S).1).R)).length) c7) (allV (((pollF x1.S).1).R)) 3, rMine (.slice qh14 ((seeF ((pollF x1.S).1).L ((allL (pollF x1.S).1.R).getD kk 0)).1.head).length ch15) ((seeF ((pollF x1.S).1).L ((allL (pollF x1.S).1.R).getD kk 0)).1.head) 5, rMine (.slice qd16 ((seeF ((pollF x1.S).1).L ((allL (pollF x1.S).1.R).getD kk 0)).1.data).length cd17) ((seeF ((pollF x1.S).1).L ((allL (pollF x1.S).1.R).getD kk 0)).1.data) 5, rBlk b18 [iw 0, Value.slice none 0 0, Value.slice none 0 0] 33]) rfl ?_
  refine SL.storea (i := 9) (vs := [iw ((seeF ((pollF x1.S).1).L ((allL (pollF x1.S).1.R).getD kk 0)).1.refs : Int), Value.slice qh14 ((seeF ((pollF x1.S).1).L ((allL (pollF x1.S).1.R).getD kk 0)).1.head.length) ch15, Value.slice qd16 ((seeF ((pollF x1.S).1).L ((allL (pollF x1.S).1.R).getD kk 0)).1.data.length) cd17]) (c' := [iw ((seeF ((pollF x1.S).1).L ((allL (pollF x1.S).1.R).getD kk 0)).1.refs : Int), Value.slice qh14 ((seeF ((pollF x1.S).1).L ((allL (pollF x1.S).1.R).getD kk 0)).1.head.length) ch15, Value.slice qd16 ((seeF ((pollF x1.S).1).L ((allL (pollF x1.S).1.R).getD kk 0)).1.data.length) cd17]) rfl rfl ta33 rfl rfl rfl rfl rfl rfl (le_b rfl) (.inr hb18) rfl ?_
  refine SL.as ?_
  refine SL.nil ?_
  refine SE.onlyN ?_
  refine SC.of_SE ?_
  refine SC.norm [(1, sl ob oo l.length oc), (4, bo false), (6, pt g 0), (7, iw (i : Int)), (8, Value.slice q6 ((allV (((pollF x1.S).1).R)).length) c7), (9, iw (kk : Int)), (10, pt b18 0), (11, iw ((seeF ((pollF x1.S).1).L ((allL (pollF x1.S).1.R).getD kk 0)).2))] [rBlk g [pt d 0, pt p 0, pt r 0, pt e 0, pt q 0, pt s 0, Value.slice x1.qc x1.come.length x1.cc, Value.slice x1.qm x1.mine.length x1.cm] 43, rRing r d p ab F5 ((pollF x1.S).1), rRefR s e q x1.K x1.Z, rRowO (.slice x1.qc x1.come.length x1.cc) (ivs x1.come) 3, rRowO (.slice x1.qm x1.mine.length x1.cm) (ivs x1.mine) 3, rRowN (.slice q3 ((pollF x1.S).2.length) c4) (comeV (pollF x1.S).2) 67 2, rRow (.slice q6 ((allV (((pollF x1.S).1).R)).length) c7) (allV (((pollF x1.S).1).R)) 3, rMine (.slice qh14 ((seeF ((pollF x1.S).1).L ((allL (pollF x1.S).1.R).getD kk 0)).1.head).length ch15) ((seeF ((pollF x1.S).1).L ((allL (pollF x1.S).1.R).getD kk 0)).1.head) 5, rMine (.slice qd16 ((seeF ((pollF x1.S).1).L ((allL (pollF x1.S).1.R).getD kk 0)).1.data).length cd17) ((seeF ((pollF x1.S).1).L ((allL (pollF x1.S).1.R).getD kk 0)).1.data) 5, rBlk b18 [iw ((seeF ((pollF x1.S).1).L ((allL (pollF x1.S).1.R).getD kk 0)).1.refs : Int), Value.slice qh14 ((seeF ((pollF x1.S).1).L ((allL (pollF x1.S).1.R).getD kk 0)).1.head.length) ch15, Value.slice qd16 ((seeF ((pollF x1.S).1).L ((allL (pollF x1.S).1.R).getD kk 0)).1.data.length) cd17] 33] ⟨rfl, rfl, rfl, rfl, rfl, rfl, rfl, rfl, trivial⟩ rfl ?_
  refine SC.seq ?_
  refine SC.sr ?_
  refine SL.mv ?_
  refine SL.uu (ru_ne (b := ((((seeF ((pollF x1.S).1).L ((allL (pollF x1.S).1.R).getD kk 0)).2) : Int) != 0)) rfl rfl rfl rfl) ?_
  refine SL.mv ?_
  refine SL.norm [(1, sl ob oo l.length oc), (4, bo false), (6, pt g 0), (7, iw (i : Int)), (8, Value.slice q6 ((allV (((pollF x1.S).1).R)).length) c7), (9, iw (kk : Int)), (10, pt b18 0), (11, iw ((seeF ((pollF x1.S).1).L ((allL (pollF x1.S).1.R).getD kk 0)).2)), (87, iw ((seeF ((pollF x1.S).1).L ((allL (pollF x1.S).1.R).getD kk 0)).2)), (88, bo false), (89, bo false)] _ ⟨rfl, rfl, rfl, rfl, rfl, rfl, rfl, rfl, rfl, (congrArg (fun bx => some (Value.bool bx)) (show ((((seeF ((pollF x1.S).1).L ((allL (pollF x1.S).1.R).getD kk 0)).2) : Int) != 0) = false from (by rw [hsee]; rfl))), (congrArg (fun bx => some (Value.bool bx)) (show ((((seeF ((pollF x1.S).1).L ((allL (pollF x1.S).1.R).getD kk 0)).2) : Int) != 0) = false from (by rw [hsee]; rfl))), trivial⟩ rfl ?_
  refine SL.rug rfl rfl rfl rfl (lt_b rfl) (ru_fieldAddr (o2 := 0) fd33_0 rfl rfl rfl) ?_
  refine SL.rug rfl rfl rfl rfl (lt_b rfl) (ru_load (i := 9) ts3 rfl rfl rfl rfl) ?_
  refine SL.rug rfl rfl rfl rfl (lt_b rfl) (ru_ne (b := ((((seeF ((pollF x1.S).1).L ((allL (pollF x1.S).1.R).getD kk 0)).1.refs : Int) : Int) != 1)) rfl rfl rfl rfl) ?_
  refine SL.uu (ru_pick (u := bo true) (v := bo ((((seeF ((pollF x1.S).1).L ((allL (pollF x1.S).1.R).getD kk 0)).1.refs : Int) : Int) != 1)) rfl rfl rfl rfl) ?_
  refine SL.mv ?_
  refine SL.norm [(1, sl ob oo l.length oc), (4, bo false), (6, pt g 0), (7, iw (i : Int)), (8, Value.slice q6 ((allV (((pollF x1.S).1).R)).length) c7), (9, iw (kk : Int)), (10, pt b18 0), (11, iw ((seeF ((pollF x1.S).1).L ((allL (pollF x1.S).1.R).getD kk 0)).2)), (87, iw ((seeF ((pollF x1.S).1).L ((allL (pollF x1.S).1.R).getD kk 0)).2)), (88, bo false), (89, bo false), (90, pt b18 0), (91, iw ((seeF ((pollF x1.S).1).L ((allL (pollF x1.S).1.R).getD kk 0)).1.refs : Int)), (92, bo false), (93, bo false), (94, bo false)] _ ⟨rfl, rfl, rfl, rfl, rfl, rfl, rfl, rfl, rfl, rfl, rfl, rfl, rfl, (congrArg (fun bx => some (Value.bool bx)) (show ((((seeF ((pollF x1.S).1).L ((allL (pollF x1.S).1.R).getD kk 0)).1.refs : Int) : Int) != 1) = false from (by rw [hsee]; rfl))), (congrArg (fun bx => some (Value.bool bx)) (show ((((seeF ((pollF x1.S).1).L ((allL (pollF x1.S).1.R).getD kk 0)).1.refs : Int) : Int) != 1) = false from (by rw [hsee]; rfl))), (congrArg (fun bx => some (Value.bool bx)) (show ((((seeF ((pollF x1.S).1).L ((allL (pollF x1.S).1.R).getD kk 0)).1.refs : Int) : Int) != 1) = false from (by rw [hsee]; rfl))), trivial⟩ rfl ?_
  refine SL.rug rfl rfl rfl rfl (lt_b rfl) (ru_fieldAddr (o2 := 2) fd33_2 rfl rfl rfl) ?_
  refine SL.rug rfl rfl rfl rfl (lt_b rfl) (ru_load (i := 9) ts28 rfl rfl rfl rfl) ?_
  refine SL.rug rfl rfl rfl rfl (lt_b rfl) (ru_len Try.underlying28 rfl rfl) ?_
  refine SL.rug rfl rfl rfl rfl (lt_b rfl) (ru_ne (b := ((((seeF ((pollF x1.S).1).L ((allL (pollF x1.S).1.R).getD kk 0)).1.data.length : Int) : Int) != 0)) rfl rfl rfl rfl) ?_
  refine SL.uu (ru_pick (u := bo true) (v := bo ((((seeF ((pollF x1.S).1).L ((allL (pollF x1.S).1.R).getD kk 0)).1.data.length : Int) : Int) != 0)) rfl rfl rfl rfl) ?_
  refine SL.nn [(1, sl ob oo l.length oc), (4, bo false), (6, pt g 0), (7, iw (i : Int)), (8, Value.slice q6 ((allV (((pollF x1.S).1).R)).length) c7), (9, iw (kk : Int)), (99, bo ((((seeF ((pollF x1.S).1).L ((allL (pollF x1.S).1.R).getD kk 0)).1.data.length : Int) : Int) != 0))] _ ⟨rfl, rfl, rfl, rfl, rfl, rfl, rfl, trivial⟩ ?_
  refine SC.no (show some (Value.bool ((((seeF ((pollF x1.S).1).L ((allL (pollF x1.S).1.R).getD kk 0)).1.data.length : Int) : Int) != 0)) = some (Value.bool false) from congrArg (fun x => some (Value.bool x)) (by rw [hsee]; rfl)) ?_
  refine SC.skip ?_
  refine SC.of_SE ?_
  refine SC.norm [(1, sl ob oo l.length oc), (4, bo false), (6, pt g 0), (7, iw (i : Int)), (8, Value.slice q6 ((allV (((pollF x1.S).1).R)).length) c7), (9, iw (kk : Int))] _ ⟨rfl, rfl, rfl, rfl, rfl, rfl, trivial⟩ rfl ?_
  refine SC.sr ?_
  refine SL.as ?_
  refine SL.nn [(1, sl ob oo l.length oc), (4, bo false), (6, pt g 0), (7, iw (i : Int)), (8, Value.slice q6 ((allV (((pollF x1.S).1).R)).length) c7), (9, iw (kk : Int)), (12, iw 0)] _ ⟨rfl, rfl, rfl, rfl, rfl, rfl, rfl, trivial⟩ ?_
  refine SC.block ?_
  refine SC.loop (γ := Nat) (fun n9 z => [(1, sl ob oo l.length oc), (4, bo false), (6, pt g 0), (7, iw (i : Int)), (8, Value.slice q6 ((allV (((pollF x1.S).1).R)).length) c7), (9, iw (kk : Int)), (12, iw (z : Int))]) (fun n9 z => [rBlk g [pt d 0, pt p 0, pt r 0, pt e 0, pt q 0, pt s 0, Value.slice x1.qc x1.come.length x1.cc, Value.slice x1.qm x1.mine.length x1.cm] 43, rRing r d p ab F5 ((pollF x1.S).1), rRefR s e q x1.K x1.Z, rRowO (.slice x1.qc x1.come.length x1.cc) (ivs x1.come) 3, rRowO (.slice x1.qm x1.mine.length x1.cm) (ivs x1.mine) 3, rRowN (.slice q3 ((pollF x1.S).2.length) c4) (comeV (pollF x1.S).2) 67 2, rRow (.slice q6 ((allV (((pollF x1.S).1).R)).length) c7) (allV (((pollF x1.S).1).R)) 3, rMine (.slice qh14 ((seeF ((pollF x1.S).1).L ((allL (pollF x1.S).1.R).getD kk 0)).1.head).length ch15) ((seeF ((pollF x1.S).1).L ((allL (pollF x1.S).1.R).getD kk 0)).1.head) 5, rMine (.slice qd16 ((seeF ((pollF x1.S).1).L ((allL (pollF x1.S).1.R).getD kk 0)).1.data).length cd17) ((seeF ((pollF x1.S).1).L ((allL (pollF x1.S).1.R).getD kk 0)).1.data) 5, rBlk b18 [iw ((seeF ((pollF x1.S).1).L ((allL (pollF x1.S).1.R).getD kk 0)).1.refs : Int), Value.slice qh14 ((seeF ((pollF x1.S).1).L ((allL (pollF x1.S).1.R).getD kk 0)).1.head.length) ch15, Value.slice qd16 ((seeF ((pollF x1.S).1).L ((allL (pollF x1.S).1.R).getD kk 0)).1.data.length) cd17] 33]) (fun n9 z => n9 + z = kk) kk 0 rfl ⟨rfl, rfl, rfl, rfl, rfl, rfl, rfl, trivial⟩ rfl ?_
  rintro Njj jj hnjj
  rcases Njj with _ | Njj
  · skip
    refine SC.seq ?_
    refine SC.sr ?_
    refine SL.mv ?_
    refine SL.mv ?_
    refine SL.uu (ru_lt (b := (decide (((jj : Int) : Int) < (kk : Int)))) rfl rfl rfl rfl) ?_
    refine SL.nn [(1, sl ob oo l.length oc), (4, bo false), (6, pt g 0), (7, iw (i : Int)), (8, Value.slice q6 ((allV (((pollF x1.S).1).R)).length) c7), (9, iw (kk : Int)), (12, iw (jj : Int)), (102, bo (decide (((jj : Int) : Int) < (kk : Int))))] _ ⟨rfl, rfl, rfl, rfl, rfl, rfl, rfl, rfl, trivial⟩ ?_
    refine SC.no (show some (Value.bool (decide (((jj : Int) : Int) < (kk : Int)))) = some (Value.bool false) from congrArg (fun x => some (Value.bool x)) (decide_eq_false (by omega))) ?_
    refine SC.exit ?_
    refine SE.passe ?_
    refine SE.passe ?_
    refine SE.blke ?_
    refine SE.blkn ?_
    refine SC.of_SE ?_
    refine SC.norm [(1, sl ob oo l.length oc), (4, bo false), (6, pt g 0), (7, iw (i : Int)), (8, Value.slice q6 ((allV (((pollF x1.S).1).R)).length) c7), (9, iw (kk : Int))] _ ⟨rfl, rfl, rfl, rfl, rfl, rfl, trivial⟩ rfl ?_
    refine SC.region ?_
    refine SL.mv ?_
    refine SL.uu (ru_add (r := (IntKind.i64.wrap ((kk : Int) + 1))) rfl rfl rfl rfl) ?_
    refine SL.as ?_
    refine SL.nil ?_
    refine SE.pick [0, 1, 2, 3, 4, 5, 6] rfl ?_
    refine SE.again Nkk (kk + 1) (by omega) (by omega) ⟨rfl, rfl, rfl, rfl, rfl, (congrArg (fun x => some (iw x)) (show IntKind.i64.wrap ((kk : Int) + 1) = ((kk + 1 : Nat) : Int) by rw [IntKind.wrap_i64]; omega)), trivial⟩ rfl
  have hne := hlies.2 jj (by omega)
  refine SC.seq ?_
  refine SC.sr ?_
  refine SL.mv ?_
  refine SL.mv ?_
  refine SL.uu (ru_lt (b := (decide (((jj : Int) : Int) < (kk : Int)))) rfl rfl rfl rfl) ?_
  refine SL.nn [(1, sl ob oo l.length oc), (4, bo false), (6, pt g 0), (7, iw (i : Int)), (8, Value.slice q6 ((allV (((pollF x1.S).1).R)).length) c7), (9, iw (kk : Int)), (12, iw (jj : Int)), (102, bo (decide (((jj : Int) : Int) < (kk : Int))))] _ ⟨rfl, rfl, rfl, rfl, rfl, rfl, rfl, rfl, trivial⟩ ?_
  refine SC.yes (show some (Value.bool (decide (((jj : Int) : Int) < (kk : Int)))) = some (Value.bool true) from congrArg (fun x => some (Value.bool x)) (decide_eq_true (by omega))) ?_
  refine SC.skip ?_
  refine SC.of_SE ?_
  refine SC.norm [(1, sl ob oo l.length oc), (4, bo false), (6, pt g 0), (7, iw (i : Int)), (8, Value.slice q6 ((allV (((pollF x1.S).1).R)).length) c7), (9, iw (kk : Int)), (12, iw (jj : Int))] _ ⟨rfl, rfl, rfl, rfl, rfl, rfl, rfl, trivial⟩ rfl ?_
  refine SC.seq ?_
  refine SC.block ?_
  refine SC.seq ?_
  refine SC.region_quiet (by kernel_rfl) (by kernel_rfl) ?_
  refine SQ.ru rfl rfl (lt_b rfl) (ru_move rfl rfl) ?_
  refine SQ.ru rfl rfl (lt_b rfl) (ru_move rfl rfl) ?_
  refine SQ.ru rfl rfl (lt_b rfl) (ru_index_row (ri := 6) si26 rfl rfl rfl rfl (by omega) (by omega)) ?_
  refine SQ.ru rfl rfl (lt_b rfl) (ru_load_row (ri := 6) ts3 rfl rfl rfl (allV_get2 (by omega))) ?_
  refine SQ.ru rfl rfl (lt_b rfl) (ru_move rfl rfl) ?_
  refine SQ.ru rfl rfl (lt_b rfl) (ru_move rfl rfl) ?_
  refine SQ.ru rfl rfl (lt_b rfl) (ru_index_row (ri := 6) si26 rfl rfl rfl rfl (by omega) (by omega)) ?_
  refine SQ.ru rfl rfl (lt_b rfl) (ru_load_row (ri := 6) ts3 rfl rfl rfl (allV_get2 (by omega))) ?_
  refine SQ.ru rfl rfl (lt_b rfl) (ru_eq (b := ((((allL (pollF x1.S).1.R).getD jj 0) : Int) == ((allL (pollF x1.S).1.R).getD kk 0))) rfl rfl rfl rfl) ?_
  refine SQ.nilE ?_
  refine SC.of_SE ?_
  refine SC.norm [(1, sl ob oo l.length oc), (4, bo false), (6, pt g 0), (7, iw (i : Int)), (8, Value.slice q6 ((allV (((pollF x1.S).1).R)).length) c7), (9, iw (kk : Int)), (12, iw (jj : Int)), (113, bo ((((allL (pollF x1.S).1.R).getD jj 0) : Int) == ((allL (pollF x1.S).1.R).getD kk 0)))] _ ⟨rfl, rfl, rfl, rfl, rfl, rfl, rfl, rfl, trivial⟩ rfl ?_
  refine SC.no (show some (Value.bool ((((allL (pollF x1.S).1.R).getD jj 0) : Int) == ((allL (pollF x1.S).1.R).getD kk 0))) = some (Value.bool false) from congrArg (fun x => some (Value.bool x)) hne) ?_
  refine SC.skip ?_
  refine SE.blkn ?_
  refine SC.of_SE ?_
  refine SC.norm [(1, sl ob oo l.length oc), (4, bo false), (6, pt g 0), (7, iw (i : Int)), (8, Value.slice q6 ((allV (((pollF x1.S).1).R)).length) c7), (9, iw (kk : Int)), (12, iw (jj : Int))] _ ⟨rfl, rfl, rfl, rfl, rfl, rfl, rfl, trivial⟩ rfl ?_
  refine SC.region ?_
  refine SL.mv ?_
  refine SL.uu (ru_add (r := (IntKind.i64.wrap ((jj : Int) + 1))) rfl rfl rfl rfl) ?_
  refine SL.as ?_
  refine SL.nil ?_
  refine SE.pick [0, 1, 2, 3, 4, 5, 6, 7, 8, 9] rfl ?_
  refine SE.again Njj (jj + 1) (by omega) (by omega) ⟨rfl, rfl, rfl, rfl, rfl, rfl, (congrArg (fun x => some (iw x)) (show IntKind.i64.wrap ((jj : Int) + 1) = ((jj + 1 : Nat) : Int) by rw [IntKind.wrap_i64]; omega)), trivial⟩ rfl

end Go.Proofs.Ytghfkgcaglabpaa

/-
  RingFills answers true.
-/
namespace Go.Proofs.Ytghfkgcaglabpaa
open Go.RowKit
set_option maxRecDepth 100000
set_option maxHeartbeats 4000000
theorem fills_no {w : World} {many : Int} (hb : (decide ((many : Int) < 1) || decide ((60 : Int) < many)) = true) {vv : Value} {l : List OpX} (h : OpsX w vv l) : Calls Try.prog 5 #[iw many, vv] w fun e w' => e = .returned (bo true) ∧ Only (fun _ => False) w w' := by
  obtain ⟨oa, oc, rfl, hlen, hops⟩ := h
  refine calls_sc (l0 := []) (args := [iw many, Value.slice oa l.length oc]) (fun _ => False) Try.func5 rfl 114 Try.ntmps5 (le_b rfl) ⟨⟨by simp, List.Pairwise.nil⟩, Only.refl _ _⟩ ?_
  show SC _ _ _ _ [(0, iw many), (1, Value.slice oa l.length oc)] []
  refine SC.sr ?_
  refine SL.as ?_
  refine SL.nn [(0, iw many), (1, Value.slice oa l.length oc), (4, bo false)] [] ⟨rfl, rfl, rfl, trivial⟩ ?_
  refine SC.sr ?_
  refine SL.callv (bo true) rfl rfl co6 rfl rfl rfl (lt_b rfl) (fun w hI => H_only hI (awake_any _)) ?_
  refine SL.as ?_
  refine SL.nn [(0, iw many), (1, Value.slice oa l.length oc), (4, bo false), (5, bo true)] _ ⟨rfl, rfl, rfl, rfl, trivial⟩ ?_
  refine SC.sr ?_
  refine SL.mv ?_
  refine SL.callv (Value.pointer none) rfl rfl co7 rfl rfl rfl (lt_b rfl) (fun w hI => H_only hI (begun_no hb)) ?_
  refine SL.as ?_
  refine SL.nn [(0, iw many), (1, Value.slice oa l.length oc), (4, bo false), (5, bo true), (6, Value.pointer none)] _ ⟨rfl, rfl, rfl, rfl, rfl, trivial⟩ ?_
  refine SC.seq ?_
  refine SC.sr ?_
  refine SL.mv ?_
  refine SL.uu (ru_not (c := false) rfl rfl rfl) ?_
  refine SL.mv ?_
  refine SL.rug rfl rfl rfl rfl (lt_b rfl) (ru_move rfl rfl) ?_
  refine SL.rug rfl rfl rfl rfl (lt_b rfl) (ru_eqnil Try.underlying24 rfl rfl rfl rfl) ?_
  refine SL.uu (ru_pick (u := bo true) (v := bo true) rfl rfl rfl rfl) ?_
  refine SL.nn [(0, iw many), (1, Value.slice oa l.length oc), (4, bo false), (5, bo true), (6, Value.pointer none), (21, bo true)] _ ⟨rfl, rfl, rfl, rfl, rfl, rfl, trivial⟩ ?_
  refine SC.yes rfl ?_
  refine SC.sr ?_
  refine SL.mv ?_
  refine SL.mv ?_
  refine SL.rug rfl rfl rfl rfl (lt_b rfl) (ru_move rfl rfl) ?_
  refine SL.rug rfl rfl rfl rfl (lt_b rfl) (ru_lt (b := (decide ((many : Int) < 1))) rfl rfl rfl rfl) ?_
  refine SL.rug rfl rfl rfl rfl (lt_b rfl) (ru_move rfl rfl) ?_
  refine SL.join 3 [(0, iw many), (1, Value.slice oa l.length oc), (4, bo false), (5, bo true), (6, Value.pointer none), (21, bo true), (22, bo true), (23, bo true), (24, iw many), (25, bo (decide ((many : Int) < 1))), (26, bo (decide ((many : Int) < 1))), (29, bo ((decide ((many : Int) < 1)) || (decide ((60 : Int) < many))))] [] ?_ ?_
  rotate_left
  · intro K hK
    rcases tf (decide ((many : Int) < 1)) with h1 | h1
    · skip
      refine SL.norm [(0, iw many), (1, Value.slice oa l.length oc), (4, bo false), (5, bo true), (6, Value.pointer none), (21, bo true), (22, bo true), (23, bo true), (24, iw many), (25, bo true), (26, bo true)] _ ⟨rfl, rfl, rfl, rfl, rfl, rfl, rfl, rfl, rfl, (congrArg (fun x => some (Value.bool x)) h1), (congrArg (fun x => some (Value.bool x)) h1), trivial⟩ rfl ?_
      refine SL.off (b := true) rfl rfl rfl rfl rfl (lt_b rfl) ?_
      refine SL.off (b := true) rfl rfl rfl rfl rfl (lt_b rfl) ?_
      refine SL.rug rfl rfl rfl rfl (lt_b rfl) (ru_pick (u := bo true) (v := undef) rfl rfl rfl rfl) ?_
      exact SL.joined hK ⟨rfl, rfl, rfl, rfl, rfl, rfl, rfl, rfl, rfl, (congrArg (fun x => some (Value.bool x)) h1.symm), (congrArg (fun x => some (Value.bool x)) h1.symm), (congrArg (fun bx => some (Value.bool (bx || (decide ((60 : Int) < many))))) h1.symm), trivial⟩ rfl
    refine SL.norm [(0, iw many), (1, Value.slice oa l.length oc), (4, bo false), (5, bo true), (6, Value.pointer none), (21, bo true), (22, bo true), (23, bo true), (24, iw many), (25, bo false), (26, bo false)] _ ⟨rfl, rfl, rfl, rfl, rfl, rfl, rfl, rfl, rfl, (congrArg (fun x => some (Value.bool x)) h1), (congrArg (fun x => some (Value.bool x)) h1), trivial⟩ rfl ?_
    refine SL.rug rfl rfl rfl rfl (lt_b rfl) (ru_move rfl rfl) ?_
    refine SL.rug rfl rfl rfl rfl (lt_b rfl) (ru_gt (b := (decide ((60 : Int) < many))) rfl rfl rfl rfl) ?_
    refine SL.rug rfl rfl rfl rfl (lt_b rfl) (ru_pick (u := bo true) (v := bo (decide ((60 : Int) < many))) rfl rfl rfl rfl) ?_
    exact SL.joined hK ⟨rfl, rfl, rfl, rfl, rfl, rfl, rfl, rfl, rfl, (congrArg (fun x => some (Value.bool x)) h1.symm), (congrArg (fun x => some (Value.bool x)) h1.symm), (congrArg (fun bx => some (Value.bool (bx || (decide ((60 : Int) < many))))) h1.symm), trivial⟩ rfl
  skip
  refine SL.uu (ru_pick (u := bo ((decide ((many : Int) < 1)) || (decide ((60 : Int) < many)))) (v := bo false) rfl rfl rfl rfl) ?_
  refine SL.as ?_
  refine SL.nn [(1, Value.slice oa l.length oc), (4, bo ((decide ((many : Int) < 1)) || (decide ((60 : Int) < many)))), (6, Value.pointer none)] _ ⟨rfl, rfl, rfl, trivial⟩ ?_
  refine SC.ret ?_
  refine SE.passr ?_
  refine SE.res (.inl rfl) (res1 Try.results5 rfl) fun w1 hI => ⟨ret_bo hb.symm, hI.2⟩
theorem fills_walk (w : World) (many : Int) {vv : Value} {l : List OpX} (h : OpsX w vv l) : Calls Try.prog 5 #[iw many, vv] w fun e w' => e = .returned (.bool true) ∧ Only (fun _ => False) w w' := by
  by_cases hb : (decide ((many : Int) < 1) || decide ((60 : Int) < many)) = true
  · exact fills_no hb h
  · simp only [Bool.or_eq_true, decide_eq_true_eq, not_or, Int.not_lt] at hb
    obtain ⟨n, rfl⟩ := Int.eq_ofNat_of_zero_le (show 0 ≤ many by omega)
    exact fills_in (by omega) (by omega) h _ (fun _ h => h)

end Go.Proofs.Ytghfkgcaglabpaa

/-
  From a row's reading of the arguments to what the walks ask of memory; no statement is named here.
-/
namespace Go.Proofs.Ytghfkgcaglabpaa
open Go.ChangeShapes Go.WideShapes Go.ChangeAt Go.RowKit Go.Deep

def I64 (n : Int) : Prop := -9223372036854775808 ≤ n ∧ n ≤ 9223372036854775807
theorem sliceIn_nil {S : Nat → Prop} {n c : Nat} : sliceIn (.slice none n c) S := fun b o n c e _ => by simp at e

section
variable {H : Type} {enc : TypeId × Value → H} {P : Program} {w : World} {base : Nat} {spare : Nat → Bool} {held : Bool}

theorem open_slice_fields {t e : TypeId} {fs : Array Field} {fuel : Nat} {cs : List Value} {x : DataW H × List MemPlace} (ht : P.underlying t = some (.slice e)) (he : P.underlying e = some (.struct fs))
    (hone : oneCellFields P fs = true) (hC : P.cellsOf e = fs.size) (h : DataW.trod enc P w base spare held fuel t cs = some x) :
    (cs = [.slice none 0 0] ∧ x = (.nil, [])) ∨
    ∃ (a : Addr) (len cap m : Nat) (D : Nat → DataW H) (Pl : Nat → List MemPlace), cs = [.slice (some a) len cap] ∧ base ≤ a.block ∧ len ≤ cap ∧ cap ≤ maxLen ∧ m = (if spare a.block then cap else len) ∧
      x = (.slice ((List.range len).map D) ((List.range (m - len)).map fun j => D (len + j)), MemPlace.row a (m * fs.size) ++ (List.range m).flatMap Pl) ∧
      ∀ i, i < m → ∃ (ys : List (DataW H × List MemPlace)) (n : Nat), D i = .agg (ys.map (·.1)) ∧ Pl i = ys.flatMap (·.2) ∧ ys.length = fs.size ∧
        ∀ (j : Nat) (f : Field), fs[j]? = some f → ∃ (v : Value) (y : DataW H × List MemPlace), w.cell? (a.add (i * fs.size + j)) = some v ∧ ys[j]? = some y ∧ DataW.trod enc P w base spare held n f.type [v] = some y := by
  rcases open_slice ht h with h0 | ⟨a, len, cap, m, n, D, Pl, hcs, hb, hl, hm, hmm, hx, hi⟩
  · exact .inl h0
  · refine .inr ⟨a, len, cap, m, D, Pl, hcs, hb, hl, hm, hmm, by rw [hC] at hx; exact hx, fun i him => ?_⟩
    obtain ⟨cs', hc, ht'⟩ := hi i him
    rw [hC] at hc
    obtain ⟨ys, n', hn', hy, hlen, hyl, hf⟩ := DataW.trod_struct he ht'
    obtain ⟨_, hcl, hat⟩ := World.cells?_some hc
    simp only [Prod.mk.injEq] at hy
    refine ⟨ys, n', hy.1, hy.2, hyl, fun j f hj => ?_⟩
    obtain ⟨ho, hk⟩ := hone_of hone j f hj
    have hjl : j < fs.size := (Array.getElem?_eq_some_iff.1 hj).1
    have hcell := hat j hjl
    have hv : cs'[j]? = some (cs'[j]'(by omega)) := List.getElem?_eq_getElem (by omega)
    have h1 := hf j f hj
    rw [ho, hk] at h1
    have hone' : (cs'.drop j).take 1 = [cs'[j]'(by omega)] := by
      rw [List.drop_eq_getElem_cons (by omega)]
      rfl
    rw [hone'] at h1
    have hys : ys[j]? = some (ys[j]'(by omega)) := List.getElem?_eq_getElem (by omega)
    refine ⟨_, _, ?_, hys, h1.trans hys⟩
    rw [← Go.Deep.add_add, hcell, hv]

theorem plain_of_cell {a : Addr} {v : Value} (h : w.cell? (a.add 0) = some v) : a.spot = none := by
  cases hsp : a.spot with
  | none => rfl
  | some s =>
    unfold World.cell? Addr.add at h
    simp only [if_true, hsp, Option.isSome_some] at h
    split at h <;> simp at h
theorem plain_add {a : Addr} (hs : a.spot = none) (i : Nat) : a.add i = ⟨a.block, a.off + i, none⟩ := by
  cases a; simp only at hs; subst hs
  unfold Addr.add; split <;> simp_all
theorem wf_u8 {n : Int} (h : (Lit.int .u8 n).wf = true) : 0 ≤ n ∧ n < 256 := by
  simp only [Lit.wf, Bool.and_eq_true, decide_eq_true_eq] at h
  exact ⟨Int.le_trans (by decide) h.1, Int.lt_of_le_of_lt h.2 (by decide)⟩

/-- A slice of bytes. -/
theorem open_bytes {t e : TypeId} {fuel : Nat} {v : Value} {x : DataW H × List MemPlace} (ht : P.underlying t = some (.slice e)) (he : P.underlying e = some (.int .u8)) (hc : P.cellsOf e = 1) (hB : P.bytesOf e = 1)
    (h : DataW.trod enc P w base (fun _ => true) held fuel t [v] = some x) (hw : ∀ n ∈ x.1.weights P t, n ≤ reachBytes) :
    ∃ a n c l, v = .slice a n c ∧ BytesAt w (.slice a n c) l ∧ sliceIn (.slice a n c) (fun b => b < w.heap.size) := by
  rcases open_ints ht he hc h with ⟨hcs, _⟩ | ⟨a, len, cap, zs, hcs, _, hl, hm, hz, hx, hcell, hwf⟩
  · simp at hcs; subst hcs
    exact ⟨none, 0, 0, [], rfl, .nil _, sliceIn_nil⟩
  · simp at hcs; subst hcs
    simp only [if_true] at hz
    have hcap : cap ≤ 140737488351232 := by
      have := hw ((zs.take len).length * 1 + (zs.drop len).length * 1) (by
        rw [hx]
        simp only [DataW.weights, ht, hB, List.mem_cons]
        left
        simp [lits])
      simp only [reachBytes] at this
      have e1 : (zs.take len).length + (zs.drop len).length = zs.length := by rw [List.length_take, List.length_drop]; omega
      omega
    refine ⟨some a, len, cap, (zs.take len).map fun z => UInt8.ofNat z.toNat, rfl, ?_, ?_⟩
    · by_cases h0 : len = 0
      · subst h0
        exact .inl ⟨_, _, rfl, (fun h => by cases h), by simp⟩
      · have hs : a.spot = none := plain_of_cell (hcell 0 (by omega))
        have hll : ((zs.take len).map fun z => UInt8.ofNat z.toNat).length = len := by simp; omega
        refine .inr ⟨a.block, a.off, cap, ?_, by omega, by omega, fun j hj => ?_⟩
        · rw [hll]; cases a; simp only at hs; subst hs; rfl
        · rw [hll] at hj
          have hcj := hcell j (by omega)
          rw [plain_add hs] at hcj
          rw [hcj]
          have hzj : zs.getD j 0 = zs[j] := by simp [List.getElem?_eq_getElem (show j < zs.length by omega)]
          have hr := wf_u8 (hwf zs[j] (List.getElem_mem _))
          have e2 : ((UInt8.ofNat zs[j].toNat).toNat : Int) = zs[j] := by
            rw [UInt8.toNat_ofNat']; omega
          simp only [List.getElem_map, List.getElem_take, hzj, bv, e2]
    · intro b o n c e hn
      simp at e
      obtain ⟨rfl, rfl, rfl⟩ := e
      have := block_lt_of_cell (hcell 0 (by omega))
      exact this

theorem weights_agg {fs : Array Field} {t : TypeId} (hu : P.underlying t = some (.struct fs)) {ys : List (DataW H × List MemPlace)} (hl : ys.length = fs.size) {B : Nat} (hw : ∀ n ∈ (DataW.agg (ys.map (·.1))).weights P t, n ≤ B)
    {j : Nat} {f : Field} {y : DataW H × List MemPlace} (hf : fs[j]? = some f) (hy : ys[j]? = some y) : ∀ n ∈ y.1.weights P f.type, n ≤ B := by
  intro n hn
  refine hw n ?_
  simp only [DataW.weights, hu]
  exact DataW.weights_mem_each (j := j) (t := f.type) (d := y.1) (by simp [hf]) (by simp [hy]) n hn

theorem weights_all {t : TypeId} {l : List (DataW H)} {n : Nat} {d : DataW H} (hd : d ∈ l) (hn : n ∈ d.weights P t) : n ∈ DataW.weightsAll P t l := by
  induction l with
  | nil => cases hd
  | cons x l ih =>
    simp only [DataW.weightsAll, List.mem_append]
    rcases List.mem_cons.1 hd with rfl | h
    · exact .inl hn
    · exact .inr (ih h)
end
end Go.Proofs.Ytghfkgcaglabpaa

/-
  The arguments of the ring's statements, opened.
-/
namespace Go.Proofs.Ytghfkgcaglabpaa
open Go.ChangeShapes Go.WideShapes Go.ChangeAt Go.RowKit Go.Deep
set_option maxRecDepth 100000
variable {H : Type} {enc : TypeId × Value → H} {w : World} {base b0 : Nat} {held : Bool} {r : Reach}
theorem ops_nil (a : Option Addr) (c : Nat) : OpsX w (.slice a 0 c) [] := ⟨a, c, rfl, by simp, fun i hi => by simp at hi⟩
theorem open_ops_arg {v : Value} {d : DataW H} {p : List MemPlace} (hv : Value.okWide Try.prog w r b0 22 v) (h : DataW.Trod enc Try.prog w base (fun _ => true) held 22 v d p) (hw : ∀ n ∈ DataW.weights Try.prog 22 d, n ≤ reachBytes) :
    ∃ l, OpsX w v l := by
  obtain ⟨a0, n0, c0, rfl⟩ := okWide_slice Try.underlying22 hv
  obtain ⟨fuel, hf⟩ := h
  have hB : Try.prog.bytesOf 30 = 48 := by kernel_rfl
  rcases open_slice_fields (x := (d, p)) Try.underlying22 Try.underlying30 (by kernel_rfl) (by kernel_rfl) hf with ⟨hcs, _⟩ | ⟨a, len, cap, m, D, Pl, hcs, _, hl, _, hm, hx, hi⟩
  · simp [Value.cells] at hcs
    obtain ⟨rfl, rfl, rfl⟩ := hcs
    exact ⟨[], ops_nil _ _⟩
  · simp [Value.cells] at hcs
    obtain ⟨rfl, rfl, rfl⟩ := hcs
    simp only [if_true] at hm
    subst hm
    obtain ⟨hx, _⟩ := Prod.mk.inj hx
    subst hx
    by_cases h0 : n0 = 0
    · subst h0; exact ⟨[], ops_nil _ _⟩
    have hlen : n0 * 48 ≤ 140737488351232 := by
      have := hw ((((List.range n0).map D).length + ((List.range (m - n0)).map fun j => D (n0 + j)).length) * 48) (by
        simp only [DataW.weights, Try.underlying22, List.mem_cons, hB]
        left; trivial)
      simp only [List.length_map, List.length_range, reachBytes] at this
      omega
    have each : ∀ i, i < n0 → ∃ o : OpX, a.spot = none ∧ OpXAt w a.block (a.off + i * 4) o := by
      intro i hin
      obtain ⟨z, n, hD0, _, hys0, hf0⟩ := hi 0 (by omega)
      obtain ⟨v, y, hc0, _, _⟩ := hf0 0 _ rfl
      have hs : a.spot = none := plain_of_cell hc0
      obtain ⟨ys, n, hD, _, hys, hf⟩ := hi i (by omega)
      have hDm : D i ∈ (List.range n0).map D := List.mem_map.2 ⟨i, List.mem_range.2 hin, rfl⟩
      have hwi : ∀ n ∈ (DataW.agg (ys.map (·.1))).weights Try.prog 30, n ≤ reachBytes := by
        intro q hq
        refine hw q ?_
        simp only [DataW.weights, Try.underlying22, List.mem_cons, List.mem_append]
        right; left
        rw [← hD] at hq
        exact weights_all hDm hq
      obtain ⟨v0, y0, c0, q0, h0⟩ := hf 0 _ rfl
      obtain ⟨v1, y1, c1, q1, h1⟩ := hf 1 _ rfl
      obtain ⟨v3, y3, c2, q3, h3⟩ := hf 2 _ rfl
      obtain ⟨v4, y4, c3, q4, h4⟩ := hf 3 _ rfl
      have w3 := weights_agg Try.underlying30 hys hwi rfl q3
      obtain ⟨z0, hz0, _, u0⟩ := DataW.trod_int Try.underlying3 h0
      obtain ⟨z1, hz1, _, u1⟩ := DataW.trod_int Try.underlying3 h1
      obtain ⟨b, nn, cc, l, e, k1, k2⟩ := open_bytes Try.underlying28 Try.underlying5 (by kernel_rfl) (by kernel_rfl) h3 w3
      obtain ⟨z4, hz4, _⟩ := DataW.trod_bool Try.underlying4 h4
      simp at hz0 hz1 hz4
      subst hz0 hz1 hz4 e
      rw [plain_add hs] at c0 c1 c2 c3
      refine ⟨⟨z0, z1, .slice b nn cc, l, z4⟩, hs, fun j u hj => ?_, k1, k2⟩
      match j, hj with
      | 0, hj => simp at hj; subst hj; exact c0
      | 1, hj => simp at hj; subst hj; exact c1
      | 2, hj => simp at hj; subst hj; exact c2
      | 3, hj => simp at hj; subst hj; exact c3
      | j + 4, hj => simp at hj
    obtain ⟨_, hs, hfirst⟩ := each 0 (by omega)
    obtain ⟨g, hg⟩ : ∃ g : Nat → OpX, ∀ i, i < n0 → OpXAt w a.block (a.off + i * 4) (g i) := by
      refine ⟨fun i => if h : i < n0 then Classical.choose (each i h) else ⟨0, 0, .slice none 0 0, [], false⟩, fun i h => ?_⟩
      simp only [h, dite_true]
      exact (Classical.choose_spec (each i h)).2
    refine ⟨(List.range n0).map g, some a, _, by simp; rfl, by simp; omega, fun i hi => ⟨a.block, a.off, ?_, ?_⟩⟩
    · cases a; simp only at hs; subst hs; rfl
    · simp at hi
      simpa using hg i hi
end Go.Proofs.Ytghfkgcaglabpaa
