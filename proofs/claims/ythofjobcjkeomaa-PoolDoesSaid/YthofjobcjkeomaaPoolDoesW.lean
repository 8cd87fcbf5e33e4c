/-
  A call of both pools.
-/
import Derived.Test.YthofjobcjkeomaaPoolTwo
import Derived.Test.YthofjobcjkeomaaTab
import Derived.Outline
namespace Go.Proofs.Ythofjobcjkeomaa
open Go.RowKit
set_option maxRecDepth 100000
set_option maxHeartbeats 4000000
theorem does_any {w : World} {p ab r rb : Nat} {F : Nat → Prop} {L : List Bf} (h : (rTwo p ab r rb F L L).ok w) (hm : ∀ b ∈ L, b.refs < 1000000000000000) {k id a b : Int} {ov : Value} {f : List UInt8} (hb : BytesAt w ov f) (hs : sliceIn ov (fun x => ¬ ((x = p ∨ x = ab) ∨ x = rb))) :
    Calls Try.prog 16 #[pt p 0, pt r 0, .agg #[iw k, iw id, iw a, iw b, ov]] w fun e w' => e = .returned (bo true) ∧ (∃ F' L', Next L L' ∧ (rTwo p ab r rb F' L' L').ok w') ∧ Only (fun x => (x = p ∨ x = ab) ∨ x = rb) w w' := by
  have hbl := hb.len
  have hbd := pool_data h.1
  obtain ⟨fa, fc, rfl⟩ := hb.form
  obtain ⟨x0, y0, L0, N0, P0, Q0⟩ := get_pair (p := p) (ab := ab) (r := r) (rb := rb) (L := L)
  obtain ⟨x1, L1, N1, P1, Q1⟩ := hold_pair (p := p) (ab := ab) (r := r) (rb := rb) (L := L) id hm
  obtain ⟨x2, L2, N2, P2, Q2⟩ := free_pair (p := p) (ab := ab) (r := r) (rb := rb) (L := L) id hm
  obtain ⟨x3, L3, N3, P3, Q3⟩ := trim_pair (p := p) (ab := ab) (r := r) (rb := rb) (L := L) id a b hbd
  obtain ⟨x4, L4, N4, P4, Q4⟩ := set_pair (p := p) (ab := ab) (r := r) (rb := rb) (L := L) id f hbd
  obtain ⟨x5, L5, N5, P5, Q5⟩ := append_pair (p := p) (ab := ab) (r := r) (rb := rb) (L := L) id f hbd
  obtain ⟨x6, L6, N6, P6, Q6⟩ := front_pair (p := p) (ab := ab) (r := r) (rb := rb) (L := L) id f hbd
  refine calls_sc (l0 := [rTwo p ab r rb F L L]) (args := [pt p 0, pt r 0, .agg #[iw k, iw id, iw a, iw b, .slice fa f.length fc]]) (fun x => (x = p ∨ x = ab) ∨ x = rb) Try.func16 rfl 137 Try.ntmps16 (le_b rfl) ⟨⟨fun q hq => by simp at hq; subst hq; exact h, List.pairwise_singleton _ _⟩, Only.refl _ _⟩ ?_
  show SC _ _ _ _ [(0, pt p 0), (1, pt r 0), (2, .agg #[iw k, iw id, iw a, iw b, .slice fa f.length fc])] [rTwo p ab r rb F L L]
  refine SC.seq ?_
  refine SC.region ?_
  refine SL.box (c := [iw k, iw id, iw a, iw b, Value.slice fa f.length fc]) rfl rfl (lt_b rfl) rfl rfl rfl fun b1 hb1 => ?_
  refine SL.ru rfl rfl (lt_b rfl) (ru_assign rfl rfl) ?_
  refine SL.nil ?_
  refine SC.of_SE ?_
  refine SC.norm [(0, pt p 0), (1, pt r 0), (5, pt b1 0), (6, bo false)] [rTwo p ab r rb F L L, rBlk b1 [iw k, iw id, iw a, iw b, Value.slice fa f.length fc] 31] ⟨rfl, rfl, rfl, rfl, trivial⟩ rfl ?_
  refine SC.seq ?_
  refine SC.region ?_
  refine SL.ru rfl rfl (lt_b rfl) (ru_fieldAddr (o2 := 4) fd31_4 rfl rfl rfl) ?_
  refine SL.ru rfl rfl (lt_b rfl) (ru_load (i := 1) ts29 rfl rfl rfl rfl) ?_
  refine SL.append0 (f := f) rfl rfl (lt_b rfl) rfl Try.underlying29 (by kernel_rfl) rfl rfl (fun w hI => hb.only hI.2 hs) fun a2 c3 hq4 => ?_
  refine SL.ru rfl rfl (lt_b rfl) (ru_assign rfl rfl) ?_
  refine SL.nil ?_
  refine SC.of_SE ?_
  refine SC.norm [(0, pt p 0), (1, pt r 0), (5, pt b1 0), (6, bo false), (7, Value.slice a2 f.length c3)] [rTwo p ab r rb F L L, rBlk b1 [iw k, iw id, iw a, iw b, Value.slice fa f.length fc] 31, rMine (.slice a2 f.length c3) f 5] ⟨rfl, rfl, rfl, rfl, rfl, trivial⟩ rfl ?_
  refine SC.seq ?_
  refine SC.region ?_
  refine SL.ru rfl rfl (lt_b rfl) (ru_assign rfl rfl) ?_
  refine SL.nil ?_
  refine SC.of_SE ?_
  refine SC.norm [(0, pt p 0), (1, pt r 0), (5, pt b1 0), (6, bo false), (7, Value.slice a2 f.length c3), (8, bo true)] [rTwo p ab r rb F L L, rBlk b1 [iw k, iw id, iw a, iw b, Value.slice fa f.length fc] 31, rMine (.slice a2 f.length c3) f 5] ⟨rfl, rfl, rfl, rfl, rfl, rfl, trivial⟩ rfl ?_
  refine SC.seq ?_
  refine SC.seq ?_
  refine SC.region ?_
  refine SL.ru rfl rfl (lt_b rfl) (ru_fieldAddr (o2 := 0) fd31_0 rfl rfl rfl) ?_
  refine SL.ru rfl rfl (lt_b rfl) (ru_load (i := 1) ts3 rfl rfl rfl rfl) ?_
  refine SL.nil ?_
  refine SC.of_SE ?_
  refine SC.norm [(0, pt p 0), (1, pt r 0), (5, pt b1 0), (6, bo false), (7, Value.slice a2 f.length c3), (8, bo true), (18, iw k)] [rTwo p ab r rb F L L, rBlk b1 [iw k, iw id, iw a, iw b, Value.slice fa f.length fc] 31, rMine (.slice a2 f.length c3) f 5] ⟨rfl, rfl, rfl, rfl, rfl, rfl, rfl, trivial⟩ rfl ?_
  refine SC.block ?_
  refine SC.seq ?_
  refine SC.region ?_
  refine SL.ru rfl rfl (lt_b rfl) (ru_eq (b := ((k : Int) == 0)) rfl rfl rfl rfl) ?_
  refine SL.ru rfl rfl (lt_b rfl) (ru_assign rfl rfl) ?_
  refine SL.nil ?_
  refine SC.of_SE ?_
  refine SC.norm [(0, pt p 0), (1, pt r 0), (5, pt b1 0), (6, bo false), (7, Value.slice a2 f.length c3), (8, bo true), (18, iw k), (19, bo ((k : Int) == 0))] [rTwo p ab r rb F L L, rBlk b1 [iw k, iw id, iw a, iw b, Value.slice fa f.length fc] 31, rMine (.slice a2 f.length c3) f 5] ⟨rfl, rfl, rfl, rfl, rfl, rfl, rfl, rfl, trivial⟩ rfl ?_
  refine SC.both ((k : Int) == 0) rfl (fun h5 => ?_) (fun h5 => ?_)
  · skip
    refine SC.seq ?_
    refine SC.region ?_
    refine SL.ru rfl rfl (lt_b rfl) (ru_move rfl rfl) ?_
    refine SL.call (ζ := Unit) (fun _ => Value.tuple #[iw x0, iw y0]) (fun _ => [rTwo p ab r rb F L0 L, rBlk b1 [iw k, iw id, iw a, iw b, Value.slice fa f.length fc] 31, rMine (.slice a2 f.length c3) f 5]) (fun _ => True) rfl rfl co9 rfl rfl rfl (lt_b rfl) (fun w hI => (P0 _ (two_p hI)).mono fun e w2 ⟨h1, h2, h3⟩ => ⟨(), h1, hI.twoP (i := 0) rfl (fun b hb => .inl (.inl hb)) h2 h3, trivial⟩) ?_
    intro _ _
    refine SL.ru rfl rfl (lt_b rfl) (ru_move rfl rfl) ?_
    refine SL.ru rfl rfl (lt_b rfl) (ru_extract rfl rfl rfl) ?_
    refine SL.ru rfl rfl (lt_b rfl) (ru_extract rfl rfl rfl) ?_
    refine SL.ru rfl rfl (lt_b rfl) (ru_assign rfl rfl) ?_
    refine SL.ru rfl rfl (lt_b rfl) (ru_assign rfl rfl) ?_
    refine SL.nil ?_
    refine SC.of_SE ?_
    refine SC.norm [(1, pt r 0), (6, bo false), (7, Value.slice a2 f.length c3), (8, bo true), (9, iw x0), (10, iw y0)] [rTwo p ab r rb F L0 L, rBlk b1 [iw k, iw id, iw a, iw b, Value.slice fa f.length fc] 31, rMine (.slice a2 f.length c3) f 5] ⟨rfl, rfl, rfl, rfl, rfl, rfl, trivial⟩ rfl ?_
    refine SC.seq ?_
    refine SC.region ?_
    refine SL.ru rfl rfl (lt_b rfl) (ru_move rfl rfl) ?_
    refine SL.call (ζ := Nat → Prop) (fun F6 => Value.tuple #[iw x0, iw y0]) (fun F6 => [rTwo p ab r rb F6 L0 L0, rBlk b1 [iw k, iw id, iw a, iw b, Value.slice fa f.length fc] 31, rMine (.slice a2 f.length c3) f 5]) (fun F6 => True) rfl rfl co26 rfl rfl rfl (lt_b rfl) (fun w hI => (Q0 _ _ (two_q hI)).mono fun e w2 ⟨h1, h2, h3⟩ => by obtain ⟨F2, h4⟩ := hI.twoQ (i := 0) rfl (.inl (.inr rfl)) h2 h3; exact ⟨F2, h1, h4, trivial⟩) ?_
    intro F6 _
    refine SL.ru rfl rfl (lt_b rfl) (ru_move rfl rfl) ?_
    refine SL.ru rfl rfl (lt_b rfl) (ru_extract rfl rfl rfl) ?_
    refine SL.ru rfl rfl (lt_b rfl) (ru_extract rfl rfl rfl) ?_
    refine SL.ru rfl rfl (lt_b rfl) (ru_assign rfl rfl) ?_
    refine SL.ru rfl rfl (lt_b rfl) (ru_assign rfl rfl) ?_
    refine SL.nil ?_
    refine SC.of_SE ?_
    refine SC.norm [(6, bo false), (7, Value.slice a2 f.length c3), (8, bo true), (9, iw x0), (10, iw y0), (11, iw x0), (12, iw y0)] [rTwo p ab r rb F6 L0 L0, rBlk b1 [iw k, iw id, iw a, iw b, Value.slice fa f.length fc] 31, rMine (.slice a2 f.length c3) f 5] ⟨rfl, rfl, rfl, rfl, rfl, rfl, rfl, trivial⟩ rfl ?_
    refine SC.seq ?_
    refine SC.region ?_
    refine SL.ru rfl rfl (lt_b rfl) (ru_move rfl rfl) ?_
    refine SL.ru rfl rfl (lt_b rfl) (ru_move rfl rfl) ?_
    refine SL.ru rfl rfl (lt_b rfl) (ru_eq (b := true) rfl rfl rfl (by simp)) ?_
    refine SL.ru rfl rfl (lt_b rfl) (ru_move rfl rfl) ?_
    refine SL.rug rfl rfl rfl rfl (lt_b rfl) (ru_move rfl rfl) ?_
    refine SL.rug rfl rfl rfl rfl (lt_b rfl) (ru_move rfl rfl) ?_
    refine SL.rug rfl rfl rfl rfl (lt_b rfl) (ru_eq (b := true) rfl rfl rfl (by simp)) ?_
    refine SL.ru rfl rfl (lt_b rfl) (ru_pick (u := bo true) (v := bo false) rfl rfl rfl rfl) ?_
    refine SL.ru rfl rfl (lt_b rfl) (ru_assign rfl rfl) ?_
    refine SL.nil ?_
    refine SC.of_SE ?_
    refine SC.norm [(6, bo true), (7, Value.slice a2 f.length c3), (8, bo true)] [rTwo p ab r rb F6 L0 L0, rBlk b1 [iw k, iw id, iw a, iw b, Value.slice fa f.length fc] 31, rMine (.slice a2 f.length c3) f 5] ⟨rfl, rfl, rfl, trivial⟩ rfl ?_
    refine SC.ret ?_
    refine SE.blkr ?_
    refine SE.passr ?_
    refine SE.res (.inl rfl) (res1 Try.results16 rfl) fun w1 hI => ⟨rfl, ⟨_, _, N0, hI.1.get (i := 0) rfl⟩, hI.2⟩
  · skip
    refine SC.seq ?_
    refine SC.region ?_
    refine SL.ru rfl rfl (lt_b rfl) (ru_eq (b := ((k : Int) == 1)) rfl rfl rfl rfl) ?_
    refine SL.ru rfl rfl (lt_b rfl) (ru_assign rfl rfl) ?_
    refine SL.nil ?_
    refine SC.of_SE ?_
    refine SC.norm [(0, pt p 0), (1, pt r 0), (5, pt b1 0), (6, bo false), (7, Value.slice a2 f.length c3), (8, bo true), (18, iw k), (39, bo ((k : Int) == 1))] [rTwo p ab r rb F L L, rBlk b1 [iw k, iw id, iw a, iw b, Value.slice fa f.length fc] 31, rMine (.slice a2 f.length c3) f 5] ⟨rfl, rfl, rfl, rfl, rfl, rfl, rfl, rfl, trivial⟩ rfl ?_
    refine SC.both ((k : Int) == 1) rfl (fun h7 => ?_) (fun h7 => ?_)
    · skip
      refine SC.seq ?_
      refine SC.region_cls [3, 7] (CQ ⟨137, w, fun x => (x = p ∨ x = ab) ∨ x = rb⟩ 3 7 p ab r rb L L1 [rBlk b1 [iw k, iw id, iw a, iw b, Value.slice fa f.length fc] 31, rMine (.slice a2 f.length c3) f 5]) (by kernel_rfl) (by kernel_rfl) (by kernel_rfl) rfl (fun w hI => ⟨_, hI⟩) ?_
      refine SS.ru _ CQ.base rfl rfl rfl (lt_b rfl) (ru_move rfl rfl) ?_
      refine SS.ru _ CQ.base rfl rfl rfl (lt_b rfl) (ru_fieldAddr (o2 := 1) fd31_1 rfl rfl rfl) ?_
      refine SS.ru _ CQ.base rfl rfl rfl (lt_b rfl) (ru_load (i := 0) ts3 rfl rfl rfl rfl) ?_
      refine SS.turn (iw x1) rfl rfl rfl co13 rfl rfl rfl (lt_b rfl) (CQ.pr (by decide) (fun b hb => .inl (.inl hb)) (fun w F B hI => P1 _ (two_p hI))) ?_
      refine SS.ru _ CQ.base rfl rfl rfl (lt_b rfl) (ru_move rfl rfl) ?_
      refine SS.ru _ CQ.base rfl rfl rfl (lt_b rfl) (ru_fieldAddr (o2 := 1) fd31_1 rfl rfl rfl) ?_
      refine SS.ru _ CQ.base rfl rfl rfl (lt_b rfl) (ru_load (i := 0) ts3 rfl rfl rfl rfl) ?_
      refine SS.turn (iw x1) rfl rfl rfl co27 rfl rfl rfl (lt_b rfl) (CQ.rf (by decide) (.inl (.inr rfl)) (fun w F B hI => Q1 _ _ (two_q hI))) ?_
      refine SS.ru _ CQ.base rfl rfl rfl (lt_b rfl) (ru_eq (b := true) rfl rfl rfl (by simp)) ?_
      refine SS.ru _ CQ.base rfl rfl rfl (lt_b rfl) (ru_assign rfl rfl) ?_
      refine SS.nilQ fun F8 => ?_
      refine SC.of_SE ?_
      refine SC.norm [(6, bo true), (7, Value.slice a2 f.length c3), (8, bo true)] [rTwo p ab r rb F8 L1 L1, rBlk b1 [iw k, iw id, iw a, iw b, Value.slice fa f.length fc] 31, rMine (.slice a2 f.length c3) f 5] ⟨rfl, rfl, rfl, trivial⟩ rfl ?_
      refine SC.ret ?_
      refine SE.blkr ?_
      refine SE.passr ?_
      refine SE.res (.inl rfl) (res1 Try.results16 rfl) fun w1 hI => ⟨rfl, ⟨_, _, N1, hI.1.get (i := 0) rfl⟩, hI.2⟩
    · skip
      refine SC.seq ?_
      refine SC.region ?_
      refine SL.ru rfl rfl (lt_b rfl) (ru_eq (b := ((k : Int) == 2)) rfl rfl rfl rfl) ?_
      refine SL.ru rfl rfl (lt_b rfl) (ru_assign rfl rfl) ?_
      refine SL.nil ?_
      refine SC.of_SE ?_
      refine SC.norm [(0, pt p 0), (1, pt r 0), (5, pt b1 0), (6, bo false), (7, Value.slice a2 f.length c3), (8, bo true), (18, iw k), (50, bo ((k : Int) == 2))] [rTwo p ab r rb F L L, rBlk b1 [iw k, iw id, iw a, iw b, Value.slice fa f.length fc] 31, rMine (.slice a2 f.length c3) f 5] ⟨rfl, rfl, rfl, rfl, rfl, rfl, rfl, rfl, trivial⟩ rfl ?_
      refine SC.both ((k : Int) == 2) rfl (fun h9 => ?_) (fun h9 => ?_)
      · skip
        refine SC.seq ?_
        refine SC.region_cls [3, 7] (CQ ⟨137, w, fun x => (x = p ∨ x = ab) ∨ x = rb⟩ 3 7 p ab r rb L L2 [rBlk b1 [iw k, iw id, iw a, iw b, Value.slice fa f.length fc] 31, rMine (.slice a2 f.length c3) f 5]) (by kernel_rfl) (by kernel_rfl) (by kernel_rfl) rfl (fun w hI => ⟨_, hI⟩) ?_
        refine SS.ru _ CQ.base rfl rfl rfl (lt_b rfl) (ru_move rfl rfl) ?_
        refine SS.ru _ CQ.base rfl rfl rfl (lt_b rfl) (ru_fieldAddr (o2 := 1) fd31_1 rfl rfl rfl) ?_
        refine SS.ru _ CQ.base rfl rfl rfl (lt_b rfl) (ru_load (i := 0) ts3 rfl rfl rfl rfl) ?_
        refine SS.turn (iw x2) rfl rfl rfl co14 rfl rfl rfl (lt_b rfl) (CQ.pr (by decide) (fun b hb => .inl (.inl hb)) (fun w F B hI => P2 _ (two_p hI))) ?_
        refine SS.ru _ CQ.base rfl rfl rfl (lt_b rfl) (ru_move rfl rfl) ?_
        refine SS.ru _ CQ.base rfl rfl rfl (lt_b rfl) (ru_fieldAddr (o2 := 1) fd31_1 rfl rfl rfl) ?_
        refine SS.ru _ CQ.base rfl rfl rfl (lt_b rfl) (ru_load (i := 0) ts3 rfl rfl rfl rfl) ?_
        refine SS.turn (iw x2) rfl rfl rfl co28 rfl rfl rfl (lt_b rfl) (CQ.rf (by decide) (.inl (.inr rfl)) (fun w F B hI => Q2 _ _ (two_q hI))) ?_
        refine SS.ru _ CQ.base rfl rfl rfl (lt_b rfl) (ru_eq (b := true) rfl rfl rfl (by simp)) ?_
        refine SS.ru _ CQ.base rfl rfl rfl (lt_b rfl) (ru_assign rfl rfl) ?_
        refine SS.nilQ fun F10 => ?_
        refine SC.of_SE ?_
        refine SC.norm [(6, bo true), (7, Value.slice a2 f.length c3), (8, bo true)] [rTwo p ab r rb F10 L2 L2, rBlk b1 [iw k, iw id, iw a, iw b, Value.slice fa f.length fc] 31, rMine (.slice a2 f.length c3) f 5] ⟨rfl, rfl, rfl, trivial⟩ rfl ?_
        refine SC.ret ?_
        refine SE.blkr ?_
        refine SE.passr ?_
        refine SE.res (.inl rfl) (res1 Try.results16 rfl) fun w1 hI => ⟨rfl, ⟨_, _, N2, hI.1.get (i := 0) rfl⟩, hI.2⟩
      · skip
        refine SC.seq ?_
        refine SC.region ?_
        refine SL.ru rfl rfl (lt_b rfl) (ru_eq (b := ((k : Int) == 3)) rfl rfl rfl rfl) ?_
        refine SL.ru rfl rfl (lt_b rfl) (ru_assign rfl rfl) ?_
        refine SL.nil ?_
        refine SC.of_SE ?_
        refine SC.norm [(0, pt p 0), (1, pt r 0), (5, pt b1 0), (6, bo false), (7, Value.slice a2 f.length c3), (8, bo true), (18, iw k), (61, bo ((k : Int) == 3))] [rTwo p ab r rb F L L, rBlk b1 [iw k, iw id, iw a, iw b, Value.slice fa f.length fc] 31, rMine (.slice a2 f.length c3) f 5] ⟨rfl, rfl, rfl, rfl, rfl, rfl, rfl, rfl, trivial⟩ rfl ?_
        refine SC.both ((k : Int) == 3) rfl (fun h11 => ?_) (fun h11 => ?_)
        · skip
          refine SC.region_cls [4, 10] (CQ ⟨137, w, fun x => (x = p ∨ x = ab) ∨ x = rb⟩ 4 10 p ab r rb L L4 [rBlk b1 [iw k, iw id, iw a, iw b, Value.slice fa f.length fc] 31, rMine (.slice a2 f.length c3) f 5]) (by kernel_rfl) (by kernel_rfl) (by kernel_rfl) rfl (fun w hI => ⟨_, hI⟩) ?_
          refine SS.ru _ CQ.base rfl rfl rfl (lt_b rfl) (ru_move rfl rfl) ?_
          refine SS.ru _ CQ.base rfl rfl rfl (lt_b rfl) (ru_fieldAddr (o2 := 1) fd31_1 rfl rfl rfl) ?_
          refine SS.ru _ CQ.base rfl rfl rfl (lt_b rfl) (ru_load (i := 0) ts3 rfl rfl rfl rfl) ?_
          refine SS.ru _ CQ.base rfl rfl rfl (lt_b rfl) (ru_move rfl rfl) ?_
          refine SS.turn (iw x4) rfl rfl rfl co12 rfl rfl rfl (lt_b rfl) (CQ.pr (by decide) (fun b hb => .inl (.inl hb)) (fun w F B hI => P4 _ (two_p hI) _ _ _ (OwnBytes.bytes (hI.1.get (i := 2) rfl) hbl) (mine_in fun b hb e => hI.apart (i := 2) (j := 0) rfl rfl (by decide) b hb (.inl (.inr e))))) ?_
          refine SS.ru _ CQ.base rfl rfl rfl (lt_b rfl) (ru_move rfl rfl) ?_
          refine SS.ru _ CQ.base rfl rfl rfl (lt_b rfl) (ru_fieldAddr (o2 := 1) fd31_1 rfl rfl rfl) ?_
          refine SS.ru _ CQ.base rfl rfl rfl (lt_b rfl) (ru_load (i := 0) ts3 rfl rfl rfl rfl) ?_
          refine SS.ru _ CQ.base rfl rfl rfl (lt_b rfl) (ru_fieldAddr (o2 := 4) fd31_4 rfl rfl rfl) ?_
          refine SS.ru _ CQ.base rfl rfl rfl (lt_b rfl) (ru_load (i := 0) ts29 rfl rfl rfl rfl) ?_
          refine SS.turn (iw x4) rfl rfl rfl co29 rfl rfl rfl (lt_b rfl) (CQ.rf (by decide) (.inl (.inr rfl)) (fun w F B hI => Q4 _ _ (two_q hI) _ _ _ (hb.only hI.2 hs))) ?_
          refine SS.ru _ CQ.base rfl rfl rfl (lt_b rfl) (ru_eq (b := true) rfl rfl rfl (by simp)) ?_
          refine SS.ru _ CQ.base rfl rfl rfl (lt_b rfl) (ru_assign rfl rfl) ?_
          refine SS.nilQ fun F12 => ?_
          refine SE.blkn ?_
          refine SC.of_SE ?_
          refine SC.norm [(6, bo false), (7, Value.slice a2 f.length c3), (8, bo true)] [rTwo p ab r rb F12 L4 L4, rBlk b1 [iw k, iw id, iw a, iw b, Value.slice fa f.length fc] 31, rMine (.slice a2 f.length c3) f 5] ⟨rfl, rfl, rfl, trivial⟩ rfl ?_
          refine SC.seq ?_
          refine SC.seq ?_
          refine SC.region ?_
          refine SL.ru rfl rfl (lt_b rfl) (ru_assign rfl rfl) ?_
          refine SL.nil ?_
          refine SC.of_SE ?_
          refine SC.norm [(6, bo false), (7, Value.slice a2 f.length c3), (8, bo true), (13, iw 0)] [rTwo p ab r rb F12 L4 L4, rBlk b1 [iw k, iw id, iw a, iw b, Value.slice fa f.length fc] 31, rMine (.slice a2 f.length c3) f 5] ⟨rfl, rfl, rfl, rfl, trivial⟩ rfl ?_
          refine SC.block ?_
          refine SC.mine (i := 2) rfl (fun eq hf0 => ?_) (fun g tl eq hc1 hc2 => ?_)
          · subst eq
            refine SC.rounds 1 ?_
            refine SR.norm [(6, bo false), (7, Value.slice none f.length c3), (8, bo true), (13, iw 0)] [rTwo p ab r rb F12 L4 L4, rBlk b1 [iw k, iw id, iw a, iw b, Value.slice fa f.length fc] 31, rMine (.slice none f.length c3) f 5] ⟨rfl, rfl, rfl, rfl, trivial⟩ rfl ?_
            refine SR.next ?_
            refine SC.seq ?_
            refine SC.seq ?_
            refine SC.region ?_
            refine SL.ru rfl rfl (lt_b rfl) (ru_move rfl rfl) ?_
            refine SL.ru rfl rfl (lt_b rfl) (ru_move rfl rfl) ?_
            refine SL.ru rfl rfl (lt_b rfl) (ru_len Try.underlying29 rfl rfl) ?_
            refine SL.ru rfl rfl (lt_b rfl) (ru_lt (b := (decide ((0 : Int) < (f.length : Int)))) rfl rfl rfl rfl) ?_
            refine SL.nil ?_
            refine SC.of_SE ?_
            refine SC.norm [(6, bo false), (7, Value.slice none f.length c3), (8, bo true), (13, iw 0), (125, bo (decide ((0 : Int) < (f.length : Int))))] [rTwo p ab r rb F12 L4 L4, rBlk b1 [iw k, iw id, iw a, iw b, Value.slice fa f.length fc] 31, rMine (.slice none f.length c3) f 5] ⟨rfl, rfl, rfl, rfl, rfl, trivial⟩ rfl ?_
            refine SC.no (show some (Value.bool (decide ((0 : Int) < (f.length : Int)))) = some (Value.bool false) from congrArg (fun x => some (Value.bool x)) (decide_eq_false (by rw [hf0]; decide))) ?_
            refine SC.exit ?_
            refine SE.passe ?_
            refine SE.passe ?_
            refine SE.blke ?_
            refine SC.of_SE ?_
            refine SC.norm [(6, bo false), (8, bo true)] [rTwo p ab r rb F12 L4 L4, rBlk b1 [iw k, iw id, iw a, iw b, Value.slice fa f.length fc] 31, rMine (.slice none f.length c3) f 5] ⟨rfl, rfl, trivial⟩ rfl ?_
            refine SC.seq ?_
            refine SC.region ?_
            refine SL.ru rfl rfl (lt_b rfl) (ru_move rfl rfl) ?_
            refine SL.ru rfl rfl (lt_b rfl) (ru_assign rfl rfl) ?_
            refine SL.nil ?_
            refine SC.of_SE ?_
            refine SC.norm [(6, bo true)] [rTwo p ab r rb F12 L4 L4, rBlk b1 [iw k, iw id, iw a, iw b, Value.slice fa f.length fc] 31, rMine (.slice none f.length c3) f 5] ⟨rfl, trivial⟩ rfl ?_
            refine SC.ret ?_
            refine SE.res (.inl rfl) (res1 Try.results16 rfl) fun w1 hI => ⟨rfl, ⟨_, _, N4, hI.1.get (i := 0) rfl⟩, hI.2⟩
          · subst eq
            have hg := hq4 g rfl
            refine SC.loop (γ := List UInt8) (fun nn uu => [(6, bo false), (7, sl g 0 f.length c3), (8, bo true), (13, iw ((f.length : Int) - (nn : Int)))]) (fun nn uu => [rTwo p ab r rb F12 L4 L4, rBlk b1 [iw k, iw id, iw a, iw b, Value.slice fa f.length fc] 31, rBlk g (uu.map bv ++ tl) 5]) (fun nn uu => nn ≤ f.length ∧ uu.length = f.length) f.length f ⟨Nat.le_refl _, rfl⟩ ⟨rfl, rfl, rfl, (congrArg (fun x => some (iw x)) (show (0 : Int) = (f.length : Int) - ((f.length : Nat) : Int) by omega)), trivial⟩ rfl ?_
            rintro nn uu ⟨hn, hq⟩
            rcases Nat.eq_zero_or_pos nn with h0 | h0
            · skip
              refine SC.seq ?_
              refine SC.seq ?_
              refine SC.region ?_
              refine SL.ru rfl rfl (lt_b rfl) (ru_move rfl rfl) ?_
              refine SL.ru rfl rfl (lt_b rfl) (ru_move rfl rfl) ?_
              refine SL.ru rfl rfl (lt_b rfl) (ru_len Try.underlying29 rfl rfl) ?_
              refine SL.ru rfl rfl (lt_b rfl) (ru_lt (b := (decide ((((f.length : Int) - (nn : Int)) : Int) < (f.length : Int)))) rfl rfl rfl rfl) ?_
              refine SL.nil ?_
              refine SC.of_SE ?_
              refine SC.norm [(6, bo false), (7, sl g 0 f.length c3), (8, bo true), (13, iw ((f.length : Int) - (nn : Int))), (125, bo (decide ((((f.length : Int) - (nn : Int)) : Int) < (f.length : Int))))] [rTwo p ab r rb F12 L4 L4, rBlk b1 [iw k, iw id, iw a, iw b, Value.slice fa f.length fc] 31, rBlk g (uu.map bv ++ tl) 5] ⟨rfl, rfl, rfl, rfl, rfl, trivial⟩ rfl ?_
              refine SC.no (show some (Value.bool (decide ((((f.length : Int) - (nn : Int)) : Int) < (f.length : Int)))) = some (Value.bool false) from congrArg (fun x => some (Value.bool x)) (decide_eq_false (by omega))) ?_
              refine SC.exit ?_
              refine SE.passe ?_
              refine SE.passe ?_
              refine SE.blke ?_
              refine SC.of_SE ?_
              refine SC.norm [(6, bo false), (8, bo true)] [rTwo p ab r rb F12 L4 L4, rBlk b1 [iw k, iw id, iw a, iw b, Value.slice fa f.length fc] 31, rBlk g (uu.map bv ++ tl) 5] ⟨rfl, rfl, trivial⟩ rfl ?_
              refine SC.seq ?_
              refine SC.region ?_
              refine SL.ru rfl rfl (lt_b rfl) (ru_move rfl rfl) ?_
              refine SL.ru rfl rfl (lt_b rfl) (ru_assign rfl rfl) ?_
              refine SL.nil ?_
              refine SC.of_SE ?_
              refine SC.norm [(6, bo true)] [rTwo p ab r rb F12 L4 L4, rBlk b1 [iw k, iw id, iw a, iw b, Value.slice fa f.length fc] 31, rBlk g (uu.map bv ++ tl) 5] ⟨rfl, trivial⟩ rfl ?_
              refine SC.ret ?_
              refine SE.res (.inl rfl) (res1 Try.results16 rfl) fun w1 hI => ⟨rfl, ⟨_, _, N4, hI.1.get (i := 0) rfl⟩, hI.2⟩
            · skip
              refine SC.seq ?_
              refine SC.seq ?_
              refine SC.region ?_
              refine SL.ru rfl rfl (lt_b rfl) (ru_move rfl rfl) ?_
              refine SL.ru rfl rfl (lt_b rfl) (ru_move rfl rfl) ?_
              refine SL.ru rfl rfl (lt_b rfl) (ru_len Try.underlying29 rfl rfl) ?_
              refine SL.ru rfl rfl (lt_b rfl) (ru_lt (b := (decide ((((f.length : Int) - (nn : Int)) : Int) < (f.length : Int)))) rfl rfl rfl rfl) ?_
              refine SL.nil ?_
              refine SC.of_SE ?_
              refine SC.norm [(6, bo false), (7, sl g 0 f.length c3), (8, bo true), (13, iw ((f.length : Int) - (nn : Int))), (125, bo (decide ((((f.length : Int) - (nn : Int)) : Int) < (f.length : Int))))] [rTwo p ab r rb F12 L4 L4, rBlk b1 [iw k, iw id, iw a, iw b, Value.slice fa f.length fc] 31, rBlk g (uu.map bv ++ tl) 5] ⟨rfl, rfl, rfl, rfl, rfl, trivial⟩ rfl ?_
              refine SC.yes (show some (Value.bool (decide ((((f.length : Int) - (nn : Int)) : Int) < (f.length : Int)))) = some (Value.bool true) from congrArg (fun x => some (Value.bool x)) (decide_eq_true (by omega))) ?_
              refine SC.skip ?_
              refine SC.of_SE ?_
              refine SC.norm [(6, bo false), (7, sl g 0 f.length c3), (8, bo true), (13, iw ((f.length : Int) - (nn : Int)))] [rTwo p ab r rb F12 L4 L4, rBlk b1 [iw k, iw id, iw a, iw b, Value.slice fa f.length fc] 31, rBlk g (uu.map bv ++ tl) 5] ⟨rfl, rfl, rfl, rfl, trivial⟩ rfl ?_
              refine SC.seq ?_
              refine SC.block ?_
              refine SC.region ?_
              refine SL.ru rfl rfl (lt_b rfl) (ru_move rfl rfl) ?_
              refine SL.ru rfl rfl (lt_b rfl) (ru_move rfl rfl) ?_
              refine SL.ru rfl rfl (lt_b rfl) (ru_move rfl rfl) ?_
              refine SL.ru rfl rfl (lt_b rfl) (ru_move rfl rfl) ?_
              refine SL.ru rfl rfl (lt_b rfl) (ru_indexS (o2 := (0 + (((f.length : Int) - (nn : Int)).toNat) * 1)) si29 rfl rfl rfl (by omega) (by omega) rfl) ?_
              refine SL.ru rfl rfl (lt_b rfl) (ru_load (i := 2) (v := Value.int .u8 ((uu.getD (((f.length : Int) - (nn : Int)).toNat) 0).toNat : Int)) ts5 rfl rfl rfl (by rw [Nat.zero_add, Nat.mul_one]; exact get_at (by omega))) ?_
              refine SL.ru rfl rfl (lt_b rfl) (ru_add (r := (IntKind.u8.wrap (((uu.getD (((f.length : Int) - (nn : Int)).toNat) 0).toNat : Int) + 1))) rfl rfl rfl rfl) ?_
              refine SL.ru rfl rfl (lt_b rfl) (ru_indexS (o2 := (0 + (((f.length : Int) - (nn : Int)).toNat) * 1)) si29 rfl rfl rfl (by omega) (by omega) rfl) ?_
              refine SL.store (i := 2) (c' := ((uu.set (((f.length : Int) - (nn : Int)).toNat) (uu.getD (((f.length : Int) - (nn : Int)).toNat) 0 + 1)).map bv ++ tl)) rfl rfl ts5 rfl rfl rfl rfl rfl (by simp; omega) (.inr hg) (by rw [Nat.zero_add, Nat.mul_one]; exact set_inc (by omega)) ?_
              refine SL.nil ?_
              refine SE.blkn ?_
              refine SC.of_SE ?_
              refine SC.norm [(6, bo false), (7, sl g 0 f.length c3), (8, bo true), (13, iw ((f.length : Int) - (nn : Int)))] [rTwo p ab r rb F12 L4 L4, rBlk b1 [iw k, iw id, iw a, iw b, Value.slice fa f.length fc] 31, rBlk g ((uu.set (((f.length : Int) - (nn : Int)).toNat) (uu.getD (((f.length : Int) - (nn : Int)).toNat) 0 + 1)).map bv ++ tl) 5] ⟨rfl, rfl, rfl, rfl, trivial⟩ rfl ?_
              refine SC.region ?_
              refine SL.ru rfl rfl (lt_b rfl) (ru_move rfl rfl) ?_
              refine SL.ru rfl rfl (lt_b rfl) (ru_add (r := (IntKind.i64.wrap (((f.length : Int) - (nn : Int)) + 1))) rfl rfl rfl rfl) ?_
              refine SL.ru rfl rfl (lt_b rfl) (ru_assign rfl rfl) ?_
              refine SL.nil ?_
              refine SE.again (nn - 1) _ (by omega) ⟨by omega, by rw [List.length_set]; exact hq⟩ ⟨rfl, rfl, rfl, (congrArg (fun x => some (iw x)) (show IntKind.i64.wrap (((f.length : Int) - (nn : Int)) + 1) = (f.length : Int) - (((nn - 1 : Nat) : Int) : Int) by rw [IntKind.wrap_i64]; omega)), trivial⟩ rfl
        · skip
          refine SC.seq ?_
          refine SC.region ?_
          refine SL.ru rfl rfl (lt_b rfl) (ru_eq (b := ((k : Int) == 4)) rfl rfl rfl rfl) ?_
          refine SL.ru rfl rfl (lt_b rfl) (ru_assign rfl rfl) ?_
          refine SL.nil ?_
          refine SC.of_SE ?_
          refine SC.norm [(0, pt p 0), (1, pt r 0), (5, pt b1 0), (6, bo false), (7, Value.slice a2 f.length c3), (8, bo true), (18, iw k), (75, bo ((k : Int) == 4))] [rTwo p ab r rb F L L, rBlk b1 [iw k, iw id, iw a, iw b, Value.slice fa f.length fc] 31, rMine (.slice a2 f.length c3) f 5] ⟨rfl, rfl, rfl, rfl, rfl, rfl, rfl, rfl, trivial⟩ rfl ?_
          refine SC.both ((k : Int) == 4) rfl (fun h13 => ?_) (fun h13 => ?_)
          · skip
            refine SC.region_cls [4, 10] (CQ ⟨137, w, fun x => (x = p ∨ x = ab) ∨ x = rb⟩ 4 10 p ab r rb L L5 [rBlk b1 [iw k, iw id, iw a, iw b, Value.slice fa f.length fc] 31, rMine (.slice a2 f.length c3) f 5]) (by kernel_rfl) (by kernel_rfl) (by kernel_rfl) rfl (fun w hI => ⟨_, hI⟩) ?_
            refine SS.ru _ CQ.base rfl rfl rfl (lt_b rfl) (ru_move rfl rfl) ?_
            refine SS.ru _ CQ.base rfl rfl rfl (lt_b rfl) (ru_fieldAddr (o2 := 1) fd31_1 rfl rfl rfl) ?_
            refine SS.ru _ CQ.base rfl rfl rfl (lt_b rfl) (ru_load (i := 0) ts3 rfl rfl rfl rfl) ?_
            refine SS.ru _ CQ.base rfl rfl rfl (lt_b rfl) (ru_move rfl rfl) ?_
            refine SS.turn (iw x5) rfl rfl rfl co21 rfl rfl rfl (lt_b rfl) (CQ.pr (by decide) (fun b hb => .inl (.inl hb)) (fun w F B hI => P5 _ (two_p hI) _ _ _ (OwnBytes.bytes (hI.1.get (i := 2) rfl) hbl) (mine_in fun b hb e => hI.apart (i := 2) (j := 0) rfl rfl (by decide) b hb (.inl (.inr e))))) ?_
            refine SS.ru _ CQ.base rfl rfl rfl (lt_b rfl) (ru_move rfl rfl) ?_
            refine SS.ru _ CQ.base rfl rfl rfl (lt_b rfl) (ru_fieldAddr (o2 := 1) fd31_1 rfl rfl rfl) ?_
            refine SS.ru _ CQ.base rfl rfl rfl (lt_b rfl) (ru_load (i := 0) ts3 rfl rfl rfl rfl) ?_
            refine SS.ru _ CQ.base rfl rfl rfl (lt_b rfl) (ru_fieldAddr (o2 := 4) fd31_4 rfl rfl rfl) ?_
            refine SS.ru _ CQ.base rfl rfl rfl (lt_b rfl) (ru_load (i := 0) ts29 rfl rfl rfl rfl) ?_
            refine SS.turn (iw x5) rfl rfl rfl co30 rfl rfl rfl (lt_b rfl) (CQ.rf (by decide) (.inl (.inr rfl)) (fun w F B hI => Q5 _ _ (two_q hI) _ _ _ (hb.only hI.2 hs))) ?_
            refine SS.ru _ CQ.base rfl rfl rfl (lt_b rfl) (ru_eq (b := true) rfl rfl rfl (by simp)) ?_
            refine SS.ru _ CQ.base rfl rfl rfl (lt_b rfl) (ru_assign rfl rfl) ?_
            refine SS.nilQ fun F14 => ?_
            refine SE.blkn ?_
            refine SC.of_SE ?_
            refine SC.norm [(6, bo false), (7, Value.slice a2 f.length c3), (8, bo true)] [rTwo p ab r rb F14 L5 L5, rBlk b1 [iw k, iw id, iw a, iw b, Value.slice fa f.length fc] 31, rMine (.slice a2 f.length c3) f 5] ⟨rfl, rfl, rfl, trivial⟩ rfl ?_
            refine SC.seq ?_
            refine SC.seq ?_
            refine SC.region ?_
            refine SL.ru rfl rfl (lt_b rfl) (ru_assign rfl rfl) ?_
            refine SL.nil ?_
            refine SC.of_SE ?_
            refine SC.norm [(6, bo false), (7, Value.slice a2 f.length c3), (8, bo true), (13, iw 0)] [rTwo p ab r rb F14 L5 L5, rBlk b1 [iw k, iw id, iw a, iw b, Value.slice fa f.length fc] 31, rMine (.slice a2 f.length c3) f 5] ⟨rfl, rfl, rfl, rfl, trivial⟩ rfl ?_
            refine SC.block ?_
            refine SC.mine (i := 2) rfl (fun eq hf0 => ?_) (fun g tl eq hc1 hc2 => ?_)
            · subst eq
              refine SC.rounds 1 ?_
              refine SR.norm [(6, bo false), (7, Value.slice none f.length c3), (8, bo true), (13, iw 0)] [rTwo p ab r rb F14 L5 L5, rBlk b1 [iw k, iw id, iw a, iw b, Value.slice fa f.length fc] 31, rMine (.slice none f.length c3) f 5] ⟨rfl, rfl, rfl, rfl, trivial⟩ rfl ?_
              refine SR.next ?_
              refine SC.seq ?_
              refine SC.seq ?_
              refine SC.region ?_
              refine SL.ru rfl rfl (lt_b rfl) (ru_move rfl rfl) ?_
              refine SL.ru rfl rfl (lt_b rfl) (ru_move rfl rfl) ?_
              refine SL.ru rfl rfl (lt_b rfl) (ru_len Try.underlying29 rfl rfl) ?_
              refine SL.ru rfl rfl (lt_b rfl) (ru_lt (b := (decide ((0 : Int) < (f.length : Int)))) rfl rfl rfl rfl) ?_
              refine SL.nil ?_
              refine SC.of_SE ?_
              refine SC.norm [(6, bo false), (7, Value.slice none f.length c3), (8, bo true), (13, iw 0), (125, bo (decide ((0 : Int) < (f.length : Int))))] [rTwo p ab r rb F14 L5 L5, rBlk b1 [iw k, iw id, iw a, iw b, Value.slice fa f.length fc] 31, rMine (.slice none f.length c3) f 5] ⟨rfl, rfl, rfl, rfl, rfl, trivial⟩ rfl ?_
              refine SC.no (show some (Value.bool (decide ((0 : Int) < (f.length : Int)))) = some (Value.bool false) from congrArg (fun x => some (Value.bool x)) (decide_eq_false (by rw [hf0]; decide))) ?_
              refine SC.exit ?_
              refine SE.passe ?_
              refine SE.passe ?_
              refine SE.blke ?_
              refine SC.of_SE ?_
              refine SC.norm [(6, bo false), (8, bo true)] [rTwo p ab r rb F14 L5 L5, rBlk b1 [iw k, iw id, iw a, iw b, Value.slice fa f.length fc] 31, rMine (.slice none f.length c3) f 5] ⟨rfl, rfl, trivial⟩ rfl ?_
              refine SC.seq ?_
              refine SC.region ?_
              refine SL.ru rfl rfl (lt_b rfl) (ru_move rfl rfl) ?_
              refine SL.ru rfl rfl (lt_b rfl) (ru_assign rfl rfl) ?_
              refine SL.nil ?_
              refine SC.of_SE ?_
              refine SC.norm [(6, bo true)] [rTwo p ab r rb F14 L5 L5, rBlk b1 [iw k, iw id, iw a, iw b, Value.slice fa f.length fc] 31, rMine (.slice none f.length c3) f 5] ⟨rfl, trivial⟩ rfl ?_
              refine SC.ret ?_
              refine SE.res (.inl rfl) (res1 Try.results16 rfl) fun w1 hI => ⟨rfl, ⟨_, _, N5, hI.1.get (i := 0) rfl⟩, hI.2⟩
            · subst eq
              have hg := hq4 g rfl
              refine SC.loop (γ := List UInt8) (fun nn uu => [(6, bo false), (7, sl g 0 f.length c3), (8, bo true), (13, iw ((f.length : Int) - (nn : Int)))]) (fun nn uu => [rTwo p ab r rb F14 L5 L5, rBlk b1 [iw k, iw id, iw a, iw b, Value.slice fa f.length fc] 31, rBlk g (uu.map bv ++ tl) 5]) (fun nn uu => nn ≤ f.length ∧ uu.length = f.length) f.length f ⟨Nat.le_refl _, rfl⟩ ⟨rfl, rfl, rfl, (congrArg (fun x => some (iw x)) (show (0 : Int) = (f.length : Int) - ((f.length : Nat) : Int) by omega)), trivial⟩ rfl ?_
              rintro nn uu ⟨hn, hq⟩
              rcases Nat.eq_zero_or_pos nn with h0 | h0
              · skip
                refine SC.seq ?_
                refine SC.seq ?_
                refine SC.region ?_
                refine SL.ru rfl rfl (lt_b rfl) (ru_move rfl rfl) ?_
                refine SL.ru rfl rfl (lt_b rfl) (ru_move rfl rfl) ?_
                refine SL.ru rfl rfl (lt_b rfl) (ru_len Try.underlying29 rfl rfl) ?_
                refine SL.ru rfl rfl (lt_b rfl) (ru_lt (b := (decide ((((f.length : Int) - (nn : Int)) : Int) < (f.length : Int)))) rfl rfl rfl rfl) ?_
                refine SL.nil ?_
                refine SC.of_SE ?_
                refine SC.norm [(6, bo false), (7, sl g 0 f.length c3), (8, bo true), (13, iw ((f.length : Int) - (nn : Int))), (125, bo (decide ((((f.length : Int) - (nn : Int)) : Int) < (f.length : Int))))] [rTwo p ab r rb F14 L5 L5, rBlk b1 [iw k, iw id, iw a, iw b, Value.slice fa f.length fc] 31, rBlk g (uu.map bv ++ tl) 5] ⟨rfl, rfl, rfl, rfl, rfl, trivial⟩ rfl ?_
                refine SC.no (show some (Value.bool (decide ((((f.length : Int) - (nn : Int)) : Int) < (f.length : Int)))) = some (Value.bool false) from congrArg (fun x => some (Value.bool x)) (decide_eq_false (by omega))) ?_
                refine SC.exit ?_
                refine SE.passe ?_
                refine SE.passe ?_
                refine SE.blke ?_
                refine SC.of_SE ?_
                refine SC.norm [(6, bo false), (8, bo true)] [rTwo p ab r rb F14 L5 L5, rBlk b1 [iw k, iw id, iw a, iw b, Value.slice fa f.length fc] 31, rBlk g (uu.map bv ++ tl) 5] ⟨rfl, rfl, trivial⟩ rfl ?_
                refine SC.seq ?_
                refine SC.region ?_
                refine SL.ru rfl rfl (lt_b rfl) (ru_move rfl rfl) ?_
                refine SL.ru rfl rfl (lt_b rfl) (ru_assign rfl rfl) ?_
                refine SL.nil ?_
                refine SC.of_SE ?_
                refine SC.norm [(6, bo true)] [rTwo p ab r rb F14 L5 L5, rBlk b1 [iw k, iw id, iw a, iw b, Value.slice fa f.length fc] 31, rBlk g (uu.map bv ++ tl) 5] ⟨rfl, trivial⟩ rfl ?_
                refine SC.ret ?_
                refine SE.res (.inl rfl) (res1 Try.results16 rfl) fun w1 hI => ⟨rfl, ⟨_, _, N5, hI.1.get (i := 0) rfl⟩, hI.2⟩
              · skip
                refine SC.seq ?_
                refine SC.seq ?_
                refine SC.region ?_
                refine SL.ru rfl rfl (lt_b rfl) (ru_move rfl rfl) ?_
                refine SL.ru rfl rfl (lt_b rfl) (ru_move rfl rfl) ?_
                refine SL.ru rfl rfl (lt_b rfl) (ru_len Try.underlying29 rfl rfl) ?_
                refine SL.ru rfl rfl (lt_b rfl) (ru_lt (b := (decide ((((f.length : Int) - (nn : Int)) : Int) < (f.length : Int)))) rfl rfl rfl rfl) ?_
                refine SL.nil ?_
                refine SC.of_SE ?_
                refine SC.norm [(6, bo false), (7, sl g 0 f.length c3), (8, bo true), (13, iw ((f.length : Int) - (nn : Int))), (125, bo (decide ((((f.length : Int) - (nn : Int)) : Int) < (f.length : Int))))] [rTwo p ab r rb F14 L5 L5, rBlk b1 [iw k, iw id, iw a, iw b, Value.slice fa f.length fc] 31, rBlk g (uu.map bv ++ tl) 5] ⟨rfl, rfl, rfl, rfl, rfl, trivial⟩ rfl ?_
                refine SC.yes (show some (Value.bool (decide ((((f.length : Int) - (nn : Int)) : Int) < (f.length : Int)))) = some (Value.bool true) from congrArg (fun x => some (Value.bool x)) (decide_eq_true (by omega))) ?_
                refine SC.skip ?_
                refine SC.of_SE ?_
                refine SC.norm [(6, bo false), (7, sl g 0 f.length c3), (8, bo true), (13, iw ((f.length : Int) - (nn : Int)))] [rTwo p ab r rb F14 L5 L5, rBlk b1 [iw k, iw id, iw a, iw b, Value.slice fa f.length fc] 31, rBlk g (uu.map bv ++ tl) 5] ⟨rfl, rfl, rfl, rfl, trivial⟩ rfl ?_
                refine SC.seq ?_
                refine SC.block ?_
                refine SC.region ?_
                refine SL.ru rfl rfl (lt_b rfl) (ru_move rfl rfl) ?_
                refine SL.ru rfl rfl (lt_b rfl) (ru_move rfl rfl) ?_
                refine SL.ru rfl rfl (lt_b rfl) (ru_move rfl rfl) ?_
                refine SL.ru rfl rfl (lt_b rfl) (ru_move rfl rfl) ?_
                refine SL.ru rfl rfl (lt_b rfl) (ru_indexS (o2 := (0 + (((f.length : Int) - (nn : Int)).toNat) * 1)) si29 rfl rfl rfl (by omega) (by omega) rfl) ?_
                refine SL.ru rfl rfl (lt_b rfl) (ru_load (i := 2) (v := Value.int .u8 ((uu.getD (((f.length : Int) - (nn : Int)).toNat) 0).toNat : Int)) ts5 rfl rfl rfl (by rw [Nat.zero_add, Nat.mul_one]; exact get_at (by omega))) ?_
                refine SL.ru rfl rfl (lt_b rfl) (ru_add (r := (IntKind.u8.wrap (((uu.getD (((f.length : Int) - (nn : Int)).toNat) 0).toNat : Int) + 1))) rfl rfl rfl rfl) ?_
                refine SL.ru rfl rfl (lt_b rfl) (ru_indexS (o2 := (0 + (((f.length : Int) - (nn : Int)).toNat) * 1)) si29 rfl rfl rfl (by omega) (by omega) rfl) ?_
                refine SL.store (i := 2) (c' := ((uu.set (((f.length : Int) - (nn : Int)).toNat) (uu.getD (((f.length : Int) - (nn : Int)).toNat) 0 + 1)).map bv ++ tl)) rfl rfl ts5 rfl rfl rfl rfl rfl (by simp; omega) (.inr hg) (by rw [Nat.zero_add, Nat.mul_one]; exact set_inc (by omega)) ?_
                refine SL.nil ?_
                refine SE.blkn ?_
                refine SC.of_SE ?_
                refine SC.norm [(6, bo false), (7, sl g 0 f.length c3), (8, bo true), (13, iw ((f.length : Int) - (nn : Int)))] [rTwo p ab r rb F14 L5 L5, rBlk b1 [iw k, iw id, iw a, iw b, Value.slice fa f.length fc] 31, rBlk g ((uu.set (((f.length : Int) - (nn : Int)).toNat) (uu.getD (((f.length : Int) - (nn : Int)).toNat) 0 + 1)).map bv ++ tl) 5] ⟨rfl, rfl, rfl, rfl, trivial⟩ rfl ?_
                refine SC.region ?_
                refine SL.ru rfl rfl (lt_b rfl) (ru_move rfl rfl) ?_
                refine SL.ru rfl rfl (lt_b rfl) (ru_add (r := (IntKind.i64.wrap (((f.length : Int) - (nn : Int)) + 1))) rfl rfl rfl rfl) ?_
                refine SL.ru rfl rfl (lt_b rfl) (ru_assign rfl rfl) ?_
                refine SL.nil ?_
                refine SE.again (nn - 1) _ (by omega) ⟨by omega, by rw [List.length_set]; exact hq⟩ ⟨rfl, rfl, rfl, (congrArg (fun x => some (iw x)) (show IntKind.i64.wrap (((f.length : Int) - (nn : Int)) + 1) = (f.length : Int) - (((nn - 1 : Nat) : Int) : Int) by rw [IntKind.wrap_i64]; omega)), trivial⟩ rfl
          · skip
            refine SC.seq ?_
            refine SC.region ?_
            refine SL.ru rfl rfl (lt_b rfl) (ru_eq (b := ((k : Int) == 5)) rfl rfl rfl rfl) ?_
            refine SL.ru rfl rfl (lt_b rfl) (ru_assign rfl rfl) ?_
            refine SL.nil ?_
            refine SC.of_SE ?_
            refine SC.norm [(0, pt p 0), (1, pt r 0), (5, pt b1 0), (6, bo false), (7, Value.slice a2 f.length c3), (8, bo true), (18, iw k), (89, bo ((k : Int) == 5))] [rTwo p ab r rb F L L, rBlk b1 [iw k, iw id, iw a, iw b, Value.slice fa f.length fc] 31, rMine (.slice a2 f.length c3) f 5] ⟨rfl, rfl, rfl, rfl, rfl, rfl, rfl, rfl, trivial⟩ rfl ?_
            refine SC.both ((k : Int) == 5) rfl (fun h15 => ?_) (fun h15 => ?_)
            · skip
              refine SC.seq ?_
              refine SC.region_cls [7, 15] (CQ ⟨137, w, fun x => (x = p ∨ x = ab) ∨ x = rb⟩ 7 15 p ab r rb L L3 [rBlk b1 [iw k, iw id, iw a, iw b, Value.slice fa f.length fc] 31, rMine (.slice a2 f.length c3) f 5]) (by kernel_rfl) (by kernel_rfl) (by kernel_rfl) rfl (fun w hI => ⟨_, hI⟩) ?_
              refine SS.ru _ CQ.base rfl rfl rfl (lt_b rfl) (ru_move rfl rfl) ?_
              refine SS.ru _ CQ.base rfl rfl rfl (lt_b rfl) (ru_fieldAddr (o2 := 1) fd31_1 rfl rfl rfl) ?_
              refine SS.ru _ CQ.base rfl rfl rfl (lt_b rfl) (ru_load (i := 0) ts3 rfl rfl rfl rfl) ?_
              refine SS.ru _ CQ.base rfl rfl rfl (lt_b rfl) (ru_fieldAddr (o2 := 2) fd31_2 rfl rfl rfl) ?_
              refine SS.ru _ CQ.base rfl rfl rfl (lt_b rfl) (ru_load (i := 0) ts3 rfl rfl rfl rfl) ?_
              refine SS.ru _ CQ.base rfl rfl rfl (lt_b rfl) (ru_fieldAddr (o2 := 3) fd31_3 rfl rfl rfl) ?_
              refine SS.ru _ CQ.base rfl rfl rfl (lt_b rfl) (ru_load (i := 0) ts3 rfl rfl rfl rfl) ?_
              refine SS.turn (iw x3) rfl rfl rfl co22 rfl rfl rfl (lt_b rfl) (CQ.pr (by decide) (fun b hb => .inl (.inl hb)) (fun w F B hI => P3 _ (two_p hI))) ?_
              refine SS.ru _ CQ.base rfl rfl rfl (lt_b rfl) (ru_move rfl rfl) ?_
              refine SS.ru _ CQ.base rfl rfl rfl (lt_b rfl) (ru_fieldAddr (o2 := 1) fd31_1 rfl rfl rfl) ?_
              refine SS.ru _ CQ.base rfl rfl rfl (lt_b rfl) (ru_load (i := 0) ts3 rfl rfl rfl rfl) ?_
              refine SS.ru _ CQ.base rfl rfl rfl (lt_b rfl) (ru_fieldAddr (o2 := 2) fd31_2 rfl rfl rfl) ?_
              refine SS.ru _ CQ.base rfl rfl rfl (lt_b rfl) (ru_load (i := 0) ts3 rfl rfl rfl rfl) ?_
              refine SS.ru _ CQ.base rfl rfl rfl (lt_b rfl) (ru_fieldAddr (o2 := 3) fd31_3 rfl rfl rfl) ?_
              refine SS.ru _ CQ.base rfl rfl rfl (lt_b rfl) (ru_load (i := 0) ts3 rfl rfl rfl rfl) ?_
              refine SS.turn (iw x3) rfl rfl rfl co31 rfl rfl rfl (lt_b rfl) (CQ.rf (by decide) (.inl (.inr rfl)) (fun w F B hI => Q3 _ _ (two_q hI))) ?_
              refine SS.ru _ CQ.base rfl rfl rfl (lt_b rfl) (ru_eq (b := true) rfl rfl rfl (by simp)) ?_
              refine SS.ru _ CQ.base rfl rfl rfl (lt_b rfl) (ru_assign rfl rfl) ?_
              refine SS.nilQ fun F16 => ?_
              refine SC.of_SE ?_
              refine SC.norm [(6, bo true), (7, Value.slice a2 f.length c3), (8, bo true)] [rTwo p ab r rb F16 L3 L3, rBlk b1 [iw k, iw id, iw a, iw b, Value.slice fa f.length fc] 31, rMine (.slice a2 f.length c3) f 5] ⟨rfl, rfl, rfl, trivial⟩ rfl ?_
              refine SC.ret ?_
              refine SE.blkr ?_
              refine SE.passr ?_
              refine SE.res (.inl rfl) (res1 Try.results16 rfl) fun w1 hI => ⟨rfl, ⟨_, _, N3, hI.1.get (i := 0) rfl⟩, hI.2⟩
            · skip
              refine SC.seq ?_
              refine SC.region ?_
              refine SL.ru rfl rfl (lt_b rfl) (ru_eq (b := ((k : Int) == 6)) rfl rfl rfl rfl) ?_
              refine SL.ru rfl rfl (lt_b rfl) (ru_assign rfl rfl) ?_
              refine SL.nil ?_
              refine SC.of_SE ?_
              refine SC.norm [(0, pt p 0), (1, pt r 0), (5, pt b1 0), (6, bo false), (7, Value.slice a2 f.length c3), (8, bo true), (108, bo ((k : Int) == 6))] [rTwo p ab r rb F L L, rBlk b1 [iw k, iw id, iw a, iw b, Value.slice fa f.length fc] 31, rMine (.slice a2 f.length c3) f 5] ⟨rfl, rfl, rfl, rfl, rfl, rfl, rfl, trivial⟩ rfl ?_
              refine SC.both ((k : Int) == 6) rfl (fun h17 => ?_) (fun h17 => ?_)
              · skip
                refine SC.region_cls [4, 10] (CQ ⟨137, w, fun x => (x = p ∨ x = ab) ∨ x = rb⟩ 4 10 p ab r rb L L6 [rBlk b1 [iw k, iw id, iw a, iw b, Value.slice fa f.length fc] 31, rMine (.slice a2 f.length c3) f 5]) (by kernel_rfl) (by kernel_rfl) (by kernel_rfl) rfl (fun w hI => ⟨_, hI⟩) ?_
                refine SS.ru _ CQ.base rfl rfl rfl (lt_b rfl) (ru_move rfl rfl) ?_
                refine SS.ru _ CQ.base rfl rfl rfl (lt_b rfl) (ru_fieldAddr (o2 := 1) fd31_1 rfl rfl rfl) ?_
                refine SS.ru _ CQ.base rfl rfl rfl (lt_b rfl) (ru_load (i := 0) ts3 rfl rfl rfl rfl) ?_
                refine SS.ru _ CQ.base rfl rfl rfl (lt_b rfl) (ru_move rfl rfl) ?_
                refine SS.turn (iw x6) rfl rfl rfl co20 rfl rfl rfl (lt_b rfl) (CQ.pr (by decide) (fun b hb => .inl (.inl hb)) (fun w F B hI => P6 _ (two_p hI) _ _ _ (OwnBytes.bytes (hI.1.get (i := 2) rfl) hbl) (mine_in fun b hb e => hI.apart (i := 2) (j := 0) rfl rfl (by decide) b hb (.inl (.inr e))))) ?_
                refine SS.ru _ CQ.base rfl rfl rfl (lt_b rfl) (ru_move rfl rfl) ?_
                refine SS.ru _ CQ.base rfl rfl rfl (lt_b rfl) (ru_fieldAddr (o2 := 1) fd31_1 rfl rfl rfl) ?_
                refine SS.ru _ CQ.base rfl rfl rfl (lt_b rfl) (ru_load (i := 0) ts3 rfl rfl rfl rfl) ?_
                refine SS.ru _ CQ.base rfl rfl rfl (lt_b rfl) (ru_fieldAddr (o2 := 4) fd31_4 rfl rfl rfl) ?_
                refine SS.ru _ CQ.base rfl rfl rfl (lt_b rfl) (ru_load (i := 0) ts29 rfl rfl rfl rfl) ?_
                refine SS.turn (iw x6) rfl rfl rfl co32 rfl rfl rfl (lt_b rfl) (CQ.rf (by decide) (.inl (.inr rfl)) (fun w F B hI => Q6 _ _ (two_q hI) _ _ _ (hb.only hI.2 hs))) ?_
                refine SS.ru _ CQ.base rfl rfl rfl (lt_b rfl) (ru_eq (b := true) rfl rfl rfl (by simp)) ?_
                refine SS.ru _ CQ.base rfl rfl rfl (lt_b rfl) (ru_assign rfl rfl) ?_
                refine SS.nilQ fun F18 => ?_
                refine SE.blkn ?_
                refine SC.of_SE ?_
                refine SC.norm [(6, bo false), (7, Value.slice a2 f.length c3), (8, bo true)] [rTwo p ab r rb F18 L6 L6, rBlk b1 [iw k, iw id, iw a, iw b, Value.slice fa f.length fc] 31, rMine (.slice a2 f.length c3) f 5] ⟨rfl, rfl, rfl, trivial⟩ rfl ?_
                refine SC.seq ?_
                refine SC.seq ?_
                refine SC.region ?_
                refine SL.ru rfl rfl (lt_b rfl) (ru_assign rfl rfl) ?_
                refine SL.nil ?_
                refine SC.of_SE ?_
                refine SC.norm [(6, bo false), (7, Value.slice a2 f.length c3), (8, bo true), (13, iw 0)] [rTwo p ab r rb F18 L6 L6, rBlk b1 [iw k, iw id, iw a, iw b, Value.slice fa f.length fc] 31, rMine (.slice a2 f.length c3) f 5] ⟨rfl, rfl, rfl, rfl, trivial⟩ rfl ?_
                refine SC.block ?_
                refine SC.mine (i := 2) rfl (fun eq hf0 => ?_) (fun g tl eq hc1 hc2 => ?_)
                · subst eq
                  refine SC.rounds 1 ?_
                  refine SR.norm [(6, bo false), (7, Value.slice none f.length c3), (8, bo true), (13, iw 0)] [rTwo p ab r rb F18 L6 L6, rBlk b1 [iw k, iw id, iw a, iw b, Value.slice fa f.length fc] 31, rMine (.slice none f.length c3) f 5] ⟨rfl, rfl, rfl, rfl, trivial⟩ rfl ?_
                  refine SR.next ?_
                  refine SC.seq ?_
                  refine SC.seq ?_
                  refine SC.region ?_
                  refine SL.ru rfl rfl (lt_b rfl) (ru_move rfl rfl) ?_
                  refine SL.ru rfl rfl (lt_b rfl) (ru_move rfl rfl) ?_
                  refine SL.ru rfl rfl (lt_b rfl) (ru_len Try.underlying29 rfl rfl) ?_
                  refine SL.ru rfl rfl (lt_b rfl) (ru_lt (b := (decide ((0 : Int) < (f.length : Int)))) rfl rfl rfl rfl) ?_
                  refine SL.nil ?_
                  refine SC.of_SE ?_
                  refine SC.norm [(6, bo false), (7, Value.slice none f.length c3), (8, bo true), (13, iw 0), (125, bo (decide ((0 : Int) < (f.length : Int))))] [rTwo p ab r rb F18 L6 L6, rBlk b1 [iw k, iw id, iw a, iw b, Value.slice fa f.length fc] 31, rMine (.slice none f.length c3) f 5] ⟨rfl, rfl, rfl, rfl, rfl, trivial⟩ rfl ?_
                  refine SC.no (show some (Value.bool (decide ((0 : Int) < (f.length : Int)))) = some (Value.bool false) from congrArg (fun x => some (Value.bool x)) (decide_eq_false (by rw [hf0]; decide))) ?_
                  refine SC.exit ?_
                  refine SE.passe ?_
                  refine SE.passe ?_
                  refine SE.blke ?_
                  refine SC.of_SE ?_
                  refine SC.norm [(6, bo false), (8, bo true)] [rTwo p ab r rb F18 L6 L6, rBlk b1 [iw k, iw id, iw a, iw b, Value.slice fa f.length fc] 31, rMine (.slice none f.length c3) f 5] ⟨rfl, rfl, trivial⟩ rfl ?_
                  refine SC.seq ?_
                  refine SC.region ?_
                  refine SL.ru rfl rfl (lt_b rfl) (ru_move rfl rfl) ?_
                  refine SL.ru rfl rfl (lt_b rfl) (ru_assign rfl rfl) ?_
                  refine SL.nil ?_
                  refine SC.of_SE ?_
                  refine SC.norm [(6, bo true)] [rTwo p ab r rb F18 L6 L6, rBlk b1 [iw k, iw id, iw a, iw b, Value.slice fa f.length fc] 31, rMine (.slice none f.length c3) f 5] ⟨rfl, trivial⟩ rfl ?_
                  refine SC.ret ?_
                  refine SE.res (.inl rfl) (res1 Try.results16 rfl) fun w1 hI => ⟨rfl, ⟨_, _, N6, hI.1.get (i := 0) rfl⟩, hI.2⟩
                · subst eq
                  have hg := hq4 g rfl
                  refine SC.loop (γ := List UInt8) (fun nn uu => [(6, bo false), (7, sl g 0 f.length c3), (8, bo true), (13, iw ((f.length : Int) - (nn : Int)))]) (fun nn uu => [rTwo p ab r rb F18 L6 L6, rBlk b1 [iw k, iw id, iw a, iw b, Value.slice fa f.length fc] 31, rBlk g (uu.map bv ++ tl) 5]) (fun nn uu => nn ≤ f.length ∧ uu.length = f.length) f.length f ⟨Nat.le_refl _, rfl⟩ ⟨rfl, rfl, rfl, (congrArg (fun x => some (iw x)) (show (0 : Int) = (f.length : Int) - ((f.length : Nat) : Int) by omega)), trivial⟩ rfl ?_
                  rintro nn uu ⟨hn, hq⟩
                  rcases Nat.eq_zero_or_pos nn with h0 | h0
                  · skip
                    refine SC.seq ?_
                    refine SC.seq ?_
                    refine SC.region ?_
                    refine SL.ru rfl rfl (lt_b rfl) (ru_move rfl rfl) ?_
                    refine SL.ru rfl rfl (lt_b rfl) (ru_move rfl rfl) ?_
                    refine SL.ru rfl rfl (lt_b rfl) (ru_len Try.underlying29 rfl rfl) ?_
                    refine SL.ru rfl rfl (lt_b rfl) (ru_lt (b := (decide ((((f.length : Int) - (nn : Int)) : Int) < (f.length : Int)))) rfl rfl rfl rfl) ?_
                    refine SL.nil ?_
                    refine SC.of_SE ?_
                    refine SC.norm [(6, bo false), (7, sl g 0 f.length c3), (8, bo true), (13, iw ((f.length : Int) - (nn : Int))), (125, bo (decide ((((f.length : Int) - (nn : Int)) : Int) < (f.length : Int))))] [rTwo p ab r rb F18 L6 L6, rBlk b1 [iw k, iw id, iw a, iw b, Value.slice fa f.length fc] 31, rBlk g (uu.map bv ++ tl) 5] ⟨rfl, rfl, rfl, rfl, rfl, trivial⟩ rfl ?_
                    refine SC.no (show some (Value.bool (decide ((((f.length : Int) - (nn : Int)) : Int) < (f.length : Int)))) = some (Value.bool false) from congrArg (fun x => some (Value.bool x)) (decide_eq_false (by omega))) ?_
                    refine SC.exit ?_
                    refine SE.passe ?_
                    refine SE.passe ?_
                    refine SE.blke ?_
                    refine SC.of_SE ?_
                    refine SC.norm [(6, bo false), (8, bo true)] [rTwo p ab r rb F18 L6 L6, rBlk b1 [iw k, iw id, iw a, iw b, Value.slice fa f.length fc] 31, rBlk g (uu.map bv ++ tl) 5] ⟨rfl, rfl, trivial⟩ rfl ?_
                    refine SC.seq ?_
                    refine SC.region ?_
                    refine SL.ru rfl rfl (lt_b rfl) (ru_move rfl rfl) ?_
                    refine SL.ru rfl rfl (lt_b rfl) (ru_assign rfl rfl) ?_
                    refine SL.nil ?_
                    refine SC.of_SE ?_
                    refine SC.norm [(6, bo true)] [rTwo p ab r rb F18 L6 L6, rBlk b1 [iw k, iw id, iw a, iw b, Value.slice fa f.length fc] 31, rBlk g (uu.map bv ++ tl) 5] ⟨rfl, trivial⟩ rfl ?_
                    refine SC.ret ?_
                    refine SE.res (.inl rfl) (res1 Try.results16 rfl) fun w1 hI => ⟨rfl, ⟨_, _, N6, hI.1.get (i := 0) rfl⟩, hI.2⟩
                  · skip
                    refine SC.seq ?_
                    refine SC.seq ?_
                    refine SC.region ?_
                    refine SL.ru rfl rfl (lt_b rfl) (ru_move rfl rfl) ?_
                    refine SL.ru rfl rfl (lt_b rfl) (ru_move rfl rfl) ?_
                    refine SL.ru rfl rfl (lt_b rfl) (ru_len Try.underlying29 rfl rfl) ?_
                    refine SL.ru rfl rfl (lt_b rfl) (ru_lt (b := (decide ((((f.length : Int) - (nn : Int)) : Int) < (f.length : Int)))) rfl rfl rfl rfl) ?_
                    refine SL.nil ?_
                    refine SC.of_SE ?_
                    refine SC.norm [(6, bo false), (7, sl g 0 f.length c3), (8, bo true), (13, iw ((f.length : Int) - (nn : Int))), (125, bo (decide ((((f.length : Int) - (nn : Int)) : Int) < (f.length : Int))))] [rTwo p ab r rb F18 L6 L6, rBlk b1 [iw k, iw id, iw a, iw b, Value.slice fa f.length fc] 31, rBlk g (uu.map bv ++ tl) 5] ⟨rfl, rfl, rfl, rfl, rfl, trivial⟩ rfl ?_
                    refine SC.yes (show some (Value.bool (decide ((((f.length : Int) - (nn : Int)) : Int) < (f.length : Int)))) = some (Value.bool true) from congrArg (fun x => some (Value.bool x)) (decide_eq_true (by omega))) ?_
                    refine SC.skip ?_
                    refine SC.of_SE ?_
                    refine SC.norm [(6, bo false), (7, sl g 0 f.length c3), (8, bo true), (13, iw ((f.length : Int) - (nn : Int)))] [rTwo p ab r rb F18 L6 L6, rBlk b1 [iw k, iw id, iw a, iw b, Value.slice fa f.length fc] 31, rBlk g (uu.map bv ++ tl) 5] ⟨rfl, rfl, rfl, rfl, trivial⟩ rfl ?_
                    refine SC.seq ?_
                    refine SC.block ?_
                    refine SC.region ?_
                    refine SL.ru rfl rfl (lt_b rfl) (ru_move rfl rfl) ?_
                    refine SL.ru rfl rfl (lt_b rfl) (ru_move rfl rfl) ?_
                    refine SL.ru rfl rfl (lt_b rfl) (ru_move rfl rfl) ?_
                    refine SL.ru rfl rfl (lt_b rfl) (ru_move rfl rfl) ?_
                    refine SL.ru rfl rfl (lt_b rfl) (ru_indexS (o2 := (0 + (((f.length : Int) - (nn : Int)).toNat) * 1)) si29 rfl rfl rfl (by omega) (by omega) rfl) ?_
                    refine SL.ru rfl rfl (lt_b rfl) (ru_load (i := 2) (v := Value.int .u8 ((uu.getD (((f.length : Int) - (nn : Int)).toNat) 0).toNat : Int)) ts5 rfl rfl rfl (by rw [Nat.zero_add, Nat.mul_one]; exact get_at (by omega))) ?_
                    refine SL.ru rfl rfl (lt_b rfl) (ru_add (r := (IntKind.u8.wrap (((uu.getD (((f.length : Int) - (nn : Int)).toNat) 0).toNat : Int) + 1))) rfl rfl rfl rfl) ?_
                    refine SL.ru rfl rfl (lt_b rfl) (ru_indexS (o2 := (0 + (((f.length : Int) - (nn : Int)).toNat) * 1)) si29 rfl rfl rfl (by omega) (by omega) rfl) ?_
                    refine SL.store (i := 2) (c' := ((uu.set (((f.length : Int) - (nn : Int)).toNat) (uu.getD (((f.length : Int) - (nn : Int)).toNat) 0 + 1)).map bv ++ tl)) rfl rfl ts5 rfl rfl rfl rfl rfl (by simp; omega) (.inr hg) (by rw [Nat.zero_add, Nat.mul_one]; exact set_inc (by omega)) ?_
                    refine SL.nil ?_
                    refine SE.blkn ?_
                    refine SC.of_SE ?_
                    refine SC.norm [(6, bo false), (7, sl g 0 f.length c3), (8, bo true), (13, iw ((f.length : Int) - (nn : Int)))] [rTwo p ab r rb F18 L6 L6, rBlk b1 [iw k, iw id, iw a, iw b, Value.slice fa f.length fc] 31, rBlk g ((uu.set (((f.length : Int) - (nn : Int)).toNat) (uu.getD (((f.length : Int) - (nn : Int)).toNat) 0 + 1)).map bv ++ tl) 5] ⟨rfl, rfl, rfl, rfl, trivial⟩ rfl ?_
                    refine SC.region ?_
                    refine SL.ru rfl rfl (lt_b rfl) (ru_move rfl rfl) ?_
                    refine SL.ru rfl rfl (lt_b rfl) (ru_add (r := (IntKind.i64.wrap (((f.length : Int) - (nn : Int)) + 1))) rfl rfl rfl rfl) ?_
                    refine SL.ru rfl rfl (lt_b rfl) (ru_assign rfl rfl) ?_
                    refine SL.nil ?_
                    refine SE.again (nn - 1) _ (by omega) ⟨by omega, by rw [List.length_set]; exact hq⟩ ⟨rfl, rfl, rfl, (congrArg (fun x => some (iw x)) (show IntKind.i64.wrap (((f.length : Int) - (nn : Int)) + 1) = (f.length : Int) - (((nn - 1 : Nat) : Int) : Int) by rw [IntKind.wrap_i64]; omega)), trivial⟩ rfl
              · skip
                refine SC.skip ?_
                refine SE.blkn ?_
                refine SC.of_SE ?_
                refine SC.norm [(6, bo false), (7, Value.slice a2 f.length c3), (8, bo true)] [rTwo p ab r rb F L L, rBlk b1 [iw k, iw id, iw a, iw b, Value.slice fa f.length fc] 31, rMine (.slice a2 f.length c3) f 5] ⟨rfl, rfl, rfl, trivial⟩ rfl ?_
                refine SC.seq ?_
                refine SC.seq ?_
                refine SC.region ?_
                refine SL.ru rfl rfl (lt_b rfl) (ru_assign rfl rfl) ?_
                refine SL.nil ?_
                refine SC.of_SE ?_
                refine SC.norm [(6, bo false), (7, Value.slice a2 f.length c3), (8, bo true), (13, iw 0)] [rTwo p ab r rb F L L, rBlk b1 [iw k, iw id, iw a, iw b, Value.slice fa f.length fc] 31, rMine (.slice a2 f.length c3) f 5] ⟨rfl, rfl, rfl, rfl, trivial⟩ rfl ?_
                refine SC.block ?_
                refine SC.mine (i := 2) rfl (fun eq hf0 => ?_) (fun g tl eq hc1 hc2 => ?_)
                · subst eq
                  refine SC.rounds 1 ?_
                  refine SR.norm [(6, bo false), (7, Value.slice none f.length c3), (8, bo true), (13, iw 0)] [rTwo p ab r rb F L L, rBlk b1 [iw k, iw id, iw a, iw b, Value.slice fa f.length fc] 31, rMine (.slice none f.length c3) f 5] ⟨rfl, rfl, rfl, rfl, trivial⟩ rfl ?_
                  refine SR.next ?_
                  refine SC.seq ?_
                  refine SC.seq ?_
                  refine SC.region ?_
                  refine SL.ru rfl rfl (lt_b rfl) (ru_move rfl rfl) ?_
                  refine SL.ru rfl rfl (lt_b rfl) (ru_move rfl rfl) ?_
                  refine SL.ru rfl rfl (lt_b rfl) (ru_len Try.underlying29 rfl rfl) ?_
                  refine SL.ru rfl rfl (lt_b rfl) (ru_lt (b := (decide ((0 : Int) < (f.length : Int)))) rfl rfl rfl rfl) ?_
                  refine SL.nil ?_
                  refine SC.of_SE ?_
                  refine SC.norm [(6, bo false), (7, Value.slice none f.length c3), (8, bo true), (13, iw 0), (125, bo (decide ((0 : Int) < (f.length : Int))))] [rTwo p ab r rb F L L, rBlk b1 [iw k, iw id, iw a, iw b, Value.slice fa f.length fc] 31, rMine (.slice none f.length c3) f 5] ⟨rfl, rfl, rfl, rfl, rfl, trivial⟩ rfl ?_
                  refine SC.no (show some (Value.bool (decide ((0 : Int) < (f.length : Int)))) = some (Value.bool false) from congrArg (fun x => some (Value.bool x)) (decide_eq_false (by rw [hf0]; decide))) ?_
                  refine SC.exit ?_
                  refine SE.passe ?_
                  refine SE.passe ?_
                  refine SE.blke ?_
                  refine SC.of_SE ?_
                  refine SC.norm [(6, bo false), (8, bo true)] [rTwo p ab r rb F L L, rBlk b1 [iw k, iw id, iw a, iw b, Value.slice fa f.length fc] 31, rMine (.slice none f.length c3) f 5] ⟨rfl, rfl, trivial⟩ rfl ?_
                  refine SC.seq ?_
                  refine SC.region ?_
                  refine SL.ru rfl rfl (lt_b rfl) (ru_move rfl rfl) ?_
                  refine SL.ru rfl rfl (lt_b rfl) (ru_assign rfl rfl) ?_
                  refine SL.nil ?_
                  refine SC.of_SE ?_
                  refine SC.norm [(6, bo true)] [rTwo p ab r rb F L L, rBlk b1 [iw k, iw id, iw a, iw b, Value.slice fa f.length fc] 31, rMine (.slice none f.length c3) f 5] ⟨rfl, trivial⟩ rfl ?_
                  refine SC.ret ?_
                  refine SE.res (.inl rfl) (res1 Try.results16 rfl) fun w1 hI => ⟨rfl, ⟨_, _, Next.rfl' L, hI.1.get (i := 0) rfl⟩, hI.2⟩
                · subst eq
                  have hg := hq4 g rfl
                  refine SC.loop (γ := List UInt8) (fun nn uu => [(6, bo false), (7, sl g 0 f.length c3), (8, bo true), (13, iw ((f.length : Int) - (nn : Int)))]) (fun nn uu => [rTwo p ab r rb F L L, rBlk b1 [iw k, iw id, iw a, iw b, Value.slice fa f.length fc] 31, rBlk g (uu.map bv ++ tl) 5]) (fun nn uu => nn ≤ f.length ∧ uu.length = f.length) f.length f ⟨Nat.le_refl _, rfl⟩ ⟨rfl, rfl, rfl, (congrArg (fun x => some (iw x)) (show (0 : Int) = (f.length : Int) - ((f.length : Nat) : Int) by omega)), trivial⟩ rfl ?_
                  rintro nn uu ⟨hn, hq⟩
                  rcases Nat.eq_zero_or_pos nn with h0 | h0
                  · skip
                    refine SC.seq ?_
                    refine SC.seq ?_
                    refine SC.region ?_
                    refine SL.ru rfl rfl (lt_b rfl) (ru_move rfl rfl) ?_
                    refine SL.ru rfl rfl (lt_b rfl) (ru_move rfl rfl) ?_
                    refine SL.ru rfl rfl (lt_b rfl) (ru_len Try.underlying29 rfl rfl) ?_
                    refine SL.ru rfl rfl (lt_b rfl) (ru_lt (b := (decide ((((f.length : Int) - (nn : Int)) : Int) < (f.length : Int)))) rfl rfl rfl rfl) ?_
                    refine SL.nil ?_
                    refine SC.of_SE ?_
                    refine SC.norm [(6, bo false), (7, sl g 0 f.length c3), (8, bo true), (13, iw ((f.length : Int) - (nn : Int))), (125, bo (decide ((((f.length : Int) - (nn : Int)) : Int) < (f.length : Int))))] [rTwo p ab r rb F L L, rBlk b1 [iw k, iw id, iw a, iw b, Value.slice fa f.length fc] 31, rBlk g (uu.map bv ++ tl) 5] ⟨rfl, rfl, rfl, rfl, rfl, trivial⟩ rfl ?_
                    refine SC.no (show some (Value.bool (decide ((((f.length : Int) - (nn : Int)) : Int) < (f.length : Int)))) = some (Value.bool false) from congrArg (fun x => some (Value.bool x)) (decide_eq_false (by omega))) ?_
                    refine SC.exit ?_
                    refine SE.passe ?_
                    refine SE.passe ?_
                    refine SE.blke ?_
                    refine SC.of_SE ?_
                    refine SC.norm [(6, bo false), (8, bo true)] [rTwo p ab r rb F L L, rBlk b1 [iw k, iw id, iw a, iw b, Value.slice fa f.length fc] 31, rBlk g (uu.map bv ++ tl) 5] ⟨rfl, rfl, trivial⟩ rfl ?_
                    refine SC.seq ?_
                    refine SC.region ?_
                    refine SL.ru rfl rfl (lt_b rfl) (ru_move rfl rfl) ?_
                    refine SL.ru rfl rfl (lt_b rfl) (ru_assign rfl rfl) ?_
                    refine SL.nil ?_
                    refine SC.of_SE ?_
                    refine SC.norm [(6, bo true)] [rTwo p ab r rb F L L, rBlk b1 [iw k, iw id, iw a, iw b, Value.slice fa f.length fc] 31, rBlk g (uu.map bv ++ tl) 5] ⟨rfl, trivial⟩ rfl ?_
                    refine SC.ret ?_
                    refine SE.res (.inl rfl) (res1 Try.results16 rfl) fun w1 hI => ⟨rfl, ⟨_, _, Next.rfl' L, hI.1.get (i := 0) rfl⟩, hI.2⟩
                  · skip
                    refine SC.seq ?_
                    refine SC.seq ?_
                    refine SC.region ?_
                    refine SL.ru rfl rfl (lt_b rfl) (ru_move rfl rfl) ?_
                    refine SL.ru rfl rfl (lt_b rfl) (ru_move rfl rfl) ?_
                    refine SL.ru rfl rfl (lt_b rfl) (ru_len Try.underlying29 rfl rfl) ?_
                    refine SL.ru rfl rfl (lt_b rfl) (ru_lt (b := (decide ((((f.length : Int) - (nn : Int)) : Int) < (f.length : Int)))) rfl rfl rfl rfl) ?_
                    refine SL.nil ?_
                    refine SC.of_SE ?_
                    refine SC.norm [(6, bo false), (7, sl g 0 f.length c3), (8, bo true), (13, iw ((f.length : Int) - (nn : Int))), (125, bo (decide ((((f.length : Int) - (nn : Int)) : Int) < (f.length : Int))))] [rTwo p ab r rb F L L, rBlk b1 [iw k, iw id, iw a, iw b, Value.slice fa f.length fc] 31, rBlk g (uu.map bv ++ tl) 5] ⟨rfl, rfl, rfl, rfl, rfl, trivial⟩ rfl ?_
                    refine SC.yes (show some (Value.bool (decide ((((f.length : Int) - (nn : Int)) : Int) < (f.length : Int)))) = some (Value.bool true) from congrArg (fun x => some (Value.bool x)) (decide_eq_true (by omega))) ?_
                    refine SC.skip ?_
                    refine SC.of_SE ?_
                    refine SC.norm [(6, bo false), (7, sl g 0 f.length c3), (8, bo true), (13, iw ((f.length : Int) - (nn : Int)))] [rTwo p ab r rb F L L, rBlk b1 [iw k, iw id, iw a, iw b, Value.slice fa f.length fc] 31, rBlk g (uu.map bv ++ tl) 5] ⟨rfl, rfl, rfl, rfl, trivial⟩ rfl ?_
                    refine SC.seq ?_
                    refine SC.block ?_
                    refine SC.region ?_
                    refine SL.ru rfl rfl (lt_b rfl) (ru_move rfl rfl) ?_
                    refine SL.ru rfl rfl (lt_b rfl) (ru_move rfl rfl) ?_
                    refine SL.ru rfl rfl (lt_b rfl) (ru_move rfl rfl) ?_
                    refine SL.ru rfl rfl (lt_b rfl) (ru_move rfl rfl) ?_
                    refine SL.ru rfl rfl (lt_b rfl) (ru_indexS (o2 := (0 + (((f.length : Int) - (nn : Int)).toNat) * 1)) si29 rfl rfl rfl (by omega) (by omega) rfl) ?_
                    refine SL.ru rfl rfl (lt_b rfl) (ru_load (i := 2) (v := Value.int .u8 ((uu.getD (((f.length : Int) - (nn : Int)).toNat) 0).toNat : Int)) ts5 rfl rfl rfl (by rw [Nat.zero_add, Nat.mul_one]; exact get_at (by omega))) ?_
                    refine SL.ru rfl rfl (lt_b rfl) (ru_add (r := (IntKind.u8.wrap (((uu.getD (((f.length : Int) - (nn : Int)).toNat) 0).toNat : Int) + 1))) rfl rfl rfl rfl) ?_
                    refine SL.ru rfl rfl (lt_b rfl) (ru_indexS (o2 := (0 + (((f.length : Int) - (nn : Int)).toNat) * 1)) si29 rfl rfl rfl (by omega) (by omega) rfl) ?_
                    refine SL.store (i := 2) (c' := ((uu.set (((f.length : Int) - (nn : Int)).toNat) (uu.getD (((f.length : Int) - (nn : Int)).toNat) 0 + 1)).map bv ++ tl)) rfl rfl ts5 rfl rfl rfl rfl rfl (by simp; omega) (.inr hg) (by rw [Nat.zero_add, Nat.mul_one]; exact set_inc (by omega)) ?_
                    refine SL.nil ?_
                    refine SE.blkn ?_
                    refine SC.of_SE ?_
                    refine SC.norm [(6, bo false), (7, sl g 0 f.length c3), (8, bo true), (13, iw ((f.length : Int) - (nn : Int)))] [rTwo p ab r rb F L L, rBlk b1 [iw k, iw id, iw a, iw b, Value.slice fa f.length fc] 31, rBlk g ((uu.set (((f.length : Int) - (nn : Int)).toNat) (uu.getD (((f.length : Int) - (nn : Int)).toNat) 0 + 1)).map bv ++ tl) 5] ⟨rfl, rfl, rfl, rfl, trivial⟩ rfl ?_
                    refine SC.region ?_
                    refine SL.ru rfl rfl (lt_b rfl) (ru_move rfl rfl) ?_
                    refine SL.ru rfl rfl (lt_b rfl) (ru_add (r := (IntKind.i64.wrap (((f.length : Int) - (nn : Int)) + 1))) rfl rfl rfl rfl) ?_
                    refine SL.ru rfl rfl (lt_b rfl) (ru_assign rfl rfl) ?_
                    refine SL.nil ?_
                    refine SE.again (nn - 1) _ (by omega) ⟨by omega, by rw [List.length_set]; exact hq⟩ ⟨rfl, rfl, rfl, (congrArg (fun x => some (iw x)) (show IntKind.i64.wrap (((f.length : Int) - (nn : Int)) + 1) = (f.length : Int) - (((nn - 1 : Nat) : Int) : Int) by rw [IntKind.wrap_i64]; omega)), trivial⟩ rfl

end Go.Proofs.Ythofjobcjkeomaa
