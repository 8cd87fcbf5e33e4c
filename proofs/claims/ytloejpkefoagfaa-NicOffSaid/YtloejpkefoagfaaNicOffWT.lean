/-
  NicOff answers true, where it is the link that is down.
-/
import Derived.Test.YtloejpkefoagfaaNicPlays
import Derived.Test.YtloejpkefoagfaaNicAwake
namespace Go.Proofs.Ytloejpkefoagfaa
open Go.RowKit
set_option maxRecDepth 100000
set_option maxHeartbeats 4000000
theorem offt_walk (w : World) {vv : Value} {l : List OpR} (h : OpsAt w vv l) {fv : Value} {f0 : List UInt8} (hf : BytesAt w fv f0 ∧ sliceIn fv (fun b => b < w.heap.size)) : Calls Try.prog 4 #[vv, bo true, fv] w fun e w' => e = .returned (.bool true) ∧ Only (fun _ => False) w w' := by
  obtain ⟨a, c, rfl, hll, hops⟩ := h
  obtain ⟨hb0, hs0⟩ := hf
  obtain ⟨fa0, fc0, rfl⟩ := hb0.form
  refine calls_sc (l0 := []) (args := [Value.slice a l.length c, bo true, Value.slice fa0 f0.length fc0]) (fun _ => False) Try.func4 rfl 99 Try.ntmps4 (le_b rfl) ⟨⟨by simp, List.Pairwise.nil⟩, Only.refl _ _⟩ ?_
  show SC _ _ _ _ [(0, Value.slice a l.length c), (1, bo true), (2, Value.slice fa0 f0.length fc0)] []
  refine SC.seq ?_
  refine SC.region ?_
  refine SL.ru rfl rfl (lt_b rfl) (ru_assign rfl rfl) ?_
  refine SL.nil ?_
  refine SC.of_SE ?_
  refine SC.norm [(0, Value.slice a l.length c), (1, bo true), (2, Value.slice fa0 f0.length fc0), (6, bo false)] [] ⟨rfl, rfl, rfl, rfl, trivial⟩ rfl ?_
  refine SC.seq ?_
  refine SC.region ?_
  refine SL.callv (bo true) rfl rfl co7 rfl rfl rfl (lt_b rfl) (fun w hI => H_only hI (awake_any _)) ?_
  refine SL.ru rfl rfl (lt_b rfl) (ru_assign rfl rfl) ?_
  refine SL.nil ?_
  refine SC.of_SE ?_
  refine SC.norm [(0, Value.slice a l.length c), (1, bo true), (2, Value.slice fa0 f0.length fc0), (6, bo false), (7, bo true)] [] ⟨rfl, rfl, rfl, rfl, rfl, trivial⟩ rfl ?_
  refine SC.seq ?_
  refine SC.region ?_
  refine SL.call (ζ := Nat) (fun z => pt z 0) (fun z => [rNic 68 z (fun _ => False) newA]) (fun z => w.heap.size ≤ z) rfl rfl co8 rfl rfl rfl (lt_b rfl) (fun w hI => (p_new _).mono fun e w2 ⟨g, h1, h2, h3, h4⟩ => ⟨g, h2, hI.newNic h1 h3 h4, Nat.le_trans hI.2.size h1⟩) ?_
  intro g1 hg1
  refine SL.ru rfl rfl (lt_b rfl) (ru_assign rfl rfl) ?_
  refine SL.nil ?_
  refine SC.of_SE ?_
  refine SC.norm [(0, Value.slice a l.length c), (1, bo true), (2, Value.slice fa0 f0.length fc0), (6, bo false), (7, bo true), (8, pt g1 0)] [rNic 68 g1 (fun _ => False) newA] ⟨rfl, rfl, rfl, rfl, rfl, rfl, trivial⟩ rfl ?_
  refine SC.seq ?_
  refine SC.seq ?_
  refine SC.region ?_
  refine SL.ru rfl rfl (lt_b rfl) (ru_move rfl rfl) ?_
  refine SL.ru rfl rfl (lt_b rfl) (ru_not (c := false) rfl rfl rfl) ?_
  refine SL.ru rfl rfl (lt_b rfl) (ru_move rfl rfl) ?_
  refine SL.rug rfl rfl rfl rfl (lt_b rfl) (ru_move rfl rfl) ?_
  refine SL.rug rfl rfl rfl rfl (lt_b rfl) (ru_eqnil Try.underlying24 rfl rfl rfl rfl) ?_
  refine SL.ru rfl rfl (lt_b rfl) (ru_pick (u := bo true) (v := bo false) rfl rfl rfl rfl) ?_
  refine SL.nil ?_
  refine SC.of_SE ?_
  refine SC.norm [(0, Value.slice a l.length c), (1, bo true), (2, Value.slice fa0 f0.length fc0), (6, bo false), (8, pt g1 0), (27, bo false)] [rNic 68 g1 (fun _ => False) newA] ⟨rfl, rfl, rfl, rfl, rfl, rfl, trivial⟩ rfl ?_
  refine SC.no rfl ?_
  refine SC.skip ?_
  refine SC.of_SE ?_
  refine SC.norm [(0, Value.slice a l.length c), (1, bo true), (2, Value.slice fa0 f0.length fc0), (6, bo false), (8, pt g1 0)] [rNic 68 g1 (fun _ => False) newA] ⟨rfl, rfl, rfl, rfl, rfl, trivial⟩ rfl ?_
  refine SC.seq ?_
  refine SC.seq ?_
  refine SC.region ?_
  refine SL.ru rfl rfl (lt_b rfl) (ru_assign rfl rfl) ?_
  refine SL.nil ?_
  refine SC.of_SE ?_
  refine SC.norm [(0, Value.slice a l.length c), (1, bo true), (2, Value.slice fa0 f0.length fc0), (6, bo false), (8, pt g1 0), (9, iw 0)] [rNic 68 g1 (fun _ => False) newA] ⟨rfl, rfl, rfl, rfl, rfl, rfl, trivial⟩ rfl ?_
  refine SC.block ?_
  refine SC.loop (γ := NicA × (Nat → Prop)) (fun nn _ => [(0, Value.slice a l.length c), (1, bo true), (2, Value.slice fa0 f0.length fc0), (6, bo false), (8, pt g1 0), (9, iw ((l.length : Int) - (nn : Int)))]) (fun nn g => [rNic 68 g1 g.2 g.1]) (fun nn g => nn ≤ l.length ∧ NicOk g.1) l.length (newA, (fun _ => False)) ⟨Nat.le_refl _, newA_ok⟩ ⟨rfl, rfl, rfl, rfl, rfl, (congrArg (fun x => some (iw x)) (show (0 : Int) = (l.length : Int) - ((l.length : Nat) : Int) by omega)), trivial⟩ rfl ?_
  rintro nn ⟨A, F⟩ ⟨hn, hk⟩
  rcases Nat.eq_zero_or_pos nn with h0 | h0
  · skip
    refine SC.seq ?_
    refine SC.seq ?_
    refine SC.region ?_
    refine SL.ru rfl rfl (lt_b rfl) (ru_move rfl rfl) ?_
    refine SL.ru rfl rfl (lt_b rfl) (ru_move rfl rfl) ?_
    refine SL.ru rfl rfl (lt_b rfl) (ru_len Try.underlying22 rfl rfl) ?_
    refine SL.ru rfl rfl (lt_b rfl) (ru_lt (b := (decide ((((l.length : Int) - (nn : Int)) : Int) < (l.length : Int)))) rfl rfl rfl rfl) ?_
    refine SL.nil ?_
    refine SC.of_SE ?_
    refine SC.norm [(0, Value.slice a l.length c), (1, bo true), (2, Value.slice fa0 f0.length fc0), (6, bo false), (8, pt g1 0), (9, iw ((l.length : Int) - (nn : Int))), (31, bo (decide ((((l.length : Int) - (nn : Int)) : Int) < (l.length : Int))))] [rNic 68 g1 F A] ⟨rfl, rfl, rfl, rfl, rfl, rfl, rfl, trivial⟩ rfl ?_
    refine SC.no (show some (Value.bool (decide ((((l.length : Int) - (nn : Int)) : Int) < (l.length : Int)))) = some (Value.bool false) from congrArg (fun x => some (Value.bool x)) (decide_eq_false (by omega))) ?_
    refine SC.exit ?_
    refine SE.passe ?_
    refine SE.passe ?_
    refine SE.blke ?_
    refine SC.of_SE ?_
    refine SC.norm [(1, bo true), (2, Value.slice fa0 f0.length fc0), (6, bo false), (8, pt g1 0)] [rNic 68 g1 F A] ⟨rfl, rfl, rfl, rfl, trivial⟩ rfl ?_
    refine SC.seq ?_
    refine SC.seq ?_
    refine SC.region ?_
    refine SL.ru rfl rfl (lt_b rfl) (ru_move rfl rfl) ?_
    refine SL.nil ?_
    refine SC.of_SE ?_
    refine SC.norm [(2, Value.slice fa0 f0.length fc0), (6, bo false), (8, pt g1 0), (40, bo true)] [rNic 68 g1 F A] ⟨rfl, rfl, rfl, rfl, trivial⟩ rfl ?_
    refine SC.yes rfl ?_
    refine SC.region ?_
    refine SL.ru rfl rfl (lt_b rfl) (ru_move rfl rfl) ?_
    refine SL.call (ζ := Nat → Prop) (fun F2 => Value.tuple #[]) (fun F2 => [rNic 68 g1 F2 (linkF A false)]) (fun F2 => True) rfl rfl co17 rfl rfl rfl (lt_b rfl) (fun w hI => (p_link hk (nic_at hI (i := 0) rfl) false).mono fun e w2 ⟨h1, h2⟩ => by obtain ⟨F2, h3⟩ := hI.nicTo (i := 0) rfl (.inr hg1) h2; exact ⟨F2, h1, h3, trivial⟩) ?_
    intro F2 _
    refine SL.nil ?_
    refine SC.of_SE ?_
    refine SC.norm [(2, Value.slice fa0 f0.length fc0), (6, bo false), (8, pt g1 0)] [rNic 68 g1 F2 (linkF A false)] ⟨rfl, rfl, rfl, trivial⟩ rfl ?_
    refine SC.seq ?_
    refine SC.region ?_
    refine SL.alloca rfl rfl (lt_b rfl) ta44 rfl fun b3 hb3 => ?_
    refine SL.nil ?_
    refine SC.of_SE ?_
    refine SC.norm [(2, Value.slice fa0 f0.length fc0), (6, bo false), (8, pt g1 0), (10, pt b3 0)] [rNic 68 g1 F2 (linkF A false), rBlk b3 [iw 0, iw 0, iw 0, iw 0, iw 0, iw 0, iw 0, iw 0] 44] ⟨rfl, rfl, rfl, rfl, trivial⟩ rfl ?_
    refine SC.seq ?_
    refine SC.seq ?_
    refine SC.region ?_
    refine SL.ru rfl rfl (lt_b rfl) (ru_assign rfl rfl) ?_
    refine SL.nil ?_
    refine SC.of_SE ?_
    refine SC.norm [(2, Value.slice fa0 f0.length fc0), (6, bo false), (8, pt g1 0), (10, pt b3 0), (11, iw 0)] [rNic 68 g1 F2 (linkF A false), rBlk b3 [iw 0, iw 0, iw 0, iw 0, iw 0, iw 0, iw 0, iw 0] 44] ⟨rfl, rfl, rfl, rfl, rfl, trivial⟩ rfl ?_
    refine SC.block ?_
    refine SC.rounds 9 ?_
    refine SR.norm [(2, Value.slice fa0 f0.length fc0), (6, bo false), (8, pt g1 0), (10, pt b3 0), (11, iw 0)] [rNic 68 g1 F2 (linkF A false), rBlk b3 [iw 0, iw 0, iw 0, iw 0, iw 0, iw 0, iw 0, iw 0] 44] ⟨rfl, rfl, rfl, rfl, rfl, trivial⟩ rfl ?_
    refine SR.next ?_
    refine SC.seq ?_
    refine SC.seq ?_
    refine SC.region ?_
    refine SL.ru rfl rfl (lt_b rfl) (ru_move rfl rfl) ?_
    refine SL.ru rfl rfl (lt_b rfl) (ru_lt (b := true) rfl rfl rfl rfl) ?_
    refine SL.nil ?_
    refine SC.of_SE ?_
    refine SC.norm [(2, Value.slice fa0 f0.length fc0), (6, bo false), (8, pt g1 0), (10, pt b3 0), (11, iw 0), (46, bo true)] [rNic 68 g1 F2 (linkF A false), rBlk b3 [iw 0, iw 0, iw 0, iw 0, iw 0, iw 0, iw 0, iw 0] 44] ⟨rfl, rfl, rfl, rfl, rfl, rfl, trivial⟩ rfl ?_
    refine SC.yes rfl ?_
    refine SC.skip ?_
    refine SC.of_SE ?_
    refine SC.norm [(2, Value.slice fa0 f0.length fc0), (6, bo false), (8, pt g1 0), (10, pt b3 0), (11, iw 0)] [rNic 68 g1 F2 (linkF A false), rBlk b3 [iw 0, iw 0, iw 0, iw 0, iw 0, iw 0, iw 0, iw 0] 44] ⟨rfl, rfl, rfl, rfl, rfl, trivial⟩ rfl ?_
    refine SC.seq ?_
    refine SC.block ?_
    refine SC.seq ?_
    refine SC.region ?_
    refine SL.ru rfl rfl (lt_b rfl) (ru_move rfl rfl) ?_
    refine SL.ru rfl rfl (lt_b rfl) (ru_move rfl rfl) ?_
    refine SL.call (ζ := Nat → Prop) (fun F4 => Value.tuple #[iw ((linkF A false).r 0), iw 0]) (fun F4 => [rNic 68 g1 F4 (linkF A false), rBlk b3 [iw 0, iw 0, iw 0, iw 0, iw 0, iw 0, iw 0, iw 0] 44]) (fun F4 => True) rfl rfl co18 rfl rfl rfl (lt_b rfl) (fun w hI => (p_read_k (link_ok hk false) (nic_at hI (i := 0) rfl) 0 rfl (by decide) (by decide)).mono fun e w2 ⟨h1, h2⟩ => by obtain ⟨F2, h3⟩ := hI.nicTo (i := 0) rfl (.inr hg1) h2; exact ⟨F2, h1, h3, trivial⟩) ?_
    intro F4 _
    refine SL.ru rfl rfl (lt_b rfl) (ru_move rfl rfl) ?_
    refine SL.ru rfl rfl (lt_b rfl) (ru_extract rfl rfl rfl) ?_
    refine SL.ru rfl rfl (lt_b rfl) (ru_extract rfl rfl rfl) ?_
    refine SL.ru rfl rfl (lt_b rfl) (ru_assign rfl rfl) ?_
    refine SL.ru rfl rfl (lt_b rfl) (ru_assign rfl rfl) ?_
    refine SL.nil ?_
    refine SC.of_SE ?_
    refine SC.norm [(2, Value.slice fa0 f0.length fc0), (6, bo false), (8, pt g1 0), (10, pt b3 0), (11, iw 0), (12, iw ((linkF A false).r 0))] [rNic 68 g1 F4 (linkF A false), rBlk b3 [iw 0, iw 0, iw 0, iw 0, iw 0, iw 0, iw 0, iw 0] 44] ⟨rfl, rfl, rfl, rfl, rfl, rfl, trivial⟩ rfl ?_
    refine SC.region ?_
    refine SL.ru rfl rfl (lt_b rfl) (ru_move rfl rfl) ?_
    refine SL.ru rfl rfl (lt_b rfl) (ru_move rfl rfl) ?_
    refine SL.ru rfl rfl (lt_b rfl) (ru_indexA (o2 := 0) ar44 rfl rfl rfl (by decide) (by decide) rfl) ?_
    refine SL.store (i := 1) (c' := [iw ((linkF A false).r 0), iw 0, iw 0, iw 0, iw 0, iw 0, iw 0, iw 0]) rfl rfl ts3 rfl rfl rfl rfl rfl (lt_b rfl) (.inr hb3) rfl ?_
    refine SL.nil ?_
    refine SE.blkn ?_
    refine SC.of_SE ?_
    refine SC.norm [(2, Value.slice fa0 f0.length fc0), (6, bo false), (8, pt g1 0), (10, pt b3 0), (11, iw 0)] [rNic 68 g1 F4 (linkF A false), rBlk b3 [iw ((linkF A false).r 0), iw 0, iw 0, iw 0, iw 0, iw 0, iw 0, iw 0] 44] ⟨rfl, rfl, rfl, rfl, rfl, trivial⟩ rfl ?_
    refine SC.region ?_
    refine SL.ru rfl rfl (lt_b rfl) (ru_move rfl rfl) ?_
    refine SL.ru rfl rfl (lt_b rfl) (ru_add (r := 1) rfl rfl rfl rfl) ?_
    refine SL.ru rfl rfl (lt_b rfl) (ru_assign rfl rfl) ?_
    refine SL.nil ?_
    refine SE.round ?_
    refine SR.norm [(2, Value.slice fa0 f0.length fc0), (6, bo false), (8, pt g1 0), (10, pt b3 0), (11, iw 1)] [rNic 68 g1 F4 (linkF A false), rBlk b3 [iw ((linkF A false).r 0), iw 0, iw 0, iw 0, iw 0, iw 0, iw 0, iw 0] 44] ⟨rfl, rfl, rfl, rfl, rfl, trivial⟩ rfl ?_
    refine SR.next ?_
    refine SC.seq ?_
    refine SC.seq ?_
    refine SC.region ?_
    refine SL.ru rfl rfl (lt_b rfl) (ru_move rfl rfl) ?_
    refine SL.ru rfl rfl (lt_b rfl) (ru_lt (b := true) rfl rfl rfl rfl) ?_
    refine SL.nil ?_
    refine SC.of_SE ?_
    refine SC.norm [(2, Value.slice fa0 f0.length fc0), (6, bo false), (8, pt g1 0), (10, pt b3 0), (11, iw 1), (46, bo true)] [rNic 68 g1 F4 (linkF A false), rBlk b3 [iw ((linkF A false).r 0), iw 0, iw 0, iw 0, iw 0, iw 0, iw 0, iw 0] 44] ⟨rfl, rfl, rfl, rfl, rfl, rfl, trivial⟩ rfl ?_
    refine SC.yes rfl ?_
    refine SC.skip ?_
    refine SC.of_SE ?_
    refine SC.norm [(2, Value.slice fa0 f0.length fc0), (6, bo false), (8, pt g1 0), (10, pt b3 0), (11, iw 1)] [rNic 68 g1 F4 (linkF A false), rBlk b3 [iw ((linkF A false).r 0), iw 0, iw 0, iw 0, iw 0, iw 0, iw 0, iw 0] 44] ⟨rfl, rfl, rfl, rfl, rfl, trivial⟩ rfl ?_
    refine SC.seq ?_
    refine SC.block ?_
    refine SC.seq ?_
    refine SC.region ?_
    refine SL.ru rfl rfl (lt_b rfl) (ru_move rfl rfl) ?_
    refine SL.ru rfl rfl (lt_b rfl) (ru_move rfl rfl) ?_
    refine SL.call (ζ := Nat → Prop) (fun F5 => Value.tuple #[iw ((linkF A false).r 1), iw 0]) (fun F5 => [rNic 68 g1 F5 (linkF A false), rBlk b3 [iw ((linkF A false).r 0), iw 0, iw 0, iw 0, iw 0, iw 0, iw 0, iw 0] 44]) (fun F5 => True) rfl rfl co18 rfl rfl rfl (lt_b rfl) (fun w hI => (p_read_k (link_ok hk false) (nic_at hI (i := 0) rfl) 1 rfl (by decide) (by decide)).mono fun e w2 ⟨h1, h2⟩ => by obtain ⟨F2, h3⟩ := hI.nicTo (i := 0) rfl (.inr hg1) h2; exact ⟨F2, h1, h3, trivial⟩) ?_
    intro F5 _
    refine SL.ru rfl rfl (lt_b rfl) (ru_move rfl rfl) ?_
    refine SL.ru rfl rfl (lt_b rfl) (ru_extract rfl rfl rfl) ?_
    refine SL.ru rfl rfl (lt_b rfl) (ru_extract rfl rfl rfl) ?_
    refine SL.ru rfl rfl (lt_b rfl) (ru_assign rfl rfl) ?_
    refine SL.ru rfl rfl (lt_b rfl) (ru_assign rfl rfl) ?_
    refine SL.nil ?_
    refine SC.of_SE ?_
    refine SC.norm [(2, Value.slice fa0 f0.length fc0), (6, bo false), (8, pt g1 0), (10, pt b3 0), (11, iw 1), (12, iw ((linkF A false).r 1))] [rNic 68 g1 F5 (linkF A false), rBlk b3 [iw ((linkF A false).r 0), iw 0, iw 0, iw 0, iw 0, iw 0, iw 0, iw 0] 44] ⟨rfl, rfl, rfl, rfl, rfl, rfl, trivial⟩ rfl ?_
    refine SC.region ?_
    refine SL.ru rfl rfl (lt_b rfl) (ru_move rfl rfl) ?_
    refine SL.ru rfl rfl (lt_b rfl) (ru_move rfl rfl) ?_
    refine SL.ru rfl rfl (lt_b rfl) (ru_indexA (o2 := 1) ar44 rfl rfl rfl (by decide) (by decide) rfl) ?_
    refine SL.store (i := 1) (c' := [iw ((linkF A false).r 0), iw ((linkF A false).r 1), iw 0, iw 0, iw 0, iw 0, iw 0, iw 0]) rfl rfl ts3 rfl rfl rfl rfl rfl (lt_b rfl) (.inr hb3) rfl ?_
    refine SL.nil ?_
    refine SE.blkn ?_
    refine SC.of_SE ?_
    refine SC.norm [(2, Value.slice fa0 f0.length fc0), (6, bo false), (8, pt g1 0), (10, pt b3 0), (11, iw 1)] [rNic 68 g1 F5 (linkF A false), rBlk b3 [iw ((linkF A false).r 0), iw ((linkF A false).r 1), iw 0, iw 0, iw 0, iw 0, iw 0, iw 0] 44] ⟨rfl, rfl, rfl, rfl, rfl, trivial⟩ rfl ?_
    refine SC.region ?_
    refine SL.ru rfl rfl (lt_b rfl) (ru_move rfl rfl) ?_
    refine SL.ru rfl rfl (lt_b rfl) (ru_add (r := 2) rfl rfl rfl rfl) ?_
    refine SL.ru rfl rfl (lt_b rfl) (ru_assign rfl rfl) ?_
    refine SL.nil ?_
    refine SE.round ?_
    refine SR.norm [(2, Value.slice fa0 f0.length fc0), (6, bo false), (8, pt g1 0), (10, pt b3 0), (11, iw 2)] [rNic 68 g1 F5 (linkF A false), rBlk b3 [iw ((linkF A false).r 0), iw ((linkF A false).r 1), iw 0, iw 0, iw 0, iw 0, iw 0, iw 0] 44] ⟨rfl, rfl, rfl, rfl, rfl, trivial⟩ rfl ?_
    refine SR.next ?_
    refine SC.seq ?_
    refine SC.seq ?_
    refine SC.region ?_
    refine SL.ru rfl rfl (lt_b rfl) (ru_move rfl rfl) ?_
    refine SL.ru rfl rfl (lt_b rfl) (ru_lt (b := true) rfl rfl rfl rfl) ?_
    refine SL.nil ?_
    refine SC.of_SE ?_
    refine SC.norm [(2, Value.slice fa0 f0.length fc0), (6, bo false), (8, pt g1 0), (10, pt b3 0), (11, iw 2), (46, bo true)] [rNic 68 g1 F5 (linkF A false), rBlk b3 [iw ((linkF A false).r 0), iw ((linkF A false).r 1), iw 0, iw 0, iw 0, iw 0, iw 0, iw 0] 44] ⟨rfl, rfl, rfl, rfl, rfl, rfl, trivial⟩ rfl ?_
    refine SC.yes rfl ?_
    refine SC.skip ?_
    refine SC.of_SE ?_
    refine SC.norm [(2, Value.slice fa0 f0.length fc0), (6, bo false), (8, pt g1 0), (10, pt b3 0), (11, iw 2)] [rNic 68 g1 F5 (linkF A false), rBlk b3 [iw ((linkF A false).r 0), iw ((linkF A false).r 1), iw 0, iw 0, iw 0, iw 0, iw 0, iw 0] 44] ⟨rfl, rfl, rfl, rfl, rfl, trivial⟩ rfl ?_
    refine SC.seq ?_
    refine SC.block ?_
    refine SC.seq ?_
    refine SC.region ?_
    refine SL.ru rfl rfl (lt_b rfl) (ru_move rfl rfl) ?_
    refine SL.ru rfl rfl (lt_b rfl) (ru_move rfl rfl) ?_
    refine SL.call (ζ := Nat → Prop) (fun F6 => Value.tuple #[iw ((linkF A false).r 2), iw 0]) (fun F6 => [rNic 68 g1 F6 (linkF A false), rBlk b3 [iw ((linkF A false).r 0), iw ((linkF A false).r 1), iw 0, iw 0, iw 0, iw 0, iw 0, iw 0] 44]) (fun F6 => True) rfl rfl co18 rfl rfl rfl (lt_b rfl) (fun w hI => (p_read_k (link_ok hk false) (nic_at hI (i := 0) rfl) 2 rfl (by decide) (by decide)).mono fun e w2 ⟨h1, h2⟩ => by obtain ⟨F2, h3⟩ := hI.nicTo (i := 0) rfl (.inr hg1) h2; exact ⟨F2, h1, h3, trivial⟩) ?_
    intro F6 _
    refine SL.ru rfl rfl (lt_b rfl) (ru_move rfl rfl) ?_
    refine SL.ru rfl rfl (lt_b rfl) (ru_extract rfl rfl rfl) ?_
    refine SL.ru rfl rfl (lt_b rfl) (ru_extract rfl rfl rfl) ?_
    refine SL.ru rfl rfl (lt_b rfl) (ru_assign rfl rfl) ?_
    refine SL.ru rfl rfl (lt_b rfl) (ru_assign rfl rfl) ?_
    refine SL.nil ?_
    refine SC.of_SE ?_
    refine SC.norm [(2, Value.slice fa0 f0.length fc0), (6, bo false), (8, pt g1 0), (10, pt b3 0), (11, iw 2), (12, iw ((linkF A false).r 2))] [rNic 68 g1 F6 (linkF A false), rBlk b3 [iw ((linkF A false).r 0), iw ((linkF A false).r 1), iw 0, iw 0, iw 0, iw 0, iw 0, iw 0] 44] ⟨rfl, rfl, rfl, rfl, rfl, rfl, trivial⟩ rfl ?_
    refine SC.region ?_
    refine SL.ru rfl rfl (lt_b rfl) (ru_move rfl rfl) ?_
    refine SL.ru rfl rfl (lt_b rfl) (ru_move rfl rfl) ?_
    refine SL.ru rfl rfl (lt_b rfl) (ru_indexA (o2 := 2) ar44 rfl rfl rfl (by decide) (by decide) rfl) ?_
    refine SL.store (i := 1) (c' := [iw ((linkF A false).r 0), iw ((linkF A false).r 1), iw ((linkF A false).r 2), iw 0, iw 0, iw 0, iw 0, iw 0]) rfl rfl ts3 rfl rfl rfl rfl rfl (lt_b rfl) (.inr hb3) rfl ?_
    refine SL.nil ?_
    refine SE.blkn ?_
    refine SC.of_SE ?_
    refine SC.norm [(2, Value.slice fa0 f0.length fc0), (6, bo false), (8, pt g1 0), (10, pt b3 0), (11, iw 2)] [rNic 68 g1 F6 (linkF A false), rBlk b3 [iw ((linkF A false).r 0), iw ((linkF A false).r 1), iw ((linkF A false).r 2), iw 0, iw 0, iw 0, iw 0, iw 0] 44] ⟨rfl, rfl, rfl, rfl, rfl, trivial⟩ rfl ?_
    refine SC.region ?_
    refine SL.ru rfl rfl (lt_b rfl) (ru_move rfl rfl) ?_
    refine SL.ru rfl rfl (lt_b rfl) (ru_add (r := 3) rfl rfl rfl rfl) ?_
    refine SL.ru rfl rfl (lt_b rfl) (ru_assign rfl rfl) ?_
    refine SL.nil ?_
    refine SE.round ?_
    refine SR.norm [(2, Value.slice fa0 f0.length fc0), (6, bo false), (8, pt g1 0), (10, pt b3 0), (11, iw 3)] [rNic 68 g1 F6 (linkF A false), rBlk b3 [iw ((linkF A false).r 0), iw ((linkF A false).r 1), iw ((linkF A false).r 2), iw 0, iw 0, iw 0, iw 0, iw 0] 44] ⟨rfl, rfl, rfl, rfl, rfl, trivial⟩ rfl ?_
    refine SR.next ?_
    refine SC.seq ?_
    refine SC.seq ?_
    refine SC.region ?_
    refine SL.ru rfl rfl (lt_b rfl) (ru_move rfl rfl) ?_
    refine SL.ru rfl rfl (lt_b rfl) (ru_lt (b := true) rfl rfl rfl rfl) ?_
    refine SL.nil ?_
    refine SC.of_SE ?_
    refine SC.norm [(2, Value.slice fa0 f0.length fc0), (6, bo false), (8, pt g1 0), (10, pt b3 0), (11, iw 3), (46, bo true)] [rNic 68 g1 F6 (linkF A false), rBlk b3 [iw ((linkF A false).r 0), iw ((linkF A false).r 1), iw ((linkF A false).r 2), iw 0, iw 0, iw 0, iw 0, iw 0] 44] ⟨rfl, rfl, rfl, rfl, rfl, rfl, trivial⟩ rfl ?_
    refine SC.yes rfl ?_
    refine SC.skip ?_
    refine SC.of_SE ?_
    refine SC.norm [(2, Value.slice fa0 f0.length fc0), (6, bo false), (8, pt g1 0), (10, pt b3 0), (11, iw 3)] [rNic 68 g1 F6 (linkF A false), rBlk b3 [iw ((linkF A false).r 0), iw ((linkF A false).r 1), iw ((linkF A false).r 2), iw 0, iw 0, iw 0, iw 0, iw 0] 44] ⟨rfl, rfl, rfl, rfl, rfl, trivial⟩ rfl ?_
    refine SC.seq ?_
    refine SC.block ?_
    refine SC.seq ?_
    refine SC.region ?_
    refine SL.ru rfl rfl (lt_b rfl) (ru_move rfl rfl) ?_
    refine SL.ru rfl rfl (lt_b rfl) (ru_move rfl rfl) ?_
    refine SL.call (ζ := Nat → Prop) (fun F7 => Value.tuple #[iw ((linkF A false).r 3), iw 0]) (fun F7 => [rNic 68 g1 F7 (linkF A false), rBlk b3 [iw ((linkF A false).r 0), iw ((linkF A false).r 1), iw ((linkF A false).r 2), iw 0, iw 0, iw 0, iw 0, iw 0] 44]) (fun F7 => True) rfl rfl co18 rfl rfl rfl (lt_b rfl) (fun w hI => (p_read_k (link_ok hk false) (nic_at hI (i := 0) rfl) 3 rfl (by decide) (by decide)).mono fun e w2 ⟨h1, h2⟩ => by obtain ⟨F2, h3⟩ := hI.nicTo (i := 0) rfl (.inr hg1) h2; exact ⟨F2, h1, h3, trivial⟩) ?_
    intro F7 _
    refine SL.ru rfl rfl (lt_b rfl) (ru_move rfl rfl) ?_
    refine SL.ru rfl rfl (lt_b rfl) (ru_extract rfl rfl rfl) ?_
    refine SL.ru rfl rfl (lt_b rfl) (ru_extract rfl rfl rfl) ?_
    refine SL.ru rfl rfl (lt_b rfl) (ru_assign rfl rfl) ?_
    refine SL.ru rfl rfl (lt_b rfl) (ru_assign rfl rfl) ?_
    refine SL.nil ?_
    refine SC.of_SE ?_
    refine SC.norm [(2, Value.slice fa0 f0.length fc0), (6, bo false), (8, pt g1 0), (10, pt b3 0), (11, iw 3), (12, iw ((linkF A false).r 3))] [rNic 68 g1 F7 (linkF A false), rBlk b3 [iw ((linkF A false).r 0), iw ((linkF A false).r 1), iw ((linkF A false).r 2), iw 0, iw 0, iw 0, iw 0, iw 0] 44] ⟨rfl, rfl, rfl, rfl, rfl, rfl, trivial⟩ rfl ?_
    refine SC.region ?_
    refine SL.ru rfl rfl (lt_b rfl) (ru_move rfl rfl) ?_
    refine SL.ru rfl rfl (lt_b rfl) (ru_move rfl rfl) ?_
    refine SL.ru rfl rfl (lt_b rfl) (ru_indexA (o2 := 3) ar44 rfl rfl rfl (by decide) (by decide) rfl) ?_
    refine SL.store (i := 1) (c' := [iw ((linkF A false).r 0), iw ((linkF A false).r 1), iw ((linkF A false).r 2), iw ((linkF A false).r 3), iw 0, iw 0, iw 0, iw 0]) rfl rfl ts3 rfl rfl rfl rfl rfl (lt_b rfl) (.inr hb3) rfl ?_
    refine SL.nil ?_
    refine SE.blkn ?_
    refine SC.of_SE ?_
    refine SC.norm [(2, Value.slice fa0 f0.length fc0), (6, bo false), (8, pt g1 0), (10, pt b3 0), (11, iw 3)] [rNic 68 g1 F7 (linkF A false), rBlk b3 [iw ((linkF A false).r 0), iw ((linkF A false).r 1), iw ((linkF A false).r 2), iw ((linkF A false).r 3), iw 0, iw 0, iw 0, iw 0] 44] ⟨rfl, rfl, rfl, rfl, rfl, trivial⟩ rfl ?_
    refine SC.region ?_
    refine SL.ru rfl rfl (lt_b rfl) (ru_move rfl rfl) ?_
    refine SL.ru rfl rfl (lt_b rfl) (ru_add (r := 4) rfl rfl rfl rfl) ?_
    refine SL.ru rfl rfl (lt_b rfl) (ru_assign rfl rfl) ?_
    refine SL.nil ?_
    refine SE.round ?_
    refine SR.norm [(2, Value.slice fa0 f0.length fc0), (6, bo false), (8, pt g1 0), (10, pt b3 0), (11, iw 4)] [rNic 68 g1 F7 (linkF A false), rBlk b3 [iw ((linkF A false).r 0), iw ((linkF A false).r 1), iw ((linkF A false).r 2), iw ((linkF A false).r 3), iw 0, iw 0, iw 0, iw 0] 44] ⟨rfl, rfl, rfl, rfl, rfl, trivial⟩ rfl ?_
    refine SR.next ?_
    refine SC.seq ?_
    refine SC.seq ?_
    refine SC.region ?_
    refine SL.ru rfl rfl (lt_b rfl) (ru_move rfl rfl) ?_
    refine SL.ru rfl rfl (lt_b rfl) (ru_lt (b := true) rfl rfl rfl rfl) ?_
    refine SL.nil ?_
    refine SC.of_SE ?_
    refine SC.norm [(2, Value.slice fa0 f0.length fc0), (6, bo false), (8, pt g1 0), (10, pt b3 0), (11, iw 4), (46, bo true)] [rNic 68 g1 F7 (linkF A false), rBlk b3 [iw ((linkF A false).r 0), iw ((linkF A false).r 1), iw ((linkF A false).r 2), iw ((linkF A false).r 3), iw 0, iw 0, iw 0, iw 0] 44] ⟨rfl, rfl, rfl, rfl, rfl, rfl, trivial⟩ rfl ?_
    refine SC.yes rfl ?_
    refine SC.skip ?_
    refine SC.of_SE ?_
    refine SC.norm [(2, Value.slice fa0 f0.length fc0), (6, bo false), (8, pt g1 0), (10, pt b3 0), (11, iw 4)] [rNic 68 g1 F7 (linkF A false), rBlk b3 [iw ((linkF A false).r 0), iw ((linkF A false).r 1), iw ((linkF A false).r 2), iw ((linkF A false).r 3), iw 0, iw 0, iw 0, iw 0] 44] ⟨rfl, rfl, rfl, rfl, rfl, trivial⟩ rfl ?_
    refine SC.seq ?_
    refine SC.block ?_
    refine SC.seq ?_
    refine SC.region ?_
    refine SL.ru rfl rfl (lt_b rfl) (ru_move rfl rfl) ?_
    refine SL.ru rfl rfl (lt_b rfl) (ru_move rfl rfl) ?_
    refine SL.call (ζ := Nat → Prop) (fun F8 => Value.tuple #[iw ((linkF A false).r 4), iw 0]) (fun F8 => [rNic 68 g1 F8 (linkF A false), rBlk b3 [iw ((linkF A false).r 0), iw ((linkF A false).r 1), iw ((linkF A false).r 2), iw ((linkF A false).r 3), iw 0, iw 0, iw 0, iw 0] 44]) (fun F8 => True) rfl rfl co18 rfl rfl rfl (lt_b rfl) (fun w hI => (p_read_k (link_ok hk false) (nic_at hI (i := 0) rfl) 4 rfl (by decide) (by decide)).mono fun e w2 ⟨h1, h2⟩ => by obtain ⟨F2, h3⟩ := hI.nicTo (i := 0) rfl (.inr hg1) h2; exact ⟨F2, h1, h3, trivial⟩) ?_
    intro F8 _
    refine SL.ru rfl rfl (lt_b rfl) (ru_move rfl rfl) ?_
    refine SL.ru rfl rfl (lt_b rfl) (ru_extract rfl rfl rfl) ?_
    refine SL.ru rfl rfl (lt_b rfl) (ru_extract rfl rfl rfl) ?_
    refine SL.ru rfl rfl (lt_b rfl) (ru_assign rfl rfl) ?_
    refine SL.ru rfl rfl (lt_b rfl) (ru_assign rfl rfl) ?_
    refine SL.nil ?_
    refine SC.of_SE ?_
    refine SC.norm [(2, Value.slice fa0 f0.length fc0), (6, bo false), (8, pt g1 0), (10, pt b3 0), (11, iw 4), (12, iw ((linkF A false).r 4))] [rNic 68 g1 F8 (linkF A false), rBlk b3 [iw ((linkF A false).r 0), iw ((linkF A false).r 1), iw ((linkF A false).r 2), iw ((linkF A false).r 3), iw 0, iw 0, iw 0, iw 0] 44] ⟨rfl, rfl, rfl, rfl, rfl, rfl, trivial⟩ rfl ?_
    refine SC.region ?_
    refine SL.ru rfl rfl (lt_b rfl) (ru_move rfl rfl) ?_
    refine SL.ru rfl rfl (lt_b rfl) (ru_move rfl rfl) ?_
    refine SL.ru rfl rfl (lt_b rfl) (ru_indexA (o2 := 4) ar44 rfl rfl rfl (by decide) (by decide) rfl) ?_
    refine SL.store (i := 1) (c' := [iw ((linkF A false).r 0), iw ((linkF A false).r 1), iw ((linkF A false).r 2), iw ((linkF A false).r 3), iw ((linkF A false).r 4), iw 0, iw 0, iw 0]) rfl rfl ts3 rfl rfl rfl rfl rfl (lt_b rfl) (.inr hb3) rfl ?_
    refine SL.nil ?_
    refine SE.blkn ?_
    refine SC.of_SE ?_
    refine SC.norm [(2, Value.slice fa0 f0.length fc0), (6, bo false), (8, pt g1 0), (10, pt b3 0), (11, iw 4)] [rNic 68 g1 F8 (linkF A false), rBlk b3 [iw ((linkF A false).r 0), iw ((linkF A false).r 1), iw ((linkF A false).r 2), iw ((linkF A false).r 3), iw ((linkF A false).r 4), iw 0, iw 0, iw 0] 44] ⟨rfl, rfl, rfl, rfl, rfl, trivial⟩ rfl ?_
    refine SC.region ?_
    refine SL.ru rfl rfl (lt_b rfl) (ru_move rfl rfl) ?_
    refine SL.ru rfl rfl (lt_b rfl) (ru_add (r := 5) rfl rfl rfl rfl) ?_
    refine SL.ru rfl rfl (lt_b rfl) (ru_assign rfl rfl) ?_
    refine SL.nil ?_
    refine SE.round ?_
    refine SR.norm [(2, Value.slice fa0 f0.length fc0), (6, bo false), (8, pt g1 0), (10, pt b3 0), (11, iw 5)] [rNic 68 g1 F8 (linkF A false), rBlk b3 [iw ((linkF A false).r 0), iw ((linkF A false).r 1), iw ((linkF A false).r 2), iw ((linkF A false).r 3), iw ((linkF A false).r 4), iw 0, iw 0, iw 0] 44] ⟨rfl, rfl, rfl, rfl, rfl, trivial⟩ rfl ?_
    refine SR.next ?_
    refine SC.seq ?_
    refine SC.seq ?_
    refine SC.region ?_
    refine SL.ru rfl rfl (lt_b rfl) (ru_move rfl rfl) ?_
    refine SL.ru rfl rfl (lt_b rfl) (ru_lt (b := true) rfl rfl rfl rfl) ?_
    refine SL.nil ?_
    refine SC.of_SE ?_
    refine SC.norm [(2, Value.slice fa0 f0.length fc0), (6, bo false), (8, pt g1 0), (10, pt b3 0), (11, iw 5), (46, bo true)] [rNic 68 g1 F8 (linkF A false), rBlk b3 [iw ((linkF A false).r 0), iw ((linkF A false).r 1), iw ((linkF A false).r 2), iw ((linkF A false).r 3), iw ((linkF A false).r 4), iw 0, iw 0, iw 0] 44] ⟨rfl, rfl, rfl, rfl, rfl, rfl, trivial⟩ rfl ?_
    refine SC.yes rfl ?_
    refine SC.skip ?_
    refine SC.of_SE ?_
    refine SC.norm [(2, Value.slice fa0 f0.length fc0), (6, bo false), (8, pt g1 0), (10, pt b3 0), (11, iw 5)] [rNic 68 g1 F8 (linkF A false), rBlk b3 [iw ((linkF A false).r 0), iw ((linkF A false).r 1), iw ((linkF A false).r 2), iw ((linkF A false).r 3), iw ((linkF A false).r 4), iw 0, iw 0, iw 0] 44] ⟨rfl, rfl, rfl, rfl, rfl, trivial⟩ rfl ?_
    refine SC.seq ?_
    refine SC.block ?_
    refine SC.seq ?_
    refine SC.region ?_
    refine SL.ru rfl rfl (lt_b rfl) (ru_move rfl rfl) ?_
    refine SL.ru rfl rfl (lt_b rfl) (ru_move rfl rfl) ?_
    refine SL.call (ζ := Nat → Prop) (fun F9 => Value.tuple #[iw ((linkF A false).r 5), iw 0]) (fun F9 => [rNic 68 g1 F9 (linkF A false), rBlk b3 [iw ((linkF A false).r 0), iw ((linkF A false).r 1), iw ((linkF A false).r 2), iw ((linkF A false).r 3), iw ((linkF A false).r 4), iw 0, iw 0, iw 0] 44]) (fun F9 => True) rfl rfl co18 rfl rfl rfl (lt_b rfl) (fun w hI => (p_read_k (link_ok hk false) (nic_at hI (i := 0) rfl) 5 rfl (by decide) (by decide)).mono fun e w2 ⟨h1, h2⟩ => by obtain ⟨F2, h3⟩ := hI.nicTo (i := 0) rfl (.inr hg1) h2; exact ⟨F2, h1, h3, trivial⟩) ?_
    intro F9 _
    refine SL.ru rfl rfl (lt_b rfl) (ru_move rfl rfl) ?_
    refine SL.ru rfl rfl (lt_b rfl) (ru_extract rfl rfl rfl) ?_
    refine SL.ru rfl rfl (lt_b rfl) (ru_extract rfl rfl rfl) ?_
    refine SL.ru rfl rfl (lt_b rfl) (ru_assign rfl rfl) ?_
    refine SL.ru rfl rfl (lt_b rfl) (ru_assign rfl rfl) ?_
    refine SL.nil ?_
    refine SC.of_SE ?_
    refine SC.norm [(2, Value.slice fa0 f0.length fc0), (6, bo false), (8, pt g1 0), (10, pt b3 0), (11, iw 5), (12, iw ((linkF A false).r 5))] [rNic 68 g1 F9 (linkF A false), rBlk b3 [iw ((linkF A false).r 0), iw ((linkF A false).r 1), iw ((linkF A false).r 2), iw ((linkF A false).r 3), iw ((linkF A false).r 4), iw 0, iw 0, iw 0] 44] ⟨rfl, rfl, rfl, rfl, rfl, rfl, trivial⟩ rfl ?_
    refine SC.region ?_
    refine SL.ru rfl rfl (lt_b rfl) (ru_move rfl rfl) ?_
    refine SL.ru rfl rfl (lt_b rfl) (ru_move rfl rfl) ?_
    refine SL.ru rfl rfl (lt_b rfl) (ru_indexA (o2 := 5) ar44 rfl rfl rfl (by decide) (by decide) rfl) ?_
    refine SL.store (i := 1) (c' := [iw ((linkF A false).r 0), iw ((linkF A false).r 1), iw ((linkF A false).r 2), iw ((linkF A false).r 3), iw ((linkF A false).r 4), iw ((linkF A false).r 5), iw 0, iw 0]) rfl rfl ts3 rfl rfl rfl rfl rfl (lt_b rfl) (.inr hb3) rfl ?_
    refine SL.nil ?_
    refine SE.blkn ?_
    refine SC.of_SE ?_
    refine SC.norm [(2, Value.slice fa0 f0.length fc0), (6, bo false), (8, pt g1 0), (10, pt b3 0), (11, iw 5)] [rNic 68 g1 F9 (linkF A false), rBlk b3 [iw ((linkF A false).r 0), iw ((linkF A false).r 1), iw ((linkF A false).r 2), iw ((linkF A false).r 3), iw ((linkF A false).r 4), iw ((linkF A false).r 5), iw 0, iw 0] 44] ⟨rfl, rfl, rfl, rfl, rfl, trivial⟩ rfl ?_
    refine SC.region ?_
    refine SL.ru rfl rfl (lt_b rfl) (ru_move rfl rfl) ?_
    refine SL.ru rfl rfl (lt_b rfl) (ru_add (r := 6) rfl rfl rfl rfl) ?_
    refine SL.ru rfl rfl (lt_b rfl) (ru_assign rfl rfl) ?_
    refine SL.nil ?_
    refine SE.round ?_
    refine SR.norm [(2, Value.slice fa0 f0.length fc0), (6, bo false), (8, pt g1 0), (10, pt b3 0), (11, iw 6)] [rNic 68 g1 F9 (linkF A false), rBlk b3 [iw ((linkF A false).r 0), iw ((linkF A false).r 1), iw ((linkF A false).r 2), iw ((linkF A false).r 3), iw ((linkF A false).r 4), iw ((linkF A false).r 5), iw 0, iw 0] 44] ⟨rfl, rfl, rfl, rfl, rfl, trivial⟩ rfl ?_
    refine SR.next ?_
    refine SC.seq ?_
    refine SC.seq ?_
    refine SC.region ?_
    refine SL.ru rfl rfl (lt_b rfl) (ru_move rfl rfl) ?_
    refine SL.ru rfl rfl (lt_b rfl) (ru_lt (b := true) rfl rfl rfl rfl) ?_
    refine SL.nil ?_
    refine SC.of_SE ?_
    refine SC.norm [(2, Value.slice fa0 f0.length fc0), (6, bo false), (8, pt g1 0), (10, pt b3 0), (11, iw 6), (46, bo true)] [rNic 68 g1 F9 (linkF A false), rBlk b3 [iw ((linkF A false).r 0), iw ((linkF A false).r 1), iw ((linkF A false).r 2), iw ((linkF A false).r 3), iw ((linkF A false).r 4), iw ((linkF A false).r 5), iw 0, iw 0] 44] ⟨rfl, rfl, rfl, rfl, rfl, rfl, trivial⟩ rfl ?_
    refine SC.yes rfl ?_
    refine SC.skip ?_
    refine SC.of_SE ?_
    refine SC.norm [(2, Value.slice fa0 f0.length fc0), (6, bo false), (8, pt g1 0), (10, pt b3 0), (11, iw 6)] [rNic 68 g1 F9 (linkF A false), rBlk b3 [iw ((linkF A false).r 0), iw ((linkF A false).r 1), iw ((linkF A false).r 2), iw ((linkF A false).r 3), iw ((linkF A false).r 4), iw ((linkF A false).r 5), iw 0, iw 0] 44] ⟨rfl, rfl, rfl, rfl, rfl, trivial⟩ rfl ?_
    refine SC.seq ?_
    refine SC.block ?_
    refine SC.seq ?_
    refine SC.region ?_
    refine SL.ru rfl rfl (lt_b rfl) (ru_move rfl rfl) ?_
    refine SL.ru rfl rfl (lt_b rfl) (ru_move rfl rfl) ?_
    refine SL.call (ζ := Nat → Prop) (fun F10 => Value.tuple #[iw ((linkF A false).r 6), iw 0]) (fun F10 => [rNic 68 g1 F10 ({ linkF A false with r := up (linkF A false).r 6 0 }), rBlk b3 [iw ((linkF A false).r 0), iw ((linkF A false).r 1), iw ((linkF A false).r 2), iw ((linkF A false).r 3), iw ((linkF A false).r 4), iw ((linkF A false).r 5), iw 0, iw 0] 44]) (fun F10 => True) rfl rfl co18 rfl rfl rfl (lt_b rfl) (fun w hI => (p_read_6 (link_ok hk false) (nic_at hI (i := 0) rfl)).mono fun e w2 ⟨h1, h2⟩ => by obtain ⟨F2, h3⟩ := hI.nicTo (i := 0) rfl (.inr hg1) h2; exact ⟨F2, h1, h3, trivial⟩) ?_
    intro F10 _
    refine SL.ru rfl rfl (lt_b rfl) (ru_move rfl rfl) ?_
    refine SL.ru rfl rfl (lt_b rfl) (ru_extract rfl rfl rfl) ?_
    refine SL.ru rfl rfl (lt_b rfl) (ru_extract rfl rfl rfl) ?_
    refine SL.ru rfl rfl (lt_b rfl) (ru_assign rfl rfl) ?_
    refine SL.ru rfl rfl (lt_b rfl) (ru_assign rfl rfl) ?_
    refine SL.nil ?_
    refine SC.of_SE ?_
    refine SC.norm [(2, Value.slice fa0 f0.length fc0), (6, bo false), (8, pt g1 0), (10, pt b3 0), (11, iw 6), (12, iw ((linkF A false).r 6))] [rNic 68 g1 F10 ({ linkF A false with r := up (linkF A false).r 6 0 }), rBlk b3 [iw ((linkF A false).r 0), iw ((linkF A false).r 1), iw ((linkF A false).r 2), iw ((linkF A false).r 3), iw ((linkF A false).r 4), iw ((linkF A false).r 5), iw 0, iw 0] 44] ⟨rfl, rfl, rfl, rfl, rfl, rfl, trivial⟩ rfl ?_
    refine SC.region ?_
    refine SL.ru rfl rfl (lt_b rfl) (ru_move rfl rfl) ?_
    refine SL.ru rfl rfl (lt_b rfl) (ru_move rfl rfl) ?_
    refine SL.ru rfl rfl (lt_b rfl) (ru_indexA (o2 := 6) ar44 rfl rfl rfl (by decide) (by decide) rfl) ?_
    refine SL.store (i := 1) (c' := [iw ((linkF A false).r 0), iw ((linkF A false).r 1), iw ((linkF A false).r 2), iw ((linkF A false).r 3), iw ((linkF A false).r 4), iw ((linkF A false).r 5), iw ((linkF A false).r 6), iw 0]) rfl rfl ts3 rfl rfl rfl rfl rfl (lt_b rfl) (.inr hb3) rfl ?_
    refine SL.nil ?_
    refine SE.blkn ?_
    refine SC.of_SE ?_
    refine SC.norm [(2, Value.slice fa0 f0.length fc0), (6, bo false), (8, pt g1 0), (10, pt b3 0), (11, iw 6)] [rNic 68 g1 F10 ({ linkF A false with r := up (linkF A false).r 6 0 }), rBlk b3 [iw ((linkF A false).r 0), iw ((linkF A false).r 1), iw ((linkF A false).r 2), iw ((linkF A false).r 3), iw ((linkF A false).r 4), iw ((linkF A false).r 5), iw ((linkF A false).r 6), iw 0] 44] ⟨rfl, rfl, rfl, rfl, rfl, trivial⟩ rfl ?_
    refine SC.region ?_
    refine SL.ru rfl rfl (lt_b rfl) (ru_move rfl rfl) ?_
    refine SL.ru rfl rfl (lt_b rfl) (ru_add (r := 7) rfl rfl rfl rfl) ?_
    refine SL.ru rfl rfl (lt_b rfl) (ru_assign rfl rfl) ?_
    refine SL.nil ?_
    refine SE.round ?_
    refine SR.norm [(2, Value.slice fa0 f0.length fc0), (6, bo false), (8, pt g1 0), (10, pt b3 0), (11, iw 7)] [rNic 68 g1 F10 ({ linkF A false with r := up (linkF A false).r 6 0 }), rBlk b3 [iw ((linkF A false).r 0), iw ((linkF A false).r 1), iw ((linkF A false).r 2), iw ((linkF A false).r 3), iw ((linkF A false).r 4), iw ((linkF A false).r 5), iw ((linkF A false).r 6), iw 0] 44] ⟨rfl, rfl, rfl, rfl, rfl, trivial⟩ rfl ?_
    refine SR.next ?_
    refine SC.seq ?_
    refine SC.seq ?_
    refine SC.region ?_
    refine SL.ru rfl rfl (lt_b rfl) (ru_move rfl rfl) ?_
    refine SL.ru rfl rfl (lt_b rfl) (ru_lt (b := true) rfl rfl rfl rfl) ?_
    refine SL.nil ?_
    refine SC.of_SE ?_
    refine SC.norm [(2, Value.slice fa0 f0.length fc0), (6, bo false), (8, pt g1 0), (10, pt b3 0), (11, iw 7), (46, bo true)] [rNic 68 g1 F10 ({ linkF A false with r := up (linkF A false).r 6 0 }), rBlk b3 [iw ((linkF A false).r 0), iw ((linkF A false).r 1), iw ((linkF A false).r 2), iw ((linkF A false).r 3), iw ((linkF A false).r 4), iw ((linkF A false).r 5), iw ((linkF A false).r 6), iw 0] 44] ⟨rfl, rfl, rfl, rfl, rfl, rfl, trivial⟩ rfl ?_
    refine SC.yes rfl ?_
    refine SC.skip ?_
    refine SC.of_SE ?_
    refine SC.norm [(2, Value.slice fa0 f0.length fc0), (6, bo false), (8, pt g1 0), (10, pt b3 0), (11, iw 7)] [rNic 68 g1 F10 ({ linkF A false with r := up (linkF A false).r 6 0 }), rBlk b3 [iw ((linkF A false).r 0), iw ((linkF A false).r 1), iw ((linkF A false).r 2), iw ((linkF A false).r 3), iw ((linkF A false).r 4), iw ((linkF A false).r 5), iw ((linkF A false).r 6), iw 0] 44] ⟨rfl, rfl, rfl, rfl, rfl, trivial⟩ rfl ?_
    refine SC.seq ?_
    refine SC.block ?_
    refine SC.seq ?_
    refine SC.region ?_
    refine SL.ru rfl rfl (lt_b rfl) (ru_move rfl rfl) ?_
    refine SL.ru rfl rfl (lt_b rfl) (ru_move rfl rfl) ?_
    refine SL.call (ζ := Nat → Prop) (fun F11 => Value.tuple #[iw (({ linkF A false with r := up (linkF A false).r 6 0 }).r 7), iw 0]) (fun F11 => [rNic 68 g1 F11 ({ linkF A false with r := up (linkF A false).r 6 0 }), rBlk b3 [iw ((linkF A false).r 0), iw ((linkF A false).r 1), iw ((linkF A false).r 2), iw ((linkF A false).r 3), iw ((linkF A false).r 4), iw ((linkF A false).r 5), iw ((linkF A false).r 6), iw 0] 44]) (fun F11 => True) rfl rfl co18 rfl rfl rfl (lt_b rfl) (fun w hI => (p_read_k (read6_ok (link_ok hk false)) (nic_at hI (i := 0) rfl) 7 rfl (by decide) (by decide)).mono fun e w2 ⟨h1, h2⟩ => by obtain ⟨F2, h3⟩ := hI.nicTo (i := 0) rfl (.inr hg1) h2; exact ⟨F2, h1, h3, trivial⟩) ?_
    intro F11 _
    refine SL.ru rfl rfl (lt_b rfl) (ru_move rfl rfl) ?_
    refine SL.ru rfl rfl (lt_b rfl) (ru_extract rfl rfl rfl) ?_
    refine SL.ru rfl rfl (lt_b rfl) (ru_extract rfl rfl rfl) ?_
    refine SL.ru rfl rfl (lt_b rfl) (ru_assign rfl rfl) ?_
    refine SL.ru rfl rfl (lt_b rfl) (ru_assign rfl rfl) ?_
    refine SL.nil ?_
    refine SC.of_SE ?_
    refine SC.norm [(2, Value.slice fa0 f0.length fc0), (6, bo false), (8, pt g1 0), (10, pt b3 0), (11, iw 7), (12, iw (({ linkF A false with r := up (linkF A false).r 6 0 }).r 7))] [rNic 68 g1 F11 ({ linkF A false with r := up (linkF A false).r 6 0 }), rBlk b3 [iw ((linkF A false).r 0), iw ((linkF A false).r 1), iw ((linkF A false).r 2), iw ((linkF A false).r 3), iw ((linkF A false).r 4), iw ((linkF A false).r 5), iw ((linkF A false).r 6), iw 0] 44] ⟨rfl, rfl, rfl, rfl, rfl, rfl, trivial⟩ rfl ?_
    refine SC.region ?_
    refine SL.ru rfl rfl (lt_b rfl) (ru_move rfl rfl) ?_
    refine SL.ru rfl rfl (lt_b rfl) (ru_move rfl rfl) ?_
    refine SL.ru rfl rfl (lt_b rfl) (ru_indexA (o2 := 7) ar44 rfl rfl rfl (by decide) (by decide) rfl) ?_
    refine SL.store (i := 1) (c' := [iw ((linkF A false).r 0), iw ((linkF A false).r 1), iw ((linkF A false).r 2), iw ((linkF A false).r 3), iw ((linkF A false).r 4), iw ((linkF A false).r 5), iw ((linkF A false).r 6), iw (({ linkF A false with r := up (linkF A false).r 6 0 }).r 7)]) rfl rfl ts3 rfl rfl rfl rfl rfl (lt_b rfl) (.inr hb3) rfl ?_
    refine SL.nil ?_
    refine SE.blkn ?_
    refine SC.of_SE ?_
    refine SC.norm [(2, Value.slice fa0 f0.length fc0), (6, bo false), (8, pt g1 0), (10, pt b3 0), (11, iw 7)] [rNic 68 g1 F11 ({ linkF A false with r := up (linkF A false).r 6 0 }), rBlk b3 [iw ((linkF A false).r 0), iw ((linkF A false).r 1), iw ((linkF A false).r 2), iw ((linkF A false).r 3), iw ((linkF A false).r 4), iw ((linkF A false).r 5), iw ((linkF A false).r 6), iw (({ linkF A false with r := up (linkF A false).r 6 0 }).r 7)] 44] ⟨rfl, rfl, rfl, rfl, rfl, trivial⟩ rfl ?_
    refine SC.region ?_
    refine SL.ru rfl rfl (lt_b rfl) (ru_move rfl rfl) ?_
    refine SL.ru rfl rfl (lt_b rfl) (ru_add (r := 8) rfl rfl rfl rfl) ?_
    refine SL.ru rfl rfl (lt_b rfl) (ru_assign rfl rfl) ?_
    refine SL.nil ?_
    refine SE.round ?_
    refine SR.norm [(2, Value.slice fa0 f0.length fc0), (6, bo false), (8, pt g1 0), (10, pt b3 0), (11, iw 8)] [rNic 68 g1 F11 ({ linkF A false with r := up (linkF A false).r 6 0 }), rBlk b3 [iw ((linkF A false).r 0), iw ((linkF A false).r 1), iw ((linkF A false).r 2), iw ((linkF A false).r 3), iw ((linkF A false).r 4), iw ((linkF A false).r 5), iw ((linkF A false).r 6), iw (({ linkF A false with r := up (linkF A false).r 6 0 }).r 7)] 44] ⟨rfl, rfl, rfl, rfl, rfl, trivial⟩ rfl ?_
    refine SR.next ?_
    refine SC.seq ?_
    refine SC.seq ?_
    refine SC.region ?_
    refine SL.ru rfl rfl (lt_b rfl) (ru_move rfl rfl) ?_
    refine SL.ru rfl rfl (lt_b rfl) (ru_lt (b := false) rfl rfl rfl rfl) ?_
    refine SL.nil ?_
    refine SC.of_SE ?_
    refine SC.norm [(2, Value.slice fa0 f0.length fc0), (6, bo false), (8, pt g1 0), (10, pt b3 0), (11, iw 8), (46, bo false)] [rNic 68 g1 F11 ({ linkF A false with r := up (linkF A false).r 6 0 }), rBlk b3 [iw ((linkF A false).r 0), iw ((linkF A false).r 1), iw ((linkF A false).r 2), iw ((linkF A false).r 3), iw ((linkF A false).r 4), iw ((linkF A false).r 5), iw ((linkF A false).r 6), iw (({ linkF A false with r := up (linkF A false).r 6 0 }).r 7)] 44] ⟨rfl, rfl, rfl, rfl, rfl, rfl, trivial⟩ rfl ?_
    refine SC.no rfl ?_
    refine SC.exit ?_
    refine SE.passe ?_
    refine SE.passe ?_
    refine SE.blke ?_
    refine SC.of_SE ?_
    refine SC.norm [(2, Value.slice fa0 f0.length fc0), (6, bo false), (8, pt g1 0), (10, pt b3 0)] [rNic 68 g1 F11 ({ linkF A false with r := up (linkF A false).r 6 0 }), rBlk b3 [iw ((linkF A false).r 0), iw ((linkF A false).r 1), iw ((linkF A false).r 2), iw ((linkF A false).r 3), iw ((linkF A false).r 4), iw ((linkF A false).r 5), iw ((linkF A false).r 6), iw (({ linkF A false with r := up (linkF A false).r 6 0 }).r 7)] 44] ⟨rfl, rfl, rfl, rfl, trivial⟩ rfl ?_
    refine SC.seq ?_
    refine SC.region ?_
    refine SL.ru rfl rfl (lt_b rfl) (ru_move rfl rfl) ?_
    refine SL.call (ζ := Option Addr × Nat) (fun z => Value.tuple #[Value.agg #[Value.slice z.1 (([] : List UInt8).length) z.2, bo false, iw 0], iw 20]) (fun z => [rNic 68 g1 F11 ({ linkF A false with r := up (linkF A false).r 6 0 }), rBlk b3 [iw ((linkF A false).r 0), iw ((linkF A false).r 1), iw ((linkF A false).r 2), iw ((linkF A false).r 3), iw ((linkF A false).r 4), iw ((linkF A false).r 5), iw ((linkF A false).r 6), iw (({ linkF A false with r := up (linkF A false).r 6 0 }).r 7)] 44, rMine (.slice z.1 ([] : List UInt8).length z.2) ([] : List UInt8) 5]) (fun z => ∀ b, (Value.slice z.1 ([] : List UInt8).length z.2).ownBlock = some b → w.heap.size ≤ b) rfl rfl co11 rfl rfl rfl (lt_b rfl) (fun w hI => (p_take_off (read6_ok (link_ok hk false)) (nic_at hI (i := 0) rfl) (off_link (A := A))).mono fun e w2 ⟨v, h1, h2, h3, h4⟩ => by obtain ⟨qa, qc, rfl, k1, k2⟩ := hI.took (i := 0) rfl (.inr hg1) (by simp) h2 h3 h4; exact ⟨(qa, qc), h1, k1, k2⟩) ?_
    rintro ⟨a12, c13⟩ hq14
    refine SL.ru rfl rfl (lt_b rfl) (ru_move rfl rfl) ?_
    refine SL.ru rfl rfl (lt_b rfl) (ru_extract rfl rfl rfl) ?_
    refine SL.ru rfl rfl (lt_b rfl) (ru_extract rfl rfl rfl) ?_
    refine SL.alloca rfl rfl (lt_b rfl) ta35 rfl fun b15 hb15 => ?_
    refine SL.storea (i := 3) (vs := [Value.slice a12 (([] : List UInt8).length) c13, bo false, iw 0]) (c' := [Value.slice a12 (([] : List UInt8).length) c13, bo false, iw 0]) rfl rfl ta35 rfl rfl rfl rfl rfl rfl (le_b rfl) (.inr hb15) rfl ?_
    refine SL.ru rfl rfl (lt_b rfl) (ru_assign rfl rfl) ?_
    refine SL.nil ?_
    refine SC.of_SE ?_
    refine SC.norm [(2, Value.slice fa0 f0.length fc0), (6, bo false), (8, pt g1 0), (10, pt b3 0), (15, iw 20)] [rNic 68 g1 F11 ({ linkF A false with r := up (linkF A false).r 6 0 }), rBlk b3 [iw ((linkF A false).r 0), iw ((linkF A false).r 1), iw ((linkF A false).r 2), iw ((linkF A false).r 3), iw ((linkF A false).r 4), iw ((linkF A false).r 5), iw ((linkF A false).r 6), iw (({ linkF A false with r := up (linkF A false).r 6 0 }).r 7)] 44, rMine (.slice a12 ([] : List UInt8).length c13) ([] : List UInt8) 5, rBlk b15 [Value.slice a12 (([] : List UInt8).length) c13, bo false, iw 0] 35] ⟨rfl, rfl, rfl, rfl, rfl, trivial⟩ rfl ?_
    refine SC.seq ?_
    refine SC.region ?_
    refine SL.ru rfl rfl (lt_b rfl) (ru_move rfl rfl) ?_
    refine SL.ru rfl rfl (lt_b rfl) (ru_move rfl rfl) ?_
    refine SL.call (ζ := Nat → Prop) (fun F16 => iw 20) (fun F16 => [rNic 68 g1 F16 ({ linkF A false with r := up (linkF A false).r 6 0 }), rBlk b3 [iw ((linkF A false).r 0), iw ((linkF A false).r 1), iw ((linkF A false).r 2), iw ((linkF A false).r 3), iw ((linkF A false).r 4), iw ((linkF A false).r 5), iw ((linkF A false).r 6), iw (({ linkF A false with r := up (linkF A false).r 6 0 }).r 7)] 44, rMine (.slice a12 ([] : List UInt8).length c13) ([] : List UInt8) 5, rBlk b15 [Value.slice a12 (([] : List UInt8).length) c13, bo false, iw 0] 35]) (fun F16 => True) rfl rfl co14 rfl rfl rfl (lt_b rfl) (fun w hI => (p_give_off (read6_ok (link_ok hk false)) (nic_at hI (i := 0) rfl) (off_link (A := A)) (hb0.only hI.2 (fun _ _ _ _ _ _ h => h)) (fun b o n c e hn h => by have := hs0 b o n c e hn; subst h; omega) false).mono fun e w2 ⟨h1, h2⟩ => by obtain ⟨F2, h3⟩ := hI.nicTo (i := 0) rfl (.inr hg1) h2; exact ⟨F2, h1, h3, trivial⟩) ?_
    intro F16 _
    refine SL.ru rfl rfl (lt_b rfl) (ru_assign rfl rfl) ?_
    refine SL.nil ?_
    refine SC.of_SE ?_
    refine SC.norm [(6, bo false), (8, pt g1 0), (10, pt b3 0), (15, iw 20), (16, iw 20)] [rNic 68 g1 F16 ({ linkF A false with r := up (linkF A false).r 6 0 }), rBlk b3 [iw ((linkF A false).r 0), iw ((linkF A false).r 1), iw ((linkF A false).r 2), iw ((linkF A false).r 3), iw ((linkF A false).r 4), iw ((linkF A false).r 5), iw ((linkF A false).r 6), iw (({ linkF A false with r := up (linkF A false).r 6 0 }).r 7)] 44, rMine (.slice a12 ([] : List UInt8).length c13) ([] : List UInt8) 5, rBlk b15 [Value.slice a12 (([] : List UInt8).length) c13, bo false, iw 0] 35] ⟨rfl, rfl, rfl, rfl, rfl, trivial⟩ rfl ?_
    refine SC.seq ?_
    refine SC.seq ?_
    refine SC.region ?_
    refine SL.ru rfl rfl (lt_b rfl) (ru_move rfl rfl) ?_
    refine SL.ru rfl rfl (lt_b rfl) (ru_ne (b := false) rfl rfl rfl rfl) ?_
    refine SL.ru rfl rfl (lt_b rfl) (ru_move rfl rfl) ?_
    refine SL.rug rfl rfl rfl rfl (lt_b rfl) (ru_move rfl rfl) ?_
    refine SL.rug rfl rfl rfl rfl (lt_b rfl) (ru_ne (b := false) rfl rfl rfl rfl) ?_
    refine SL.ru rfl rfl (lt_b rfl) (ru_pick (u := bo true) (v := bo false) rfl rfl rfl rfl) ?_
    refine SL.nil ?_
    refine SC.of_SE ?_
    refine SC.norm [(6, bo false), (8, pt g1 0), (10, pt b3 0), (71, bo false)] [rNic 68 g1 F16 ({ linkF A false with r := up (linkF A false).r 6 0 }), rBlk b3 [iw ((linkF A false).r 0), iw ((linkF A false).r 1), iw ((linkF A false).r 2), iw ((linkF A false).r 3), iw ((linkF A false).r 4), iw ((linkF A false).r 5), iw ((linkF A false).r 6), iw (({ linkF A false with r := up (linkF A false).r 6 0 }).r 7)] 44, rMine (.slice a12 ([] : List UInt8).length c13) ([] : List UInt8) 5, rBlk b15 [Value.slice a12 (([] : List UInt8).length) c13, bo false, iw 0] 35] ⟨rfl, rfl, rfl, rfl, trivial⟩ rfl ?_
    refine SC.no rfl ?_
    refine SC.skip ?_
    refine SC.of_SE ?_
    refine SC.norm [(6, bo false), (8, pt g1 0), (10, pt b3 0)] [rNic 68 g1 F16 ({ linkF A false with r := up (linkF A false).r 6 0 }), rBlk b3 [iw ((linkF A false).r 0), iw ((linkF A false).r 1), iw ((linkF A false).r 2), iw ((linkF A false).r 3), iw ((linkF A false).r 4), iw ((linkF A false).r 5), iw ((linkF A false).r 6), iw (({ linkF A false with r := up (linkF A false).r 6 0 }).r 7)] 44, rMine (.slice a12 ([] : List UInt8).length c13) ([] : List UInt8) 5, rBlk b15 [Value.slice a12 (([] : List UInt8).length) c13, bo false, iw 0] 35] ⟨rfl, rfl, rfl, trivial⟩ rfl ?_
    refine SC.seq ?_
    refine SC.seq ?_
    refine SC.region ?_
    refine SL.ru rfl rfl (lt_b rfl) (ru_assign rfl rfl) ?_
    refine SL.nil ?_
    refine SC.of_SE ?_
    refine SC.norm [(6, bo false), (8, pt g1 0), (10, pt b3 0), (17, iw 0)] [rNic 68 g1 F16 ({ linkF A false with r := up (linkF A false).r 6 0 }), rBlk b3 [iw ((linkF A false).r 0), iw ((linkF A false).r 1), iw ((linkF A false).r 2), iw ((linkF A false).r 3), iw ((linkF A false).r 4), iw ((linkF A false).r 5), iw ((linkF A false).r 6), iw (({ linkF A false with r := up (linkF A false).r 6 0 }).r 7)] 44, rMine (.slice a12 ([] : List UInt8).length c13) ([] : List UInt8) 5, rBlk b15 [Value.slice a12 (([] : List UInt8).length) c13, bo false, iw 0] 35] ⟨rfl, rfl, rfl, rfl, trivial⟩ rfl ?_
    refine SC.block ?_
    refine SC.rounds 9 ?_
    refine SR.norm [(6, bo false), (8, pt g1 0), (10, pt b3 0), (17, iw 0)] [rNic 68 g1 F16 ({ linkF A false with r := up (linkF A false).r 6 0 }), rBlk b3 [iw ((linkF A false).r 0), iw ((linkF A false).r 1), iw ((linkF A false).r 2), iw ((linkF A false).r 3), iw ((linkF A false).r 4), iw ((linkF A false).r 5), iw ((linkF A false).r 6), iw (({ linkF A false with r := up (linkF A false).r 6 0 }).r 7)] 44, rMine (.slice a12 ([] : List UInt8).length c13) ([] : List UInt8) 5, rBlk b15 [Value.slice a12 (([] : List UInt8).length) c13, bo false, iw 0] 35] ⟨rfl, rfl, rfl, rfl, trivial⟩ rfl ?_
    refine SR.next ?_
    refine SC.seq ?_
    refine SC.seq ?_
    refine SC.region ?_
    refine SL.ru rfl rfl (lt_b rfl) (ru_move rfl rfl) ?_
    refine SL.ru rfl rfl (lt_b rfl) (ru_lt (b := true) rfl rfl rfl rfl) ?_
    refine SL.nil ?_
    refine SC.of_SE ?_
    refine SC.norm [(6, bo false), (8, pt g1 0), (10, pt b3 0), (17, iw 0), (73, bo true)] [rNic 68 g1 F16 ({ linkF A false with r := up (linkF A false).r 6 0 }), rBlk b3 [iw ((linkF A false).r 0), iw ((linkF A false).r 1), iw ((linkF A false).r 2), iw ((linkF A false).r 3), iw ((linkF A false).r 4), iw ((linkF A false).r 5), iw ((linkF A false).r 6), iw (({ linkF A false with r := up (linkF A false).r 6 0 }).r 7)] 44, rMine (.slice a12 ([] : List UInt8).length c13) ([] : List UInt8) 5, rBlk b15 [Value.slice a12 (([] : List UInt8).length) c13, bo false, iw 0] 35] ⟨rfl, rfl, rfl, rfl, rfl, trivial⟩ rfl ?_
    refine SC.yes rfl ?_
    refine SC.skip ?_
    refine SC.of_SE ?_
    refine SC.norm [(6, bo false), (8, pt g1 0), (10, pt b3 0), (17, iw 0)] [rNic 68 g1 F16 ({ linkF A false with r := up (linkF A false).r 6 0 }), rBlk b3 [iw ((linkF A false).r 0), iw ((linkF A false).r 1), iw ((linkF A false).r 2), iw ((linkF A false).r 3), iw ((linkF A false).r 4), iw ((linkF A false).r 5), iw ((linkF A false).r 6), iw (({ linkF A false with r := up (linkF A false).r 6 0 }).r 7)] 44, rMine (.slice a12 ([] : List UInt8).length c13) ([] : List UInt8) 5, rBlk b15 [Value.slice a12 (([] : List UInt8).length) c13, bo false, iw 0] 35] ⟨rfl, rfl, rfl, rfl, trivial⟩ rfl ?_
    refine SC.seq ?_
    refine SC.block ?_
    refine SC.seq ?_
    refine SC.region ?_
    refine SL.ru rfl rfl (lt_b rfl) (ru_move rfl rfl) ?_
    refine SL.ru rfl rfl (lt_b rfl) (ru_move rfl rfl) ?_
    refine SL.call (ζ := Nat → Prop) (fun F17 => Value.tuple #[iw (({ linkF A false with r := up (linkF A false).r 6 0 }).r 0), iw 0]) (fun F17 => [rNic 68 g1 F17 ({ linkF A false with r := up (linkF A false).r 6 0 }), rBlk b3 [iw ((linkF A false).r 0), iw ((linkF A false).r 1), iw ((linkF A false).r 2), iw ((linkF A false).r 3), iw ((linkF A false).r 4), iw ((linkF A false).r 5), iw ((linkF A false).r 6), iw (({ linkF A false with r := up (linkF A false).r 6 0 }).r 7)] 44, rMine (.slice a12 ([] : List UInt8).length c13) ([] : List UInt8) 5, rBlk b15 [Value.slice a12 (([] : List UInt8).length) c13, bo false, iw 0] 35]) (fun F17 => True) rfl rfl co18 rfl rfl rfl (lt_b rfl) (fun w hI => (p_read_k (read6_ok (link_ok hk false)) (nic_at hI (i := 0) rfl) 0 rfl (by decide) (by decide)).mono fun e w2 ⟨h1, h2⟩ => by obtain ⟨F2, h3⟩ := hI.nicTo (i := 0) rfl (.inr hg1) h2; exact ⟨F2, h1, h3, trivial⟩) ?_
    intro F17 _
    refine SL.ru rfl rfl (lt_b rfl) (ru_move rfl rfl) ?_
    refine SL.ru rfl rfl (lt_b rfl) (ru_extract rfl rfl rfl) ?_
    refine SL.ru rfl rfl (lt_b rfl) (ru_extract rfl rfl rfl) ?_
    refine SL.ru rfl rfl (lt_b rfl) (ru_assign rfl rfl) ?_
    refine SL.ru rfl rfl (lt_b rfl) (ru_assign rfl rfl) ?_
    refine SL.nil ?_
    refine SC.of_SE ?_
    refine SC.norm [(6, bo false), (8, pt g1 0), (10, pt b3 0), (17, iw 0), (18, iw (({ linkF A false with r := up (linkF A false).r 6 0 }).r 0))] [rNic 68 g1 F17 ({ linkF A false with r := up (linkF A false).r 6 0 }), rBlk b3 [iw ((linkF A false).r 0), iw ((linkF A false).r 1), iw ((linkF A false).r 2), iw ((linkF A false).r 3), iw ((linkF A false).r 4), iw ((linkF A false).r 5), iw ((linkF A false).r 6), iw (({ linkF A false with r := up (linkF A false).r 6 0 }).r 7)] 44, rMine (.slice a12 ([] : List UInt8).length c13) ([] : List UInt8) 5, rBlk b15 [Value.slice a12 (([] : List UInt8).length) c13, bo false, iw 0] 35] ⟨rfl, rfl, rfl, rfl, rfl, trivial⟩ rfl ?_
    refine SC.seq ?_
    refine SC.region ?_
    refine SL.ru rfl rfl (lt_b rfl) (ru_move rfl rfl) ?_
    refine SL.ru rfl rfl (lt_b rfl) (ru_ne (b := true) rfl rfl rfl rfl) ?_
    refine SL.ru rfl rfl (lt_b rfl) (ru_move rfl rfl) ?_
    refine SL.rug rfl rfl rfl rfl (lt_b rfl) (ru_move rfl rfl) ?_
    refine SL.rug rfl rfl rfl rfl (lt_b rfl) (ru_move rfl rfl) ?_
    refine SL.rug rfl rfl rfl rfl (lt_b rfl) (ru_indexA (o2 := 0) ar44 rfl rfl rfl (by decide) (by decide) rfl) ?_
    refine SL.rug rfl rfl rfl rfl (lt_b rfl) (ru_load (i := 1) ts3 rfl rfl rfl rfl) ?_
    refine SL.rug rfl rfl rfl rfl (lt_b rfl) (ru_ne (b := false) rfl rfl rfl (bne_f rfl)) ?_
    refine SL.ru rfl rfl (lt_b rfl) (ru_pick (u := bo false) (v := bo false) rfl rfl rfl rfl) ?_
    refine SL.ru rfl rfl (lt_b rfl) (ru_move rfl rfl) ?_
    refine SL.rug rfl rfl rfl rfl (lt_b rfl) (ru_move rfl rfl) ?_
    refine SL.rug rfl rfl rfl rfl (lt_b rfl) (ru_eq (b := false) rfl rfl rfl rfl) ?_
    refine SL.rug rfl rfl rfl rfl (lt_b rfl) (ru_move rfl rfl) ?_
    refine SL.off (b := false) rfl rfl rfl rfl rfl (lt_b rfl) ?_
    refine SL.off (b := false) rfl rfl rfl rfl rfl (lt_b rfl) ?_
    refine SL.rug rfl rfl rfl rfl (lt_b rfl) (ru_pick (u := undef) (v := bo false) rfl rfl rfl rfl) ?_
    refine SL.ru rfl rfl (lt_b rfl) (ru_pick (u := bo true) (v := bo false) rfl rfl rfl rfl) ?_
    refine SL.nil ?_
    refine SC.of_SE ?_
    refine SC.norm [(6, bo false), (8, pt g1 0), (10, pt b3 0), (17, iw 0), (98, bo false)] [rNic 68 g1 F17 ({ linkF A false with r := up (linkF A false).r 6 0 }), rBlk b3 [iw ((linkF A false).r 0), iw ((linkF A false).r 1), iw ((linkF A false).r 2), iw ((linkF A false).r 3), iw ((linkF A false).r 4), iw ((linkF A false).r 5), iw ((linkF A false).r 6), iw (({ linkF A false with r := up (linkF A false).r 6 0 }).r 7)] 44, rMine (.slice a12 ([] : List UInt8).length c13) ([] : List UInt8) 5, rBlk b15 [Value.slice a12 (([] : List UInt8).length) c13, bo false, iw 0] 35] ⟨rfl, rfl, rfl, rfl, rfl, trivial⟩ rfl ?_
    refine SC.no rfl ?_
    refine SC.skip ?_
    refine SE.blkn ?_
    refine SC.of_SE ?_
    refine SC.norm [(6, bo false), (8, pt g1 0), (10, pt b3 0), (17, iw 0)] [rNic 68 g1 F17 ({ linkF A false with r := up (linkF A false).r 6 0 }), rBlk b3 [iw ((linkF A false).r 0), iw ((linkF A false).r 1), iw ((linkF A false).r 2), iw ((linkF A false).r 3), iw ((linkF A false).r 4), iw ((linkF A false).r 5), iw ((linkF A false).r 6), iw (({ linkF A false with r := up (linkF A false).r 6 0 }).r 7)] 44, rMine (.slice a12 ([] : List UInt8).length c13) ([] : List UInt8) 5, rBlk b15 [Value.slice a12 (([] : List UInt8).length) c13, bo false, iw 0] 35] ⟨rfl, rfl, rfl, rfl, trivial⟩ rfl ?_
    refine SC.region ?_
    refine SL.ru rfl rfl (lt_b rfl) (ru_move rfl rfl) ?_
    refine SL.ru rfl rfl (lt_b rfl) (ru_add (r := 1) rfl rfl rfl rfl) ?_
    refine SL.ru rfl rfl (lt_b rfl) (ru_assign rfl rfl) ?_
    refine SL.nil ?_
    refine SE.round ?_
    refine SR.norm [(6, bo false), (8, pt g1 0), (10, pt b3 0), (17, iw 1)] [rNic 68 g1 F17 ({ linkF A false with r := up (linkF A false).r 6 0 }), rBlk b3 [iw ((linkF A false).r 0), iw ((linkF A false).r 1), iw ((linkF A false).r 2), iw ((linkF A false).r 3), iw ((linkF A false).r 4), iw ((linkF A false).r 5), iw ((linkF A false).r 6), iw (({ linkF A false with r := up (linkF A false).r 6 0 }).r 7)] 44, rMine (.slice a12 ([] : List UInt8).length c13) ([] : List UInt8) 5, rBlk b15 [Value.slice a12 (([] : List UInt8).length) c13, bo false, iw 0] 35] ⟨rfl, rfl, rfl, rfl, trivial⟩ rfl ?_
    refine SR.next ?_
    refine SC.seq ?_
    refine SC.seq ?_
    refine SC.region ?_
    refine SL.ru rfl rfl (lt_b rfl) (ru_move rfl rfl) ?_
    refine SL.ru rfl rfl (lt_b rfl) (ru_lt (b := true) rfl rfl rfl rfl) ?_
    refine SL.nil ?_
    refine SC.of_SE ?_
    refine SC.norm [(6, bo false), (8, pt g1 0), (10, pt b3 0), (17, iw 1), (73, bo true)] [rNic 68 g1 F17 ({ linkF A false with r := up (linkF A false).r 6 0 }), rBlk b3 [iw ((linkF A false).r 0), iw ((linkF A false).r 1), iw ((linkF A false).r 2), iw ((linkF A false).r 3), iw ((linkF A false).r 4), iw ((linkF A false).r 5), iw ((linkF A false).r 6), iw (({ linkF A false with r := up (linkF A false).r 6 0 }).r 7)] 44, rMine (.slice a12 ([] : List UInt8).length c13) ([] : List UInt8) 5, rBlk b15 [Value.slice a12 (([] : List UInt8).length) c13, bo false, iw 0] 35] ⟨rfl, rfl, rfl, rfl, rfl, trivial⟩ rfl ?_
    refine SC.yes rfl ?_
    refine SC.skip ?_
    refine SC.of_SE ?_
    refine SC.norm [(6, bo false), (8, pt g1 0), (10, pt b3 0), (17, iw 1)] [rNic 68 g1 F17 ({ linkF A false with r := up (linkF A false).r 6 0 }), rBlk b3 [iw ((linkF A false).r 0), iw ((linkF A false).r 1), iw ((linkF A false).r 2), iw ((linkF A false).r 3), iw ((linkF A false).r 4), iw ((linkF A false).r 5), iw ((linkF A false).r 6), iw (({ linkF A false with r := up (linkF A false).r 6 0 }).r 7)] 44, rMine (.slice a12 ([] : List UInt8).length c13) ([] : List UInt8) 5, rBlk b15 [Value.slice a12 (([] : List UInt8).length) c13, bo false, iw 0] 35] ⟨rfl, rfl, rfl, rfl, trivial⟩ rfl ?_
    refine SC.seq ?_
    refine SC.block ?_
    refine SC.seq ?_
    refine SC.region ?_
    refine SL.ru rfl rfl (lt_b rfl) (ru_move rfl rfl) ?_
    refine SL.ru rfl rfl (lt_b rfl) (ru_move rfl rfl) ?_
    refine SL.call (ζ := Nat → Prop) (fun F18 => Value.tuple #[iw (({ linkF A false with r := up (linkF A false).r 6 0 }).r 1), iw 0]) (fun F18 => [rNic 68 g1 F18 ({ linkF A false with r := up (linkF A false).r 6 0 }), rBlk b3 [iw ((linkF A false).r 0), iw ((linkF A false).r 1), iw ((linkF A false).r 2), iw ((linkF A false).r 3), iw ((linkF A false).r 4), iw ((linkF A false).r 5), iw ((linkF A false).r 6), iw (({ linkF A false with r := up (linkF A false).r 6 0 }).r 7)] 44, rMine (.slice a12 ([] : List UInt8).length c13) ([] : List UInt8) 5, rBlk b15 [Value.slice a12 (([] : List UInt8).length) c13, bo false, iw 0] 35]) (fun F18 => True) rfl rfl co18 rfl rfl rfl (lt_b rfl) (fun w hI => (p_read_k (read6_ok (link_ok hk false)) (nic_at hI (i := 0) rfl) 1 rfl (by decide) (by decide)).mono fun e w2 ⟨h1, h2⟩ => by obtain ⟨F2, h3⟩ := hI.nicTo (i := 0) rfl (.inr hg1) h2; exact ⟨F2, h1, h3, trivial⟩) ?_
    intro F18 _
    refine SL.ru rfl rfl (lt_b rfl) (ru_move rfl rfl) ?_
    refine SL.ru rfl rfl (lt_b rfl) (ru_extract rfl rfl rfl) ?_
    refine SL.ru rfl rfl (lt_b rfl) (ru_extract rfl rfl rfl) ?_
    refine SL.ru rfl rfl (lt_b rfl) (ru_assign rfl rfl) ?_
    refine SL.ru rfl rfl (lt_b rfl) (ru_assign rfl rfl) ?_
    refine SL.nil ?_
    refine SC.of_SE ?_
    refine SC.norm [(6, bo false), (8, pt g1 0), (10, pt b3 0), (17, iw 1), (18, iw (({ linkF A false with r := up (linkF A false).r 6 0 }).r 1))] [rNic 68 g1 F18 ({ linkF A false with r := up (linkF A false).r 6 0 }), rBlk b3 [iw ((linkF A false).r 0), iw ((linkF A false).r 1), iw ((linkF A false).r 2), iw ((linkF A false).r 3), iw ((linkF A false).r 4), iw ((linkF A false).r 5), iw ((linkF A false).r 6), iw (({ linkF A false with r := up (linkF A false).r 6 0 }).r 7)] 44, rMine (.slice a12 ([] : List UInt8).length c13) ([] : List UInt8) 5, rBlk b15 [Value.slice a12 (([] : List UInt8).length) c13, bo false, iw 0] 35] ⟨rfl, rfl, rfl, rfl, rfl, trivial⟩ rfl ?_
    refine SC.seq ?_
    refine SC.region ?_
    refine SL.ru rfl rfl (lt_b rfl) (ru_move rfl rfl) ?_
    refine SL.ru rfl rfl (lt_b rfl) (ru_ne (b := true) rfl rfl rfl rfl) ?_
    refine SL.ru rfl rfl (lt_b rfl) (ru_move rfl rfl) ?_
    refine SL.rug rfl rfl rfl rfl (lt_b rfl) (ru_move rfl rfl) ?_
    refine SL.rug rfl rfl rfl rfl (lt_b rfl) (ru_move rfl rfl) ?_
    refine SL.rug rfl rfl rfl rfl (lt_b rfl) (ru_indexA (o2 := 1) ar44 rfl rfl rfl (by decide) (by decide) rfl) ?_
    refine SL.rug rfl rfl rfl rfl (lt_b rfl) (ru_load (i := 1) ts3 rfl rfl rfl rfl) ?_
    refine SL.rug rfl rfl rfl rfl (lt_b rfl) (ru_ne (b := false) rfl rfl rfl (bne_f rfl)) ?_
    refine SL.ru rfl rfl (lt_b rfl) (ru_pick (u := bo false) (v := bo false) rfl rfl rfl rfl) ?_
    refine SL.ru rfl rfl (lt_b rfl) (ru_move rfl rfl) ?_
    refine SL.rug rfl rfl rfl rfl (lt_b rfl) (ru_move rfl rfl) ?_
    refine SL.rug rfl rfl rfl rfl (lt_b rfl) (ru_eq (b := false) rfl rfl rfl rfl) ?_
    refine SL.rug rfl rfl rfl rfl (lt_b rfl) (ru_move rfl rfl) ?_
    refine SL.off (b := false) rfl rfl rfl rfl rfl (lt_b rfl) ?_
    refine SL.off (b := false) rfl rfl rfl rfl rfl (lt_b rfl) ?_
    refine SL.rug rfl rfl rfl rfl (lt_b rfl) (ru_pick (u := undef) (v := bo false) rfl rfl rfl rfl) ?_
    refine SL.ru rfl rfl (lt_b rfl) (ru_pick (u := bo true) (v := bo false) rfl rfl rfl rfl) ?_
    refine SL.nil ?_
    refine SC.of_SE ?_
    refine SC.norm [(6, bo false), (8, pt g1 0), (10, pt b3 0), (17, iw 1), (98, bo false)] [rNic 68 g1 F18 ({ linkF A false with r := up (linkF A false).r 6 0 }), rBlk b3 [iw ((linkF A false).r 0), iw ((linkF A false).r 1), iw ((linkF A false).r 2), iw ((linkF A false).r 3), iw ((linkF A false).r 4), iw ((linkF A false).r 5), iw ((linkF A false).r 6), iw (({ linkF A false with r := up (linkF A false).r 6 0 }).r 7)] 44, rMine (.slice a12 ([] : List UInt8).length c13) ([] : List UInt8) 5, rBlk b15 [Value.slice a12 (([] : List UInt8).length) c13, bo false, iw 0] 35] ⟨rfl, rfl, rfl, rfl, rfl, trivial⟩ rfl ?_
    refine SC.no rfl ?_
    refine SC.skip ?_
    refine SE.blkn ?_
    refine SC.of_SE ?_
    refine SC.norm [(6, bo false), (8, pt g1 0), (10, pt b3 0), (17, iw 1)] [rNic 68 g1 F18 ({ linkF A false with r := up (linkF A false).r 6 0 }), rBlk b3 [iw ((linkF A false).r 0), iw ((linkF A false).r 1), iw ((linkF A false).r 2), iw ((linkF A false).r 3), iw ((linkF A false).r 4), iw ((linkF A false).r 5), iw ((linkF A false).r 6), iw (({ linkF A false with r := up (linkF A false).r 6 0 }).r 7)] 44, rMine (.slice a12 ([] : List UInt8).length c13) ([] : List UInt8) 5, rBlk b15 [Value.slice a12 (([] : List UInt8).length) c13, bo false, iw 0] 35] ⟨rfl, rfl, rfl, rfl, trivial⟩ rfl ?_
    refine SC.region ?_
    refine SL.ru rfl rfl (lt_b rfl) (ru_move rfl rfl) ?_
    refine SL.ru rfl rfl (lt_b rfl) (ru_add (r := 2) rfl rfl rfl rfl) ?_
    refine SL.ru rfl rfl (lt_b rfl) (ru_assign rfl rfl) ?_
    refine SL.nil ?_
    refine SE.round ?_
    refine SR.norm [(6, bo false), (8, pt g1 0), (10, pt b3 0), (17, iw 2)] [rNic 68 g1 F18 ({ linkF A false with r := up (linkF A false).r 6 0 }), rBlk b3 [iw ((linkF A false).r 0), iw ((linkF A false).r 1), iw ((linkF A false).r 2), iw ((linkF A false).r 3), iw ((linkF A false).r 4), iw ((linkF A false).r 5), iw ((linkF A false).r 6), iw (({ linkF A false with r := up (linkF A false).r 6 0 }).r 7)] 44, rMine (.slice a12 ([] : List UInt8).length c13) ([] : List UInt8) 5, rBlk b15 [Value.slice a12 (([] : List UInt8).length) c13, bo false, iw 0] 35] ⟨rfl, rfl, rfl, rfl, trivial⟩ rfl ?_
    refine SR.next ?_
    refine SC.seq ?_
    refine SC.seq ?_
    refine SC.region ?_
    refine SL.ru rfl rfl (lt_b rfl) (ru_move rfl rfl) ?_
    refine SL.ru rfl rfl (lt_b rfl) (ru_lt (b := true) rfl rfl rfl rfl) ?_
    refine SL.nil ?_
    refine SC.of_SE ?_
    refine SC.norm [(6, bo false), (8, pt g1 0), (10, pt b3 0), (17, iw 2), (73, bo true)] [rNic 68 g1 F18 ({ linkF A false with r := up (linkF A false).r 6 0 }), rBlk b3 [iw ((linkF A false).r 0), iw ((linkF A false).r 1), iw ((linkF A false).r 2), iw ((linkF A false).r 3), iw ((linkF A false).r 4), iw ((linkF A false).r 5), iw ((linkF A false).r 6), iw (({ linkF A false with r := up (linkF A false).r 6 0 }).r 7)] 44, rMine (.slice a12 ([] : List UInt8).length c13) ([] : List UInt8) 5, rBlk b15 [Value.slice a12 (([] : List UInt8).length) c13, bo false, iw 0] 35] ⟨rfl, rfl, rfl, rfl, rfl, trivial⟩ rfl ?_
    refine SC.yes rfl ?_
    refine SC.skip ?_
    refine SC.of_SE ?_
    refine SC.norm [(6, bo false), (8, pt g1 0), (10, pt b3 0), (17, iw 2)] [rNic 68 g1 F18 ({ linkF A false with r := up (linkF A false).r 6 0 }), rBlk b3 [iw ((linkF A false).r 0), iw ((linkF A false).r 1), iw ((linkF A false).r 2), iw ((linkF A false).r 3), iw ((linkF A false).r 4), iw ((linkF A false).r 5), iw ((linkF A false).r 6), iw (({ linkF A false with r := up (linkF A false).r 6 0 }).r 7)] 44, rMine (.slice a12 ([] : List UInt8).length c13) ([] : List UInt8) 5, rBlk b15 [Value.slice a12 (([] : List UInt8).length) c13, bo false, iw 0] 35] ⟨rfl, rfl, rfl, rfl, trivial⟩ rfl ?_
    refine SC.seq ?_
    refine SC.block ?_
    refine SC.seq ?_
    refine SC.region ?_
    refine SL.ru rfl rfl (lt_b rfl) (ru_move rfl rfl) ?_
    refine SL.ru rfl rfl (lt_b rfl) (ru_move rfl rfl) ?_
    refine SL.call (ζ := Nat → Prop) (fun F19 => Value.tuple #[iw (({ linkF A false with r := up (linkF A false).r 6 0 }).r 2), iw 0]) (fun F19 => [rNic 68 g1 F19 ({ linkF A false with r := up (linkF A false).r 6 0 }), rBlk b3 [iw ((linkF A false).r 0), iw ((linkF A false).r 1), iw ((linkF A false).r 2), iw ((linkF A false).r 3), iw ((linkF A false).r 4), iw ((linkF A false).r 5), iw ((linkF A false).r 6), iw (({ linkF A false with r := up (linkF A false).r 6 0 }).r 7)] 44, rMine (.slice a12 ([] : List UInt8).length c13) ([] : List UInt8) 5, rBlk b15 [Value.slice a12 (([] : List UInt8).length) c13, bo false, iw 0] 35]) (fun F19 => True) rfl rfl co18 rfl rfl rfl (lt_b rfl) (fun w hI => (p_read_k (read6_ok (link_ok hk false)) (nic_at hI (i := 0) rfl) 2 rfl (by decide) (by decide)).mono fun e w2 ⟨h1, h2⟩ => by obtain ⟨F2, h3⟩ := hI.nicTo (i := 0) rfl (.inr hg1) h2; exact ⟨F2, h1, h3, trivial⟩) ?_
    intro F19 _
    refine SL.ru rfl rfl (lt_b rfl) (ru_move rfl rfl) ?_
    refine SL.ru rfl rfl (lt_b rfl) (ru_extract rfl rfl rfl) ?_
    refine SL.ru rfl rfl (lt_b rfl) (ru_extract rfl rfl rfl) ?_
    refine SL.ru rfl rfl (lt_b rfl) (ru_assign rfl rfl) ?_
    refine SL.ru rfl rfl (lt_b rfl) (ru_assign rfl rfl) ?_
    refine SL.nil ?_
    refine SC.of_SE ?_
    refine SC.norm [(6, bo false), (8, pt g1 0), (10, pt b3 0), (17, iw 2), (18, iw (({ linkF A false with r := up (linkF A false).r 6 0 }).r 2))] [rNic 68 g1 F19 ({ linkF A false with r := up (linkF A false).r 6 0 }), rBlk b3 [iw ((linkF A false).r 0), iw ((linkF A false).r 1), iw ((linkF A false).r 2), iw ((linkF A false).r 3), iw ((linkF A false).r 4), iw ((linkF A false).r 5), iw ((linkF A false).r 6), iw (({ linkF A false with r := up (linkF A false).r 6 0 }).r 7)] 44, rMine (.slice a12 ([] : List UInt8).length c13) ([] : List UInt8) 5, rBlk b15 [Value.slice a12 (([] : List UInt8).length) c13, bo false, iw 0] 35] ⟨rfl, rfl, rfl, rfl, rfl, trivial⟩ rfl ?_
    refine SC.seq ?_
    refine SC.region ?_
    refine SL.ru rfl rfl (lt_b rfl) (ru_move rfl rfl) ?_
    refine SL.ru rfl rfl (lt_b rfl) (ru_ne (b := true) rfl rfl rfl rfl) ?_
    refine SL.ru rfl rfl (lt_b rfl) (ru_move rfl rfl) ?_
    refine SL.rug rfl rfl rfl rfl (lt_b rfl) (ru_move rfl rfl) ?_
    refine SL.rug rfl rfl rfl rfl (lt_b rfl) (ru_move rfl rfl) ?_
    refine SL.rug rfl rfl rfl rfl (lt_b rfl) (ru_indexA (o2 := 2) ar44 rfl rfl rfl (by decide) (by decide) rfl) ?_
    refine SL.rug rfl rfl rfl rfl (lt_b rfl) (ru_load (i := 1) ts3 rfl rfl rfl rfl) ?_
    refine SL.rug rfl rfl rfl rfl (lt_b rfl) (ru_ne (b := false) rfl rfl rfl (bne_f rfl)) ?_
    refine SL.ru rfl rfl (lt_b rfl) (ru_pick (u := bo false) (v := bo false) rfl rfl rfl rfl) ?_
    refine SL.ru rfl rfl (lt_b rfl) (ru_move rfl rfl) ?_
    refine SL.rug rfl rfl rfl rfl (lt_b rfl) (ru_move rfl rfl) ?_
    refine SL.rug rfl rfl rfl rfl (lt_b rfl) (ru_eq (b := false) rfl rfl rfl rfl) ?_
    refine SL.rug rfl rfl rfl rfl (lt_b rfl) (ru_move rfl rfl) ?_
    refine SL.off (b := false) rfl rfl rfl rfl rfl (lt_b rfl) ?_
    refine SL.off (b := false) rfl rfl rfl rfl rfl (lt_b rfl) ?_
    refine SL.rug rfl rfl rfl rfl (lt_b rfl) (ru_pick (u := undef) (v := bo false) rfl rfl rfl rfl) ?_
    refine SL.ru rfl rfl (lt_b rfl) (ru_pick (u := bo true) (v := bo false) rfl rfl rfl rfl) ?_
    refine SL.nil ?_
    refine SC.of_SE ?_
    refine SC.norm [(6, bo false), (8, pt g1 0), (10, pt b3 0), (17, iw 2), (98, bo false)] [rNic 68 g1 F19 ({ linkF A false with r := up (linkF A false).r 6 0 }), rBlk b3 [iw ((linkF A false).r 0), iw ((linkF A false).r 1), iw ((linkF A false).r 2), iw ((linkF A false).r 3), iw ((linkF A false).r 4), iw ((linkF A false).r 5), iw ((linkF A false).r 6), iw (({ linkF A false with r := up (linkF A false).r 6 0 }).r 7)] 44, rMine (.slice a12 ([] : List UInt8).length c13) ([] : List UInt8) 5, rBlk b15 [Value.slice a12 (([] : List UInt8).length) c13, bo false, iw 0] 35] ⟨rfl, rfl, rfl, rfl, rfl, trivial⟩ rfl ?_
    refine SC.no rfl ?_
    refine SC.skip ?_
    refine SE.blkn ?_
    refine SC.of_SE ?_
    refine SC.norm [(6, bo false), (8, pt g1 0), (10, pt b3 0), (17, iw 2)] [rNic 68 g1 F19 ({ linkF A false with r := up (linkF A false).r 6 0 }), rBlk b3 [iw ((linkF A false).r 0), iw ((linkF A false).r 1), iw ((linkF A false).r 2), iw ((linkF A false).r 3), iw ((linkF A false).r 4), iw ((linkF A false).r 5), iw ((linkF A false).r 6), iw (({ linkF A false with r := up (linkF A false).r 6 0 }).r 7)] 44, rMine (.slice a12 ([] : List UInt8).length c13) ([] : List UInt8) 5, rBlk b15 [Value.slice a12 (([] : List UInt8).length) c13, bo false, iw 0] 35] ⟨rfl, rfl, rfl, rfl, trivial⟩ rfl ?_
    refine SC.region ?_
    refine SL.ru rfl rfl (lt_b rfl) (ru_move rfl rfl) ?_
    refine SL.ru rfl rfl (lt_b rfl) (ru_add (r := 3) rfl rfl rfl rfl) ?_
    refine SL.ru rfl rfl (lt_b rfl) (ru_assign rfl rfl) ?_
    refine SL.nil ?_
    refine SE.round ?_
    refine SR.norm [(6, bo false), (8, pt g1 0), (10, pt b3 0), (17, iw 3)] [rNic 68 g1 F19 ({ linkF A false with r := up (linkF A false).r 6 0 }), rBlk b3 [iw ((linkF A false).r 0), iw ((linkF A false).r 1), iw ((linkF A false).r 2), iw ((linkF A false).r 3), iw ((linkF A false).r 4), iw ((linkF A false).r 5), iw ((linkF A false).r 6), iw (({ linkF A false with r := up (linkF A false).r 6 0 }).r 7)] 44, rMine (.slice a12 ([] : List UInt8).length c13) ([] : List UInt8) 5, rBlk b15 [Value.slice a12 (([] : List UInt8).length) c13, bo false, iw 0] 35] ⟨rfl, rfl, rfl, rfl, trivial⟩ rfl ?_
    refine SR.next ?_
    refine SC.seq ?_
    refine SC.seq ?_
    refine SC.region ?_
    refine SL.ru rfl rfl (lt_b rfl) (ru_move rfl rfl) ?_
    refine SL.ru rfl rfl (lt_b rfl) (ru_lt (b := true) rfl rfl rfl rfl) ?_
    refine SL.nil ?_
    refine SC.of_SE ?_
    refine SC.norm [(6, bo false), (8, pt g1 0), (10, pt b3 0), (17, iw 3), (73, bo true)] [rNic 68 g1 F19 ({ linkF A false with r := up (linkF A false).r 6 0 }), rBlk b3 [iw ((linkF A false).r 0), iw ((linkF A false).r 1), iw ((linkF A false).r 2), iw ((linkF A false).r 3), iw ((linkF A false).r 4), iw ((linkF A false).r 5), iw ((linkF A false).r 6), iw (({ linkF A false with r := up (linkF A false).r 6 0 }).r 7)] 44, rMine (.slice a12 ([] : List UInt8).length c13) ([] : List UInt8) 5, rBlk b15 [Value.slice a12 (([] : List UInt8).length) c13, bo false, iw 0] 35] ⟨rfl, rfl, rfl, rfl, rfl, trivial⟩ rfl ?_
    refine SC.yes rfl ?_
    refine SC.skip ?_
    refine SC.of_SE ?_
    refine SC.norm [(6, bo false), (8, pt g1 0), (10, pt b3 0), (17, iw 3)] [rNic 68 g1 F19 ({ linkF A false with r := up (linkF A false).r 6 0 }), rBlk b3 [iw ((linkF A false).r 0), iw ((linkF A false).r 1), iw ((linkF A false).r 2), iw ((linkF A false).r 3), iw ((linkF A false).r 4), iw ((linkF A false).r 5), iw ((linkF A false).r 6), iw (({ linkF A false with r := up (linkF A false).r 6 0 }).r 7)] 44, rMine (.slice a12 ([] : List UInt8).length c13) ([] : List UInt8) 5, rBlk b15 [Value.slice a12 (([] : List UInt8).length) c13, bo false, iw 0] 35] ⟨rfl, rfl, rfl, rfl, trivial⟩ rfl ?_
    refine SC.seq ?_
    refine SC.block ?_
    refine SC.seq ?_
    refine SC.region ?_
    refine SL.ru rfl rfl (lt_b rfl) (ru_move rfl rfl) ?_
    refine SL.ru rfl rfl (lt_b rfl) (ru_move rfl rfl) ?_
    refine SL.call (ζ := Nat → Prop) (fun F20 => Value.tuple #[iw (({ linkF A false with r := up (linkF A false).r 6 0 }).r 3), iw 0]) (fun F20 => [rNic 68 g1 F20 ({ linkF A false with r := up (linkF A false).r 6 0 }), rBlk b3 [iw ((linkF A false).r 0), iw ((linkF A false).r 1), iw ((linkF A false).r 2), iw ((linkF A false).r 3), iw ((linkF A false).r 4), iw ((linkF A false).r 5), iw ((linkF A false).r 6), iw (({ linkF A false with r := up (linkF A false).r 6 0 }).r 7)] 44, rMine (.slice a12 ([] : List UInt8).length c13) ([] : List UInt8) 5, rBlk b15 [Value.slice a12 (([] : List UInt8).length) c13, bo false, iw 0] 35]) (fun F20 => True) rfl rfl co18 rfl rfl rfl (lt_b rfl) (fun w hI => (p_read_k (read6_ok (link_ok hk false)) (nic_at hI (i := 0) rfl) 3 rfl (by decide) (by decide)).mono fun e w2 ⟨h1, h2⟩ => by obtain ⟨F2, h3⟩ := hI.nicTo (i := 0) rfl (.inr hg1) h2; exact ⟨F2, h1, h3, trivial⟩) ?_
    intro F20 _
    refine SL.ru rfl rfl (lt_b rfl) (ru_move rfl rfl) ?_
    refine SL.ru rfl rfl (lt_b rfl) (ru_extract rfl rfl rfl) ?_
    refine SL.ru rfl rfl (lt_b rfl) (ru_extract rfl rfl rfl) ?_
    refine SL.ru rfl rfl (lt_b rfl) (ru_assign rfl rfl) ?_
    refine SL.ru rfl rfl (lt_b rfl) (ru_assign rfl rfl) ?_
    refine SL.nil ?_
    refine SC.of_SE ?_
    refine SC.norm [(6, bo false), (8, pt g1 0), (10, pt b3 0), (17, iw 3), (18, iw (({ linkF A false with r := up (linkF A false).r 6 0 }).r 3))] [rNic 68 g1 F20 ({ linkF A false with r := up (linkF A false).r 6 0 }), rBlk b3 [iw ((linkF A false).r 0), iw ((linkF A false).r 1), iw ((linkF A false).r 2), iw ((linkF A false).r 3), iw ((linkF A false).r 4), iw ((linkF A false).r 5), iw ((linkF A false).r 6), iw (({ linkF A false with r := up (linkF A false).r 6 0 }).r 7)] 44, rMine (.slice a12 ([] : List UInt8).length c13) ([] : List UInt8) 5, rBlk b15 [Value.slice a12 (([] : List UInt8).length) c13, bo false, iw 0] 35] ⟨rfl, rfl, rfl, rfl, rfl, trivial⟩ rfl ?_
    refine SC.seq ?_
    refine SC.region ?_
    refine SL.ru rfl rfl (lt_b rfl) (ru_move rfl rfl) ?_
    refine SL.ru rfl rfl (lt_b rfl) (ru_ne (b := true) rfl rfl rfl rfl) ?_
    refine SL.ru rfl rfl (lt_b rfl) (ru_move rfl rfl) ?_
    refine SL.rug rfl rfl rfl rfl (lt_b rfl) (ru_move rfl rfl) ?_
    refine SL.rug rfl rfl rfl rfl (lt_b rfl) (ru_move rfl rfl) ?_
    refine SL.rug rfl rfl rfl rfl (lt_b rfl) (ru_indexA (o2 := 3) ar44 rfl rfl rfl (by decide) (by decide) rfl) ?_
    refine SL.rug rfl rfl rfl rfl (lt_b rfl) (ru_load (i := 1) ts3 rfl rfl rfl rfl) ?_
    refine SL.rug rfl rfl rfl rfl (lt_b rfl) (ru_ne (b := false) rfl rfl rfl (bne_f rfl)) ?_
    refine SL.ru rfl rfl (lt_b rfl) (ru_pick (u := bo false) (v := bo false) rfl rfl rfl rfl) ?_
    refine SL.ru rfl rfl (lt_b rfl) (ru_move rfl rfl) ?_
    refine SL.rug rfl rfl rfl rfl (lt_b rfl) (ru_move rfl rfl) ?_
    refine SL.rug rfl rfl rfl rfl (lt_b rfl) (ru_eq (b := false) rfl rfl rfl rfl) ?_
    refine SL.rug rfl rfl rfl rfl (lt_b rfl) (ru_move rfl rfl) ?_
    refine SL.off (b := false) rfl rfl rfl rfl rfl (lt_b rfl) ?_
    refine SL.off (b := false) rfl rfl rfl rfl rfl (lt_b rfl) ?_
    refine SL.rug rfl rfl rfl rfl (lt_b rfl) (ru_pick (u := undef) (v := bo false) rfl rfl rfl rfl) ?_
    refine SL.ru rfl rfl (lt_b rfl) (ru_pick (u := bo true) (v := bo false) rfl rfl rfl rfl) ?_
    refine SL.nil ?_
    refine SC.of_SE ?_
    refine SC.norm [(6, bo false), (8, pt g1 0), (10, pt b3 0), (17, iw 3), (98, bo false)] [rNic 68 g1 F20 ({ linkF A false with r := up (linkF A false).r 6 0 }), rBlk b3 [iw ((linkF A false).r 0), iw ((linkF A false).r 1), iw ((linkF A false).r 2), iw ((linkF A false).r 3), iw ((linkF A false).r 4), iw ((linkF A false).r 5), iw ((linkF A false).r 6), iw (({ linkF A false with r := up (linkF A false).r 6 0 }).r 7)] 44, rMine (.slice a12 ([] : List UInt8).length c13) ([] : List UInt8) 5, rBlk b15 [Value.slice a12 (([] : List UInt8).length) c13, bo false, iw 0] 35] ⟨rfl, rfl, rfl, rfl, rfl, trivial⟩ rfl ?_
    refine SC.no rfl ?_
    refine SC.skip ?_
    refine SE.blkn ?_
    refine SC.of_SE ?_
    refine SC.norm [(6, bo false), (8, pt g1 0), (10, pt b3 0), (17, iw 3)] [rNic 68 g1 F20 ({ linkF A false with r := up (linkF A false).r 6 0 }), rBlk b3 [iw ((linkF A false).r 0), iw ((linkF A false).r 1), iw ((linkF A false).r 2), iw ((linkF A false).r 3), iw ((linkF A false).r 4), iw ((linkF A false).r 5), iw ((linkF A false).r 6), iw (({ linkF A false with r := up (linkF A false).r 6 0 }).r 7)] 44, rMine (.slice a12 ([] : List UInt8).length c13) ([] : List UInt8) 5, rBlk b15 [Value.slice a12 (([] : List UInt8).length) c13, bo false, iw 0] 35] ⟨rfl, rfl, rfl, rfl, trivial⟩ rfl ?_
    refine SC.region ?_
    refine SL.ru rfl rfl (lt_b rfl) (ru_move rfl rfl) ?_
    refine SL.ru rfl rfl (lt_b rfl) (ru_add (r := 4) rfl rfl rfl rfl) ?_
    refine SL.ru rfl rfl (lt_b rfl) (ru_assign rfl rfl) ?_
    refine SL.nil ?_
    refine SE.round ?_
    refine SR.norm [(6, bo false), (8, pt g1 0), (10, pt b3 0), (17, iw 4)] [rNic 68 g1 F20 ({ linkF A false with r := up (linkF A false).r 6 0 }), rBlk b3 [iw ((linkF A false).r 0), iw ((linkF A false).r 1), iw ((linkF A false).r 2), iw ((linkF A false).r 3), iw ((linkF A false).r 4), iw ((linkF A false).r 5), iw ((linkF A false).r 6), iw (({ linkF A false with r := up (linkF A false).r 6 0 }).r 7)] 44, rMine (.slice a12 ([] : List UInt8).length c13) ([] : List UInt8) 5, rBlk b15 [Value.slice a12 (([] : List UInt8).length) c13, bo false, iw 0] 35] ⟨rfl, rfl, rfl, rfl, trivial⟩ rfl ?_
    refine SR.next ?_
    refine SC.seq ?_
    refine SC.seq ?_
    refine SC.region ?_
    refine SL.ru rfl rfl (lt_b rfl) (ru_move rfl rfl) ?_
    refine SL.ru rfl rfl (lt_b rfl) (ru_lt (b := true) rfl rfl rfl rfl) ?_
    refine SL.nil ?_
    refine SC.of_SE ?_
    refine SC.norm [(6, bo false), (8, pt g1 0), (10, pt b3 0), (17, iw 4), (73, bo true)] [rNic 68 g1 F20 ({ linkF A false with r := up (linkF A false).r 6 0 }), rBlk b3 [iw ((linkF A false).r 0), iw ((linkF A false).r 1), iw ((linkF A false).r 2), iw ((linkF A false).r 3), iw ((linkF A false).r 4), iw ((linkF A false).r 5), iw ((linkF A false).r 6), iw (({ linkF A false with r := up (linkF A false).r 6 0 }).r 7)] 44, rMine (.slice a12 ([] : List UInt8).length c13) ([] : List UInt8) 5, rBlk b15 [Value.slice a12 (([] : List UInt8).length) c13, bo false, iw 0] 35] ⟨rfl, rfl, rfl, rfl, rfl, trivial⟩ rfl ?_
    refine SC.yes rfl ?_
    refine SC.skip ?_
    refine SC.of_SE ?_
    refine SC.norm [(6, bo false), (8, pt g1 0), (10, pt b3 0), (17, iw 4)] [rNic 68 g1 F20 ({ linkF A false with r := up (linkF A false).r 6 0 }), rBlk b3 [iw ((linkF A false).r 0), iw ((linkF A false).r 1), iw ((linkF A false).r 2), iw ((linkF A false).r 3), iw ((linkF A false).r 4), iw ((linkF A false).r 5), iw ((linkF A false).r 6), iw (({ linkF A false with r := up (linkF A false).r 6 0 }).r 7)] 44, rMine (.slice a12 ([] : List UInt8).length c13) ([] : List UInt8) 5, rBlk b15 [Value.slice a12 (([] : List UInt8).length) c13, bo false, iw 0] 35] ⟨rfl, rfl, rfl, rfl, trivial⟩ rfl ?_
    refine SC.seq ?_
    refine SC.block ?_
    refine SC.seq ?_
    refine SC.region ?_
    refine SL.ru rfl rfl (lt_b rfl) (ru_move rfl rfl) ?_
    refine SL.ru rfl rfl (lt_b rfl) (ru_move rfl rfl) ?_
    refine SL.call (ζ := Nat → Prop) (fun F21 => Value.tuple #[iw (({ linkF A false with r := up (linkF A false).r 6 0 }).r 4), iw 0]) (fun F21 => [rNic 68 g1 F21 ({ linkF A false with r := up (linkF A false).r 6 0 }), rBlk b3 [iw ((linkF A false).r 0), iw ((linkF A false).r 1), iw ((linkF A false).r 2), iw ((linkF A false).r 3), iw ((linkF A false).r 4), iw ((linkF A false).r 5), iw ((linkF A false).r 6), iw (({ linkF A false with r := up (linkF A false).r 6 0 }).r 7)] 44, rMine (.slice a12 ([] : List UInt8).length c13) ([] : List UInt8) 5, rBlk b15 [Value.slice a12 (([] : List UInt8).length) c13, bo false, iw 0] 35]) (fun F21 => True) rfl rfl co18 rfl rfl rfl (lt_b rfl) (fun w hI => (p_read_k (read6_ok (link_ok hk false)) (nic_at hI (i := 0) rfl) 4 rfl (by decide) (by decide)).mono fun e w2 ⟨h1, h2⟩ => by obtain ⟨F2, h3⟩ := hI.nicTo (i := 0) rfl (.inr hg1) h2; exact ⟨F2, h1, h3, trivial⟩) ?_
    intro F21 _
    refine SL.ru rfl rfl (lt_b rfl) (ru_move rfl rfl) ?_
    refine SL.ru rfl rfl (lt_b rfl) (ru_extract rfl rfl rfl) ?_
    refine SL.ru rfl rfl (lt_b rfl) (ru_extract rfl rfl rfl) ?_
    refine SL.ru rfl rfl (lt_b rfl) (ru_assign rfl rfl) ?_
    refine SL.ru rfl rfl (lt_b rfl) (ru_assign rfl rfl) ?_
    refine SL.nil ?_
    refine SC.of_SE ?_
    refine SC.norm [(6, bo false), (8, pt g1 0), (10, pt b3 0), (17, iw 4), (18, iw (({ linkF A false with r := up (linkF A false).r 6 0 }).r 4))] [rNic 68 g1 F21 ({ linkF A false with r := up (linkF A false).r 6 0 }), rBlk b3 [iw ((linkF A false).r 0), iw ((linkF A false).r 1), iw ((linkF A false).r 2), iw ((linkF A false).r 3), iw ((linkF A false).r 4), iw ((linkF A false).r 5), iw ((linkF A false).r 6), iw (({ linkF A false with r := up (linkF A false).r 6 0 }).r 7)] 44, rMine (.slice a12 ([] : List UInt8).length c13) ([] : List UInt8) 5, rBlk b15 [Value.slice a12 (([] : List UInt8).length) c13, bo false, iw 0] 35] ⟨rfl, rfl, rfl, rfl, rfl, trivial⟩ rfl ?_
    refine SC.seq ?_
    refine SC.region ?_
    refine SL.ru rfl rfl (lt_b rfl) (ru_move rfl rfl) ?_
    refine SL.ru rfl rfl (lt_b rfl) (ru_ne (b := true) rfl rfl rfl rfl) ?_
    refine SL.ru rfl rfl (lt_b rfl) (ru_move rfl rfl) ?_
    refine SL.rug rfl rfl rfl rfl (lt_b rfl) (ru_move rfl rfl) ?_
    refine SL.rug rfl rfl rfl rfl (lt_b rfl) (ru_move rfl rfl) ?_
    refine SL.rug rfl rfl rfl rfl (lt_b rfl) (ru_indexA (o2 := 4) ar44 rfl rfl rfl (by decide) (by decide) rfl) ?_
    refine SL.rug rfl rfl rfl rfl (lt_b rfl) (ru_load (i := 1) ts3 rfl rfl rfl rfl) ?_
    refine SL.rug rfl rfl rfl rfl (lt_b rfl) (ru_ne (b := false) rfl rfl rfl (bne_f rfl)) ?_
    refine SL.ru rfl rfl (lt_b rfl) (ru_pick (u := bo false) (v := bo false) rfl rfl rfl rfl) ?_
    refine SL.ru rfl rfl (lt_b rfl) (ru_move rfl rfl) ?_
    refine SL.rug rfl rfl rfl rfl (lt_b rfl) (ru_move rfl rfl) ?_
    refine SL.rug rfl rfl rfl rfl (lt_b rfl) (ru_eq (b := false) rfl rfl rfl rfl) ?_
    refine SL.rug rfl rfl rfl rfl (lt_b rfl) (ru_move rfl rfl) ?_
    refine SL.off (b := false) rfl rfl rfl rfl rfl (lt_b rfl) ?_
    refine SL.off (b := false) rfl rfl rfl rfl rfl (lt_b rfl) ?_
    refine SL.rug rfl rfl rfl rfl (lt_b rfl) (ru_pick (u := undef) (v := bo false) rfl rfl rfl rfl) ?_
    refine SL.ru rfl rfl (lt_b rfl) (ru_pick (u := bo true) (v := bo false) rfl rfl rfl rfl) ?_
    refine SL.nil ?_
    refine SC.of_SE ?_
    refine SC.norm [(6, bo false), (8, pt g1 0), (10, pt b3 0), (17, iw 4), (98, bo false)] [rNic 68 g1 F21 ({ linkF A false with r := up (linkF A false).r 6 0 }), rBlk b3 [iw ((linkF A false).r 0), iw ((linkF A false).r 1), iw ((linkF A false).r 2), iw ((linkF A false).r 3), iw ((linkF A false).r 4), iw ((linkF A false).r 5), iw ((linkF A false).r 6), iw (({ linkF A false with r := up (linkF A false).r 6 0 }).r 7)] 44, rMine (.slice a12 ([] : List UInt8).length c13) ([] : List UInt8) 5, rBlk b15 [Value.slice a12 (([] : List UInt8).length) c13, bo false, iw 0] 35] ⟨rfl, rfl, rfl, rfl, rfl, trivial⟩ rfl ?_
    refine SC.no rfl ?_
    refine SC.skip ?_
    refine SE.blkn ?_
    refine SC.of_SE ?_
    refine SC.norm [(6, bo false), (8, pt g1 0), (10, pt b3 0), (17, iw 4)] [rNic 68 g1 F21 ({ linkF A false with r := up (linkF A false).r 6 0 }), rBlk b3 [iw ((linkF A false).r 0), iw ((linkF A false).r 1), iw ((linkF A false).r 2), iw ((linkF A false).r 3), iw ((linkF A false).r 4), iw ((linkF A false).r 5), iw ((linkF A false).r 6), iw (({ linkF A false with r := up (linkF A false).r 6 0 }).r 7)] 44, rMine (.slice a12 ([] : List UInt8).length c13) ([] : List UInt8) 5, rBlk b15 [Value.slice a12 (([] : List UInt8).length) c13, bo false, iw 0] 35] ⟨rfl, rfl, rfl, rfl, trivial⟩ rfl ?_
    refine SC.region ?_
    refine SL.ru rfl rfl (lt_b rfl) (ru_move rfl rfl) ?_
    refine SL.ru rfl rfl (lt_b rfl) (ru_add (r := 5) rfl rfl rfl rfl) ?_
    refine SL.ru rfl rfl (lt_b rfl) (ru_assign rfl rfl) ?_
    refine SL.nil ?_
    refine SE.round ?_
    refine SR.norm [(6, bo false), (8, pt g1 0), (10, pt b3 0), (17, iw 5)] [rNic 68 g1 F21 ({ linkF A false with r := up (linkF A false).r 6 0 }), rBlk b3 [iw ((linkF A false).r 0), iw ((linkF A false).r 1), iw ((linkF A false).r 2), iw ((linkF A false).r 3), iw ((linkF A false).r 4), iw ((linkF A false).r 5), iw ((linkF A false).r 6), iw (({ linkF A false with r := up (linkF A false).r 6 0 }).r 7)] 44, rMine (.slice a12 ([] : List UInt8).length c13) ([] : List UInt8) 5, rBlk b15 [Value.slice a12 (([] : List UInt8).length) c13, bo false, iw 0] 35] ⟨rfl, rfl, rfl, rfl, trivial⟩ rfl ?_
    refine SR.next ?_
    refine SC.seq ?_
    refine SC.seq ?_
    refine SC.region ?_
    refine SL.ru rfl rfl (lt_b rfl) (ru_move rfl rfl) ?_
    refine SL.ru rfl rfl (lt_b rfl) (ru_lt (b := true) rfl rfl rfl rfl) ?_
    refine SL.nil ?_
    refine SC.of_SE ?_
    refine SC.norm [(6, bo false), (8, pt g1 0), (10, pt b3 0), (17, iw 5), (73, bo true)] [rNic 68 g1 F21 ({ linkF A false with r := up (linkF A false).r 6 0 }), rBlk b3 [iw ((linkF A false).r 0), iw ((linkF A false).r 1), iw ((linkF A false).r 2), iw ((linkF A false).r 3), iw ((linkF A false).r 4), iw ((linkF A false).r 5), iw ((linkF A false).r 6), iw (({ linkF A false with r := up (linkF A false).r 6 0 }).r 7)] 44, rMine (.slice a12 ([] : List UInt8).length c13) ([] : List UInt8) 5, rBlk b15 [Value.slice a12 (([] : List UInt8).length) c13, bo false, iw 0] 35] ⟨rfl, rfl, rfl, rfl, rfl, trivial⟩ rfl ?_
    refine SC.yes rfl ?_
    refine SC.skip ?_
    refine SC.of_SE ?_
    refine SC.norm [(6, bo false), (8, pt g1 0), (10, pt b3 0), (17, iw 5)] [rNic 68 g1 F21 ({ linkF A false with r := up (linkF A false).r 6 0 }), rBlk b3 [iw ((linkF A false).r 0), iw ((linkF A false).r 1), iw ((linkF A false).r 2), iw ((linkF A false).r 3), iw ((linkF A false).r 4), iw ((linkF A false).r 5), iw ((linkF A false).r 6), iw (({ linkF A false with r := up (linkF A false).r 6 0 }).r 7)] 44, rMine (.slice a12 ([] : List UInt8).length c13) ([] : List UInt8) 5, rBlk b15 [Value.slice a12 (([] : List UInt8).length) c13, bo false, iw 0] 35] ⟨rfl, rfl, rfl, rfl, trivial⟩ rfl ?_
    refine SC.seq ?_
    refine SC.block ?_
    refine SC.seq ?_
    refine SC.region ?_
    refine SL.ru rfl rfl (lt_b rfl) (ru_move rfl rfl) ?_
    refine SL.ru rfl rfl (lt_b rfl) (ru_move rfl rfl) ?_
    refine SL.call (ζ := Nat → Prop) (fun F22 => Value.tuple #[iw (({ linkF A false with r := up (linkF A false).r 6 0 }).r 5), iw 0]) (fun F22 => [rNic 68 g1 F22 ({ linkF A false with r := up (linkF A false).r 6 0 }), rBlk b3 [iw ((linkF A false).r 0), iw ((linkF A false).r 1), iw ((linkF A false).r 2), iw ((linkF A false).r 3), iw ((linkF A false).r 4), iw ((linkF A false).r 5), iw ((linkF A false).r 6), iw (({ linkF A false with r := up (linkF A false).r 6 0 }).r 7)] 44, rMine (.slice a12 ([] : List UInt8).length c13) ([] : List UInt8) 5, rBlk b15 [Value.slice a12 (([] : List UInt8).length) c13, bo false, iw 0] 35]) (fun F22 => True) rfl rfl co18 rfl rfl rfl (lt_b rfl) (fun w hI => (p_read_k (read6_ok (link_ok hk false)) (nic_at hI (i := 0) rfl) 5 rfl (by decide) (by decide)).mono fun e w2 ⟨h1, h2⟩ => by obtain ⟨F2, h3⟩ := hI.nicTo (i := 0) rfl (.inr hg1) h2; exact ⟨F2, h1, h3, trivial⟩) ?_
    intro F22 _
    refine SL.ru rfl rfl (lt_b rfl) (ru_move rfl rfl) ?_
    refine SL.ru rfl rfl (lt_b rfl) (ru_extract rfl rfl rfl) ?_
    refine SL.ru rfl rfl (lt_b rfl) (ru_extract rfl rfl rfl) ?_
    refine SL.ru rfl rfl (lt_b rfl) (ru_assign rfl rfl) ?_
    refine SL.ru rfl rfl (lt_b rfl) (ru_assign rfl rfl) ?_
    refine SL.nil ?_
    refine SC.of_SE ?_
    refine SC.norm [(6, bo false), (8, pt g1 0), (10, pt b3 0), (17, iw 5), (18, iw (({ linkF A false with r := up (linkF A false).r 6 0 }).r 5))] [rNic 68 g1 F22 ({ linkF A false with r := up (linkF A false).r 6 0 }), rBlk b3 [iw ((linkF A false).r 0), iw ((linkF A false).r 1), iw ((linkF A false).r 2), iw ((linkF A false).r 3), iw ((linkF A false).r 4), iw ((linkF A false).r 5), iw ((linkF A false).r 6), iw (({ linkF A false with r := up (linkF A false).r 6 0 }).r 7)] 44, rMine (.slice a12 ([] : List UInt8).length c13) ([] : List UInt8) 5, rBlk b15 [Value.slice a12 (([] : List UInt8).length) c13, bo false, iw 0] 35] ⟨rfl, rfl, rfl, rfl, rfl, trivial⟩ rfl ?_
    refine SC.seq ?_
    refine SC.region ?_
    refine SL.ru rfl rfl (lt_b rfl) (ru_move rfl rfl) ?_
    refine SL.ru rfl rfl (lt_b rfl) (ru_ne (b := true) rfl rfl rfl rfl) ?_
    refine SL.ru rfl rfl (lt_b rfl) (ru_move rfl rfl) ?_
    refine SL.rug rfl rfl rfl rfl (lt_b rfl) (ru_move rfl rfl) ?_
    refine SL.rug rfl rfl rfl rfl (lt_b rfl) (ru_move rfl rfl) ?_
    refine SL.rug rfl rfl rfl rfl (lt_b rfl) (ru_indexA (o2 := 5) ar44 rfl rfl rfl (by decide) (by decide) rfl) ?_
    refine SL.rug rfl rfl rfl rfl (lt_b rfl) (ru_load (i := 1) ts3 rfl rfl rfl rfl) ?_
    refine SL.rug rfl rfl rfl rfl (lt_b rfl) (ru_ne (b := false) rfl rfl rfl (bne_f rfl)) ?_
    refine SL.ru rfl rfl (lt_b rfl) (ru_pick (u := bo false) (v := bo false) rfl rfl rfl rfl) ?_
    refine SL.ru rfl rfl (lt_b rfl) (ru_move rfl rfl) ?_
    refine SL.rug rfl rfl rfl rfl (lt_b rfl) (ru_move rfl rfl) ?_
    refine SL.rug rfl rfl rfl rfl (lt_b rfl) (ru_eq (b := false) rfl rfl rfl rfl) ?_
    refine SL.rug rfl rfl rfl rfl (lt_b rfl) (ru_move rfl rfl) ?_
    refine SL.off (b := false) rfl rfl rfl rfl rfl (lt_b rfl) ?_
    refine SL.off (b := false) rfl rfl rfl rfl rfl (lt_b rfl) ?_
    refine SL.rug rfl rfl rfl rfl (lt_b rfl) (ru_pick (u := undef) (v := bo false) rfl rfl rfl rfl) ?_
    refine SL.ru rfl rfl (lt_b rfl) (ru_pick (u := bo true) (v := bo false) rfl rfl rfl rfl) ?_
    refine SL.nil ?_
    refine SC.of_SE ?_
    refine SC.norm [(6, bo false), (8, pt g1 0), (10, pt b3 0), (17, iw 5), (98, bo false)] [rNic 68 g1 F22 ({ linkF A false with r := up (linkF A false).r 6 0 }), rBlk b3 [iw ((linkF A false).r 0), iw ((linkF A false).r 1), iw ((linkF A false).r 2), iw ((linkF A false).r 3), iw ((linkF A false).r 4), iw ((linkF A false).r 5), iw ((linkF A false).r 6), iw (({ linkF A false with r := up (linkF A false).r 6 0 }).r 7)] 44, rMine (.slice a12 ([] : List UInt8).length c13) ([] : List UInt8) 5, rBlk b15 [Value.slice a12 (([] : List UInt8).length) c13, bo false, iw 0] 35] ⟨rfl, rfl, rfl, rfl, rfl, trivial⟩ rfl ?_
    refine SC.no rfl ?_
    refine SC.skip ?_
    refine SE.blkn ?_
    refine SC.of_SE ?_
    refine SC.norm [(6, bo false), (8, pt g1 0), (10, pt b3 0), (17, iw 5)] [rNic 68 g1 F22 ({ linkF A false with r := up (linkF A false).r 6 0 }), rBlk b3 [iw ((linkF A false).r 0), iw ((linkF A false).r 1), iw ((linkF A false).r 2), iw ((linkF A false).r 3), iw ((linkF A false).r 4), iw ((linkF A false).r 5), iw ((linkF A false).r 6), iw (({ linkF A false with r := up (linkF A false).r 6 0 }).r 7)] 44, rMine (.slice a12 ([] : List UInt8).length c13) ([] : List UInt8) 5, rBlk b15 [Value.slice a12 (([] : List UInt8).length) c13, bo false, iw 0] 35] ⟨rfl, rfl, rfl, rfl, trivial⟩ rfl ?_
    refine SC.region ?_
    refine SL.ru rfl rfl (lt_b rfl) (ru_move rfl rfl) ?_
    refine SL.ru rfl rfl (lt_b rfl) (ru_add (r := 6) rfl rfl rfl rfl) ?_
    refine SL.ru rfl rfl (lt_b rfl) (ru_assign rfl rfl) ?_
    refine SL.nil ?_
    refine SE.round ?_
    refine SR.norm [(6, bo false), (8, pt g1 0), (10, pt b3 0), (17, iw 6)] [rNic 68 g1 F22 ({ linkF A false with r := up (linkF A false).r 6 0 }), rBlk b3 [iw ((linkF A false).r 0), iw ((linkF A false).r 1), iw ((linkF A false).r 2), iw ((linkF A false).r 3), iw ((linkF A false).r 4), iw ((linkF A false).r 5), iw ((linkF A false).r 6), iw (({ linkF A false with r := up (linkF A false).r 6 0 }).r 7)] 44, rMine (.slice a12 ([] : List UInt8).length c13) ([] : List UInt8) 5, rBlk b15 [Value.slice a12 (([] : List UInt8).length) c13, bo false, iw 0] 35] ⟨rfl, rfl, rfl, rfl, trivial⟩ rfl ?_
    refine SR.next ?_
    refine SC.seq ?_
    refine SC.seq ?_
    refine SC.region ?_
    refine SL.ru rfl rfl (lt_b rfl) (ru_move rfl rfl) ?_
    refine SL.ru rfl rfl (lt_b rfl) (ru_lt (b := true) rfl rfl rfl rfl) ?_
    refine SL.nil ?_
    refine SC.of_SE ?_
    refine SC.norm [(6, bo false), (8, pt g1 0), (10, pt b3 0), (17, iw 6), (73, bo true)] [rNic 68 g1 F22 ({ linkF A false with r := up (linkF A false).r 6 0 }), rBlk b3 [iw ((linkF A false).r 0), iw ((linkF A false).r 1), iw ((linkF A false).r 2), iw ((linkF A false).r 3), iw ((linkF A false).r 4), iw ((linkF A false).r 5), iw ((linkF A false).r 6), iw (({ linkF A false with r := up (linkF A false).r 6 0 }).r 7)] 44, rMine (.slice a12 ([] : List UInt8).length c13) ([] : List UInt8) 5, rBlk b15 [Value.slice a12 (([] : List UInt8).length) c13, bo false, iw 0] 35] ⟨rfl, rfl, rfl, rfl, rfl, trivial⟩ rfl ?_
    refine SC.yes rfl ?_
    refine SC.skip ?_
    refine SC.of_SE ?_
    refine SC.norm [(6, bo false), (8, pt g1 0), (10, pt b3 0), (17, iw 6)] [rNic 68 g1 F22 ({ linkF A false with r := up (linkF A false).r 6 0 }), rBlk b3 [iw ((linkF A false).r 0), iw ((linkF A false).r 1), iw ((linkF A false).r 2), iw ((linkF A false).r 3), iw ((linkF A false).r 4), iw ((linkF A false).r 5), iw ((linkF A false).r 6), iw (({ linkF A false with r := up (linkF A false).r 6 0 }).r 7)] 44, rMine (.slice a12 ([] : List UInt8).length c13) ([] : List UInt8) 5, rBlk b15 [Value.slice a12 (([] : List UInt8).length) c13, bo false, iw 0] 35] ⟨rfl, rfl, rfl, rfl, trivial⟩ rfl ?_
    refine SC.seq ?_
    refine SC.block ?_
    refine SC.seq ?_
    refine SC.region ?_
    refine SL.ru rfl rfl (lt_b rfl) (ru_move rfl rfl) ?_
    refine SL.ru rfl rfl (lt_b rfl) (ru_move rfl rfl) ?_
    refine SL.call (ζ := Nat → Prop) (fun F23 => Value.tuple #[iw (({ linkF A false with r := up (linkF A false).r 6 0 }).r 6), iw 0]) (fun F23 => [rNic 68 g1 F23 ({ { linkF A false with r := up (linkF A false).r 6 0 } with r := up ({ linkF A false with r := up (linkF A false).r 6 0 }).r 6 0 }), rBlk b3 [iw ((linkF A false).r 0), iw ((linkF A false).r 1), iw ((linkF A false).r 2), iw ((linkF A false).r 3), iw ((linkF A false).r 4), iw ((linkF A false).r 5), iw ((linkF A false).r 6), iw (({ linkF A false with r := up (linkF A false).r 6 0 }).r 7)] 44, rMine (.slice a12 ([] : List UInt8).length c13) ([] : List UInt8) 5, rBlk b15 [Value.slice a12 (([] : List UInt8).length) c13, bo false, iw 0] 35]) (fun F23 => True) rfl rfl co18 rfl rfl rfl (lt_b rfl) (fun w hI => (p_read_6 (read6_ok (link_ok hk false)) (nic_at hI (i := 0) rfl)).mono fun e w2 ⟨h1, h2⟩ => by obtain ⟨F2, h3⟩ := hI.nicTo (i := 0) rfl (.inr hg1) h2; exact ⟨F2, h1, h3, trivial⟩) ?_
    intro F23 _
    refine SL.ru rfl rfl (lt_b rfl) (ru_move rfl rfl) ?_
    refine SL.ru rfl rfl (lt_b rfl) (ru_extract rfl rfl rfl) ?_
    refine SL.ru rfl rfl (lt_b rfl) (ru_extract rfl rfl rfl) ?_
    refine SL.ru rfl rfl (lt_b rfl) (ru_assign rfl rfl) ?_
    refine SL.ru rfl rfl (lt_b rfl) (ru_assign rfl rfl) ?_
    refine SL.nil ?_
    refine SC.of_SE ?_
    refine SC.norm [(6, bo false), (8, pt g1 0), (10, pt b3 0), (17, iw 6), (18, iw (({ linkF A false with r := up (linkF A false).r 6 0 }).r 6))] [rNic 68 g1 F23 ({ { linkF A false with r := up (linkF A false).r 6 0 } with r := up ({ linkF A false with r := up (linkF A false).r 6 0 }).r 6 0 }), rBlk b3 [iw ((linkF A false).r 0), iw ((linkF A false).r 1), iw ((linkF A false).r 2), iw ((linkF A false).r 3), iw ((linkF A false).r 4), iw ((linkF A false).r 5), iw ((linkF A false).r 6), iw (({ linkF A false with r := up (linkF A false).r 6 0 }).r 7)] 44, rMine (.slice a12 ([] : List UInt8).length c13) ([] : List UInt8) 5, rBlk b15 [Value.slice a12 (([] : List UInt8).length) c13, bo false, iw 0] 35] ⟨rfl, rfl, rfl, rfl, rfl, trivial⟩ rfl ?_
    refine SC.seq ?_
    refine SC.region ?_
    refine SL.ru rfl rfl (lt_b rfl) (ru_move rfl rfl) ?_
    refine SL.ru rfl rfl (lt_b rfl) (ru_ne (b := false) rfl rfl rfl rfl) ?_
    refine SL.ru rfl rfl (lt_b rfl) (ru_move rfl rfl) ?_
    refine SL.off (b := false) rfl rfl rfl rfl rfl (lt_b rfl) ?_
    refine SL.off (b := false) rfl rfl rfl rfl rfl (lt_b rfl) ?_
    refine SL.off (b := false) rfl rfl rfl rfl rfl (lt_b rfl) ?_
    refine SL.off (b := false) rfl rfl rfl rfl rfl (lt_b rfl) ?_
    refine SL.off (b := false) rfl rfl rfl rfl rfl (lt_b rfl) ?_
    refine SL.ru rfl rfl (lt_b rfl) (ru_pick (u := undef) (v := bo false) rfl rfl rfl rfl) ?_
    refine SL.ru rfl rfl (lt_b rfl) (ru_move rfl rfl) ?_
    refine SL.rug rfl rfl rfl rfl (lt_b rfl) (ru_move rfl rfl) ?_
    refine SL.rug rfl rfl rfl rfl (lt_b rfl) (ru_eq (b := true) rfl rfl rfl rfl) ?_
    refine SL.rug rfl rfl rfl rfl (lt_b rfl) (ru_move rfl rfl) ?_
    refine SL.rug rfl rfl rfl rfl (lt_b rfl) (ru_move rfl rfl) ?_
    refine SL.rug rfl rfl rfl rfl (lt_b rfl) (ru_ne (b := false) rfl rfl rfl (bne_f rfl)) ?_
    refine SL.rug rfl rfl rfl rfl (lt_b rfl) (ru_pick (u := bo false) (v := bo false) rfl rfl rfl rfl) ?_
    refine SL.ru rfl rfl (lt_b rfl) (ru_pick (u := bo true) (v := bo false) rfl rfl rfl rfl) ?_
    refine SL.nil ?_
    refine SC.of_SE ?_
    refine SC.norm [(6, bo false), (8, pt g1 0), (10, pt b3 0), (17, iw 6), (98, bo false)] [rNic 68 g1 F23 ({ { linkF A false with r := up (linkF A false).r 6 0 } with r := up ({ linkF A false with r := up (linkF A false).r 6 0 }).r 6 0 }), rBlk b3 [iw ((linkF A false).r 0), iw ((linkF A false).r 1), iw ((linkF A false).r 2), iw ((linkF A false).r 3), iw ((linkF A false).r 4), iw ((linkF A false).r 5), iw ((linkF A false).r 6), iw (({ linkF A false with r := up (linkF A false).r 6 0 }).r 7)] 44, rMine (.slice a12 ([] : List UInt8).length c13) ([] : List UInt8) 5, rBlk b15 [Value.slice a12 (([] : List UInt8).length) c13, bo false, iw 0] 35] ⟨rfl, rfl, rfl, rfl, rfl, trivial⟩ rfl ?_
    refine SC.no rfl ?_
    refine SC.skip ?_
    refine SE.blkn ?_
    refine SC.of_SE ?_
    refine SC.norm [(6, bo false), (8, pt g1 0), (10, pt b3 0), (17, iw 6)] [rNic 68 g1 F23 ({ { linkF A false with r := up (linkF A false).r 6 0 } with r := up ({ linkF A false with r := up (linkF A false).r 6 0 }).r 6 0 }), rBlk b3 [iw ((linkF A false).r 0), iw ((linkF A false).r 1), iw ((linkF A false).r 2), iw ((linkF A false).r 3), iw ((linkF A false).r 4), iw ((linkF A false).r 5), iw ((linkF A false).r 6), iw (({ linkF A false with r := up (linkF A false).r 6 0 }).r 7)] 44, rMine (.slice a12 ([] : List UInt8).length c13) ([] : List UInt8) 5, rBlk b15 [Value.slice a12 (([] : List UInt8).length) c13, bo false, iw 0] 35] ⟨rfl, rfl, rfl, rfl, trivial⟩ rfl ?_
    refine SC.region ?_
    refine SL.ru rfl rfl (lt_b rfl) (ru_move rfl rfl) ?_
    refine SL.ru rfl rfl (lt_b rfl) (ru_add (r := 7) rfl rfl rfl rfl) ?_
    refine SL.ru rfl rfl (lt_b rfl) (ru_assign rfl rfl) ?_
    refine SL.nil ?_
    refine SE.round ?_
    refine SR.norm [(6, bo false), (8, pt g1 0), (10, pt b3 0), (17, iw 7)] [rNic 68 g1 F23 ({ { linkF A false with r := up (linkF A false).r 6 0 } with r := up ({ linkF A false with r := up (linkF A false).r 6 0 }).r 6 0 }), rBlk b3 [iw ((linkF A false).r 0), iw ((linkF A false).r 1), iw ((linkF A false).r 2), iw ((linkF A false).r 3), iw ((linkF A false).r 4), iw ((linkF A false).r 5), iw ((linkF A false).r 6), iw (({ linkF A false with r := up (linkF A false).r 6 0 }).r 7)] 44, rMine (.slice a12 ([] : List UInt8).length c13) ([] : List UInt8) 5, rBlk b15 [Value.slice a12 (([] : List UInt8).length) c13, bo false, iw 0] 35] ⟨rfl, rfl, rfl, rfl, trivial⟩ rfl ?_
    refine SR.next ?_
    refine SC.seq ?_
    refine SC.seq ?_
    refine SC.region ?_
    refine SL.ru rfl rfl (lt_b rfl) (ru_move rfl rfl) ?_
    refine SL.ru rfl rfl (lt_b rfl) (ru_lt (b := true) rfl rfl rfl rfl) ?_
    refine SL.nil ?_
    refine SC.of_SE ?_
    refine SC.norm [(6, bo false), (8, pt g1 0), (10, pt b3 0), (17, iw 7), (73, bo true)] [rNic 68 g1 F23 ({ { linkF A false with r := up (linkF A false).r 6 0 } with r := up ({ linkF A false with r := up (linkF A false).r 6 0 }).r 6 0 }), rBlk b3 [iw ((linkF A false).r 0), iw ((linkF A false).r 1), iw ((linkF A false).r 2), iw ((linkF A false).r 3), iw ((linkF A false).r 4), iw ((linkF A false).r 5), iw ((linkF A false).r 6), iw (({ linkF A false with r := up (linkF A false).r 6 0 }).r 7)] 44, rMine (.slice a12 ([] : List UInt8).length c13) ([] : List UInt8) 5, rBlk b15 [Value.slice a12 (([] : List UInt8).length) c13, bo false, iw 0] 35] ⟨rfl, rfl, rfl, rfl, rfl, trivial⟩ rfl ?_
    refine SC.yes rfl ?_
    refine SC.skip ?_
    refine SC.of_SE ?_
    refine SC.norm [(6, bo false), (8, pt g1 0), (10, pt b3 0), (17, iw 7)] [rNic 68 g1 F23 ({ { linkF A false with r := up (linkF A false).r 6 0 } with r := up ({ linkF A false with r := up (linkF A false).r 6 0 }).r 6 0 }), rBlk b3 [iw ((linkF A false).r 0), iw ((linkF A false).r 1), iw ((linkF A false).r 2), iw ((linkF A false).r 3), iw ((linkF A false).r 4), iw ((linkF A false).r 5), iw ((linkF A false).r 6), iw (({ linkF A false with r := up (linkF A false).r 6 0 }).r 7)] 44, rMine (.slice a12 ([] : List UInt8).length c13) ([] : List UInt8) 5, rBlk b15 [Value.slice a12 (([] : List UInt8).length) c13, bo false, iw 0] 35] ⟨rfl, rfl, rfl, rfl, trivial⟩ rfl ?_
    refine SC.seq ?_
    refine SC.block ?_
    refine SC.seq ?_
    refine SC.region ?_
    refine SL.ru rfl rfl (lt_b rfl) (ru_move rfl rfl) ?_
    refine SL.ru rfl rfl (lt_b rfl) (ru_move rfl rfl) ?_
    refine SL.call (ζ := Nat → Prop) (fun F24 => Value.tuple #[iw (({ { linkF A false with r := up (linkF A false).r 6 0 } with r := up ({ linkF A false with r := up (linkF A false).r 6 0 }).r 6 0 }).r 7), iw 0]) (fun F24 => [rNic 68 g1 F24 ({ { linkF A false with r := up (linkF A false).r 6 0 } with r := up ({ linkF A false with r := up (linkF A false).r 6 0 }).r 6 0 }), rBlk b3 [iw ((linkF A false).r 0), iw ((linkF A false).r 1), iw ((linkF A false).r 2), iw ((linkF A false).r 3), iw ((linkF A false).r 4), iw ((linkF A false).r 5), iw ((linkF A false).r 6), iw (({ linkF A false with r := up (linkF A false).r 6 0 }).r 7)] 44, rMine (.slice a12 ([] : List UInt8).length c13) ([] : List UInt8) 5, rBlk b15 [Value.slice a12 (([] : List UInt8).length) c13, bo false, iw 0] 35]) (fun F24 => True) rfl rfl co18 rfl rfl rfl (lt_b rfl) (fun w hI => (p_read_k (read6_ok (read6_ok (link_ok hk false))) (nic_at hI (i := 0) rfl) 7 rfl (by decide) (by decide)).mono fun e w2 ⟨h1, h2⟩ => by obtain ⟨F2, h3⟩ := hI.nicTo (i := 0) rfl (.inr hg1) h2; exact ⟨F2, h1, h3, trivial⟩) ?_
    intro F24 _
    refine SL.ru rfl rfl (lt_b rfl) (ru_move rfl rfl) ?_
    refine SL.ru rfl rfl (lt_b rfl) (ru_extract rfl rfl rfl) ?_
    refine SL.ru rfl rfl (lt_b rfl) (ru_extract rfl rfl rfl) ?_
    refine SL.ru rfl rfl (lt_b rfl) (ru_assign rfl rfl) ?_
    refine SL.ru rfl rfl (lt_b rfl) (ru_assign rfl rfl) ?_
    refine SL.nil ?_
    refine SC.of_SE ?_
    refine SC.norm [(6, bo false), (8, pt g1 0), (10, pt b3 0), (17, iw 7), (18, iw (({ { linkF A false with r := up (linkF A false).r 6 0 } with r := up ({ linkF A false with r := up (linkF A false).r 6 0 }).r 6 0 }).r 7))] [rNic 68 g1 F24 ({ { linkF A false with r := up (linkF A false).r 6 0 } with r := up ({ linkF A false with r := up (linkF A false).r 6 0 }).r 6 0 }), rBlk b3 [iw ((linkF A false).r 0), iw ((linkF A false).r 1), iw ((linkF A false).r 2), iw ((linkF A false).r 3), iw ((linkF A false).r 4), iw ((linkF A false).r 5), iw ((linkF A false).r 6), iw (({ linkF A false with r := up (linkF A false).r 6 0 }).r 7)] 44, rMine (.slice a12 ([] : List UInt8).length c13) ([] : List UInt8) 5, rBlk b15 [Value.slice a12 (([] : List UInt8).length) c13, bo false, iw 0] 35] ⟨rfl, rfl, rfl, rfl, rfl, trivial⟩ rfl ?_
    refine SC.seq ?_
    refine SC.region ?_
    refine SL.ru rfl rfl (lt_b rfl) (ru_move rfl rfl) ?_
    refine SL.ru rfl rfl (lt_b rfl) (ru_ne (b := true) rfl rfl rfl rfl) ?_
    refine SL.ru rfl rfl (lt_b rfl) (ru_move rfl rfl) ?_
    refine SL.rug rfl rfl rfl rfl (lt_b rfl) (ru_move rfl rfl) ?_
    refine SL.rug rfl rfl rfl rfl (lt_b rfl) (ru_move rfl rfl) ?_
    refine SL.rug rfl rfl rfl rfl (lt_b rfl) (ru_indexA (o2 := 7) ar44 rfl rfl rfl (by decide) (by decide) rfl) ?_
    refine SL.rug rfl rfl rfl rfl (lt_b rfl) (ru_load (i := 1) ts3 rfl rfl rfl rfl) ?_
    refine SL.rug rfl rfl rfl rfl (lt_b rfl) (ru_ne (b := false) rfl rfl rfl (bne_f rfl)) ?_
    refine SL.ru rfl rfl (lt_b rfl) (ru_pick (u := bo false) (v := bo false) rfl rfl rfl rfl) ?_
    refine SL.ru rfl rfl (lt_b rfl) (ru_move rfl rfl) ?_
    refine SL.rug rfl rfl rfl rfl (lt_b rfl) (ru_move rfl rfl) ?_
    refine SL.rug rfl rfl rfl rfl (lt_b rfl) (ru_eq (b := false) rfl rfl rfl rfl) ?_
    refine SL.rug rfl rfl rfl rfl (lt_b rfl) (ru_move rfl rfl) ?_
    refine SL.off (b := false) rfl rfl rfl rfl rfl (lt_b rfl) ?_
    refine SL.off (b := false) rfl rfl rfl rfl rfl (lt_b rfl) ?_
    refine SL.rug rfl rfl rfl rfl (lt_b rfl) (ru_pick (u := undef) (v := bo false) rfl rfl rfl rfl) ?_
    refine SL.ru rfl rfl (lt_b rfl) (ru_pick (u := bo true) (v := bo false) rfl rfl rfl rfl) ?_
    refine SL.nil ?_
    refine SC.of_SE ?_
    refine SC.norm [(6, bo false), (8, pt g1 0), (10, pt b3 0), (17, iw 7), (98, bo false)] [rNic 68 g1 F24 ({ { linkF A false with r := up (linkF A false).r 6 0 } with r := up ({ linkF A false with r := up (linkF A false).r 6 0 }).r 6 0 }), rBlk b3 [iw ((linkF A false).r 0), iw ((linkF A false).r 1), iw ((linkF A false).r 2), iw ((linkF A false).r 3), iw ((linkF A false).r 4), iw ((linkF A false).r 5), iw ((linkF A false).r 6), iw (({ linkF A false with r := up (linkF A false).r 6 0 }).r 7)] 44, rMine (.slice a12 ([] : List UInt8).length c13) ([] : List UInt8) 5, rBlk b15 [Value.slice a12 (([] : List UInt8).length) c13, bo false, iw 0] 35] ⟨rfl, rfl, rfl, rfl, rfl, trivial⟩ rfl ?_
    refine SC.no rfl ?_
    refine SC.skip ?_
    refine SE.blkn ?_
    refine SC.of_SE ?_
    refine SC.norm [(6, bo false), (8, pt g1 0), (10, pt b3 0), (17, iw 7)] [rNic 68 g1 F24 ({ { linkF A false with r := up (linkF A false).r 6 0 } with r := up ({ linkF A false with r := up (linkF A false).r 6 0 }).r 6 0 }), rBlk b3 [iw ((linkF A false).r 0), iw ((linkF A false).r 1), iw ((linkF A false).r 2), iw ((linkF A false).r 3), iw ((linkF A false).r 4), iw ((linkF A false).r 5), iw ((linkF A false).r 6), iw (({ linkF A false with r := up (linkF A false).r 6 0 }).r 7)] 44, rMine (.slice a12 ([] : List UInt8).length c13) ([] : List UInt8) 5, rBlk b15 [Value.slice a12 (([] : List UInt8).length) c13, bo false, iw 0] 35] ⟨rfl, rfl, rfl, rfl, trivial⟩ rfl ?_
    refine SC.region ?_
    refine SL.ru rfl rfl (lt_b rfl) (ru_move rfl rfl) ?_
    refine SL.ru rfl rfl (lt_b rfl) (ru_add (r := 8) rfl rfl rfl rfl) ?_
    refine SL.ru rfl rfl (lt_b rfl) (ru_assign rfl rfl) ?_
    refine SL.nil ?_
    refine SE.round ?_
    refine SR.norm [(6, bo false), (8, pt g1 0), (10, pt b3 0), (17, iw 8)] [rNic 68 g1 F24 ({ { linkF A false with r := up (linkF A false).r 6 0 } with r := up ({ linkF A false with r := up (linkF A false).r 6 0 }).r 6 0 }), rBlk b3 [iw ((linkF A false).r 0), iw ((linkF A false).r 1), iw ((linkF A false).r 2), iw ((linkF A false).r 3), iw ((linkF A false).r 4), iw ((linkF A false).r 5), iw ((linkF A false).r 6), iw (({ linkF A false with r := up (linkF A false).r 6 0 }).r 7)] 44, rMine (.slice a12 ([] : List UInt8).length c13) ([] : List UInt8) 5, rBlk b15 [Value.slice a12 (([] : List UInt8).length) c13, bo false, iw 0] 35] ⟨rfl, rfl, rfl, rfl, trivial⟩ rfl ?_
    refine SR.next ?_
    refine SC.seq ?_
    refine SC.seq ?_
    refine SC.region ?_
    refine SL.ru rfl rfl (lt_b rfl) (ru_move rfl rfl) ?_
    refine SL.ru rfl rfl (lt_b rfl) (ru_lt (b := false) rfl rfl rfl rfl) ?_
    refine SL.nil ?_
    refine SC.of_SE ?_
    refine SC.norm [(6, bo false), (8, pt g1 0), (10, pt b3 0), (17, iw 8), (73, bo false)] [rNic 68 g1 F24 ({ { linkF A false with r := up (linkF A false).r 6 0 } with r := up ({ linkF A false with r := up (linkF A false).r 6 0 }).r 6 0 }), rBlk b3 [iw ((linkF A false).r 0), iw ((linkF A false).r 1), iw ((linkF A false).r 2), iw ((linkF A false).r 3), iw ((linkF A false).r 4), iw ((linkF A false).r 5), iw ((linkF A false).r 6), iw (({ linkF A false with r := up (linkF A false).r 6 0 }).r 7)] 44, rMine (.slice a12 ([] : List UInt8).length c13) ([] : List UInt8) 5, rBlk b15 [Value.slice a12 (([] : List UInt8).length) c13, bo false, iw 0] 35] ⟨rfl, rfl, rfl, rfl, rfl, trivial⟩ rfl ?_
    refine SC.no rfl ?_
    refine SC.exit ?_
    refine SE.passe ?_
    refine SE.passe ?_
    refine SE.blke ?_
    refine SC.of_SE ?_
    refine SC.norm [(6, bo false)] [rNic 68 g1 F24 ({ { linkF A false with r := up (linkF A false).r 6 0 } with r := up ({ linkF A false with r := up (linkF A false).r 6 0 }).r 6 0 }), rBlk b3 [iw ((linkF A false).r 0), iw ((linkF A false).r 1), iw ((linkF A false).r 2), iw ((linkF A false).r 3), iw ((linkF A false).r 4), iw ((linkF A false).r 5), iw ((linkF A false).r 6), iw (({ linkF A false with r := up (linkF A false).r 6 0 }).r 7)] 44, rMine (.slice a12 ([] : List UInt8).length c13) ([] : List UInt8) 5, rBlk b15 [Value.slice a12 (([] : List UInt8).length) c13, bo false, iw 0] 35] ⟨rfl, trivial⟩ rfl ?_
    refine SC.seq ?_
    refine SC.region ?_
    refine SL.ru rfl rfl (lt_b rfl) (ru_assign rfl rfl) ?_
    refine SL.nil ?_
    refine SC.of_SE ?_
    refine SC.norm [(6, bo true)] [rNic 68 g1 F24 ({ { linkF A false with r := up (linkF A false).r 6 0 } with r := up ({ linkF A false with r := up (linkF A false).r 6 0 }).r 6 0 }), rBlk b3 [iw ((linkF A false).r 0), iw ((linkF A false).r 1), iw ((linkF A false).r 2), iw ((linkF A false).r 3), iw ((linkF A false).r 4), iw ((linkF A false).r 5), iw ((linkF A false).r 6), iw (({ linkF A false with r := up (linkF A false).r 6 0 }).r 7)] 44, rMine (.slice a12 ([] : List UInt8).length c13) ([] : List UInt8) 5, rBlk b15 [Value.slice a12 (([] : List UInt8).length) c13, bo false, iw 0] 35] ⟨rfl, trivial⟩ rfl ?_
    refine SC.ret ?_
    refine SE.res (.inl rfl) (res1 Try.results4 rfl) fun w1 hI => ⟨rfl, hI.2⟩
  · skip
    obtain ⟨b, o, ea, hop⟩ := hops (l.length - nn) (by omega)
    obtain ⟨⟨k, n, v, ov, f, y⟩, hl⟩ : ∃ op : OpR, op = l[l.length - nn]'(by omega) := ⟨_, rfl⟩
    rw [← hl] at hop
    obtain ⟨hc, hb, hs⟩ := hop
    simp only at hc hb hs
    obtain ⟨fa, fc, rfl⟩ := hb.form
    subst ea
    refine SC.seq ?_
    refine SC.seq ?_
    refine SC.region ?_
    refine SL.ru rfl rfl (lt_b rfl) (ru_move rfl rfl) ?_
    refine SL.ru rfl rfl (lt_b rfl) (ru_move rfl rfl) ?_
    refine SL.ru rfl rfl (lt_b rfl) (ru_len Try.underlying22 rfl rfl) ?_
    refine SL.ru rfl rfl (lt_b rfl) (ru_lt (b := (decide ((((l.length : Int) - (nn : Int)) : Int) < (l.length : Int)))) rfl rfl rfl rfl) ?_
    refine SL.nil ?_
    refine SC.of_SE ?_
    refine SC.norm [(0, sl b o l.length c), (1, bo true), (2, Value.slice fa0 f0.length fc0), (6, bo false), (8, pt g1 0), (9, iw ((l.length : Int) - (nn : Int))), (31, bo (decide ((((l.length : Int) - (nn : Int)) : Int) < (l.length : Int))))] [rNic 68 g1 F A] ⟨rfl, rfl, rfl, rfl, rfl, rfl, rfl, trivial⟩ rfl ?_
    refine SC.yes (show some (Value.bool (decide ((((l.length : Int) - (nn : Int)) : Int) < (l.length : Int)))) = some (Value.bool true) from congrArg (fun x => some (Value.bool x)) (decide_eq_true (by omega))) ?_
    refine SC.skip ?_
    refine SC.of_SE ?_
    refine SC.norm [(0, sl b o l.length c), (1, bo true), (2, Value.slice fa0 f0.length fc0), (6, bo false), (8, pt g1 0), (9, iw ((l.length : Int) - (nn : Int)))] [rNic 68 g1 F A] ⟨rfl, rfl, rfl, rfl, rfl, rfl, trivial⟩ rfl ?_
    refine SC.seq ?_
    refine SC.block ?_
    refine SC.region ?_
    refine SL.ru rfl rfl (lt_b rfl) (ru_move rfl rfl) ?_
    refine SL.ru rfl rfl (lt_b rfl) (ru_move rfl rfl) ?_
    refine SL.ru rfl rfl (lt_b rfl) (ru_move rfl rfl) ?_
    refine SL.ru rfl rfl (lt_b rfl) (ru_indexS (o2 := o + ((l.length : Int) - (nn : Int)).toNat * 5) si22 rfl rfl rfl (by omega) (by omega) rfl) ?_
    refine SL.ru rfl rfl (lt_b rfl) (ru_loada_old (vs := [iw k, iw n, iw v, Value.slice fa f.length fc, bo y]) (fun _ h => h) ta32 rfl rfl rfl (by rw [show ((l.length : Int) - (nn : Int)).toNat = l.length - nn by omega]; exact hc)) ?_
    refine SL.call (ζ := Nat → Prop) (fun F25 => Value.tuple #[]) (fun F25 => [rNic 68 g1 F25 (playF A k n v f y)]) (fun F25 => True) rfl rfl co16 rfl rfl rfl (lt_b rfl) (fun w hI => (plays_any hk (nic_at hI (i := 0) rfl) (hb.only hI.2 (fun _ _ _ _ _ _ h => h)) (fun b o n c e hn h => by have := hs b o n c e hn; subst h; omega)).mono fun e w2 ⟨h1, ⟨F2, h2⟩, h3⟩ => ⟨F2, h1, hI.play1 h2 h3 (.inr hg1), trivial⟩) ?_
    intro F25 _
    refine SL.nil ?_
    refine SE.blkn ?_
    refine SC.of_SE ?_
    refine SC.norm [(0, sl b o l.length c), (1, bo true), (2, Value.slice fa0 f0.length fc0), (6, bo false), (8, pt g1 0), (9, iw ((l.length : Int) - (nn : Int)))] [rNic 68 g1 F25 (playF A k n v f y)] ⟨rfl, rfl, rfl, rfl, rfl, rfl, trivial⟩ rfl ?_
    refine SC.region ?_
    refine SL.ru rfl rfl (lt_b rfl) (ru_move rfl rfl) ?_
    refine SL.ru rfl rfl (lt_b rfl) (ru_add (r := (IntKind.i64.wrap (((l.length : Int) - (nn : Int)) + 1))) rfl rfl rfl rfl) ?_
    refine SL.ru rfl rfl (lt_b rfl) (ru_assign rfl rfl) ?_
    refine SL.nil ?_
    refine SE.again (nn - 1) (playF A k n v f y, F25) (by omega) ⟨by omega, play_ok hk k n v f y⟩ ⟨rfl, rfl, rfl, rfl, rfl, (congrArg (fun x => some (iw x)) (show IntKind.i64.wrap (((l.length : Int) - (nn : Int)) + 1) = (l.length : Int) - (((nn - 1 : Nat) : Int) : Int) by rw [IntKind.wrap_i64]; omega)), trivial⟩ rfl

end Go.Proofs.Ytloejpkefoagfaa
