/-
  NicResets answers true.
-/
import Derived.Test.YtloejpkefoagfaaNicPlays
import Derived.Test.YtloejpkefoagfaaNicAwake
namespace Go.Proofs.Ytloejpkefoagfaa
open Go.RowKit
set_option maxRecDepth 100000
set_option maxHeartbeats 4000000
theorem resets_walk (w : World) {vv : Value} {l : List OpR} (h : OpsAt w vv l) : Calls Try.prog 6 #[vv] w fun e w' => e = .returned (.bool true) ∧ Only (fun _ => False) w w' := by
  obtain ⟨a, c, rfl, hll, hops⟩ := h
  refine calls_sc (l0 := []) (args := [Value.slice a l.length c]) (fun _ => False) Try.func6 rfl 96 Try.ntmps6 (le_b rfl) ⟨⟨by simp, List.Pairwise.nil⟩, Only.refl _ _⟩ ?_
  show SC _ _ _ _ [(0, Value.slice a l.length c)] []
  refine SC.seq ?_
  refine SC.region ?_
  refine SL.ru rfl rfl (lt_b rfl) (ru_assign rfl rfl) ?_
  refine SL.nil ?_
  refine SC.of_SE ?_
  refine SC.norm [(0, Value.slice a l.length c), (2, bo false)] [] ⟨rfl, rfl, trivial⟩ rfl ?_
  refine SC.seq ?_
  refine SC.region ?_
  refine SL.callv (bo true) rfl rfl co7 rfl rfl rfl (lt_b rfl) (fun w hI => H_only hI (awake_any _)) ?_
  refine SL.ru rfl rfl (lt_b rfl) (ru_assign rfl rfl) ?_
  refine SL.nil ?_
  refine SC.of_SE ?_
  refine SC.norm [(0, Value.slice a l.length c), (2, bo false), (3, bo true)] [] ⟨rfl, rfl, rfl, trivial⟩ rfl ?_
  refine SC.seq ?_
  refine SC.region ?_
  refine SL.call (ζ := Nat) (fun z => pt z 0) (fun z => [rNic 68 z (fun _ => False) newA]) (fun z => w.heap.size ≤ z) rfl rfl co8 rfl rfl rfl (lt_b rfl) (fun w hI => (p_new _).mono fun e w2 ⟨g, h1, h2, h3, h4⟩ => ⟨g, h2, hI.newNic h1 h3 h4, Nat.le_trans hI.2.size h1⟩) ?_
  intro g1 hg1
  refine SL.ru rfl rfl (lt_b rfl) (ru_assign rfl rfl) ?_
  refine SL.nil ?_
  refine SC.of_SE ?_
  refine SC.norm [(0, Value.slice a l.length c), (2, bo false), (3, bo true), (4, pt g1 0)] [rNic 68 g1 (fun _ => False) newA] ⟨rfl, rfl, rfl, rfl, trivial⟩ rfl ?_
  refine SC.seq ?_
  refine SC.seq ?_
  refine SC.region ?_
  refine SL.ru rfl rfl (lt_b rfl) (ru_move rfl rfl) ?_
  refine SL.ru rfl rfl (lt_b rfl) (ru_not (c := false) rfl rfl rfl) ?_
  refine SL.ru rfl rfl (lt_b rfl) (ru_move rfl rfl) ?_
  refine SL.rug rfl rfl rfl rfl (lt_b rfl) (ru_move rfl rfl) ?_
  refine SL.rug rfl rfl rfl rfl (lt_b rfl) (ru_eqnil Try.underlying24 rfl rfl rfl rfl) ?_
  refine SL.ru rfl rfl (lt_b rfl) (ru_pick (u := bo true) (v := bo false) rfl rfl rfl rfl) ?_
  refine SL.nil ?_
  refine SC.of_SE ?_
  refine SC.norm [(0, Value.slice a l.length c), (2, bo false), (4, pt g1 0), (25, bo false)] [rNic 68 g1 (fun _ => False) newA] ⟨rfl, rfl, rfl, rfl, trivial⟩ rfl ?_
  refine SC.no rfl ?_
  refine SC.skip ?_
  refine SC.of_SE ?_
  refine SC.norm [(0, Value.slice a l.length c), (2, bo false), (4, pt g1 0)] [rNic 68 g1 (fun _ => False) newA] ⟨rfl, rfl, rfl, trivial⟩ rfl ?_
  refine SC.seq ?_
  refine SC.seq ?_
  refine SC.region ?_
  refine SL.ru rfl rfl (lt_b rfl) (ru_assign rfl rfl) ?_
  refine SL.nil ?_
  refine SC.of_SE ?_
  refine SC.norm [(0, Value.slice a l.length c), (2, bo false), (4, pt g1 0), (5, iw 0)] [rNic 68 g1 (fun _ => False) newA] ⟨rfl, rfl, rfl, rfl, trivial⟩ rfl ?_
  refine SC.block ?_
  refine SC.loop (γ := NicA × (Nat → Prop)) (fun nn _ => [(0, Value.slice a l.length c), (2, bo false), (4, pt g1 0), (5, iw ((l.length : Int) - (nn : Int)))]) (fun nn g => [rNic 68 g1 g.2 g.1]) (fun nn g => nn ≤ l.length ∧ NicOk g.1) l.length (newA, (fun _ => False)) ⟨Nat.le_refl _, newA_ok⟩ ⟨rfl, rfl, rfl, (congrArg (fun x => some (iw x)) (show (0 : Int) = (l.length : Int) - ((l.length : Nat) : Int) by omega)), trivial⟩ rfl ?_
  rintro nn ⟨A, F⟩ ⟨hn, hk⟩
  rcases Nat.eq_zero_or_pos nn with h0 | h0
  · skip
    refine SC.seq ?_
    refine SC.seq ?_
    refine SC.region ?_
    refine SL.ru rfl rfl (lt_b rfl) (ru_move rfl rfl) ?_
    refine SL.ru rfl rfl (lt_b rfl) (ru_move rfl rfl) ?_
    refine SL.ru rfl rfl (lt_b rfl) (ru_len Try.underlying22 rfl rfl) ?_
    refine SL.ru rfl rfl (lt_b rfl) (ru_lt (b := (decide ((((l.length : Int) - (nn : Int)) : Int) < (l.length : Int)))) rfl rfl rfl rfl) ?_
    refine SL.nil ?_
    refine SC.of_SE ?_
    refine SC.norm [(0, Value.slice a l.length c), (2, bo false), (4, pt g1 0), (5, iw ((l.length : Int) - (nn : Int))), (29, bo (decide ((((l.length : Int) - (nn : Int)) : Int) < (l.length : Int))))] [rNic 68 g1 F A] ⟨rfl, rfl, rfl, rfl, rfl, trivial⟩ rfl ?_
    refine SC.no (show some (Value.bool (decide ((((l.length : Int) - (nn : Int)) : Int) < (l.length : Int)))) = some (Value.bool false) from congrArg (fun x => some (Value.bool x)) (decide_eq_false (by omega))) ?_
    refine SC.exit ?_
    refine SE.passe ?_
    refine SE.passe ?_
    refine SE.blke ?_
    refine SC.of_SE ?_
    refine SC.norm [(2, bo false), (4, pt g1 0)] [rNic 68 g1 F A] ⟨rfl, rfl, trivial⟩ rfl ?_
    refine SC.seq ?_
    refine SC.region ?_
    refine SL.ru rfl rfl (lt_b rfl) (ru_move rfl rfl) ?_
    refine SL.call (ζ := Nat → Prop) (fun F2 => Value.tuple #[iw (A.r 1), iw 0]) (fun F2 => [rNic 68 g1 F2 A]) (fun F2 => True) rfl rfl co18 rfl rfl rfl (lt_b rfl) (fun w hI => (p_read_k hk (nic_at hI (i := 0) rfl) 1 rfl (by decide) (by decide)).mono fun e w2 ⟨h1, h2⟩ => by obtain ⟨F2, h3⟩ := hI.nicTo (i := 0) rfl (.inr hg1) h2; exact ⟨F2, h1, h3, trivial⟩) ?_
    intro F2 _
    refine SL.ru rfl rfl (lt_b rfl) (ru_move rfl rfl) ?_
    refine SL.ru rfl rfl (lt_b rfl) (ru_extract rfl rfl rfl) ?_
    refine SL.ru rfl rfl (lt_b rfl) (ru_extract rfl rfl rfl) ?_
    refine SL.ru rfl rfl (lt_b rfl) (ru_assign rfl rfl) ?_
    refine SL.ru rfl rfl (lt_b rfl) (ru_assign rfl rfl) ?_
    refine SL.nil ?_
    refine SC.of_SE ?_
    refine SC.norm [(2, bo false), (4, pt g1 0), (6, iw (A.r 1))] [rNic 68 g1 F2 A] ⟨rfl, rfl, rfl, trivial⟩ rfl ?_
    refine SC.seq ?_
    refine SC.region ?_
    refine SL.ru rfl rfl (lt_b rfl) (ru_move rfl rfl) ?_
    refine SL.call (ζ := Nat → Prop) (fun F3 => iw 0) (fun F3 => [rNic 68 g1 F3 (resetA A)]) (fun F3 => True) rfl rfl co9 rfl rfl rfl (lt_b rfl) (fun w hI => (p_write_2 hk (nic_at hI (i := 0) rfl)).mono fun e w2 ⟨h1, h2⟩ => by obtain ⟨F2, h3⟩ := hI.nicTo (i := 0) rfl (.inr hg1) h2; exact ⟨F2, h1, h3, trivial⟩) ?_
    intro F3 _
    refine SL.ru rfl rfl (lt_b rfl) (ru_assign rfl rfl) ?_
    refine SL.nil ?_
    refine SC.of_SE ?_
    refine SC.norm [(2, bo false), (4, pt g1 0), (6, iw (A.r 1)), (8, iw 0)] [rNic 68 g1 F3 (resetA A)] ⟨rfl, rfl, rfl, rfl, trivial⟩ rfl ?_
    refine SC.seq ?_
    refine SC.seq ?_
    refine SC.region ?_
    refine SL.ru rfl rfl (lt_b rfl) (ru_move rfl rfl) ?_
    refine SL.ru rfl rfl (lt_b rfl) (ru_ne (b := false) rfl rfl rfl rfl) ?_
    refine SL.nil ?_
    refine SC.of_SE ?_
    refine SC.norm [(2, bo false), (4, pt g1 0), (6, iw (A.r 1)), (46, bo false)] [rNic 68 g1 F3 (resetA A)] ⟨rfl, rfl, rfl, rfl, trivial⟩ rfl ?_
    refine SC.no rfl ?_
    refine SC.skip ?_
    refine SC.of_SE ?_
    refine SC.norm [(2, bo false), (4, pt g1 0), (6, iw (A.r 1))] [rNic 68 g1 F3 (resetA A)] ⟨rfl, rfl, rfl, trivial⟩ rfl ?_
    refine SC.seq ?_
    refine SC.seq ?_
    refine SC.region ?_
    refine SL.ru rfl rfl (lt_b rfl) (ru_assign rfl rfl) ?_
    refine SL.nil ?_
    refine SC.of_SE ?_
    refine SC.norm [(2, bo false), (4, pt g1 0), (6, iw (A.r 1)), (9, iw 0)] [rNic 68 g1 F3 (resetA A)] ⟨rfl, rfl, rfl, rfl, trivial⟩ rfl ?_
    refine SC.block ?_
    refine SC.rounds 9 ?_
    refine SR.norm [(2, bo false), (4, pt g1 0), (6, iw (A.r 1)), (9, iw 0)] [rNic 68 g1 F3 (resetA A)] ⟨rfl, rfl, rfl, rfl, trivial⟩ rfl ?_
    refine SR.next ?_
    refine SC.seq ?_
    refine SC.seq ?_
    refine SC.region ?_
    refine SL.ru rfl rfl (lt_b rfl) (ru_move rfl rfl) ?_
    refine SL.ru rfl rfl (lt_b rfl) (ru_lt (b := true) rfl rfl rfl rfl) ?_
    refine SL.nil ?_
    refine SC.of_SE ?_
    refine SC.norm [(2, bo false), (4, pt g1 0), (6, iw (A.r 1)), (9, iw 0), (48, bo true)] [rNic 68 g1 F3 (resetA A)] ⟨rfl, rfl, rfl, rfl, rfl, trivial⟩ rfl ?_
    refine SC.yes rfl ?_
    refine SC.skip ?_
    refine SC.of_SE ?_
    refine SC.norm [(2, bo false), (4, pt g1 0), (6, iw (A.r 1)), (9, iw 0)] [rNic 68 g1 F3 (resetA A)] ⟨rfl, rfl, rfl, rfl, trivial⟩ rfl ?_
    refine SC.seq ?_
    refine SC.block ?_
    refine SC.seq ?_
    refine SC.region ?_
    refine SL.ru rfl rfl (lt_b rfl) (ru_move rfl rfl) ?_
    refine SL.ru rfl rfl (lt_b rfl) (ru_move rfl rfl) ?_
    refine SL.call (ζ := Nat → Prop) (fun F4 => Value.tuple #[iw ((resetA A).r 0), iw 0]) (fun F4 => [rNic 68 g1 F4 (resetA A)]) (fun F4 => True) rfl rfl co18 rfl rfl rfl (lt_b rfl) (fun w hI => (p_read_k (reset_ok hk) (nic_at hI (i := 0) rfl) 0 rfl (by decide) (by decide)).mono fun e w2 ⟨h1, h2⟩ => by obtain ⟨F2, h3⟩ := hI.nicTo (i := 0) rfl (.inr hg1) h2; exact ⟨F2, h1, h3, trivial⟩) ?_
    intro F4 _
    refine SL.ru rfl rfl (lt_b rfl) (ru_move rfl rfl) ?_
    refine SL.ru rfl rfl (lt_b rfl) (ru_extract rfl rfl rfl) ?_
    refine SL.ru rfl rfl (lt_b rfl) (ru_extract rfl rfl rfl) ?_
    refine SL.ru rfl rfl (lt_b rfl) (ru_assign rfl rfl) ?_
    refine SL.ru rfl rfl (lt_b rfl) (ru_assign rfl rfl) ?_
    refine SL.nil ?_
    refine SC.of_SE ?_
    refine SC.norm [(2, bo false), (4, pt g1 0), (6, iw (A.r 1)), (9, iw 0), (10, iw ((resetA A).r 0)), (11, iw 0)] [rNic 68 g1 F4 (resetA A)] ⟨rfl, rfl, rfl, rfl, rfl, rfl, trivial⟩ rfl ?_
    refine SC.seq ?_
    refine SC.region ?_
    refine SL.ru rfl rfl (lt_b rfl) (ru_move rfl rfl) ?_
    refine SL.ru rfl rfl (lt_b rfl) (ru_ne (b := false) rfl rfl rfl rfl) ?_
    refine SL.ru rfl rfl (lt_b rfl) (ru_move rfl rfl) ?_
    refine SL.rug rfl rfl rfl rfl (lt_b rfl) (ru_move rfl rfl) ?_
    refine SL.rug rfl rfl rfl rfl (lt_b rfl) (ru_eq (b := false) rfl rfl rfl rfl) ?_
    refine SL.rug rfl rfl rfl rfl (lt_b rfl) (ru_move rfl rfl) ?_
    refine SL.off (b := false) rfl rfl rfl rfl rfl (lt_b rfl) ?_
    refine SL.off (b := false) rfl rfl rfl rfl rfl (lt_b rfl) ?_
    refine SL.off (b := false) rfl rfl rfl rfl rfl (lt_b rfl) ?_
    refine SL.rug rfl rfl rfl rfl (lt_b rfl) (ru_pick (u := undef) (v := bo false) rfl rfl rfl rfl) ?_
    refine SL.ru rfl rfl (lt_b rfl) (ru_pick (u := bo true) (v := bo false) rfl rfl rfl rfl) ?_
    refine SL.ru rfl rfl (lt_b rfl) (ru_move rfl rfl) ?_
    refine SL.rug rfl rfl rfl rfl (lt_b rfl) (ru_move rfl rfl) ?_
    refine SL.rug rfl rfl rfl rfl (lt_b rfl) (ru_ne (b := true) rfl rfl rfl rfl) ?_
    refine SL.rug rfl rfl rfl rfl (lt_b rfl) (ru_move rfl rfl) ?_
    refine SL.rug rfl rfl rfl rfl (lt_b rfl) (ru_move rfl rfl) ?_
    refine SL.rug rfl rfl rfl rfl (lt_b rfl) (ru_ne (b := false) rfl rfl rfl (bne_f rfl)) ?_
    refine SL.rug rfl rfl rfl rfl (lt_b rfl) (ru_pick (u := bo false) (v := bo false) rfl rfl rfl rfl) ?_
    refine SL.ru rfl rfl (lt_b rfl) (ru_pick (u := bo true) (v := bo false) rfl rfl rfl rfl) ?_
    refine SL.nil ?_
    refine SC.of_SE ?_
    refine SC.norm [(2, bo false), (4, pt g1 0), (6, iw (A.r 1)), (9, iw 0), (75, bo false)] [rNic 68 g1 F4 (resetA A)] ⟨rfl, rfl, rfl, rfl, rfl, trivial⟩ rfl ?_
    refine SC.no rfl ?_
    refine SC.skip ?_
    refine SE.blkn ?_
    refine SC.of_SE ?_
    refine SC.norm [(2, bo false), (4, pt g1 0), (6, iw (A.r 1)), (9, iw 0)] [rNic 68 g1 F4 (resetA A)] ⟨rfl, rfl, rfl, rfl, trivial⟩ rfl ?_
    refine SC.region ?_
    refine SL.ru rfl rfl (lt_b rfl) (ru_move rfl rfl) ?_
    refine SL.ru rfl rfl (lt_b rfl) (ru_add (r := 1) rfl rfl rfl rfl) ?_
    refine SL.ru rfl rfl (lt_b rfl) (ru_assign rfl rfl) ?_
    refine SL.nil ?_
    refine SE.round ?_
    refine SR.norm [(2, bo false), (4, pt g1 0), (6, iw (A.r 1)), (9, iw 1)] [rNic 68 g1 F4 (resetA A)] ⟨rfl, rfl, rfl, rfl, trivial⟩ rfl ?_
    refine SR.next ?_
    refine SC.seq ?_
    refine SC.seq ?_
    refine SC.region ?_
    refine SL.ru rfl rfl (lt_b rfl) (ru_move rfl rfl) ?_
    refine SL.ru rfl rfl (lt_b rfl) (ru_lt (b := true) rfl rfl rfl rfl) ?_
    refine SL.nil ?_
    refine SC.of_SE ?_
    refine SC.norm [(2, bo false), (4, pt g1 0), (6, iw (A.r 1)), (9, iw 1), (48, bo true)] [rNic 68 g1 F4 (resetA A)] ⟨rfl, rfl, rfl, rfl, rfl, trivial⟩ rfl ?_
    refine SC.yes rfl ?_
    refine SC.skip ?_
    refine SC.of_SE ?_
    refine SC.norm [(2, bo false), (4, pt g1 0), (6, iw (A.r 1)), (9, iw 1)] [rNic 68 g1 F4 (resetA A)] ⟨rfl, rfl, rfl, rfl, trivial⟩ rfl ?_
    refine SC.seq ?_
    refine SC.block ?_
    refine SC.seq ?_
    refine SC.region ?_
    refine SL.ru rfl rfl (lt_b rfl) (ru_move rfl rfl) ?_
    refine SL.ru rfl rfl (lt_b rfl) (ru_move rfl rfl) ?_
    refine SL.call (ζ := Nat → Prop) (fun F5 => Value.tuple #[iw ((resetA A).r 1), iw 0]) (fun F5 => [rNic 68 g1 F5 (resetA A)]) (fun F5 => True) rfl rfl co18 rfl rfl rfl (lt_b rfl) (fun w hI => (p_read_k (reset_ok hk) (nic_at hI (i := 0) rfl) 1 rfl (by decide) (by decide)).mono fun e w2 ⟨h1, h2⟩ => by obtain ⟨F2, h3⟩ := hI.nicTo (i := 0) rfl (.inr hg1) h2; exact ⟨F2, h1, h3, trivial⟩) ?_
    intro F5 _
    refine SL.ru rfl rfl (lt_b rfl) (ru_move rfl rfl) ?_
    refine SL.ru rfl rfl (lt_b rfl) (ru_extract rfl rfl rfl) ?_
    refine SL.ru rfl rfl (lt_b rfl) (ru_extract rfl rfl rfl) ?_
    refine SL.ru rfl rfl (lt_b rfl) (ru_assign rfl rfl) ?_
    refine SL.ru rfl rfl (lt_b rfl) (ru_assign rfl rfl) ?_
    refine SL.nil ?_
    refine SC.of_SE ?_
    refine SC.norm [(2, bo false), (4, pt g1 0), (6, iw (A.r 1)), (9, iw 1), (10, iw ((resetA A).r 1)), (11, iw 0)] [rNic 68 g1 F5 (resetA A)] ⟨rfl, rfl, rfl, rfl, rfl, rfl, trivial⟩ rfl ?_
    refine SC.seq ?_
    refine SC.region ?_
    refine SL.ru rfl rfl (lt_b rfl) (ru_move rfl rfl) ?_
    refine SL.ru rfl rfl (lt_b rfl) (ru_ne (b := false) rfl rfl rfl rfl) ?_
    refine SL.ru rfl rfl (lt_b rfl) (ru_move rfl rfl) ?_
    refine SL.rug rfl rfl rfl rfl (lt_b rfl) (ru_move rfl rfl) ?_
    refine SL.rug rfl rfl rfl rfl (lt_b rfl) (ru_eq (b := true) rfl rfl rfl rfl) ?_
    refine SL.rug rfl rfl rfl rfl (lt_b rfl) (ru_move rfl rfl) ?_
    refine SL.rug rfl rfl rfl rfl (lt_b rfl) (ru_move rfl rfl) ?_
    refine SL.rug rfl rfl rfl rfl (lt_b rfl) (ru_move rfl rfl) ?_
    refine SL.rug rfl rfl rfl rfl (lt_b rfl) (ru_ne (b := false) rfl rfl rfl (bne_f rfl)) ?_
    refine SL.rug rfl rfl rfl rfl (lt_b rfl) (ru_pick (u := bo false) (v := bo false) rfl rfl rfl rfl) ?_
    refine SL.ru rfl rfl (lt_b rfl) (ru_pick (u := bo true) (v := bo false) rfl rfl rfl rfl) ?_
    refine SL.ru rfl rfl (lt_b rfl) (ru_move rfl rfl) ?_
    refine SL.rug rfl rfl rfl rfl (lt_b rfl) (ru_move rfl rfl) ?_
    refine SL.rug rfl rfl rfl rfl (lt_b rfl) (ru_ne (b := false) rfl rfl rfl rfl) ?_
    refine SL.rug rfl rfl rfl rfl (lt_b rfl) (ru_move rfl rfl) ?_
    refine SL.off (b := false) rfl rfl rfl rfl rfl (lt_b rfl) ?_
    refine SL.off (b := false) rfl rfl rfl rfl rfl (lt_b rfl) ?_
    refine SL.rug rfl rfl rfl rfl (lt_b rfl) (ru_pick (u := undef) (v := bo false) rfl rfl rfl rfl) ?_
    refine SL.ru rfl rfl (lt_b rfl) (ru_pick (u := bo true) (v := bo false) rfl rfl rfl rfl) ?_
    refine SL.nil ?_
    refine SC.of_SE ?_
    refine SC.norm [(2, bo false), (4, pt g1 0), (6, iw (A.r 1)), (9, iw 1), (75, bo false)] [rNic 68 g1 F5 (resetA A)] ⟨rfl, rfl, rfl, rfl, rfl, trivial⟩ rfl ?_
    refine SC.no rfl ?_
    refine SC.skip ?_
    refine SE.blkn ?_
    refine SC.of_SE ?_
    refine SC.norm [(2, bo false), (4, pt g1 0), (6, iw (A.r 1)), (9, iw 1)] [rNic 68 g1 F5 (resetA A)] ⟨rfl, rfl, rfl, rfl, trivial⟩ rfl ?_
    refine SC.region ?_
    refine SL.ru rfl rfl (lt_b rfl) (ru_move rfl rfl) ?_
    refine SL.ru rfl rfl (lt_b rfl) (ru_add (r := 2) rfl rfl rfl rfl) ?_
    refine SL.ru rfl rfl (lt_b rfl) (ru_assign rfl rfl) ?_
    refine SL.nil ?_
    refine SE.round ?_
    refine SR.norm [(2, bo false), (4, pt g1 0), (6, iw (A.r 1)), (9, iw 2)] [rNic 68 g1 F5 (resetA A)] ⟨rfl, rfl, rfl, rfl, trivial⟩ rfl ?_
    refine SR.next ?_
    refine SC.seq ?_
    refine SC.seq ?_
    refine SC.region ?_
    refine SL.ru rfl rfl (lt_b rfl) (ru_move rfl rfl) ?_
    refine SL.ru rfl rfl (lt_b rfl) (ru_lt (b := true) rfl rfl rfl rfl) ?_
    refine SL.nil ?_
    refine SC.of_SE ?_
    refine SC.norm [(2, bo false), (4, pt g1 0), (6, iw (A.r 1)), (9, iw 2), (48, bo true)] [rNic 68 g1 F5 (resetA A)] ⟨rfl, rfl, rfl, rfl, rfl, trivial⟩ rfl ?_
    refine SC.yes rfl ?_
    refine SC.skip ?_
    refine SC.of_SE ?_
    refine SC.norm [(2, bo false), (4, pt g1 0), (6, iw (A.r 1)), (9, iw 2)] [rNic 68 g1 F5 (resetA A)] ⟨rfl, rfl, rfl, rfl, trivial⟩ rfl ?_
    refine SC.seq ?_
    refine SC.block ?_
    refine SC.seq ?_
    refine SC.region ?_
    refine SL.ru rfl rfl (lt_b rfl) (ru_move rfl rfl) ?_
    refine SL.ru rfl rfl (lt_b rfl) (ru_move rfl rfl) ?_
    refine SL.call (ζ := Nat → Prop) (fun F6 => Value.tuple #[iw ((resetA A).r 2), iw 0]) (fun F6 => [rNic 68 g1 F6 (resetA A)]) (fun F6 => True) rfl rfl co18 rfl rfl rfl (lt_b rfl) (fun w hI => (p_read_k (reset_ok hk) (nic_at hI (i := 0) rfl) 2 rfl (by decide) (by decide)).mono fun e w2 ⟨h1, h2⟩ => by obtain ⟨F2, h3⟩ := hI.nicTo (i := 0) rfl (.inr hg1) h2; exact ⟨F2, h1, h3, trivial⟩) ?_
    intro F6 _
    refine SL.ru rfl rfl (lt_b rfl) (ru_move rfl rfl) ?_
    refine SL.ru rfl rfl (lt_b rfl) (ru_extract rfl rfl rfl) ?_
    refine SL.ru rfl rfl (lt_b rfl) (ru_extract rfl rfl rfl) ?_
    refine SL.ru rfl rfl (lt_b rfl) (ru_assign rfl rfl) ?_
    refine SL.ru rfl rfl (lt_b rfl) (ru_assign rfl rfl) ?_
    refine SL.nil ?_
    refine SC.of_SE ?_
    refine SC.norm [(2, bo false), (4, pt g1 0), (6, iw (A.r 1)), (9, iw 2), (10, iw ((resetA A).r 2)), (11, iw 0)] [rNic 68 g1 F6 (resetA A)] ⟨rfl, rfl, rfl, rfl, rfl, rfl, trivial⟩ rfl ?_
    refine SC.seq ?_
    refine SC.region ?_
    refine SL.ru rfl rfl (lt_b rfl) (ru_move rfl rfl) ?_
    refine SL.ru rfl rfl (lt_b rfl) (ru_ne (b := false) rfl rfl rfl rfl) ?_
    refine SL.ru rfl rfl (lt_b rfl) (ru_move rfl rfl) ?_
    refine SL.rug rfl rfl rfl rfl (lt_b rfl) (ru_move rfl rfl) ?_
    refine SL.rug rfl rfl rfl rfl (lt_b rfl) (ru_eq (b := false) rfl rfl rfl rfl) ?_
    refine SL.rug rfl rfl rfl rfl (lt_b rfl) (ru_move rfl rfl) ?_
    refine SL.off (b := false) rfl rfl rfl rfl rfl (lt_b rfl) ?_
    refine SL.off (b := false) rfl rfl rfl rfl rfl (lt_b rfl) ?_
    refine SL.off (b := false) rfl rfl rfl rfl rfl (lt_b rfl) ?_
    refine SL.rug rfl rfl rfl rfl (lt_b rfl) (ru_pick (u := undef) (v := bo false) rfl rfl rfl rfl) ?_
    refine SL.ru rfl rfl (lt_b rfl) (ru_pick (u := bo true) (v := bo false) rfl rfl rfl rfl) ?_
    refine SL.ru rfl rfl (lt_b rfl) (ru_move rfl rfl) ?_
    refine SL.rug rfl rfl rfl rfl (lt_b rfl) (ru_move rfl rfl) ?_
    refine SL.rug rfl rfl rfl rfl (lt_b rfl) (ru_ne (b := true) rfl rfl rfl rfl) ?_
    refine SL.rug rfl rfl rfl rfl (lt_b rfl) (ru_move rfl rfl) ?_
    refine SL.rug rfl rfl rfl rfl (lt_b rfl) (ru_move rfl rfl) ?_
    refine SL.rug rfl rfl rfl rfl (lt_b rfl) (ru_ne (b := false) rfl rfl rfl (bne_f rfl)) ?_
    refine SL.rug rfl rfl rfl rfl (lt_b rfl) (ru_pick (u := bo false) (v := bo false) rfl rfl rfl rfl) ?_
    refine SL.ru rfl rfl (lt_b rfl) (ru_pick (u := bo true) (v := bo false) rfl rfl rfl rfl) ?_
    refine SL.nil ?_
    refine SC.of_SE ?_
    refine SC.norm [(2, bo false), (4, pt g1 0), (6, iw (A.r 1)), (9, iw 2), (75, bo false)] [rNic 68 g1 F6 (resetA A)] ⟨rfl, rfl, rfl, rfl, rfl, trivial⟩ rfl ?_
    refine SC.no rfl ?_
    refine SC.skip ?_
    refine SE.blkn ?_
    refine SC.of_SE ?_
    refine SC.norm [(2, bo false), (4, pt g1 0), (6, iw (A.r 1)), (9, iw 2)] [rNic 68 g1 F6 (resetA A)] ⟨rfl, rfl, rfl, rfl, trivial⟩ rfl ?_
    refine SC.region ?_
    refine SL.ru rfl rfl (lt_b rfl) (ru_move rfl rfl) ?_
    refine SL.ru rfl rfl (lt_b rfl) (ru_add (r := 3) rfl rfl rfl rfl) ?_
    refine SL.ru rfl rfl (lt_b rfl) (ru_assign rfl rfl) ?_
    refine SL.nil ?_
    refine SE.round ?_
    refine SR.norm [(2, bo false), (4, pt g1 0), (6, iw (A.r 1)), (9, iw 3)] [rNic 68 g1 F6 (resetA A)] ⟨rfl, rfl, rfl, rfl, trivial⟩ rfl ?_
    refine SR.next ?_
    refine SC.seq ?_
    refine SC.seq ?_
    refine SC.region ?_
    refine SL.ru rfl rfl (lt_b rfl) (ru_move rfl rfl) ?_
    refine SL.ru rfl rfl (lt_b rfl) (ru_lt (b := true) rfl rfl rfl rfl) ?_
    refine SL.nil ?_
    refine SC.of_SE ?_
    refine SC.norm [(2, bo false), (4, pt g1 0), (6, iw (A.r 1)), (9, iw 3), (48, bo true)] [rNic 68 g1 F6 (resetA A)] ⟨rfl, rfl, rfl, rfl, rfl, trivial⟩ rfl ?_
    refine SC.yes rfl ?_
    refine SC.skip ?_
    refine SC.of_SE ?_
    refine SC.norm [(2, bo false), (4, pt g1 0), (6, iw (A.r 1)), (9, iw 3)] [rNic 68 g1 F6 (resetA A)] ⟨rfl, rfl, rfl, rfl, trivial⟩ rfl ?_
    refine SC.seq ?_
    refine SC.block ?_
    refine SC.seq ?_
    refine SC.region ?_
    refine SL.ru rfl rfl (lt_b rfl) (ru_move rfl rfl) ?_
    refine SL.ru rfl rfl (lt_b rfl) (ru_move rfl rfl) ?_
    refine SL.call (ζ := Nat → Prop) (fun F7 => Value.tuple #[iw ((resetA A).r 3), iw 0]) (fun F7 => [rNic 68 g1 F7 (resetA A)]) (fun F7 => True) rfl rfl co18 rfl rfl rfl (lt_b rfl) (fun w hI => (p_read_k (reset_ok hk) (nic_at hI (i := 0) rfl) 3 rfl (by decide) (by decide)).mono fun e w2 ⟨h1, h2⟩ => by obtain ⟨F2, h3⟩ := hI.nicTo (i := 0) rfl (.inr hg1) h2; exact ⟨F2, h1, h3, trivial⟩) ?_
    intro F7 _
    refine SL.ru rfl rfl (lt_b rfl) (ru_move rfl rfl) ?_
    refine SL.ru rfl rfl (lt_b rfl) (ru_extract rfl rfl rfl) ?_
    refine SL.ru rfl rfl (lt_b rfl) (ru_extract rfl rfl rfl) ?_
    refine SL.ru rfl rfl (lt_b rfl) (ru_assign rfl rfl) ?_
    refine SL.ru rfl rfl (lt_b rfl) (ru_assign rfl rfl) ?_
    refine SL.nil ?_
    refine SC.of_SE ?_
    refine SC.norm [(2, bo false), (4, pt g1 0), (6, iw (A.r 1)), (9, iw 3), (10, iw ((resetA A).r 3)), (11, iw 0)] [rNic 68 g1 F7 (resetA A)] ⟨rfl, rfl, rfl, rfl, rfl, rfl, trivial⟩ rfl ?_
    refine SC.seq ?_
    refine SC.region ?_
    refine SL.ru rfl rfl (lt_b rfl) (ru_move rfl rfl) ?_
    refine SL.ru rfl rfl (lt_b rfl) (ru_ne (b := false) rfl rfl rfl rfl) ?_
    refine SL.ru rfl rfl (lt_b rfl) (ru_move rfl rfl) ?_
    refine SL.rug rfl rfl rfl rfl (lt_b rfl) (ru_move rfl rfl) ?_
    refine SL.rug rfl rfl rfl rfl (lt_b rfl) (ru_eq (b := false) rfl rfl rfl rfl) ?_
    refine SL.rug rfl rfl rfl rfl (lt_b rfl) (ru_move rfl rfl) ?_
    refine SL.off (b := false) rfl rfl rfl rfl rfl (lt_b rfl) ?_
    refine SL.off (b := false) rfl rfl rfl rfl rfl (lt_b rfl) ?_
    refine SL.off (b := false) rfl rfl rfl rfl rfl (lt_b rfl) ?_
    refine SL.rug rfl rfl rfl rfl (lt_b rfl) (ru_pick (u := undef) (v := bo false) rfl rfl rfl rfl) ?_
    refine SL.ru rfl rfl (lt_b rfl) (ru_pick (u := bo true) (v := bo false) rfl rfl rfl rfl) ?_
    refine SL.ru rfl rfl (lt_b rfl) (ru_move rfl rfl) ?_
    refine SL.rug rfl rfl rfl rfl (lt_b rfl) (ru_move rfl rfl) ?_
    refine SL.rug rfl rfl rfl rfl (lt_b rfl) (ru_ne (b := true) rfl rfl rfl rfl) ?_
    refine SL.rug rfl rfl rfl rfl (lt_b rfl) (ru_move rfl rfl) ?_
    refine SL.rug rfl rfl rfl rfl (lt_b rfl) (ru_move rfl rfl) ?_
    refine SL.rug rfl rfl rfl rfl (lt_b rfl) (ru_ne (b := false) rfl rfl rfl (bne_f rfl)) ?_
    refine SL.rug rfl rfl rfl rfl (lt_b rfl) (ru_pick (u := bo false) (v := bo false) rfl rfl rfl rfl) ?_
    refine SL.ru rfl rfl (lt_b rfl) (ru_pick (u := bo true) (v := bo false) rfl rfl rfl rfl) ?_
    refine SL.nil ?_
    refine SC.of_SE ?_
    refine SC.norm [(2, bo false), (4, pt g1 0), (6, iw (A.r 1)), (9, iw 3), (75, bo false)] [rNic 68 g1 F7 (resetA A)] ⟨rfl, rfl, rfl, rfl, rfl, trivial⟩ rfl ?_
    refine SC.no rfl ?_
    refine SC.skip ?_
    refine SE.blkn ?_
    refine SC.of_SE ?_
    refine SC.norm [(2, bo false), (4, pt g1 0), (6, iw (A.r 1)), (9, iw 3)] [rNic 68 g1 F7 (resetA A)] ⟨rfl, rfl, rfl, rfl, trivial⟩ rfl ?_
    refine SC.region ?_
    refine SL.ru rfl rfl (lt_b rfl) (ru_move rfl rfl) ?_
    refine SL.ru rfl rfl (lt_b rfl) (ru_add (r := 4) rfl rfl rfl rfl) ?_
    refine SL.ru rfl rfl (lt_b rfl) (ru_assign rfl rfl) ?_
    refine SL.nil ?_
    refine SE.round ?_
    refine SR.norm [(2, bo false), (4, pt g1 0), (6, iw (A.r 1)), (9, iw 4)] [rNic 68 g1 F7 (resetA A)] ⟨rfl, rfl, rfl, rfl, trivial⟩ rfl ?_
    refine SR.next ?_
    refine SC.seq ?_
    refine SC.seq ?_
    refine SC.region ?_
    refine SL.ru rfl rfl (lt_b rfl) (ru_move rfl rfl) ?_
    refine SL.ru rfl rfl (lt_b rfl) (ru_lt (b := true) rfl rfl rfl rfl) ?_
    refine SL.nil ?_
    refine SC.of_SE ?_
    refine SC.norm [(2, bo false), (4, pt g1 0), (6, iw (A.r 1)), (9, iw 4), (48, bo true)] [rNic 68 g1 F7 (resetA A)] ⟨rfl, rfl, rfl, rfl, rfl, trivial⟩ rfl ?_
    refine SC.yes rfl ?_
    refine SC.skip ?_
    refine SC.of_SE ?_
    refine SC.norm [(2, bo false), (4, pt g1 0), (6, iw (A.r 1)), (9, iw 4)] [rNic 68 g1 F7 (resetA A)] ⟨rfl, rfl, rfl, rfl, trivial⟩ rfl ?_
    refine SC.seq ?_
    refine SC.block ?_
    refine SC.seq ?_
    refine SC.region ?_
    refine SL.ru rfl rfl (lt_b rfl) (ru_move rfl rfl) ?_
    refine SL.ru rfl rfl (lt_b rfl) (ru_move rfl rfl) ?_
    refine SL.call (ζ := Nat → Prop) (fun F8 => Value.tuple #[iw ((resetA A).r 4), iw 0]) (fun F8 => [rNic 68 g1 F8 (resetA A)]) (fun F8 => True) rfl rfl co18 rfl rfl rfl (lt_b rfl) (fun w hI => (p_read_k (reset_ok hk) (nic_at hI (i := 0) rfl) 4 rfl (by decide) (by decide)).mono fun e w2 ⟨h1, h2⟩ => by obtain ⟨F2, h3⟩ := hI.nicTo (i := 0) rfl (.inr hg1) h2; exact ⟨F2, h1, h3, trivial⟩) ?_
    intro F8 _
    refine SL.ru rfl rfl (lt_b rfl) (ru_move rfl rfl) ?_
    refine SL.ru rfl rfl (lt_b rfl) (ru_extract rfl rfl rfl) ?_
    refine SL.ru rfl rfl (lt_b rfl) (ru_extract rfl rfl rfl) ?_
    refine SL.ru rfl rfl (lt_b rfl) (ru_assign rfl rfl) ?_
    refine SL.ru rfl rfl (lt_b rfl) (ru_assign rfl rfl) ?_
    refine SL.nil ?_
    refine SC.of_SE ?_
    refine SC.norm [(2, bo false), (4, pt g1 0), (6, iw (A.r 1)), (9, iw 4), (10, iw ((resetA A).r 4)), (11, iw 0)] [rNic 68 g1 F8 (resetA A)] ⟨rfl, rfl, rfl, rfl, rfl, rfl, trivial⟩ rfl ?_
    refine SC.seq ?_
    refine SC.region ?_
    refine SL.ru rfl rfl (lt_b rfl) (ru_move rfl rfl) ?_
    refine SL.ru rfl rfl (lt_b rfl) (ru_ne (b := false) rfl rfl rfl rfl) ?_
    refine SL.ru rfl rfl (lt_b rfl) (ru_move rfl rfl) ?_
    refine SL.rug rfl rfl rfl rfl (lt_b rfl) (ru_move rfl rfl) ?_
    refine SL.rug rfl rfl rfl rfl (lt_b rfl) (ru_eq (b := false) rfl rfl rfl rfl) ?_
    refine SL.rug rfl rfl rfl rfl (lt_b rfl) (ru_move rfl rfl) ?_
    refine SL.off (b := false) rfl rfl rfl rfl rfl (lt_b rfl) ?_
    refine SL.off (b := false) rfl rfl rfl rfl rfl (lt_b rfl) ?_
    refine SL.off (b := false) rfl rfl rfl rfl rfl (lt_b rfl) ?_
    refine SL.rug rfl rfl rfl rfl (lt_b rfl) (ru_pick (u := undef) (v := bo false) rfl rfl rfl rfl) ?_
    refine SL.ru rfl rfl (lt_b rfl) (ru_pick (u := bo true) (v := bo false) rfl rfl rfl rfl) ?_
    refine SL.ru rfl rfl (lt_b rfl) (ru_move rfl rfl) ?_
    refine SL.rug rfl rfl rfl rfl (lt_b rfl) (ru_move rfl rfl) ?_
    refine SL.rug rfl rfl rfl rfl (lt_b rfl) (ru_ne (b := true) rfl rfl rfl rfl) ?_
    refine SL.rug rfl rfl rfl rfl (lt_b rfl) (ru_move rfl rfl) ?_
    refine SL.rug rfl rfl rfl rfl (lt_b rfl) (ru_move rfl rfl) ?_
    refine SL.rug rfl rfl rfl rfl (lt_b rfl) (ru_ne (b := false) rfl rfl rfl (bne_f rfl)) ?_
    refine SL.rug rfl rfl rfl rfl (lt_b rfl) (ru_pick (u := bo false) (v := bo false) rfl rfl rfl rfl) ?_
    refine SL.ru rfl rfl (lt_b rfl) (ru_pick (u := bo true) (v := bo false) rfl rfl rfl rfl) ?_
    refine SL.nil ?_
    refine SC.of_SE ?_
    refine SC.norm [(2, bo false), (4, pt g1 0), (6, iw (A.r 1)), (9, iw 4), (75, bo false)] [rNic 68 g1 F8 (resetA A)] ⟨rfl, rfl, rfl, rfl, rfl, trivial⟩ rfl ?_
    refine SC.no rfl ?_
    refine SC.skip ?_
    refine SE.blkn ?_
    refine SC.of_SE ?_
    refine SC.norm [(2, bo false), (4, pt g1 0), (6, iw (A.r 1)), (9, iw 4)] [rNic 68 g1 F8 (resetA A)] ⟨rfl, rfl, rfl, rfl, trivial⟩ rfl ?_
    refine SC.region ?_
    refine SL.ru rfl rfl (lt_b rfl) (ru_move rfl rfl) ?_
    refine SL.ru rfl rfl (lt_b rfl) (ru_add (r := 5) rfl rfl rfl rfl) ?_
    refine SL.ru rfl rfl (lt_b rfl) (ru_assign rfl rfl) ?_
    refine SL.nil ?_
    refine SE.round ?_
    refine SR.norm [(2, bo false), (4, pt g1 0), (6, iw (A.r 1)), (9, iw 5)] [rNic 68 g1 F8 (resetA A)] ⟨rfl, rfl, rfl, rfl, trivial⟩ rfl ?_
    refine SR.next ?_
    refine SC.seq ?_
    refine SC.seq ?_
    refine SC.region ?_
    refine SL.ru rfl rfl (lt_b rfl) (ru_move rfl rfl) ?_
    refine SL.ru rfl rfl (lt_b rfl) (ru_lt (b := true) rfl rfl rfl rfl) ?_
    refine SL.nil ?_
    refine SC.of_SE ?_
    refine SC.norm [(2, bo false), (4, pt g1 0), (6, iw (A.r 1)), (9, iw 5), (48, bo true)] [rNic 68 g1 F8 (resetA A)] ⟨rfl, rfl, rfl, rfl, rfl, trivial⟩ rfl ?_
    refine SC.yes rfl ?_
    refine SC.skip ?_
    refine SC.of_SE ?_
    refine SC.norm [(2, bo false), (4, pt g1 0), (6, iw (A.r 1)), (9, iw 5)] [rNic 68 g1 F8 (resetA A)] ⟨rfl, rfl, rfl, rfl, trivial⟩ rfl ?_
    refine SC.seq ?_
    refine SC.block ?_
    refine SC.seq ?_
    refine SC.region ?_
    refine SL.ru rfl rfl (lt_b rfl) (ru_move rfl rfl) ?_
    refine SL.ru rfl rfl (lt_b rfl) (ru_move rfl rfl) ?_
    refine SL.call (ζ := Nat → Prop) (fun F9 => Value.tuple #[iw ((resetA A).r 5), iw 0]) (fun F9 => [rNic 68 g1 F9 (resetA A)]) (fun F9 => True) rfl rfl co18 rfl rfl rfl (lt_b rfl) (fun w hI => (p_read_k (reset_ok hk) (nic_at hI (i := 0) rfl) 5 rfl (by decide) (by decide)).mono fun e w2 ⟨h1, h2⟩ => by obtain ⟨F2, h3⟩ := hI.nicTo (i := 0) rfl (.inr hg1) h2; exact ⟨F2, h1, h3, trivial⟩) ?_
    intro F9 _
    refine SL.ru rfl rfl (lt_b rfl) (ru_move rfl rfl) ?_
    refine SL.ru rfl rfl (lt_b rfl) (ru_extract rfl rfl rfl) ?_
    refine SL.ru rfl rfl (lt_b rfl) (ru_extract rfl rfl rfl) ?_
    refine SL.ru rfl rfl (lt_b rfl) (ru_assign rfl rfl) ?_
    refine SL.ru rfl rfl (lt_b rfl) (ru_assign rfl rfl) ?_
    refine SL.nil ?_
    refine SC.of_SE ?_
    refine SC.norm [(2, bo false), (4, pt g1 0), (6, iw (A.r 1)), (9, iw 5), (10, iw ((resetA A).r 5)), (11, iw 0)] [rNic 68 g1 F9 (resetA A)] ⟨rfl, rfl, rfl, rfl, rfl, rfl, trivial⟩ rfl ?_
    refine SC.seq ?_
    refine SC.region ?_
    refine SL.ru rfl rfl (lt_b rfl) (ru_move rfl rfl) ?_
    refine SL.ru rfl rfl (lt_b rfl) (ru_ne (b := false) rfl rfl rfl rfl) ?_
    refine SL.ru rfl rfl (lt_b rfl) (ru_move rfl rfl) ?_
    refine SL.rug rfl rfl rfl rfl (lt_b rfl) (ru_move rfl rfl) ?_
    refine SL.rug rfl rfl rfl rfl (lt_b rfl) (ru_eq (b := false) rfl rfl rfl rfl) ?_
    refine SL.rug rfl rfl rfl rfl (lt_b rfl) (ru_move rfl rfl) ?_
    refine SL.off (b := false) rfl rfl rfl rfl rfl (lt_b rfl) ?_
    refine SL.off (b := false) rfl rfl rfl rfl rfl (lt_b rfl) ?_
    refine SL.off (b := false) rfl rfl rfl rfl rfl (lt_b rfl) ?_
    refine SL.rug rfl rfl rfl rfl (lt_b rfl) (ru_pick (u := undef) (v := bo false) rfl rfl rfl rfl) ?_
    refine SL.ru rfl rfl (lt_b rfl) (ru_pick (u := bo true) (v := bo false) rfl rfl rfl rfl) ?_
    refine SL.ru rfl rfl (lt_b rfl) (ru_move rfl rfl) ?_
    refine SL.rug rfl rfl rfl rfl (lt_b rfl) (ru_move rfl rfl) ?_
    refine SL.rug rfl rfl rfl rfl (lt_b rfl) (ru_ne (b := true) rfl rfl rfl rfl) ?_
    refine SL.rug rfl rfl rfl rfl (lt_b rfl) (ru_move rfl rfl) ?_
    refine SL.rug rfl rfl rfl rfl (lt_b rfl) (ru_move rfl rfl) ?_
    refine SL.rug rfl rfl rfl rfl (lt_b rfl) (ru_ne (b := false) rfl rfl rfl (bne_f rfl)) ?_
    refine SL.rug rfl rfl rfl rfl (lt_b rfl) (ru_pick (u := bo false) (v := bo false) rfl rfl rfl rfl) ?_
    refine SL.ru rfl rfl (lt_b rfl) (ru_pick (u := bo true) (v := bo false) rfl rfl rfl rfl) ?_
    refine SL.nil ?_
    refine SC.of_SE ?_
    refine SC.norm [(2, bo false), (4, pt g1 0), (6, iw (A.r 1)), (9, iw 5), (75, bo false)] [rNic 68 g1 F9 (resetA A)] ⟨rfl, rfl, rfl, rfl, rfl, trivial⟩ rfl ?_
    refine SC.no rfl ?_
    refine SC.skip ?_
    refine SE.blkn ?_
    refine SC.of_SE ?_
    refine SC.norm [(2, bo false), (4, pt g1 0), (6, iw (A.r 1)), (9, iw 5)] [rNic 68 g1 F9 (resetA A)] ⟨rfl, rfl, rfl, rfl, trivial⟩ rfl ?_
    refine SC.region ?_
    refine SL.ru rfl rfl (lt_b rfl) (ru_move rfl rfl) ?_
    refine SL.ru rfl rfl (lt_b rfl) (ru_add (r := 6) rfl rfl rfl rfl) ?_
    refine SL.ru rfl rfl (lt_b rfl) (ru_assign rfl rfl) ?_
    refine SL.nil ?_
    refine SE.round ?_
    refine SR.norm [(2, bo false), (4, pt g1 0), (6, iw (A.r 1)), (9, iw 6)] [rNic 68 g1 F9 (resetA A)] ⟨rfl, rfl, rfl, rfl, trivial⟩ rfl ?_
    refine SR.next ?_
    refine SC.seq ?_
    refine SC.seq ?_
    refine SC.region ?_
    refine SL.ru rfl rfl (lt_b rfl) (ru_move rfl rfl) ?_
    refine SL.ru rfl rfl (lt_b rfl) (ru_lt (b := true) rfl rfl rfl rfl) ?_
    refine SL.nil ?_
    refine SC.of_SE ?_
    refine SC.norm [(2, bo false), (4, pt g1 0), (6, iw (A.r 1)), (9, iw 6), (48, bo true)] [rNic 68 g1 F9 (resetA A)] ⟨rfl, rfl, rfl, rfl, rfl, trivial⟩ rfl ?_
    refine SC.yes rfl ?_
    refine SC.skip ?_
    refine SC.of_SE ?_
    refine SC.norm [(2, bo false), (4, pt g1 0), (6, iw (A.r 1)), (9, iw 6)] [rNic 68 g1 F9 (resetA A)] ⟨rfl, rfl, rfl, rfl, trivial⟩ rfl ?_
    refine SC.seq ?_
    refine SC.block ?_
    refine SC.seq ?_
    refine SC.region ?_
    refine SL.ru rfl rfl (lt_b rfl) (ru_move rfl rfl) ?_
    refine SL.ru rfl rfl (lt_b rfl) (ru_move rfl rfl) ?_
    refine SL.call (ζ := Nat → Prop) (fun F10 => Value.tuple #[iw ((resetA A).r 6), iw 0]) (fun F10 => [rNic 68 g1 F10 ({ resetA A with r := up (resetA A).r 6 0 })]) (fun F10 => True) rfl rfl co18 rfl rfl rfl (lt_b rfl) (fun w hI => (p_read_6 (reset_ok hk) (nic_at hI (i := 0) rfl)).mono fun e w2 ⟨h1, h2⟩ => by obtain ⟨F2, h3⟩ := hI.nicTo (i := 0) rfl (.inr hg1) h2; exact ⟨F2, h1, h3, trivial⟩) ?_
    intro F10 _
    refine SL.ru rfl rfl (lt_b rfl) (ru_move rfl rfl) ?_
    refine SL.ru rfl rfl (lt_b rfl) (ru_extract rfl rfl rfl) ?_
    refine SL.ru rfl rfl (lt_b rfl) (ru_extract rfl rfl rfl) ?_
    refine SL.ru rfl rfl (lt_b rfl) (ru_assign rfl rfl) ?_
    refine SL.ru rfl rfl (lt_b rfl) (ru_assign rfl rfl) ?_
    refine SL.nil ?_
    refine SC.of_SE ?_
    refine SC.norm [(2, bo false), (4, pt g1 0), (6, iw (A.r 1)), (9, iw 6), (10, iw ((resetA A).r 6)), (11, iw 0)] [rNic 68 g1 F10 ({ resetA A with r := up (resetA A).r 6 0 })] ⟨rfl, rfl, rfl, rfl, rfl, rfl, trivial⟩ rfl ?_
    refine SC.seq ?_
    refine SC.region ?_
    refine SL.ru rfl rfl (lt_b rfl) (ru_move rfl rfl) ?_
    refine SL.ru rfl rfl (lt_b rfl) (ru_ne (b := false) rfl rfl rfl rfl) ?_
    refine SL.ru rfl rfl (lt_b rfl) (ru_move rfl rfl) ?_
    refine SL.rug rfl rfl rfl rfl (lt_b rfl) (ru_move rfl rfl) ?_
    refine SL.rug rfl rfl rfl rfl (lt_b rfl) (ru_eq (b := false) rfl rfl rfl rfl) ?_
    refine SL.rug rfl rfl rfl rfl (lt_b rfl) (ru_move rfl rfl) ?_
    refine SL.off (b := false) rfl rfl rfl rfl rfl (lt_b rfl) ?_
    refine SL.off (b := false) rfl rfl rfl rfl rfl (lt_b rfl) ?_
    refine SL.off (b := false) rfl rfl rfl rfl rfl (lt_b rfl) ?_
    refine SL.rug rfl rfl rfl rfl (lt_b rfl) (ru_pick (u := undef) (v := bo false) rfl rfl rfl rfl) ?_
    refine SL.ru rfl rfl (lt_b rfl) (ru_pick (u := bo true) (v := bo false) rfl rfl rfl rfl) ?_
    refine SL.ru rfl rfl (lt_b rfl) (ru_move rfl rfl) ?_
    refine SL.rug rfl rfl rfl rfl (lt_b rfl) (ru_move rfl rfl) ?_
    refine SL.rug rfl rfl rfl rfl (lt_b rfl) (ru_ne (b := true) rfl rfl rfl rfl) ?_
    refine SL.rug rfl rfl rfl rfl (lt_b rfl) (ru_move rfl rfl) ?_
    refine SL.rug rfl rfl rfl rfl (lt_b rfl) (ru_move rfl rfl) ?_
    refine SL.rug rfl rfl rfl rfl (lt_b rfl) (ru_ne (b := false) rfl rfl rfl (bne_f rfl)) ?_
    refine SL.rug rfl rfl rfl rfl (lt_b rfl) (ru_pick (u := bo false) (v := bo false) rfl rfl rfl rfl) ?_
    refine SL.ru rfl rfl (lt_b rfl) (ru_pick (u := bo true) (v := bo false) rfl rfl rfl rfl) ?_
    refine SL.nil ?_
    refine SC.of_SE ?_
    refine SC.norm [(2, bo false), (4, pt g1 0), (6, iw (A.r 1)), (9, iw 6), (75, bo false)] [rNic 68 g1 F10 ({ resetA A with r := up (resetA A).r 6 0 })] ⟨rfl, rfl, rfl, rfl, rfl, trivial⟩ rfl ?_
    refine SC.no rfl ?_
    refine SC.skip ?_
    refine SE.blkn ?_
    refine SC.of_SE ?_
    refine SC.norm [(2, bo false), (4, pt g1 0), (6, iw (A.r 1)), (9, iw 6)] [rNic 68 g1 F10 ({ resetA A with r := up (resetA A).r 6 0 })] ⟨rfl, rfl, rfl, rfl, trivial⟩ rfl ?_
    refine SC.region ?_
    refine SL.ru rfl rfl (lt_b rfl) (ru_move rfl rfl) ?_
    refine SL.ru rfl rfl (lt_b rfl) (ru_add (r := 7) rfl rfl rfl rfl) ?_
    refine SL.ru rfl rfl (lt_b rfl) (ru_assign rfl rfl) ?_
    refine SL.nil ?_
    refine SE.round ?_
    refine SR.norm [(2, bo false), (4, pt g1 0), (6, iw (A.r 1)), (9, iw 7)] [rNic 68 g1 F10 ({ resetA A with r := up (resetA A).r 6 0 })] ⟨rfl, rfl, rfl, rfl, trivial⟩ rfl ?_
    refine SR.next ?_
    refine SC.seq ?_
    refine SC.seq ?_
    refine SC.region ?_
    refine SL.ru rfl rfl (lt_b rfl) (ru_move rfl rfl) ?_
    refine SL.ru rfl rfl (lt_b rfl) (ru_lt (b := true) rfl rfl rfl rfl) ?_
    refine SL.nil ?_
    refine SC.of_SE ?_
    refine SC.norm [(2, bo false), (4, pt g1 0), (6, iw (A.r 1)), (9, iw 7), (48, bo true)] [rNic 68 g1 F10 ({ resetA A with r := up (resetA A).r 6 0 })] ⟨rfl, rfl, rfl, rfl, rfl, trivial⟩ rfl ?_
    refine SC.yes rfl ?_
    refine SC.skip ?_
    refine SC.of_SE ?_
    refine SC.norm [(2, bo false), (4, pt g1 0), (6, iw (A.r 1)), (9, iw 7)] [rNic 68 g1 F10 ({ resetA A with r := up (resetA A).r 6 0 })] ⟨rfl, rfl, rfl, rfl, trivial⟩ rfl ?_
    refine SC.seq ?_
    refine SC.block ?_
    refine SC.seq ?_
    refine SC.region ?_
    refine SL.ru rfl rfl (lt_b rfl) (ru_move rfl rfl) ?_
    refine SL.ru rfl rfl (lt_b rfl) (ru_move rfl rfl) ?_
    refine SL.call (ζ := Nat → Prop) (fun F11 => Value.tuple #[iw (({ resetA A with r := up (resetA A).r 6 0 }).r 7), iw 0]) (fun F11 => [rNic 68 g1 F11 ({ resetA A with r := up (resetA A).r 6 0 })]) (fun F11 => True) rfl rfl co18 rfl rfl rfl (lt_b rfl) (fun w hI => (p_read_k (read6_ok (reset_ok hk)) (nic_at hI (i := 0) rfl) 7 rfl (by decide) (by decide)).mono fun e w2 ⟨h1, h2⟩ => by obtain ⟨F2, h3⟩ := hI.nicTo (i := 0) rfl (.inr hg1) h2; exact ⟨F2, h1, h3, trivial⟩) ?_
    intro F11 _
    refine SL.ru rfl rfl (lt_b rfl) (ru_move rfl rfl) ?_
    refine SL.ru rfl rfl (lt_b rfl) (ru_extract rfl rfl rfl) ?_
    refine SL.ru rfl rfl (lt_b rfl) (ru_extract rfl rfl rfl) ?_
    refine SL.ru rfl rfl (lt_b rfl) (ru_assign rfl rfl) ?_
    refine SL.ru rfl rfl (lt_b rfl) (ru_assign rfl rfl) ?_
    refine SL.nil ?_
    refine SC.of_SE ?_
    refine SC.norm [(2, bo false), (4, pt g1 0), (6, iw (A.r 1)), (9, iw 7), (10, iw (({ resetA A with r := up (resetA A).r 6 0 }).r 7)), (11, iw 0)] [rNic 68 g1 F11 ({ resetA A with r := up (resetA A).r 6 0 })] ⟨rfl, rfl, rfl, rfl, rfl, rfl, trivial⟩ rfl ?_
    refine SC.seq ?_
    refine SC.region ?_
    refine SL.ru rfl rfl (lt_b rfl) (ru_move rfl rfl) ?_
    refine SL.ru rfl rfl (lt_b rfl) (ru_ne (b := false) rfl rfl rfl rfl) ?_
    refine SL.ru rfl rfl (lt_b rfl) (ru_move rfl rfl) ?_
    refine SL.rug rfl rfl rfl rfl (lt_b rfl) (ru_move rfl rfl) ?_
    refine SL.rug rfl rfl rfl rfl (lt_b rfl) (ru_eq (b := false) rfl rfl rfl rfl) ?_
    refine SL.rug rfl rfl rfl rfl (lt_b rfl) (ru_move rfl rfl) ?_
    refine SL.off (b := false) rfl rfl rfl rfl rfl (lt_b rfl) ?_
    refine SL.off (b := false) rfl rfl rfl rfl rfl (lt_b rfl) ?_
    refine SL.off (b := false) rfl rfl rfl rfl rfl (lt_b rfl) ?_
    refine SL.rug rfl rfl rfl rfl (lt_b rfl) (ru_pick (u := undef) (v := bo false) rfl rfl rfl rfl) ?_
    refine SL.ru rfl rfl (lt_b rfl) (ru_pick (u := bo true) (v := bo false) rfl rfl rfl rfl) ?_
    refine SL.ru rfl rfl (lt_b rfl) (ru_move rfl rfl) ?_
    refine SL.rug rfl rfl rfl rfl (lt_b rfl) (ru_move rfl rfl) ?_
    refine SL.rug rfl rfl rfl rfl (lt_b rfl) (ru_ne (b := true) rfl rfl rfl rfl) ?_
    refine SL.rug rfl rfl rfl rfl (lt_b rfl) (ru_move rfl rfl) ?_
    refine SL.rug rfl rfl rfl rfl (lt_b rfl) (ru_move rfl rfl) ?_
    refine SL.rug rfl rfl rfl rfl (lt_b rfl) (ru_ne (b := false) rfl rfl rfl (bne_f rfl)) ?_
    refine SL.rug rfl rfl rfl rfl (lt_b rfl) (ru_pick (u := bo false) (v := bo false) rfl rfl rfl rfl) ?_
    refine SL.ru rfl rfl (lt_b rfl) (ru_pick (u := bo true) (v := bo false) rfl rfl rfl rfl) ?_
    refine SL.nil ?_
    refine SC.of_SE ?_
    refine SC.norm [(2, bo false), (4, pt g1 0), (6, iw (A.r 1)), (9, iw 7), (75, bo false)] [rNic 68 g1 F11 ({ resetA A with r := up (resetA A).r 6 0 })] ⟨rfl, rfl, rfl, rfl, rfl, trivial⟩ rfl ?_
    refine SC.no rfl ?_
    refine SC.skip ?_
    refine SE.blkn ?_
    refine SC.of_SE ?_
    refine SC.norm [(2, bo false), (4, pt g1 0), (6, iw (A.r 1)), (9, iw 7)] [rNic 68 g1 F11 ({ resetA A with r := up (resetA A).r 6 0 })] ⟨rfl, rfl, rfl, rfl, trivial⟩ rfl ?_
    refine SC.region ?_
    refine SL.ru rfl rfl (lt_b rfl) (ru_move rfl rfl) ?_
    refine SL.ru rfl rfl (lt_b rfl) (ru_add (r := 8) rfl rfl rfl rfl) ?_
    refine SL.ru rfl rfl (lt_b rfl) (ru_assign rfl rfl) ?_
    refine SL.nil ?_
    refine SE.round ?_
    refine SR.norm [(2, bo false), (4, pt g1 0), (6, iw (A.r 1)), (9, iw 8)] [rNic 68 g1 F11 ({ resetA A with r := up (resetA A).r 6 0 })] ⟨rfl, rfl, rfl, rfl, trivial⟩ rfl ?_
    refine SR.next ?_
    refine SC.seq ?_
    refine SC.seq ?_
    refine SC.region ?_
    refine SL.ru rfl rfl (lt_b rfl) (ru_move rfl rfl) ?_
    refine SL.ru rfl rfl (lt_b rfl) (ru_lt (b := false) rfl rfl rfl rfl) ?_
    refine SL.nil ?_
    refine SC.of_SE ?_
    refine SC.norm [(2, bo false), (4, pt g1 0), (6, iw (A.r 1)), (9, iw 8), (48, bo false)] [rNic 68 g1 F11 ({ resetA A with r := up (resetA A).r 6 0 })] ⟨rfl, rfl, rfl, rfl, rfl, trivial⟩ rfl ?_
    refine SC.no rfl ?_
    refine SC.exit ?_
    refine SE.passe ?_
    refine SE.passe ?_
    refine SE.blke ?_
    refine SC.of_SE ?_
    refine SC.norm [(2, bo false), (4, pt g1 0)] [rNic 68 g1 F11 ({ resetA A with r := up (resetA A).r 6 0 })] ⟨rfl, rfl, trivial⟩ rfl ?_
    refine SC.seq ?_
    refine SC.seq ?_
    refine SC.region ?_
    refine SL.ru rfl rfl (lt_b rfl) (ru_assign rfl rfl) ?_
    refine SL.nil ?_
    refine SC.of_SE ?_
    refine SC.norm [(2, bo false), (4, pt g1 0), (12, iw 0)] [rNic 68 g1 F11 ({ resetA A with r := up (resetA A).r 6 0 })] ⟨rfl, rfl, rfl, trivial⟩ rfl ?_
    refine SC.block ?_
    refine SC.rounds 17 ?_
    refine SR.norm [(2, bo false), (4, pt g1 0), (12, iw 0)] [rNic 68 g1 F11 ({ resetA A with r := up (resetA A).r 6 0 })] ⟨rfl, rfl, rfl, trivial⟩ rfl ?_
    refine SR.next ?_
    refine SC.seq ?_
    refine SC.seq ?_
    refine SC.region ?_
    refine SL.ru rfl rfl (lt_b rfl) (ru_move rfl rfl) ?_
    refine SL.ru rfl rfl (lt_b rfl) (ru_lt (b := true) rfl rfl rfl rfl) ?_
    refine SL.nil ?_
    refine SC.of_SE ?_
    refine SC.norm [(2, bo false), (4, pt g1 0), (12, iw 0), (77, bo true)] [rNic 68 g1 F11 ({ resetA A with r := up (resetA A).r 6 0 })] ⟨rfl, rfl, rfl, rfl, trivial⟩ rfl ?_
    refine SC.yes rfl ?_
    refine SC.skip ?_
    refine SC.of_SE ?_
    refine SC.norm [(2, bo false), (4, pt g1 0), (12, iw 0)] [rNic 68 g1 F11 ({ resetA A with r := up (resetA A).r 6 0 })] ⟨rfl, rfl, rfl, trivial⟩ rfl ?_
    refine SC.seq ?_
    refine SC.block ?_
    refine SC.seq ?_
    refine SC.region ?_
    refine SL.ru rfl rfl (lt_b rfl) (ru_move rfl rfl) ?_
    refine SL.ru rfl rfl (lt_b rfl) (ru_move rfl rfl) ?_
    refine SL.call (ζ := Option Addr × Nat) (fun z => Value.tuple #[Value.slice z.1 ((rxR ({ resetA A with r := up (resetA A).r 6 0 }) 0).1.1.length) z.2, bo ((rxR ({ resetA A with r := up (resetA A).r 6 0 }) 0).1.2), iw ((rxR ({ resetA A with r := up (resetA A).r 6 0 }) 0).2)]) (fun z => [rNic 68 g1 F11 ({ resetA A with r := up (resetA A).r 6 0 }), rMine (.slice z.1 ((rxR ({ resetA A with r := up (resetA A).r 6 0 }) 0).1.1).length z.2) ((rxR ({ resetA A with r := up (resetA A).r 6 0 }) 0).1.1) 5]) (fun z => ∀ b, (Value.slice z.1 (rxR ({ resetA A with r := up (resetA A).r 6 0 }) 0).1.1.length z.2).ownBlock = some b → w.heap.size ≤ b) rfl rfl co15 rfl rfl rfl (lt_b rfl) (fun w hI => (p_rx (read6_ok (reset_ok hk)) (nic_at hI (i := 0) rfl) 0).mono fun e w2 ⟨v, h1, h3, h4⟩ => by obtain ⟨qa, qc, rfl, k1, k2⟩ := hI.rxed (rx_len (read6_ok (reset_ok hk)) _) h3 h4; exact ⟨(qa, qc), h1, k1, k2⟩) ?_
    rintro ⟨a12, c13⟩ hq14
    refine SL.ru rfl rfl (lt_b rfl) (ru_move rfl rfl) ?_
    refine SL.ru rfl rfl (lt_b rfl) (ru_extract rfl rfl rfl) ?_
    refine SL.ru rfl rfl (lt_b rfl) (ru_extract rfl rfl rfl) ?_
    refine SL.ru rfl rfl (lt_b rfl) (ru_extract rfl rfl rfl) ?_
    refine SL.ru rfl rfl (lt_b rfl) (ru_assign rfl rfl) ?_
    refine SL.ru rfl rfl (lt_b rfl) (ru_assign rfl rfl) ?_
    refine SL.ru rfl rfl (lt_b rfl) (ru_assign rfl rfl) ?_
    refine SL.nil ?_
    refine SC.of_SE ?_
    refine SC.norm [(2, bo false), (4, pt g1 0), (12, iw 0), (15, iw ((rxR ({ resetA A with r := up (resetA A).r 6 0 }) 0).2))] [rNic 68 g1 F11 ({ resetA A with r := up (resetA A).r 6 0 }), rMine (.slice a12 ((rxR ({ resetA A with r := up (resetA A).r 6 0 }) 0).1.1).length c13) ((rxR ({ resetA A with r := up (resetA A).r 6 0 }) 0).1.1) 5] ⟨rfl, rfl, rfl, rfl, trivial⟩ rfl ?_
    refine SC.seq ?_
    refine SC.region ?_
    refine SL.ru rfl rfl (lt_b rfl) (ru_move rfl rfl) ?_
    refine SL.ru rfl rfl (lt_b rfl) (ru_ne (b := false) rfl rfl rfl (bne_f rfl)) ?_
    refine SL.nil ?_
    refine SC.of_SE ?_
    refine SC.norm [(2, bo false), (4, pt g1 0), (12, iw 0), (88, bo false)] [rNic 68 g1 F11 ({ resetA A with r := up (resetA A).r 6 0 }), rMine (.slice a12 ((rxR ({ resetA A with r := up (resetA A).r 6 0 }) 0).1.1).length c13) ((rxR ({ resetA A with r := up (resetA A).r 6 0 }) 0).1.1) 5] ⟨rfl, rfl, rfl, rfl, trivial⟩ rfl ?_
    refine SC.no rfl ?_
    refine SC.skip ?_
    refine SE.blkn ?_
    refine SC.of_SE ?_
    refine SC.norm [(2, bo false), (4, pt g1 0), (12, iw 0)] [rNic 68 g1 F11 ({ resetA A with r := up (resetA A).r 6 0 }), rMine (.slice a12 ((rxR ({ resetA A with r := up (resetA A).r 6 0 }) 0).1.1).length c13) ((rxR ({ resetA A with r := up (resetA A).r 6 0 }) 0).1.1) 5] ⟨rfl, rfl, rfl, trivial⟩ rfl ?_
    refine SC.region ?_
    refine SL.ru rfl rfl (lt_b rfl) (ru_move rfl rfl) ?_
    refine SL.ru rfl rfl (lt_b rfl) (ru_add (r := 1) rfl rfl rfl rfl) ?_
    refine SL.ru rfl rfl (lt_b rfl) (ru_assign rfl rfl) ?_
    refine SL.nil ?_
    refine SE.round ?_
    refine SR.keep 1 ?_
    refine SR.norm [(2, bo false), (4, pt g1 0), (12, iw 1)] [rNic 68 g1 F11 ({ resetA A with r := up (resetA A).r 6 0 })] ⟨rfl, rfl, rfl, trivial⟩ rfl ?_
    refine SR.next ?_
    refine SC.seq ?_
    refine SC.seq ?_
    refine SC.region ?_
    refine SL.ru rfl rfl (lt_b rfl) (ru_move rfl rfl) ?_
    refine SL.ru rfl rfl (lt_b rfl) (ru_lt (b := true) rfl rfl rfl rfl) ?_
    refine SL.nil ?_
    refine SC.of_SE ?_
    refine SC.norm [(2, bo false), (4, pt g1 0), (12, iw 1), (77, bo true)] [rNic 68 g1 F11 ({ resetA A with r := up (resetA A).r 6 0 })] ⟨rfl, rfl, rfl, rfl, trivial⟩ rfl ?_
    refine SC.yes rfl ?_
    refine SC.skip ?_
    refine SC.of_SE ?_
    refine SC.norm [(2, bo false), (4, pt g1 0), (12, iw 1)] [rNic 68 g1 F11 ({ resetA A with r := up (resetA A).r 6 0 })] ⟨rfl, rfl, rfl, trivial⟩ rfl ?_
    refine SC.seq ?_
    refine SC.block ?_
    refine SC.seq ?_
    refine SC.region ?_
    refine SL.ru rfl rfl (lt_b rfl) (ru_move rfl rfl) ?_
    refine SL.ru rfl rfl (lt_b rfl) (ru_move rfl rfl) ?_
    refine SL.call (ζ := Option Addr × Nat) (fun z => Value.tuple #[Value.slice z.1 ((rxR ({ resetA A with r := up (resetA A).r 6 0 }) 1).1.1.length) z.2, bo ((rxR ({ resetA A with r := up (resetA A).r 6 0 }) 1).1.2), iw ((rxR ({ resetA A with r := up (resetA A).r 6 0 }) 1).2)]) (fun z => [rNic 68 g1 F11 ({ resetA A with r := up (resetA A).r 6 0 }), rMine (.slice z.1 ((rxR ({ resetA A with r := up (resetA A).r 6 0 }) 1).1.1).length z.2) ((rxR ({ resetA A with r := up (resetA A).r 6 0 }) 1).1.1) 5]) (fun z => ∀ b, (Value.slice z.1 (rxR ({ resetA A with r := up (resetA A).r 6 0 }) 1).1.1.length z.2).ownBlock = some b → w.heap.size ≤ b) rfl rfl co15 rfl rfl rfl (lt_b rfl) (fun w hI => (p_rx (read6_ok (reset_ok hk)) (nic_at hI (i := 0) rfl) 1).mono fun e w2 ⟨v, h1, h3, h4⟩ => by obtain ⟨qa, qc, rfl, k1, k2⟩ := hI.rxed (rx_len (read6_ok (reset_ok hk)) _) h3 h4; exact ⟨(qa, qc), h1, k1, k2⟩) ?_
    rintro ⟨a15, c16⟩ hq17
    refine SL.ru rfl rfl (lt_b rfl) (ru_move rfl rfl) ?_
    refine SL.ru rfl rfl (lt_b rfl) (ru_extract rfl rfl rfl) ?_
    refine SL.ru rfl rfl (lt_b rfl) (ru_extract rfl rfl rfl) ?_
    refine SL.ru rfl rfl (lt_b rfl) (ru_extract rfl rfl rfl) ?_
    refine SL.ru rfl rfl (lt_b rfl) (ru_assign rfl rfl) ?_
    refine SL.ru rfl rfl (lt_b rfl) (ru_assign rfl rfl) ?_
    refine SL.ru rfl rfl (lt_b rfl) (ru_assign rfl rfl) ?_
    refine SL.nil ?_
    refine SC.of_SE ?_
    refine SC.norm [(2, bo false), (4, pt g1 0), (12, iw 1), (15, iw ((rxR ({ resetA A with r := up (resetA A).r 6 0 }) 1).2))] [rNic 68 g1 F11 ({ resetA A with r := up (resetA A).r 6 0 }), rMine (.slice a15 ((rxR ({ resetA A with r := up (resetA A).r 6 0 }) 1).1.1).length c16) ((rxR ({ resetA A with r := up (resetA A).r 6 0 }) 1).1.1) 5] ⟨rfl, rfl, rfl, rfl, trivial⟩ rfl ?_
    refine SC.seq ?_
    refine SC.region ?_
    refine SL.ru rfl rfl (lt_b rfl) (ru_move rfl rfl) ?_
    refine SL.ru rfl rfl (lt_b rfl) (ru_ne (b := false) rfl rfl rfl (bne_f rfl)) ?_
    refine SL.nil ?_
    refine SC.of_SE ?_
    refine SC.norm [(2, bo false), (4, pt g1 0), (12, iw 1), (88, bo false)] [rNic 68 g1 F11 ({ resetA A with r := up (resetA A).r 6 0 }), rMine (.slice a15 ((rxR ({ resetA A with r := up (resetA A).r 6 0 }) 1).1.1).length c16) ((rxR ({ resetA A with r := up (resetA A).r 6 0 }) 1).1.1) 5] ⟨rfl, rfl, rfl, rfl, trivial⟩ rfl ?_
    refine SC.no rfl ?_
    refine SC.skip ?_
    refine SE.blkn ?_
    refine SC.of_SE ?_
    refine SC.norm [(2, bo false), (4, pt g1 0), (12, iw 1)] [rNic 68 g1 F11 ({ resetA A with r := up (resetA A).r 6 0 }), rMine (.slice a15 ((rxR ({ resetA A with r := up (resetA A).r 6 0 }) 1).1.1).length c16) ((rxR ({ resetA A with r := up (resetA A).r 6 0 }) 1).1.1) 5] ⟨rfl, rfl, rfl, trivial⟩ rfl ?_
    refine SC.region ?_
    refine SL.ru rfl rfl (lt_b rfl) (ru_move rfl rfl) ?_
    refine SL.ru rfl rfl (lt_b rfl) (ru_add (r := 2) rfl rfl rfl rfl) ?_
    refine SL.ru rfl rfl (lt_b rfl) (ru_assign rfl rfl) ?_
    refine SL.nil ?_
    refine SE.round ?_
    refine SR.keep 1 ?_
    refine SR.norm [(2, bo false), (4, pt g1 0), (12, iw 2)] [rNic 68 g1 F11 ({ resetA A with r := up (resetA A).r 6 0 })] ⟨rfl, rfl, rfl, trivial⟩ rfl ?_
    refine SR.next ?_
    refine SC.seq ?_
    refine SC.seq ?_
    refine SC.region ?_
    refine SL.ru rfl rfl (lt_b rfl) (ru_move rfl rfl) ?_
    refine SL.ru rfl rfl (lt_b rfl) (ru_lt (b := true) rfl rfl rfl rfl) ?_
    refine SL.nil ?_
    refine SC.of_SE ?_
    refine SC.norm [(2, bo false), (4, pt g1 0), (12, iw 2), (77, bo true)] [rNic 68 g1 F11 ({ resetA A with r := up (resetA A).r 6 0 })] ⟨rfl, rfl, rfl, rfl, trivial⟩ rfl ?_
    refine SC.yes rfl ?_
    refine SC.skip ?_
    refine SC.of_SE ?_
    refine SC.norm [(2, bo false), (4, pt g1 0), (12, iw 2)] [rNic 68 g1 F11 ({ resetA A with r := up (resetA A).r 6 0 })] ⟨rfl, rfl, rfl, trivial⟩ rfl ?_
    refine SC.seq ?_
    refine SC.block ?_
    refine SC.seq ?_
    refine SC.region ?_
    refine SL.ru rfl rfl (lt_b rfl) (ru_move rfl rfl) ?_
    refine SL.ru rfl rfl (lt_b rfl) (ru_move rfl rfl) ?_
    refine SL.call (ζ := Option Addr × Nat) (fun z => Value.tuple #[Value.slice z.1 ((rxR ({ resetA A with r := up (resetA A).r 6 0 }) 2).1.1.length) z.2, bo ((rxR ({ resetA A with r := up (resetA A).r 6 0 }) 2).1.2), iw ((rxR ({ resetA A with r := up (resetA A).r 6 0 }) 2).2)]) (fun z => [rNic 68 g1 F11 ({ resetA A with r := up (resetA A).r 6 0 }), rMine (.slice z.1 ((rxR ({ resetA A with r := up (resetA A).r 6 0 }) 2).1.1).length z.2) ((rxR ({ resetA A with r := up (resetA A).r 6 0 }) 2).1.1) 5]) (fun z => ∀ b, (Value.slice z.1 (rxR ({ resetA A with r := up (resetA A).r 6 0 }) 2).1.1.length z.2).ownBlock = some b → w.heap.size ≤ b) rfl rfl co15 rfl rfl rfl (lt_b rfl) (fun w hI => (p_rx (read6_ok (reset_ok hk)) (nic_at hI (i := 0) rfl) 2).mono fun e w2 ⟨v, h1, h3, h4⟩ => by obtain ⟨qa, qc, rfl, k1, k2⟩ := hI.rxed (rx_len (read6_ok (reset_ok hk)) _) h3 h4; exact ⟨(qa, qc), h1, k1, k2⟩) ?_
    rintro ⟨a18, c19⟩ hq20
    refine SL.ru rfl rfl (lt_b rfl) (ru_move rfl rfl) ?_
    refine SL.ru rfl rfl (lt_b rfl) (ru_extract rfl rfl rfl) ?_
    refine SL.ru rfl rfl (lt_b rfl) (ru_extract rfl rfl rfl) ?_
    refine SL.ru rfl rfl (lt_b rfl) (ru_extract rfl rfl rfl) ?_
    refine SL.ru rfl rfl (lt_b rfl) (ru_assign rfl rfl) ?_
    refine SL.ru rfl rfl (lt_b rfl) (ru_assign rfl rfl) ?_
    refine SL.ru rfl rfl (lt_b rfl) (ru_assign rfl rfl) ?_
    refine SL.nil ?_
    refine SC.of_SE ?_
    refine SC.norm [(2, bo false), (4, pt g1 0), (12, iw 2), (15, iw ((rxR ({ resetA A with r := up (resetA A).r 6 0 }) 2).2))] [rNic 68 g1 F11 ({ resetA A with r := up (resetA A).r 6 0 }), rMine (.slice a18 ((rxR ({ resetA A with r := up (resetA A).r 6 0 }) 2).1.1).length c19) ((rxR ({ resetA A with r := up (resetA A).r 6 0 }) 2).1.1) 5] ⟨rfl, rfl, rfl, rfl, trivial⟩ rfl ?_
    refine SC.seq ?_
    refine SC.region ?_
    refine SL.ru rfl rfl (lt_b rfl) (ru_move rfl rfl) ?_
    refine SL.ru rfl rfl (lt_b rfl) (ru_ne (b := false) rfl rfl rfl (bne_f rfl)) ?_
    refine SL.nil ?_
    refine SC.of_SE ?_
    refine SC.norm [(2, bo false), (4, pt g1 0), (12, iw 2), (88, bo false)] [rNic 68 g1 F11 ({ resetA A with r := up (resetA A).r 6 0 }), rMine (.slice a18 ((rxR ({ resetA A with r := up (resetA A).r 6 0 }) 2).1.1).length c19) ((rxR ({ resetA A with r := up (resetA A).r 6 0 }) 2).1.1) 5] ⟨rfl, rfl, rfl, rfl, trivial⟩ rfl ?_
    refine SC.no rfl ?_
    refine SC.skip ?_
    refine SE.blkn ?_
    refine SC.of_SE ?_
    refine SC.norm [(2, bo false), (4, pt g1 0), (12, iw 2)] [rNic 68 g1 F11 ({ resetA A with r := up (resetA A).r 6 0 }), rMine (.slice a18 ((rxR ({ resetA A with r := up (resetA A).r 6 0 }) 2).1.1).length c19) ((rxR ({ resetA A with r := up (resetA A).r 6 0 }) 2).1.1) 5] ⟨rfl, rfl, rfl, trivial⟩ rfl ?_
    refine SC.region ?_
    refine SL.ru rfl rfl (lt_b rfl) (ru_move rfl rfl) ?_
    refine SL.ru rfl rfl (lt_b rfl) (ru_add (r := 3) rfl rfl rfl rfl) ?_
    refine SL.ru rfl rfl (lt_b rfl) (ru_assign rfl rfl) ?_
    refine SL.nil ?_
    refine SE.round ?_
    refine SR.keep 1 ?_
    refine SR.norm [(2, bo false), (4, pt g1 0), (12, iw 3)] [rNic 68 g1 F11 ({ resetA A with r := up (resetA A).r 6 0 })] ⟨rfl, rfl, rfl, trivial⟩ rfl ?_
    refine SR.next ?_
    refine SC.seq ?_
    refine SC.seq ?_
    refine SC.region ?_
    refine SL.ru rfl rfl (lt_b rfl) (ru_move rfl rfl) ?_
    refine SL.ru rfl rfl (lt_b rfl) (ru_lt (b := true) rfl rfl rfl rfl) ?_
    refine SL.nil ?_
    refine SC.of_SE ?_
    refine SC.norm [(2, bo false), (4, pt g1 0), (12, iw 3), (77, bo true)] [rNic 68 g1 F11 ({ resetA A with r := up (resetA A).r 6 0 })] ⟨rfl, rfl, rfl, rfl, trivial⟩ rfl ?_
    refine SC.yes rfl ?_
    refine SC.skip ?_
    refine SC.of_SE ?_
    refine SC.norm [(2, bo false), (4, pt g1 0), (12, iw 3)] [rNic 68 g1 F11 ({ resetA A with r := up (resetA A).r 6 0 })] ⟨rfl, rfl, rfl, trivial⟩ rfl ?_
    refine SC.seq ?_
    refine SC.block ?_
    refine SC.seq ?_
    refine SC.region ?_
    refine SL.ru rfl rfl (lt_b rfl) (ru_move rfl rfl) ?_
    refine SL.ru rfl rfl (lt_b rfl) (ru_move rfl rfl) ?_
    refine SL.call (ζ := Option Addr × Nat) (fun z => Value.tuple #[Value.slice z.1 ((rxR ({ resetA A with r := up (resetA A).r 6 0 }) 3).1.1.length) z.2, bo ((rxR ({ resetA A with r := up (resetA A).r 6 0 }) 3).1.2), iw ((rxR ({ resetA A with r := up (resetA A).r 6 0 }) 3).2)]) (fun z => [rNic 68 g1 F11 ({ resetA A with r := up (resetA A).r 6 0 }), rMine (.slice z.1 ((rxR ({ resetA A with r := up (resetA A).r 6 0 }) 3).1.1).length z.2) ((rxR ({ resetA A with r := up (resetA A).r 6 0 }) 3).1.1) 5]) (fun z => ∀ b, (Value.slice z.1 (rxR ({ resetA A with r := up (resetA A).r 6 0 }) 3).1.1.length z.2).ownBlock = some b → w.heap.size ≤ b) rfl rfl co15 rfl rfl rfl (lt_b rfl) (fun w hI => (p_rx (read6_ok (reset_ok hk)) (nic_at hI (i := 0) rfl) 3).mono fun e w2 ⟨v, h1, h3, h4⟩ => by obtain ⟨qa, qc, rfl, k1, k2⟩ := hI.rxed (rx_len (read6_ok (reset_ok hk)) _) h3 h4; exact ⟨(qa, qc), h1, k1, k2⟩) ?_
    rintro ⟨a21, c22⟩ hq23
    refine SL.ru rfl rfl (lt_b rfl) (ru_move rfl rfl) ?_
    refine SL.ru rfl rfl (lt_b rfl) (ru_extract rfl rfl rfl) ?_
    refine SL.ru rfl rfl (lt_b rfl) (ru_extract rfl rfl rfl) ?_
    refine SL.ru rfl rfl (lt_b rfl) (ru_extract rfl rfl rfl) ?_
    refine SL.ru rfl rfl (lt_b rfl) (ru_assign rfl rfl) ?_
    refine SL.ru rfl rfl (lt_b rfl) (ru_assign rfl rfl) ?_
    refine SL.ru rfl rfl (lt_b rfl) (ru_assign rfl rfl) ?_
    refine SL.nil ?_
    refine SC.of_SE ?_
    refine SC.norm [(2, bo false), (4, pt g1 0), (12, iw 3), (15, iw ((rxR ({ resetA A with r := up (resetA A).r 6 0 }) 3).2))] [rNic 68 g1 F11 ({ resetA A with r := up (resetA A).r 6 0 }), rMine (.slice a21 ((rxR ({ resetA A with r := up (resetA A).r 6 0 }) 3).1.1).length c22) ((rxR ({ resetA A with r := up (resetA A).r 6 0 }) 3).1.1) 5] ⟨rfl, rfl, rfl, rfl, trivial⟩ rfl ?_
    refine SC.seq ?_
    refine SC.region ?_
    refine SL.ru rfl rfl (lt_b rfl) (ru_move rfl rfl) ?_
    refine SL.ru rfl rfl (lt_b rfl) (ru_ne (b := false) rfl rfl rfl (bne_f rfl)) ?_
    refine SL.nil ?_
    refine SC.of_SE ?_
    refine SC.norm [(2, bo false), (4, pt g1 0), (12, iw 3), (88, bo false)] [rNic 68 g1 F11 ({ resetA A with r := up (resetA A).r 6 0 }), rMine (.slice a21 ((rxR ({ resetA A with r := up (resetA A).r 6 0 }) 3).1.1).length c22) ((rxR ({ resetA A with r := up (resetA A).r 6 0 }) 3).1.1) 5] ⟨rfl, rfl, rfl, rfl, trivial⟩ rfl ?_
    refine SC.no rfl ?_
    refine SC.skip ?_
    refine SE.blkn ?_
    refine SC.of_SE ?_
    refine SC.norm [(2, bo false), (4, pt g1 0), (12, iw 3)] [rNic 68 g1 F11 ({ resetA A with r := up (resetA A).r 6 0 }), rMine (.slice a21 ((rxR ({ resetA A with r := up (resetA A).r 6 0 }) 3).1.1).length c22) ((rxR ({ resetA A with r := up (resetA A).r 6 0 }) 3).1.1) 5] ⟨rfl, rfl, rfl, trivial⟩ rfl ?_
    refine SC.region ?_
    refine SL.ru rfl rfl (lt_b rfl) (ru_move rfl rfl) ?_
    refine SL.ru rfl rfl (lt_b rfl) (ru_add (r := 4) rfl rfl rfl rfl) ?_
    refine SL.ru rfl rfl (lt_b rfl) (ru_assign rfl rfl) ?_
    refine SL.nil ?_
    refine SE.round ?_
    refine SR.keep 1 ?_
    refine SR.norm [(2, bo false), (4, pt g1 0), (12, iw 4)] [rNic 68 g1 F11 ({ resetA A with r := up (resetA A).r 6 0 })] ⟨rfl, rfl, rfl, trivial⟩ rfl ?_
    refine SR.next ?_
    refine SC.seq ?_
    refine SC.seq ?_
    refine SC.region ?_
    refine SL.ru rfl rfl (lt_b rfl) (ru_move rfl rfl) ?_
    refine SL.ru rfl rfl (lt_b rfl) (ru_lt (b := true) rfl rfl rfl rfl) ?_
    refine SL.nil ?_
    refine SC.of_SE ?_
    refine SC.norm [(2, bo false), (4, pt g1 0), (12, iw 4), (77, bo true)] [rNic 68 g1 F11 ({ resetA A with r := up (resetA A).r 6 0 })] ⟨rfl, rfl, rfl, rfl, trivial⟩ rfl ?_
    refine SC.yes rfl ?_
    refine SC.skip ?_
    refine SC.of_SE ?_
    refine SC.norm [(2, bo false), (4, pt g1 0), (12, iw 4)] [rNic 68 g1 F11 ({ resetA A with r := up (resetA A).r 6 0 })] ⟨rfl, rfl, rfl, trivial⟩ rfl ?_
    refine SC.seq ?_
    refine SC.block ?_
    refine SC.seq ?_
    refine SC.region ?_
    refine SL.ru rfl rfl (lt_b rfl) (ru_move rfl rfl) ?_
    refine SL.ru rfl rfl (lt_b rfl) (ru_move rfl rfl) ?_
    refine SL.call (ζ := Option Addr × Nat) (fun z => Value.tuple #[Value.slice z.1 ((rxR ({ resetA A with r := up (resetA A).r 6 0 }) 4).1.1.length) z.2, bo ((rxR ({ resetA A with r := up (resetA A).r 6 0 }) 4).1.2), iw ((rxR ({ resetA A with r := up (resetA A).r 6 0 }) 4).2)]) (fun z => [rNic 68 g1 F11 ({ resetA A with r := up (resetA A).r 6 0 }), rMine (.slice z.1 ((rxR ({ resetA A with r := up (resetA A).r 6 0 }) 4).1.1).length z.2) ((rxR ({ resetA A with r := up (resetA A).r 6 0 }) 4).1.1) 5]) (fun z => ∀ b, (Value.slice z.1 (rxR ({ resetA A with r := up (resetA A).r 6 0 }) 4).1.1.length z.2).ownBlock = some b → w.heap.size ≤ b) rfl rfl co15 rfl rfl rfl (lt_b rfl) (fun w hI => (p_rx (read6_ok (reset_ok hk)) (nic_at hI (i := 0) rfl) 4).mono fun e w2 ⟨v, h1, h3, h4⟩ => by obtain ⟨qa, qc, rfl, k1, k2⟩ := hI.rxed (rx_len (read6_ok (reset_ok hk)) _) h3 h4; exact ⟨(qa, qc), h1, k1, k2⟩) ?_
    rintro ⟨a24, c25⟩ hq26
    refine SL.ru rfl rfl (lt_b rfl) (ru_move rfl rfl) ?_
    refine SL.ru rfl rfl (lt_b rfl) (ru_extract rfl rfl rfl) ?_
    refine SL.ru rfl rfl (lt_b rfl) (ru_extract rfl rfl rfl) ?_
    refine SL.ru rfl rfl (lt_b rfl) (ru_extract rfl rfl rfl) ?_
    refine SL.ru rfl rfl (lt_b rfl) (ru_assign rfl rfl) ?_
    refine SL.ru rfl rfl (lt_b rfl) (ru_assign rfl rfl) ?_
    refine SL.ru rfl rfl (lt_b rfl) (ru_assign rfl rfl) ?_
    refine SL.nil ?_
    refine SC.of_SE ?_
    refine SC.norm [(2, bo false), (4, pt g1 0), (12, iw 4), (15, iw ((rxR ({ resetA A with r := up (resetA A).r 6 0 }) 4).2))] [rNic 68 g1 F11 ({ resetA A with r := up (resetA A).r 6 0 }), rMine (.slice a24 ((rxR ({ resetA A with r := up (resetA A).r 6 0 }) 4).1.1).length c25) ((rxR ({ resetA A with r := up (resetA A).r 6 0 }) 4).1.1) 5] ⟨rfl, rfl, rfl, rfl, trivial⟩ rfl ?_
    refine SC.seq ?_
    refine SC.region ?_
    refine SL.ru rfl rfl (lt_b rfl) (ru_move rfl rfl) ?_
    refine SL.ru rfl rfl (lt_b rfl) (ru_ne (b := false) rfl rfl rfl (bne_f rfl)) ?_
    refine SL.nil ?_
    refine SC.of_SE ?_
    refine SC.norm [(2, bo false), (4, pt g1 0), (12, iw 4), (88, bo false)] [rNic 68 g1 F11 ({ resetA A with r := up (resetA A).r 6 0 }), rMine (.slice a24 ((rxR ({ resetA A with r := up (resetA A).r 6 0 }) 4).1.1).length c25) ((rxR ({ resetA A with r := up (resetA A).r 6 0 }) 4).1.1) 5] ⟨rfl, rfl, rfl, rfl, trivial⟩ rfl ?_
    refine SC.no rfl ?_
    refine SC.skip ?_
    refine SE.blkn ?_
    refine SC.of_SE ?_
    refine SC.norm [(2, bo false), (4, pt g1 0), (12, iw 4)] [rNic 68 g1 F11 ({ resetA A with r := up (resetA A).r 6 0 }), rMine (.slice a24 ((rxR ({ resetA A with r := up (resetA A).r 6 0 }) 4).1.1).length c25) ((rxR ({ resetA A with r := up (resetA A).r 6 0 }) 4).1.1) 5] ⟨rfl, rfl, rfl, trivial⟩ rfl ?_
    refine SC.region ?_
    refine SL.ru rfl rfl (lt_b rfl) (ru_move rfl rfl) ?_
    refine SL.ru rfl rfl (lt_b rfl) (ru_add (r := 5) rfl rfl rfl rfl) ?_
    refine SL.ru rfl rfl (lt_b rfl) (ru_assign rfl rfl) ?_
    refine SL.nil ?_
    refine SE.round ?_
    refine SR.keep 1 ?_
    refine SR.norm [(2, bo false), (4, pt g1 0), (12, iw 5)] [rNic 68 g1 F11 ({ resetA A with r := up (resetA A).r 6 0 })] ⟨rfl, rfl, rfl, trivial⟩ rfl ?_
    refine SR.next ?_
    refine SC.seq ?_
    refine SC.seq ?_
    refine SC.region ?_
    refine SL.ru rfl rfl (lt_b rfl) (ru_move rfl rfl) ?_
    refine SL.ru rfl rfl (lt_b rfl) (ru_lt (b := true) rfl rfl rfl rfl) ?_
    refine SL.nil ?_
    refine SC.of_SE ?_
    refine SC.norm [(2, bo false), (4, pt g1 0), (12, iw 5), (77, bo true)] [rNic 68 g1 F11 ({ resetA A with r := up (resetA A).r 6 0 })] ⟨rfl, rfl, rfl, rfl, trivial⟩ rfl ?_
    refine SC.yes rfl ?_
    refine SC.skip ?_
    refine SC.of_SE ?_
    refine SC.norm [(2, bo false), (4, pt g1 0), (12, iw 5)] [rNic 68 g1 F11 ({ resetA A with r := up (resetA A).r 6 0 })] ⟨rfl, rfl, rfl, trivial⟩ rfl ?_
    refine SC.seq ?_
    refine SC.block ?_
    refine SC.seq ?_
    refine SC.region ?_
    refine SL.ru rfl rfl (lt_b rfl) (ru_move rfl rfl) ?_
    refine SL.ru rfl rfl (lt_b rfl) (ru_move rfl rfl) ?_
    refine SL.call (ζ := Option Addr × Nat) (fun z => Value.tuple #[Value.slice z.1 ((rxR ({ resetA A with r := up (resetA A).r 6 0 }) 5).1.1.length) z.2, bo ((rxR ({ resetA A with r := up (resetA A).r 6 0 }) 5).1.2), iw ((rxR ({ resetA A with r := up (resetA A).r 6 0 }) 5).2)]) (fun z => [rNic 68 g1 F11 ({ resetA A with r := up (resetA A).r 6 0 }), rMine (.slice z.1 ((rxR ({ resetA A with r := up (resetA A).r 6 0 }) 5).1.1).length z.2) ((rxR ({ resetA A with r := up (resetA A).r 6 0 }) 5).1.1) 5]) (fun z => ∀ b, (Value.slice z.1 (rxR ({ resetA A with r := up (resetA A).r 6 0 }) 5).1.1.length z.2).ownBlock = some b → w.heap.size ≤ b) rfl rfl co15 rfl rfl rfl (lt_b rfl) (fun w hI => (p_rx (read6_ok (reset_ok hk)) (nic_at hI (i := 0) rfl) 5).mono fun e w2 ⟨v, h1, h3, h4⟩ => by obtain ⟨qa, qc, rfl, k1, k2⟩ := hI.rxed (rx_len (read6_ok (reset_ok hk)) _) h3 h4; exact ⟨(qa, qc), h1, k1, k2⟩) ?_
    rintro ⟨a27, c28⟩ hq29
    refine SL.ru rfl rfl (lt_b rfl) (ru_move rfl rfl) ?_
    refine SL.ru rfl rfl (lt_b rfl) (ru_extract rfl rfl rfl) ?_
    refine SL.ru rfl rfl (lt_b rfl) (ru_extract rfl rfl rfl) ?_
    refine SL.ru rfl rfl (lt_b rfl) (ru_extract rfl rfl rfl) ?_
    refine SL.ru rfl rfl (lt_b rfl) (ru_assign rfl rfl) ?_
    refine SL.ru rfl rfl (lt_b rfl) (ru_assign rfl rfl) ?_
    refine SL.ru rfl rfl (lt_b rfl) (ru_assign rfl rfl) ?_
    refine SL.nil ?_
    refine SC.of_SE ?_
    refine SC.norm [(2, bo false), (4, pt g1 0), (12, iw 5), (15, iw ((rxR ({ resetA A with r := up (resetA A).r 6 0 }) 5).2))] [rNic 68 g1 F11 ({ resetA A with r := up (resetA A).r 6 0 }), rMine (.slice a27 ((rxR ({ resetA A with r := up (resetA A).r 6 0 }) 5).1.1).length c28) ((rxR ({ resetA A with r := up (resetA A).r 6 0 }) 5).1.1) 5] ⟨rfl, rfl, rfl, rfl, trivial⟩ rfl ?_
    refine SC.seq ?_
    refine SC.region ?_
    refine SL.ru rfl rfl (lt_b rfl) (ru_move rfl rfl) ?_
    refine SL.ru rfl rfl (lt_b rfl) (ru_ne (b := false) rfl rfl rfl (bne_f rfl)) ?_
    refine SL.nil ?_
    refine SC.of_SE ?_
    refine SC.norm [(2, bo false), (4, pt g1 0), (12, iw 5), (88, bo false)] [rNic 68 g1 F11 ({ resetA A with r := up (resetA A).r 6 0 }), rMine (.slice a27 ((rxR ({ resetA A with r := up (resetA A).r 6 0 }) 5).1.1).length c28) ((rxR ({ resetA A with r := up (resetA A).r 6 0 }) 5).1.1) 5] ⟨rfl, rfl, rfl, rfl, trivial⟩ rfl ?_
    refine SC.no rfl ?_
    refine SC.skip ?_
    refine SE.blkn ?_
    refine SC.of_SE ?_
    refine SC.norm [(2, bo false), (4, pt g1 0), (12, iw 5)] [rNic 68 g1 F11 ({ resetA A with r := up (resetA A).r 6 0 }), rMine (.slice a27 ((rxR ({ resetA A with r := up (resetA A).r 6 0 }) 5).1.1).length c28) ((rxR ({ resetA A with r := up (resetA A).r 6 0 }) 5).1.1) 5] ⟨rfl, rfl, rfl, trivial⟩ rfl ?_
    refine SC.region ?_
    refine SL.ru rfl rfl (lt_b rfl) (ru_move rfl rfl) ?_
    refine SL.ru rfl rfl (lt_b rfl) (ru_add (r := 6) rfl rfl rfl rfl) ?_
    refine SL.ru rfl rfl (lt_b rfl) (ru_assign rfl rfl) ?_
    refine SL.nil ?_
    refine SE.round ?_
    refine SR.keep 1 ?_
    refine SR.norm [(2, bo false), (4, pt g1 0), (12, iw 6)] [rNic 68 g1 F11 ({ resetA A with r := up (resetA A).r 6 0 })] ⟨rfl, rfl, rfl, trivial⟩ rfl ?_
    refine SR.next ?_
    refine SC.seq ?_
    refine SC.seq ?_
    refine SC.region ?_
    refine SL.ru rfl rfl (lt_b rfl) (ru_move rfl rfl) ?_
    refine SL.ru rfl rfl (lt_b rfl) (ru_lt (b := true) rfl rfl rfl rfl) ?_
    refine SL.nil ?_
    refine SC.of_SE ?_
    refine SC.norm [(2, bo false), (4, pt g1 0), (12, iw 6), (77, bo true)] [rNic 68 g1 F11 ({ resetA A with r := up (resetA A).r 6 0 })] ⟨rfl, rfl, rfl, rfl, trivial⟩ rfl ?_
    refine SC.yes rfl ?_
    refine SC.skip ?_
    refine SC.of_SE ?_
    refine SC.norm [(2, bo false), (4, pt g1 0), (12, iw 6)] [rNic 68 g1 F11 ({ resetA A with r := up (resetA A).r 6 0 })] ⟨rfl, rfl, rfl, trivial⟩ rfl ?_
    refine SC.seq ?_
    refine SC.block ?_
    refine SC.seq ?_
    refine SC.region ?_
    refine SL.ru rfl rfl (lt_b rfl) (ru_move rfl rfl) ?_
    refine SL.ru rfl rfl (lt_b rfl) (ru_move rfl rfl) ?_
    refine SL.call (ζ := Option Addr × Nat) (fun z => Value.tuple #[Value.slice z.1 ((rxR ({ resetA A with r := up (resetA A).r 6 0 }) 6).1.1.length) z.2, bo ((rxR ({ resetA A with r := up (resetA A).r 6 0 }) 6).1.2), iw ((rxR ({ resetA A with r := up (resetA A).r 6 0 }) 6).2)]) (fun z => [rNic 68 g1 F11 ({ resetA A with r := up (resetA A).r 6 0 }), rMine (.slice z.1 ((rxR ({ resetA A with r := up (resetA A).r 6 0 }) 6).1.1).length z.2) ((rxR ({ resetA A with r := up (resetA A).r 6 0 }) 6).1.1) 5]) (fun z => ∀ b, (Value.slice z.1 (rxR ({ resetA A with r := up (resetA A).r 6 0 }) 6).1.1.length z.2).ownBlock = some b → w.heap.size ≤ b) rfl rfl co15 rfl rfl rfl (lt_b rfl) (fun w hI => (p_rx (read6_ok (reset_ok hk)) (nic_at hI (i := 0) rfl) 6).mono fun e w2 ⟨v, h1, h3, h4⟩ => by obtain ⟨qa, qc, rfl, k1, k2⟩ := hI.rxed (rx_len (read6_ok (reset_ok hk)) _) h3 h4; exact ⟨(qa, qc), h1, k1, k2⟩) ?_
    rintro ⟨a30, c31⟩ hq32
    refine SL.ru rfl rfl (lt_b rfl) (ru_move rfl rfl) ?_
    refine SL.ru rfl rfl (lt_b rfl) (ru_extract rfl rfl rfl) ?_
    refine SL.ru rfl rfl (lt_b rfl) (ru_extract rfl rfl rfl) ?_
    refine SL.ru rfl rfl (lt_b rfl) (ru_extract rfl rfl rfl) ?_
    refine SL.ru rfl rfl (lt_b rfl) (ru_assign rfl rfl) ?_
    refine SL.ru rfl rfl (lt_b rfl) (ru_assign rfl rfl) ?_
    refine SL.ru rfl rfl (lt_b rfl) (ru_assign rfl rfl) ?_
    refine SL.nil ?_
    refine SC.of_SE ?_
    refine SC.norm [(2, bo false), (4, pt g1 0), (12, iw 6), (15, iw ((rxR ({ resetA A with r := up (resetA A).r 6 0 }) 6).2))] [rNic 68 g1 F11 ({ resetA A with r := up (resetA A).r 6 0 }), rMine (.slice a30 ((rxR ({ resetA A with r := up (resetA A).r 6 0 }) 6).1.1).length c31) ((rxR ({ resetA A with r := up (resetA A).r 6 0 }) 6).1.1) 5] ⟨rfl, rfl, rfl, rfl, trivial⟩ rfl ?_
    refine SC.seq ?_
    refine SC.region ?_
    refine SL.ru rfl rfl (lt_b rfl) (ru_move rfl rfl) ?_
    refine SL.ru rfl rfl (lt_b rfl) (ru_ne (b := false) rfl rfl rfl (bne_f rfl)) ?_
    refine SL.nil ?_
    refine SC.of_SE ?_
    refine SC.norm [(2, bo false), (4, pt g1 0), (12, iw 6), (88, bo false)] [rNic 68 g1 F11 ({ resetA A with r := up (resetA A).r 6 0 }), rMine (.slice a30 ((rxR ({ resetA A with r := up (resetA A).r 6 0 }) 6).1.1).length c31) ((rxR ({ resetA A with r := up (resetA A).r 6 0 }) 6).1.1) 5] ⟨rfl, rfl, rfl, rfl, trivial⟩ rfl ?_
    refine SC.no rfl ?_
    refine SC.skip ?_
    refine SE.blkn ?_
    refine SC.of_SE ?_
    refine SC.norm [(2, bo false), (4, pt g1 0), (12, iw 6)] [rNic 68 g1 F11 ({ resetA A with r := up (resetA A).r 6 0 }), rMine (.slice a30 ((rxR ({ resetA A with r := up (resetA A).r 6 0 }) 6).1.1).length c31) ((rxR ({ resetA A with r := up (resetA A).r 6 0 }) 6).1.1) 5] ⟨rfl, rfl, rfl, trivial⟩ rfl ?_
    refine SC.region ?_
    refine SL.ru rfl rfl (lt_b rfl) (ru_move rfl rfl) ?_
    refine SL.ru rfl rfl (lt_b rfl) (ru_add (r := 7) rfl rfl rfl rfl) ?_
    refine SL.ru rfl rfl (lt_b rfl) (ru_assign rfl rfl) ?_
    refine SL.nil ?_
    refine SE.round ?_
    refine SR.keep 1 ?_
    refine SR.norm [(2, bo false), (4, pt g1 0), (12, iw 7)] [rNic 68 g1 F11 ({ resetA A with r := up (resetA A).r 6 0 })] ⟨rfl, rfl, rfl, trivial⟩ rfl ?_
    refine SR.next ?_
    refine SC.seq ?_
    refine SC.seq ?_
    refine SC.region ?_
    refine SL.ru rfl rfl (lt_b rfl) (ru_move rfl rfl) ?_
    refine SL.ru rfl rfl (lt_b rfl) (ru_lt (b := true) rfl rfl rfl rfl) ?_
    refine SL.nil ?_
    refine SC.of_SE ?_
    refine SC.norm [(2, bo false), (4, pt g1 0), (12, iw 7), (77, bo true)] [rNic 68 g1 F11 ({ resetA A with r := up (resetA A).r 6 0 })] ⟨rfl, rfl, rfl, rfl, trivial⟩ rfl ?_
    refine SC.yes rfl ?_
    refine SC.skip ?_
    refine SC.of_SE ?_
    refine SC.norm [(2, bo false), (4, pt g1 0), (12, iw 7)] [rNic 68 g1 F11 ({ resetA A with r := up (resetA A).r 6 0 })] ⟨rfl, rfl, rfl, trivial⟩ rfl ?_
    refine SC.seq ?_
    refine SC.block ?_
    refine SC.seq ?_
    refine SC.region ?_
    refine SL.ru rfl rfl (lt_b rfl) (ru_move rfl rfl) ?_
    refine SL.ru rfl rfl (lt_b rfl) (ru_move rfl rfl) ?_
    refine SL.call (ζ := Option Addr × Nat) (fun z => Value.tuple #[Value.slice z.1 ((rxR ({ resetA A with r := up (resetA A).r 6 0 }) 7).1.1.length) z.2, bo ((rxR ({ resetA A with r := up (resetA A).r 6 0 }) 7).1.2), iw ((rxR ({ resetA A with r := up (resetA A).r 6 0 }) 7).2)]) (fun z => [rNic 68 g1 F11 ({ resetA A with r := up (resetA A).r 6 0 }), rMine (.slice z.1 ((rxR ({ resetA A with r := up (resetA A).r 6 0 }) 7).1.1).length z.2) ((rxR ({ resetA A with r := up (resetA A).r 6 0 }) 7).1.1) 5]) (fun z => ∀ b, (Value.slice z.1 (rxR ({ resetA A with r := up (resetA A).r 6 0 }) 7).1.1.length z.2).ownBlock = some b → w.heap.size ≤ b) rfl rfl co15 rfl rfl rfl (lt_b rfl) (fun w hI => (p_rx (read6_ok (reset_ok hk)) (nic_at hI (i := 0) rfl) 7).mono fun e w2 ⟨v, h1, h3, h4⟩ => by obtain ⟨qa, qc, rfl, k1, k2⟩ := hI.rxed (rx_len (read6_ok (reset_ok hk)) _) h3 h4; exact ⟨(qa, qc), h1, k1, k2⟩) ?_
    rintro ⟨a33, c34⟩ hq35
    refine SL.ru rfl rfl (lt_b rfl) (ru_move rfl rfl) ?_
    refine SL.ru rfl rfl (lt_b rfl) (ru_extract rfl rfl rfl) ?_
    refine SL.ru rfl rfl (lt_b rfl) (ru_extract rfl rfl rfl) ?_
    refine SL.ru rfl rfl (lt_b rfl) (ru_extract rfl rfl rfl) ?_
    refine SL.ru rfl rfl (lt_b rfl) (ru_assign rfl rfl) ?_
    refine SL.ru rfl rfl (lt_b rfl) (ru_assign rfl rfl) ?_
    refine SL.ru rfl rfl (lt_b rfl) (ru_assign rfl rfl) ?_
    refine SL.nil ?_
    refine SC.of_SE ?_
    refine SC.norm [(2, bo false), (4, pt g1 0), (12, iw 7), (15, iw ((rxR ({ resetA A with r := up (resetA A).r 6 0 }) 7).2))] [rNic 68 g1 F11 ({ resetA A with r := up (resetA A).r 6 0 }), rMine (.slice a33 ((rxR ({ resetA A with r := up (resetA A).r 6 0 }) 7).1.1).length c34) ((rxR ({ resetA A with r := up (resetA A).r 6 0 }) 7).1.1) 5] ⟨rfl, rfl, rfl, rfl, trivial⟩ rfl ?_
    refine SC.seq ?_
    refine SC.region ?_
    refine SL.ru rfl rfl (lt_b rfl) (ru_move rfl rfl) ?_
    refine SL.ru rfl rfl (lt_b rfl) (ru_ne (b := false) rfl rfl rfl (bne_f rfl)) ?_
    refine SL.nil ?_
    refine SC.of_SE ?_
    refine SC.norm [(2, bo false), (4, pt g1 0), (12, iw 7), (88, bo false)] [rNic 68 g1 F11 ({ resetA A with r := up (resetA A).r 6 0 }), rMine (.slice a33 ((rxR ({ resetA A with r := up (resetA A).r 6 0 }) 7).1.1).length c34) ((rxR ({ resetA A with r := up (resetA A).r 6 0 }) 7).1.1) 5] ⟨rfl, rfl, rfl, rfl, trivial⟩ rfl ?_
    refine SC.no rfl ?_
    refine SC.skip ?_
    refine SE.blkn ?_
    refine SC.of_SE ?_
    refine SC.norm [(2, bo false), (4, pt g1 0), (12, iw 7)] [rNic 68 g1 F11 ({ resetA A with r := up (resetA A).r 6 0 }), rMine (.slice a33 ((rxR ({ resetA A with r := up (resetA A).r 6 0 }) 7).1.1).length c34) ((rxR ({ resetA A with r := up (resetA A).r 6 0 }) 7).1.1) 5] ⟨rfl, rfl, rfl, trivial⟩ rfl ?_
    refine SC.region ?_
    refine SL.ru rfl rfl (lt_b rfl) (ru_move rfl rfl) ?_
    refine SL.ru rfl rfl (lt_b rfl) (ru_add (r := 8) rfl rfl rfl rfl) ?_
    refine SL.ru rfl rfl (lt_b rfl) (ru_assign rfl rfl) ?_
    refine SL.nil ?_
    refine SE.round ?_
    refine SR.keep 1 ?_
    refine SR.norm [(2, bo false), (4, pt g1 0), (12, iw 8)] [rNic 68 g1 F11 ({ resetA A with r := up (resetA A).r 6 0 })] ⟨rfl, rfl, rfl, trivial⟩ rfl ?_
    refine SR.next ?_
    refine SC.seq ?_
    refine SC.seq ?_
    refine SC.region ?_
    refine SL.ru rfl rfl (lt_b rfl) (ru_move rfl rfl) ?_
    refine SL.ru rfl rfl (lt_b rfl) (ru_lt (b := true) rfl rfl rfl rfl) ?_
    refine SL.nil ?_
    refine SC.of_SE ?_
    refine SC.norm [(2, bo false), (4, pt g1 0), (12, iw 8), (77, bo true)] [rNic 68 g1 F11 ({ resetA A with r := up (resetA A).r 6 0 })] ⟨rfl, rfl, rfl, rfl, trivial⟩ rfl ?_
    refine SC.yes rfl ?_
    refine SC.skip ?_
    refine SC.of_SE ?_
    refine SC.norm [(2, bo false), (4, pt g1 0), (12, iw 8)] [rNic 68 g1 F11 ({ resetA A with r := up (resetA A).r 6 0 })] ⟨rfl, rfl, rfl, trivial⟩ rfl ?_
    refine SC.seq ?_
    refine SC.block ?_
    refine SC.seq ?_
    refine SC.region ?_
    refine SL.ru rfl rfl (lt_b rfl) (ru_move rfl rfl) ?_
    refine SL.ru rfl rfl (lt_b rfl) (ru_move rfl rfl) ?_
    refine SL.call (ζ := Option Addr × Nat) (fun z => Value.tuple #[Value.slice z.1 ((rxR ({ resetA A with r := up (resetA A).r 6 0 }) 8).1.1.length) z.2, bo ((rxR ({ resetA A with r := up (resetA A).r 6 0 }) 8).1.2), iw ((rxR ({ resetA A with r := up (resetA A).r 6 0 }) 8).2)]) (fun z => [rNic 68 g1 F11 ({ resetA A with r := up (resetA A).r 6 0 }), rMine (.slice z.1 ((rxR ({ resetA A with r := up (resetA A).r 6 0 }) 8).1.1).length z.2) ((rxR ({ resetA A with r := up (resetA A).r 6 0 }) 8).1.1) 5]) (fun z => ∀ b, (Value.slice z.1 (rxR ({ resetA A with r := up (resetA A).r 6 0 }) 8).1.1.length z.2).ownBlock = some b → w.heap.size ≤ b) rfl rfl co15 rfl rfl rfl (lt_b rfl) (fun w hI => (p_rx (read6_ok (reset_ok hk)) (nic_at hI (i := 0) rfl) 8).mono fun e w2 ⟨v, h1, h3, h4⟩ => by obtain ⟨qa, qc, rfl, k1, k2⟩ := hI.rxed (rx_len (read6_ok (reset_ok hk)) _) h3 h4; exact ⟨(qa, qc), h1, k1, k2⟩) ?_
    rintro ⟨a36, c37⟩ hq38
    refine SL.ru rfl rfl (lt_b rfl) (ru_move rfl rfl) ?_
    refine SL.ru rfl rfl (lt_b rfl) (ru_extract rfl rfl rfl) ?_
    refine SL.ru rfl rfl (lt_b rfl) (ru_extract rfl rfl rfl) ?_
    refine SL.ru rfl rfl (lt_b rfl) (ru_extract rfl rfl rfl) ?_
    refine SL.ru rfl rfl (lt_b rfl) (ru_assign rfl rfl) ?_
    refine SL.ru rfl rfl (lt_b rfl) (ru_assign rfl rfl) ?_
    refine SL.ru rfl rfl (lt_b rfl) (ru_assign rfl rfl) ?_
    refine SL.nil ?_
    refine SC.of_SE ?_
    refine SC.norm [(2, bo false), (4, pt g1 0), (12, iw 8), (15, iw ((rxR ({ resetA A with r := up (resetA A).r 6 0 }) 8).2))] [rNic 68 g1 F11 ({ resetA A with r := up (resetA A).r 6 0 }), rMine (.slice a36 ((rxR ({ resetA A with r := up (resetA A).r 6 0 }) 8).1.1).length c37) ((rxR ({ resetA A with r := up (resetA A).r 6 0 }) 8).1.1) 5] ⟨rfl, rfl, rfl, rfl, trivial⟩ rfl ?_
    refine SC.seq ?_
    refine SC.region ?_
    refine SL.ru rfl rfl (lt_b rfl) (ru_move rfl rfl) ?_
    refine SL.ru rfl rfl (lt_b rfl) (ru_ne (b := false) rfl rfl rfl (bne_f rfl)) ?_
    refine SL.nil ?_
    refine SC.of_SE ?_
    refine SC.norm [(2, bo false), (4, pt g1 0), (12, iw 8), (88, bo false)] [rNic 68 g1 F11 ({ resetA A with r := up (resetA A).r 6 0 }), rMine (.slice a36 ((rxR ({ resetA A with r := up (resetA A).r 6 0 }) 8).1.1).length c37) ((rxR ({ resetA A with r := up (resetA A).r 6 0 }) 8).1.1) 5] ⟨rfl, rfl, rfl, rfl, trivial⟩ rfl ?_
    refine SC.no rfl ?_
    refine SC.skip ?_
    refine SE.blkn ?_
    refine SC.of_SE ?_
    refine SC.norm [(2, bo false), (4, pt g1 0), (12, iw 8)] [rNic 68 g1 F11 ({ resetA A with r := up (resetA A).r 6 0 }), rMine (.slice a36 ((rxR ({ resetA A with r := up (resetA A).r 6 0 }) 8).1.1).length c37) ((rxR ({ resetA A with r := up (resetA A).r 6 0 }) 8).1.1) 5] ⟨rfl, rfl, rfl, trivial⟩ rfl ?_
    refine SC.region ?_
    refine SL.ru rfl rfl (lt_b rfl) (ru_move rfl rfl) ?_
    refine SL.ru rfl rfl (lt_b rfl) (ru_add (r := 9) rfl rfl rfl rfl) ?_
    refine SL.ru rfl rfl (lt_b rfl) (ru_assign rfl rfl) ?_
    refine SL.nil ?_
    refine SE.round ?_
    refine SR.keep 1 ?_
    refine SR.norm [(2, bo false), (4, pt g1 0), (12, iw 9)] [rNic 68 g1 F11 ({ resetA A with r := up (resetA A).r 6 0 })] ⟨rfl, rfl, rfl, trivial⟩ rfl ?_
    refine SR.next ?_
    refine SC.seq ?_
    refine SC.seq ?_
    refine SC.region ?_
    refine SL.ru rfl rfl (lt_b rfl) (ru_move rfl rfl) ?_
    refine SL.ru rfl rfl (lt_b rfl) (ru_lt (b := true) rfl rfl rfl rfl) ?_
    refine SL.nil ?_
    refine SC.of_SE ?_
    refine SC.norm [(2, bo false), (4, pt g1 0), (12, iw 9), (77, bo true)] [rNic 68 g1 F11 ({ resetA A with r := up (resetA A).r 6 0 })] ⟨rfl, rfl, rfl, rfl, trivial⟩ rfl ?_
    refine SC.yes rfl ?_
    refine SC.skip ?_
    refine SC.of_SE ?_
    refine SC.norm [(2, bo false), (4, pt g1 0), (12, iw 9)] [rNic 68 g1 F11 ({ resetA A with r := up (resetA A).r 6 0 })] ⟨rfl, rfl, rfl, trivial⟩ rfl ?_
    refine SC.seq ?_
    refine SC.block ?_
    refine SC.seq ?_
    refine SC.region ?_
    refine SL.ru rfl rfl (lt_b rfl) (ru_move rfl rfl) ?_
    refine SL.ru rfl rfl (lt_b rfl) (ru_move rfl rfl) ?_
    refine SL.call (ζ := Option Addr × Nat) (fun z => Value.tuple #[Value.slice z.1 ((rxR ({ resetA A with r := up (resetA A).r 6 0 }) 9).1.1.length) z.2, bo ((rxR ({ resetA A with r := up (resetA A).r 6 0 }) 9).1.2), iw ((rxR ({ resetA A with r := up (resetA A).r 6 0 }) 9).2)]) (fun z => [rNic 68 g1 F11 ({ resetA A with r := up (resetA A).r 6 0 }), rMine (.slice z.1 ((rxR ({ resetA A with r := up (resetA A).r 6 0 }) 9).1.1).length z.2) ((rxR ({ resetA A with r := up (resetA A).r 6 0 }) 9).1.1) 5]) (fun z => ∀ b, (Value.slice z.1 (rxR ({ resetA A with r := up (resetA A).r 6 0 }) 9).1.1.length z.2).ownBlock = some b → w.heap.size ≤ b) rfl rfl co15 rfl rfl rfl (lt_b rfl) (fun w hI => (p_rx (read6_ok (reset_ok hk)) (nic_at hI (i := 0) rfl) 9).mono fun e w2 ⟨v, h1, h3, h4⟩ => by obtain ⟨qa, qc, rfl, k1, k2⟩ := hI.rxed (rx_len (read6_ok (reset_ok hk)) _) h3 h4; exact ⟨(qa, qc), h1, k1, k2⟩) ?_
    rintro ⟨a39, c40⟩ hq41
    refine SL.ru rfl rfl (lt_b rfl) (ru_move rfl rfl) ?_
    refine SL.ru rfl rfl (lt_b rfl) (ru_extract rfl rfl rfl) ?_
    refine SL.ru rfl rfl (lt_b rfl) (ru_extract rfl rfl rfl) ?_
    refine SL.ru rfl rfl (lt_b rfl) (ru_extract rfl rfl rfl) ?_
    refine SL.ru rfl rfl (lt_b rfl) (ru_assign rfl rfl) ?_
    refine SL.ru rfl rfl (lt_b rfl) (ru_assign rfl rfl) ?_
    refine SL.ru rfl rfl (lt_b rfl) (ru_assign rfl rfl) ?_
    refine SL.nil ?_
    refine SC.of_SE ?_
    refine SC.norm [(2, bo false), (4, pt g1 0), (12, iw 9), (15, iw ((rxR ({ resetA A with r := up (resetA A).r 6 0 }) 9).2))] [rNic 68 g1 F11 ({ resetA A with r := up (resetA A).r 6 0 }), rMine (.slice a39 ((rxR ({ resetA A with r := up (resetA A).r 6 0 }) 9).1.1).length c40) ((rxR ({ resetA A with r := up (resetA A).r 6 0 }) 9).1.1) 5] ⟨rfl, rfl, rfl, rfl, trivial⟩ rfl ?_
    refine SC.seq ?_
    refine SC.region ?_
    refine SL.ru rfl rfl (lt_b rfl) (ru_move rfl rfl) ?_
    refine SL.ru rfl rfl (lt_b rfl) (ru_ne (b := false) rfl rfl rfl (bne_f rfl)) ?_
    refine SL.nil ?_
    refine SC.of_SE ?_
    refine SC.norm [(2, bo false), (4, pt g1 0), (12, iw 9), (88, bo false)] [rNic 68 g1 F11 ({ resetA A with r := up (resetA A).r 6 0 }), rMine (.slice a39 ((rxR ({ resetA A with r := up (resetA A).r 6 0 }) 9).1.1).length c40) ((rxR ({ resetA A with r := up (resetA A).r 6 0 }) 9).1.1) 5] ⟨rfl, rfl, rfl, rfl, trivial⟩ rfl ?_
    refine SC.no rfl ?_
    refine SC.skip ?_
    refine SE.blkn ?_
    refine SC.of_SE ?_
    refine SC.norm [(2, bo false), (4, pt g1 0), (12, iw 9)] [rNic 68 g1 F11 ({ resetA A with r := up (resetA A).r 6 0 }), rMine (.slice a39 ((rxR ({ resetA A with r := up (resetA A).r 6 0 }) 9).1.1).length c40) ((rxR ({ resetA A with r := up (resetA A).r 6 0 }) 9).1.1) 5] ⟨rfl, rfl, rfl, trivial⟩ rfl ?_
    refine SC.region ?_
    refine SL.ru rfl rfl (lt_b rfl) (ru_move rfl rfl) ?_
    refine SL.ru rfl rfl (lt_b rfl) (ru_add (r := 10) rfl rfl rfl rfl) ?_
    refine SL.ru rfl rfl (lt_b rfl) (ru_assign rfl rfl) ?_
    refine SL.nil ?_
    refine SE.round ?_
    refine SR.keep 1 ?_
    refine SR.norm [(2, bo false), (4, pt g1 0), (12, iw 10)] [rNic 68 g1 F11 ({ resetA A with r := up (resetA A).r 6 0 })] ⟨rfl, rfl, rfl, trivial⟩ rfl ?_
    refine SR.next ?_
    refine SC.seq ?_
    refine SC.seq ?_
    refine SC.region ?_
    refine SL.ru rfl rfl (lt_b rfl) (ru_move rfl rfl) ?_
    refine SL.ru rfl rfl (lt_b rfl) (ru_lt (b := true) rfl rfl rfl rfl) ?_
    refine SL.nil ?_
    refine SC.of_SE ?_
    refine SC.norm [(2, bo false), (4, pt g1 0), (12, iw 10), (77, bo true)] [rNic 68 g1 F11 ({ resetA A with r := up (resetA A).r 6 0 })] ⟨rfl, rfl, rfl, rfl, trivial⟩ rfl ?_
    refine SC.yes rfl ?_
    refine SC.skip ?_
    refine SC.of_SE ?_
    refine SC.norm [(2, bo false), (4, pt g1 0), (12, iw 10)] [rNic 68 g1 F11 ({ resetA A with r := up (resetA A).r 6 0 })] ⟨rfl, rfl, rfl, trivial⟩ rfl ?_
    refine SC.seq ?_
    refine SC.block ?_
    refine SC.seq ?_
    refine SC.region ?_
    refine SL.ru rfl rfl (lt_b rfl) (ru_move rfl rfl) ?_
    refine SL.ru rfl rfl (lt_b rfl) (ru_move rfl rfl) ?_
    refine SL.call (ζ := Option Addr × Nat) (fun z => Value.tuple #[Value.slice z.1 ((rxR ({ resetA A with r := up (resetA A).r 6 0 }) 10).1.1.length) z.2, bo ((rxR ({ resetA A with r := up (resetA A).r 6 0 }) 10).1.2), iw ((rxR ({ resetA A with r := up (resetA A).r 6 0 }) 10).2)]) (fun z => [rNic 68 g1 F11 ({ resetA A with r := up (resetA A).r 6 0 }), rMine (.slice z.1 ((rxR ({ resetA A with r := up (resetA A).r 6 0 }) 10).1.1).length z.2) ((rxR ({ resetA A with r := up (resetA A).r 6 0 }) 10).1.1) 5]) (fun z => ∀ b, (Value.slice z.1 (rxR ({ resetA A with r := up (resetA A).r 6 0 }) 10).1.1.length z.2).ownBlock = some b → w.heap.size ≤ b) rfl rfl co15 rfl rfl rfl (lt_b rfl) (fun w hI => (p_rx (read6_ok (reset_ok hk)) (nic_at hI (i := 0) rfl) 10).mono fun e w2 ⟨v, h1, h3, h4⟩ => by obtain ⟨qa, qc, rfl, k1, k2⟩ := hI.rxed (rx_len (read6_ok (reset_ok hk)) _) h3 h4; exact ⟨(qa, qc), h1, k1, k2⟩) ?_
    rintro ⟨a42, c43⟩ hq44
    refine SL.ru rfl rfl (lt_b rfl) (ru_move rfl rfl) ?_
    refine SL.ru rfl rfl (lt_b rfl) (ru_extract rfl rfl rfl) ?_
    refine SL.ru rfl rfl (lt_b rfl) (ru_extract rfl rfl rfl) ?_
    refine SL.ru rfl rfl (lt_b rfl) (ru_extract rfl rfl rfl) ?_
    refine SL.ru rfl rfl (lt_b rfl) (ru_assign rfl rfl) ?_
    refine SL.ru rfl rfl (lt_b rfl) (ru_assign rfl rfl) ?_
    refine SL.ru rfl rfl (lt_b rfl) (ru_assign rfl rfl) ?_
    refine SL.nil ?_
    refine SC.of_SE ?_
    refine SC.norm [(2, bo false), (4, pt g1 0), (12, iw 10), (15, iw ((rxR ({ resetA A with r := up (resetA A).r 6 0 }) 10).2))] [rNic 68 g1 F11 ({ resetA A with r := up (resetA A).r 6 0 }), rMine (.slice a42 ((rxR ({ resetA A with r := up (resetA A).r 6 0 }) 10).1.1).length c43) ((rxR ({ resetA A with r := up (resetA A).r 6 0 }) 10).1.1) 5] ⟨rfl, rfl, rfl, rfl, trivial⟩ rfl ?_
    refine SC.seq ?_
    refine SC.region ?_
    refine SL.ru rfl rfl (lt_b rfl) (ru_move rfl rfl) ?_
    refine SL.ru rfl rfl (lt_b rfl) (ru_ne (b := false) rfl rfl rfl (bne_f rfl)) ?_
    refine SL.nil ?_
    refine SC.of_SE ?_
    refine SC.norm [(2, bo false), (4, pt g1 0), (12, iw 10), (88, bo false)] [rNic 68 g1 F11 ({ resetA A with r := up (resetA A).r 6 0 }), rMine (.slice a42 ((rxR ({ resetA A with r := up (resetA A).r 6 0 }) 10).1.1).length c43) ((rxR ({ resetA A with r := up (resetA A).r 6 0 }) 10).1.1) 5] ⟨rfl, rfl, rfl, rfl, trivial⟩ rfl ?_
    refine SC.no rfl ?_
    refine SC.skip ?_
    refine SE.blkn ?_
    refine SC.of_SE ?_
    refine SC.norm [(2, bo false), (4, pt g1 0), (12, iw 10)] [rNic 68 g1 F11 ({ resetA A with r := up (resetA A).r 6 0 }), rMine (.slice a42 ((rxR ({ resetA A with r := up (resetA A).r 6 0 }) 10).1.1).length c43) ((rxR ({ resetA A with r := up (resetA A).r 6 0 }) 10).1.1) 5] ⟨rfl, rfl, rfl, trivial⟩ rfl ?_
    refine SC.region ?_
    refine SL.ru rfl rfl (lt_b rfl) (ru_move rfl rfl) ?_
    refine SL.ru rfl rfl (lt_b rfl) (ru_add (r := 11) rfl rfl rfl rfl) ?_
    refine SL.ru rfl rfl (lt_b rfl) (ru_assign rfl rfl) ?_
    refine SL.nil ?_
    refine SE.round ?_
    refine SR.keep 1 ?_
    refine SR.norm [(2, bo false), (4, pt g1 0), (12, iw 11)] [rNic 68 g1 F11 ({ resetA A with r := up (resetA A).r 6 0 })] ⟨rfl, rfl, rfl, trivial⟩ rfl ?_
    refine SR.next ?_
    refine SC.seq ?_
    refine SC.seq ?_
    refine SC.region ?_
    refine SL.ru rfl rfl (lt_b rfl) (ru_move rfl rfl) ?_
    refine SL.ru rfl rfl (lt_b rfl) (ru_lt (b := true) rfl rfl rfl rfl) ?_
    refine SL.nil ?_
    refine SC.of_SE ?_
    refine SC.norm [(2, bo false), (4, pt g1 0), (12, iw 11), (77, bo true)] [rNic 68 g1 F11 ({ resetA A with r := up (resetA A).r 6 0 })] ⟨rfl, rfl, rfl, rfl, trivial⟩ rfl ?_
    refine SC.yes rfl ?_
    refine SC.skip ?_
    refine SC.of_SE ?_
    refine SC.norm [(2, bo false), (4, pt g1 0), (12, iw 11)] [rNic 68 g1 F11 ({ resetA A with r := up (resetA A).r 6 0 })] ⟨rfl, rfl, rfl, trivial⟩ rfl ?_
    refine SC.seq ?_
    refine SC.block ?_
    refine SC.seq ?_
    refine SC.region ?_
    refine SL.ru rfl rfl (lt_b rfl) (ru_move rfl rfl) ?_
    refine SL.ru rfl rfl (lt_b rfl) (ru_move rfl rfl) ?_
    refine SL.call (ζ := Option Addr × Nat) (fun z => Value.tuple #[Value.slice z.1 ((rxR ({ resetA A with r := up (resetA A).r 6 0 }) 11).1.1.length) z.2, bo ((rxR ({ resetA A with r := up (resetA A).r 6 0 }) 11).1.2), iw ((rxR ({ resetA A with r := up (resetA A).r 6 0 }) 11).2)]) (fun z => [rNic 68 g1 F11 ({ resetA A with r := up (resetA A).r 6 0 }), rMine (.slice z.1 ((rxR ({ resetA A with r := up (resetA A).r 6 0 }) 11).1.1).length z.2) ((rxR ({ resetA A with r := up (resetA A).r 6 0 }) 11).1.1) 5]) (fun z => ∀ b, (Value.slice z.1 (rxR ({ resetA A with r := up (resetA A).r 6 0 }) 11).1.1.length z.2).ownBlock = some b → w.heap.size ≤ b) rfl rfl co15 rfl rfl rfl (lt_b rfl) (fun w hI => (p_rx (read6_ok (reset_ok hk)) (nic_at hI (i := 0) rfl) 11).mono fun e w2 ⟨v, h1, h3, h4⟩ => by obtain ⟨qa, qc, rfl, k1, k2⟩ := hI.rxed (rx_len (read6_ok (reset_ok hk)) _) h3 h4; exact ⟨(qa, qc), h1, k1, k2⟩) ?_
    rintro ⟨a45, c46⟩ hq47
    refine SL.ru rfl rfl (lt_b rfl) (ru_move rfl rfl) ?_
    refine SL.ru rfl rfl (lt_b rfl) (ru_extract rfl rfl rfl) ?_
    refine SL.ru rfl rfl (lt_b rfl) (ru_extract rfl rfl rfl) ?_
    refine SL.ru rfl rfl (lt_b rfl) (ru_extract rfl rfl rfl) ?_
    refine SL.ru rfl rfl (lt_b rfl) (ru_assign rfl rfl) ?_
    refine SL.ru rfl rfl (lt_b rfl) (ru_assign rfl rfl) ?_
    refine SL.ru rfl rfl (lt_b rfl) (ru_assign rfl rfl) ?_
    refine SL.nil ?_
    refine SC.of_SE ?_
    refine SC.norm [(2, bo false), (4, pt g1 0), (12, iw 11), (15, iw ((rxR ({ resetA A with r := up (resetA A).r 6 0 }) 11).2))] [rNic 68 g1 F11 ({ resetA A with r := up (resetA A).r 6 0 }), rMine (.slice a45 ((rxR ({ resetA A with r := up (resetA A).r 6 0 }) 11).1.1).length c46) ((rxR ({ resetA A with r := up (resetA A).r 6 0 }) 11).1.1) 5] ⟨rfl, rfl, rfl, rfl, trivial⟩ rfl ?_
    refine SC.seq ?_
    refine SC.region ?_
    refine SL.ru rfl rfl (lt_b rfl) (ru_move rfl rfl) ?_
    refine SL.ru rfl rfl (lt_b rfl) (ru_ne (b := false) rfl rfl rfl (bne_f rfl)) ?_
    refine SL.nil ?_
    refine SC.of_SE ?_
    refine SC.norm [(2, bo false), (4, pt g1 0), (12, iw 11), (88, bo false)] [rNic 68 g1 F11 ({ resetA A with r := up (resetA A).r 6 0 }), rMine (.slice a45 ((rxR ({ resetA A with r := up (resetA A).r 6 0 }) 11).1.1).length c46) ((rxR ({ resetA A with r := up (resetA A).r 6 0 }) 11).1.1) 5] ⟨rfl, rfl, rfl, rfl, trivial⟩ rfl ?_
    refine SC.no rfl ?_
    refine SC.skip ?_
    refine SE.blkn ?_
    refine SC.of_SE ?_
    refine SC.norm [(2, bo false), (4, pt g1 0), (12, iw 11)] [rNic 68 g1 F11 ({ resetA A with r := up (resetA A).r 6 0 }), rMine (.slice a45 ((rxR ({ resetA A with r := up (resetA A).r 6 0 }) 11).1.1).length c46) ((rxR ({ resetA A with r := up (resetA A).r 6 0 }) 11).1.1) 5] ⟨rfl, rfl, rfl, trivial⟩ rfl ?_
    refine SC.region ?_
    refine SL.ru rfl rfl (lt_b rfl) (ru_move rfl rfl) ?_
    refine SL.ru rfl rfl (lt_b rfl) (ru_add (r := 12) rfl rfl rfl rfl) ?_
    refine SL.ru rfl rfl (lt_b rfl) (ru_assign rfl rfl) ?_
    refine SL.nil ?_
    refine SE.round ?_
    refine SR.keep 1 ?_
    refine SR.norm [(2, bo false), (4, pt g1 0), (12, iw 12)] [rNic 68 g1 F11 ({ resetA A with r := up (resetA A).r 6 0 })] ⟨rfl, rfl, rfl, trivial⟩ rfl ?_
    refine SR.next ?_
    refine SC.seq ?_
    refine SC.seq ?_
    refine SC.region ?_
    refine SL.ru rfl rfl (lt_b rfl) (ru_move rfl rfl) ?_
    refine SL.ru rfl rfl (lt_b rfl) (ru_lt (b := true) rfl rfl rfl rfl) ?_
    refine SL.nil ?_
    refine SC.of_SE ?_
    refine SC.norm [(2, bo false), (4, pt g1 0), (12, iw 12), (77, bo true)] [rNic 68 g1 F11 ({ resetA A with r := up (resetA A).r 6 0 })] ⟨rfl, rfl, rfl, rfl, trivial⟩ rfl ?_
    refine SC.yes rfl ?_
    refine SC.skip ?_
    refine SC.of_SE ?_
    refine SC.norm [(2, bo false), (4, pt g1 0), (12, iw 12)] [rNic 68 g1 F11 ({ resetA A with r := up (resetA A).r 6 0 })] ⟨rfl, rfl, rfl, trivial⟩ rfl ?_
    refine SC.seq ?_
    refine SC.block ?_
    refine SC.seq ?_
    refine SC.region ?_
    refine SL.ru rfl rfl (lt_b rfl) (ru_move rfl rfl) ?_
    refine SL.ru rfl rfl (lt_b rfl) (ru_move rfl rfl) ?_
    refine SL.call (ζ := Option Addr × Nat) (fun z => Value.tuple #[Value.slice z.1 ((rxR ({ resetA A with r := up (resetA A).r 6 0 }) 12).1.1.length) z.2, bo ((rxR ({ resetA A with r := up (resetA A).r 6 0 }) 12).1.2), iw ((rxR ({ resetA A with r := up (resetA A).r 6 0 }) 12).2)]) (fun z => [rNic 68 g1 F11 ({ resetA A with r := up (resetA A).r 6 0 }), rMine (.slice z.1 ((rxR ({ resetA A with r := up (resetA A).r 6 0 }) 12).1.1).length z.2) ((rxR ({ resetA A with r := up (resetA A).r 6 0 }) 12).1.1) 5]) (fun z => ∀ b, (Value.slice z.1 (rxR ({ resetA A with r := up (resetA A).r 6 0 }) 12).1.1.length z.2).ownBlock = some b → w.heap.size ≤ b) rfl rfl co15 rfl rfl rfl (lt_b rfl) (fun w hI => (p_rx (read6_ok (reset_ok hk)) (nic_at hI (i := 0) rfl) 12).mono fun e w2 ⟨v, h1, h3, h4⟩ => by obtain ⟨qa, qc, rfl, k1, k2⟩ := hI.rxed (rx_len (read6_ok (reset_ok hk)) _) h3 h4; exact ⟨(qa, qc), h1, k1, k2⟩) ?_
    rintro ⟨a48, c49⟩ hq50
    refine SL.ru rfl rfl (lt_b rfl) (ru_move rfl rfl) ?_
    refine SL.ru rfl rfl (lt_b rfl) (ru_extract rfl rfl rfl) ?_
    refine SL.ru rfl rfl (lt_b rfl) (ru_extract rfl rfl rfl) ?_
    refine SL.ru rfl rfl (lt_b rfl) (ru_extract rfl rfl rfl) ?_
    refine SL.ru rfl rfl (lt_b rfl) (ru_assign rfl rfl) ?_
    refine SL.ru rfl rfl (lt_b rfl) (ru_assign rfl rfl) ?_
    refine SL.ru rfl rfl (lt_b rfl) (ru_assign rfl rfl) ?_
    refine SL.nil ?_
    refine SC.of_SE ?_
    refine SC.norm [(2, bo false), (4, pt g1 0), (12, iw 12), (15, iw ((rxR ({ resetA A with r := up (resetA A).r 6 0 }) 12).2))] [rNic 68 g1 F11 ({ resetA A with r := up (resetA A).r 6 0 }), rMine (.slice a48 ((rxR ({ resetA A with r := up (resetA A).r 6 0 }) 12).1.1).length c49) ((rxR ({ resetA A with r := up (resetA A).r 6 0 }) 12).1.1) 5] ⟨rfl, rfl, rfl, rfl, trivial⟩ rfl ?_
    refine SC.seq ?_
    refine SC.region ?_
    refine SL.ru rfl rfl (lt_b rfl) (ru_move rfl rfl) ?_
    refine SL.ru rfl rfl (lt_b rfl) (ru_ne (b := false) rfl rfl rfl (bne_f rfl)) ?_
    refine SL.nil ?_
    refine SC.of_SE ?_
    refine SC.norm [(2, bo false), (4, pt g1 0), (12, iw 12), (88, bo false)] [rNic 68 g1 F11 ({ resetA A with r := up (resetA A).r 6 0 }), rMine (.slice a48 ((rxR ({ resetA A with r := up (resetA A).r 6 0 }) 12).1.1).length c49) ((rxR ({ resetA A with r := up (resetA A).r 6 0 }) 12).1.1) 5] ⟨rfl, rfl, rfl, rfl, trivial⟩ rfl ?_
    refine SC.no rfl ?_
    refine SC.skip ?_
    refine SE.blkn ?_
    refine SC.of_SE ?_
    refine SC.norm [(2, bo false), (4, pt g1 0), (12, iw 12)] [rNic 68 g1 F11 ({ resetA A with r := up (resetA A).r 6 0 }), rMine (.slice a48 ((rxR ({ resetA A with r := up (resetA A).r 6 0 }) 12).1.1).length c49) ((rxR ({ resetA A with r := up (resetA A).r 6 0 }) 12).1.1) 5] ⟨rfl, rfl, rfl, trivial⟩ rfl ?_
    refine SC.region ?_
    refine SL.ru rfl rfl (lt_b rfl) (ru_move rfl rfl) ?_
    refine SL.ru rfl rfl (lt_b rfl) (ru_add (r := 13) rfl rfl rfl rfl) ?_
    refine SL.ru rfl rfl (lt_b rfl) (ru_assign rfl rfl) ?_
    refine SL.nil ?_
    refine SE.round ?_
    refine SR.keep 1 ?_
    refine SR.norm [(2, bo false), (4, pt g1 0), (12, iw 13)] [rNic 68 g1 F11 ({ resetA A with r := up (resetA A).r 6 0 })] ⟨rfl, rfl, rfl, trivial⟩ rfl ?_
    refine SR.next ?_
    refine SC.seq ?_
    refine SC.seq ?_
    refine SC.region ?_
    refine SL.ru rfl rfl (lt_b rfl) (ru_move rfl rfl) ?_
    refine SL.ru rfl rfl (lt_b rfl) (ru_lt (b := true) rfl rfl rfl rfl) ?_
    refine SL.nil ?_
    refine SC.of_SE ?_
    refine SC.norm [(2, bo false), (4, pt g1 0), (12, iw 13), (77, bo true)] [rNic 68 g1 F11 ({ resetA A with r := up (resetA A).r 6 0 })] ⟨rfl, rfl, rfl, rfl, trivial⟩ rfl ?_
    refine SC.yes rfl ?_
    refine SC.skip ?_
    refine SC.of_SE ?_
    refine SC.norm [(2, bo false), (4, pt g1 0), (12, iw 13)] [rNic 68 g1 F11 ({ resetA A with r := up (resetA A).r 6 0 })] ⟨rfl, rfl, rfl, trivial⟩ rfl ?_
    refine SC.seq ?_
    refine SC.block ?_
    refine SC.seq ?_
    refine SC.region ?_
    refine SL.ru rfl rfl (lt_b rfl) (ru_move rfl rfl) ?_
    refine SL.ru rfl rfl (lt_b rfl) (ru_move rfl rfl) ?_
    refine SL.call (ζ := Option Addr × Nat) (fun z => Value.tuple #[Value.slice z.1 ((rxR ({ resetA A with r := up (resetA A).r 6 0 }) 13).1.1.length) z.2, bo ((rxR ({ resetA A with r := up (resetA A).r 6 0 }) 13).1.2), iw ((rxR ({ resetA A with r := up (resetA A).r 6 0 }) 13).2)]) (fun z => [rNic 68 g1 F11 ({ resetA A with r := up (resetA A).r 6 0 }), rMine (.slice z.1 ((rxR ({ resetA A with r := up (resetA A).r 6 0 }) 13).1.1).length z.2) ((rxR ({ resetA A with r := up (resetA A).r 6 0 }) 13).1.1) 5]) (fun z => ∀ b, (Value.slice z.1 (rxR ({ resetA A with r := up (resetA A).r 6 0 }) 13).1.1.length z.2).ownBlock = some b → w.heap.size ≤ b) rfl rfl co15 rfl rfl rfl (lt_b rfl) (fun w hI => (p_rx (read6_ok (reset_ok hk)) (nic_at hI (i := 0) rfl) 13).mono fun e w2 ⟨v, h1, h3, h4⟩ => by obtain ⟨qa, qc, rfl, k1, k2⟩ := hI.rxed (rx_len (read6_ok (reset_ok hk)) _) h3 h4; exact ⟨(qa, qc), h1, k1, k2⟩) ?_
    rintro ⟨a51, c52⟩ hq53
    refine SL.ru rfl rfl (lt_b rfl) (ru_move rfl rfl) ?_
    refine SL.ru rfl rfl (lt_b rfl) (ru_extract rfl rfl rfl) ?_
    refine SL.ru rfl rfl (lt_b rfl) (ru_extract rfl rfl rfl) ?_
    refine SL.ru rfl rfl (lt_b rfl) (ru_extract rfl rfl rfl) ?_
    refine SL.ru rfl rfl (lt_b rfl) (ru_assign rfl rfl) ?_
    refine SL.ru rfl rfl (lt_b rfl) (ru_assign rfl rfl) ?_
    refine SL.ru rfl rfl (lt_b rfl) (ru_assign rfl rfl) ?_
    refine SL.nil ?_
    refine SC.of_SE ?_
    refine SC.norm [(2, bo false), (4, pt g1 0), (12, iw 13), (15, iw ((rxR ({ resetA A with r := up (resetA A).r 6 0 }) 13).2))] [rNic 68 g1 F11 ({ resetA A with r := up (resetA A).r 6 0 }), rMine (.slice a51 ((rxR ({ resetA A with r := up (resetA A).r 6 0 }) 13).1.1).length c52) ((rxR ({ resetA A with r := up (resetA A).r 6 0 }) 13).1.1) 5] ⟨rfl, rfl, rfl, rfl, trivial⟩ rfl ?_
    refine SC.seq ?_
    refine SC.region ?_
    refine SL.ru rfl rfl (lt_b rfl) (ru_move rfl rfl) ?_
    refine SL.ru rfl rfl (lt_b rfl) (ru_ne (b := false) rfl rfl rfl (bne_f rfl)) ?_
    refine SL.nil ?_
    refine SC.of_SE ?_
    refine SC.norm [(2, bo false), (4, pt g1 0), (12, iw 13), (88, bo false)] [rNic 68 g1 F11 ({ resetA A with r := up (resetA A).r 6 0 }), rMine (.slice a51 ((rxR ({ resetA A with r := up (resetA A).r 6 0 }) 13).1.1).length c52) ((rxR ({ resetA A with r := up (resetA A).r 6 0 }) 13).1.1) 5] ⟨rfl, rfl, rfl, rfl, trivial⟩ rfl ?_
    refine SC.no rfl ?_
    refine SC.skip ?_
    refine SE.blkn ?_
    refine SC.of_SE ?_
    refine SC.norm [(2, bo false), (4, pt g1 0), (12, iw 13)] [rNic 68 g1 F11 ({ resetA A with r := up (resetA A).r 6 0 }), rMine (.slice a51 ((rxR ({ resetA A with r := up (resetA A).r 6 0 }) 13).1.1).length c52) ((rxR ({ resetA A with r := up (resetA A).r 6 0 }) 13).1.1) 5] ⟨rfl, rfl, rfl, trivial⟩ rfl ?_
    refine SC.region ?_
    refine SL.ru rfl rfl (lt_b rfl) (ru_move rfl rfl) ?_
    refine SL.ru rfl rfl (lt_b rfl) (ru_add (r := 14) rfl rfl rfl rfl) ?_
    refine SL.ru rfl rfl (lt_b rfl) (ru_assign rfl rfl) ?_
    refine SL.nil ?_
    refine SE.round ?_
    refine SR.keep 1 ?_
    refine SR.norm [(2, bo false), (4, pt g1 0), (12, iw 14)] [rNic 68 g1 F11 ({ resetA A with r := up (resetA A).r 6 0 })] ⟨rfl, rfl, rfl, trivial⟩ rfl ?_
    refine SR.next ?_
    refine SC.seq ?_
    refine SC.seq ?_
    refine SC.region ?_
    refine SL.ru rfl rfl (lt_b rfl) (ru_move rfl rfl) ?_
    refine SL.ru rfl rfl (lt_b rfl) (ru_lt (b := true) rfl rfl rfl rfl) ?_
    refine SL.nil ?_
    refine SC.of_SE ?_
    refine SC.norm [(2, bo false), (4, pt g1 0), (12, iw 14), (77, bo true)] [rNic 68 g1 F11 ({ resetA A with r := up (resetA A).r 6 0 })] ⟨rfl, rfl, rfl, rfl, trivial⟩ rfl ?_
    refine SC.yes rfl ?_
    refine SC.skip ?_
    refine SC.of_SE ?_
    refine SC.norm [(2, bo false), (4, pt g1 0), (12, iw 14)] [rNic 68 g1 F11 ({ resetA A with r := up (resetA A).r 6 0 })] ⟨rfl, rfl, rfl, trivial⟩ rfl ?_
    refine SC.seq ?_
    refine SC.block ?_
    refine SC.seq ?_
    refine SC.region ?_
    refine SL.ru rfl rfl (lt_b rfl) (ru_move rfl rfl) ?_
    refine SL.ru rfl rfl (lt_b rfl) (ru_move rfl rfl) ?_
    refine SL.call (ζ := Option Addr × Nat) (fun z => Value.tuple #[Value.slice z.1 ((rxR ({ resetA A with r := up (resetA A).r 6 0 }) 14).1.1.length) z.2, bo ((rxR ({ resetA A with r := up (resetA A).r 6 0 }) 14).1.2), iw ((rxR ({ resetA A with r := up (resetA A).r 6 0 }) 14).2)]) (fun z => [rNic 68 g1 F11 ({ resetA A with r := up (resetA A).r 6 0 }), rMine (.slice z.1 ((rxR ({ resetA A with r := up (resetA A).r 6 0 }) 14).1.1).length z.2) ((rxR ({ resetA A with r := up (resetA A).r 6 0 }) 14).1.1) 5]) (fun z => ∀ b, (Value.slice z.1 (rxR ({ resetA A with r := up (resetA A).r 6 0 }) 14).1.1.length z.2).ownBlock = some b → w.heap.size ≤ b) rfl rfl co15 rfl rfl rfl (lt_b rfl) (fun w hI => (p_rx (read6_ok (reset_ok hk)) (nic_at hI (i := 0) rfl) 14).mono fun e w2 ⟨v, h1, h3, h4⟩ => by obtain ⟨qa, qc, rfl, k1, k2⟩ := hI.rxed (rx_len (read6_ok (reset_ok hk)) _) h3 h4; exact ⟨(qa, qc), h1, k1, k2⟩) ?_
    rintro ⟨a54, c55⟩ hq56
    refine SL.ru rfl rfl (lt_b rfl) (ru_move rfl rfl) ?_
    refine SL.ru rfl rfl (lt_b rfl) (ru_extract rfl rfl rfl) ?_
    refine SL.ru rfl rfl (lt_b rfl) (ru_extract rfl rfl rfl) ?_
    refine SL.ru rfl rfl (lt_b rfl) (ru_extract rfl rfl rfl) ?_
    refine SL.ru rfl rfl (lt_b rfl) (ru_assign rfl rfl) ?_
    refine SL.ru rfl rfl (lt_b rfl) (ru_assign rfl rfl) ?_
    refine SL.ru rfl rfl (lt_b rfl) (ru_assign rfl rfl) ?_
    refine SL.nil ?_
    refine SC.of_SE ?_
    refine SC.norm [(2, bo false), (4, pt g1 0), (12, iw 14), (15, iw ((rxR ({ resetA A with r := up (resetA A).r 6 0 }) 14).2))] [rNic 68 g1 F11 ({ resetA A with r := up (resetA A).r 6 0 }), rMine (.slice a54 ((rxR ({ resetA A with r := up (resetA A).r 6 0 }) 14).1.1).length c55) ((rxR ({ resetA A with r := up (resetA A).r 6 0 }) 14).1.1) 5] ⟨rfl, rfl, rfl, rfl, trivial⟩ rfl ?_
    refine SC.seq ?_
    refine SC.region ?_
    refine SL.ru rfl rfl (lt_b rfl) (ru_move rfl rfl) ?_
    refine SL.ru rfl rfl (lt_b rfl) (ru_ne (b := false) rfl rfl rfl (bne_f rfl)) ?_
    refine SL.nil ?_
    refine SC.of_SE ?_
    refine SC.norm [(2, bo false), (4, pt g1 0), (12, iw 14), (88, bo false)] [rNic 68 g1 F11 ({ resetA A with r := up (resetA A).r 6 0 }), rMine (.slice a54 ((rxR ({ resetA A with r := up (resetA A).r 6 0 }) 14).1.1).length c55) ((rxR ({ resetA A with r := up (resetA A).r 6 0 }) 14).1.1) 5] ⟨rfl, rfl, rfl, rfl, trivial⟩ rfl ?_
    refine SC.no rfl ?_
    refine SC.skip ?_
    refine SE.blkn ?_
    refine SC.of_SE ?_
    refine SC.norm [(2, bo false), (4, pt g1 0), (12, iw 14)] [rNic 68 g1 F11 ({ resetA A with r := up (resetA A).r 6 0 }), rMine (.slice a54 ((rxR ({ resetA A with r := up (resetA A).r 6 0 }) 14).1.1).length c55) ((rxR ({ resetA A with r := up (resetA A).r 6 0 }) 14).1.1) 5] ⟨rfl, rfl, rfl, trivial⟩ rfl ?_
    refine SC.region ?_
    refine SL.ru rfl rfl (lt_b rfl) (ru_move rfl rfl) ?_
    refine SL.ru rfl rfl (lt_b rfl) (ru_add (r := 15) rfl rfl rfl rfl) ?_
    refine SL.ru rfl rfl (lt_b rfl) (ru_assign rfl rfl) ?_
    refine SL.nil ?_
    refine SE.round ?_
    refine SR.keep 1 ?_
    refine SR.norm [(2, bo false), (4, pt g1 0), (12, iw 15)] [rNic 68 g1 F11 ({ resetA A with r := up (resetA A).r 6 0 })] ⟨rfl, rfl, rfl, trivial⟩ rfl ?_
    refine SR.next ?_
    refine SC.seq ?_
    refine SC.seq ?_
    refine SC.region ?_
    refine SL.ru rfl rfl (lt_b rfl) (ru_move rfl rfl) ?_
    refine SL.ru rfl rfl (lt_b rfl) (ru_lt (b := true) rfl rfl rfl rfl) ?_
    refine SL.nil ?_
    refine SC.of_SE ?_
    refine SC.norm [(2, bo false), (4, pt g1 0), (12, iw 15), (77, bo true)] [rNic 68 g1 F11 ({ resetA A with r := up (resetA A).r 6 0 })] ⟨rfl, rfl, rfl, rfl, trivial⟩ rfl ?_
    refine SC.yes rfl ?_
    refine SC.skip ?_
    refine SC.of_SE ?_
    refine SC.norm [(2, bo false), (4, pt g1 0), (12, iw 15)] [rNic 68 g1 F11 ({ resetA A with r := up (resetA A).r 6 0 })] ⟨rfl, rfl, rfl, trivial⟩ rfl ?_
    refine SC.seq ?_
    refine SC.block ?_
    refine SC.seq ?_
    refine SC.region ?_
    refine SL.ru rfl rfl (lt_b rfl) (ru_move rfl rfl) ?_
    refine SL.ru rfl rfl (lt_b rfl) (ru_move rfl rfl) ?_
    refine SL.call (ζ := Option Addr × Nat) (fun z => Value.tuple #[Value.slice z.1 ((rxR ({ resetA A with r := up (resetA A).r 6 0 }) 15).1.1.length) z.2, bo ((rxR ({ resetA A with r := up (resetA A).r 6 0 }) 15).1.2), iw ((rxR ({ resetA A with r := up (resetA A).r 6 0 }) 15).2)]) (fun z => [rNic 68 g1 F11 ({ resetA A with r := up (resetA A).r 6 0 }), rMine (.slice z.1 ((rxR ({ resetA A with r := up (resetA A).r 6 0 }) 15).1.1).length z.2) ((rxR ({ resetA A with r := up (resetA A).r 6 0 }) 15).1.1) 5]) (fun z => ∀ b, (Value.slice z.1 (rxR ({ resetA A with r := up (resetA A).r 6 0 }) 15).1.1.length z.2).ownBlock = some b → w.heap.size ≤ b) rfl rfl co15 rfl rfl rfl (lt_b rfl) (fun w hI => (p_rx (read6_ok (reset_ok hk)) (nic_at hI (i := 0) rfl) 15).mono fun e w2 ⟨v, h1, h3, h4⟩ => by obtain ⟨qa, qc, rfl, k1, k2⟩ := hI.rxed (rx_len (read6_ok (reset_ok hk)) _) h3 h4; exact ⟨(qa, qc), h1, k1, k2⟩) ?_
    rintro ⟨a57, c58⟩ hq59
    refine SL.ru rfl rfl (lt_b rfl) (ru_move rfl rfl) ?_
    refine SL.ru rfl rfl (lt_b rfl) (ru_extract rfl rfl rfl) ?_
    refine SL.ru rfl rfl (lt_b rfl) (ru_extract rfl rfl rfl) ?_
    refine SL.ru rfl rfl (lt_b rfl) (ru_extract rfl rfl rfl) ?_
    refine SL.ru rfl rfl (lt_b rfl) (ru_assign rfl rfl) ?_
    refine SL.ru rfl rfl (lt_b rfl) (ru_assign rfl rfl) ?_
    refine SL.ru rfl rfl (lt_b rfl) (ru_assign rfl rfl) ?_
    refine SL.nil ?_
    refine SC.of_SE ?_
    refine SC.norm [(2, bo false), (4, pt g1 0), (12, iw 15), (15, iw ((rxR ({ resetA A with r := up (resetA A).r 6 0 }) 15).2))] [rNic 68 g1 F11 ({ resetA A with r := up (resetA A).r 6 0 }), rMine (.slice a57 ((rxR ({ resetA A with r := up (resetA A).r 6 0 }) 15).1.1).length c58) ((rxR ({ resetA A with r := up (resetA A).r 6 0 }) 15).1.1) 5] ⟨rfl, rfl, rfl, rfl, trivial⟩ rfl ?_
    refine SC.seq ?_
    refine SC.region ?_
    refine SL.ru rfl rfl (lt_b rfl) (ru_move rfl rfl) ?_
    refine SL.ru rfl rfl (lt_b rfl) (ru_ne (b := false) rfl rfl rfl (bne_f rfl)) ?_
    refine SL.nil ?_
    refine SC.of_SE ?_
    refine SC.norm [(2, bo false), (4, pt g1 0), (12, iw 15), (88, bo false)] [rNic 68 g1 F11 ({ resetA A with r := up (resetA A).r 6 0 }), rMine (.slice a57 ((rxR ({ resetA A with r := up (resetA A).r 6 0 }) 15).1.1).length c58) ((rxR ({ resetA A with r := up (resetA A).r 6 0 }) 15).1.1) 5] ⟨rfl, rfl, rfl, rfl, trivial⟩ rfl ?_
    refine SC.no rfl ?_
    refine SC.skip ?_
    refine SE.blkn ?_
    refine SC.of_SE ?_
    refine SC.norm [(2, bo false), (4, pt g1 0), (12, iw 15)] [rNic 68 g1 F11 ({ resetA A with r := up (resetA A).r 6 0 }), rMine (.slice a57 ((rxR ({ resetA A with r := up (resetA A).r 6 0 }) 15).1.1).length c58) ((rxR ({ resetA A with r := up (resetA A).r 6 0 }) 15).1.1) 5] ⟨rfl, rfl, rfl, trivial⟩ rfl ?_
    refine SC.region ?_
    refine SL.ru rfl rfl (lt_b rfl) (ru_move rfl rfl) ?_
    refine SL.ru rfl rfl (lt_b rfl) (ru_add (r := 16) rfl rfl rfl rfl) ?_
    refine SL.ru rfl rfl (lt_b rfl) (ru_assign rfl rfl) ?_
    refine SL.nil ?_
    refine SE.round ?_
    refine SR.keep 1 ?_
    refine SR.norm [(2, bo false), (4, pt g1 0), (12, iw 16)] [rNic 68 g1 F11 ({ resetA A with r := up (resetA A).r 6 0 })] ⟨rfl, rfl, rfl, trivial⟩ rfl ?_
    refine SR.next ?_
    refine SC.seq ?_
    refine SC.seq ?_
    refine SC.region ?_
    refine SL.ru rfl rfl (lt_b rfl) (ru_move rfl rfl) ?_
    refine SL.ru rfl rfl (lt_b rfl) (ru_lt (b := false) rfl rfl rfl rfl) ?_
    refine SL.nil ?_
    refine SC.of_SE ?_
    refine SC.norm [(2, bo false), (4, pt g1 0), (12, iw 16), (77, bo false)] [rNic 68 g1 F11 ({ resetA A with r := up (resetA A).r 6 0 })] ⟨rfl, rfl, rfl, rfl, trivial⟩ rfl ?_
    refine SC.no rfl ?_
    refine SC.exit ?_
    refine SE.passe ?_
    refine SE.passe ?_
    refine SE.blke ?_
    refine SC.of_SE ?_
    refine SC.norm [(2, bo false), (4, pt g1 0)] [rNic 68 g1 F11 ({ resetA A with r := up (resetA A).r 6 0 })] ⟨rfl, rfl, trivial⟩ rfl ?_
    refine SC.seq ?_
    refine SC.region ?_
    refine SL.ru rfl rfl (lt_b rfl) (ru_move rfl rfl) ?_
    refine SL.callv (Value.tuple #[iw ((oldF ({ resetA A with r := up (resetA A).r 6 0 })).1), bo ((oldF ({ resetA A with r := up (resetA A).r 6 0 })).2)]) rfl rfl co21 rfl rfl rfl (lt_b rfl) (fun w hI => H_only hI (p_old (read6_ok (reset_ok hk)) (nic_at hI (i := 0) rfl))) ?_
    refine SL.ru rfl rfl (lt_b rfl) (ru_move rfl rfl) ?_
    refine SL.ru rfl rfl (lt_b rfl) (ru_extract rfl rfl rfl) ?_
    refine SL.ru rfl rfl (lt_b rfl) (ru_extract rfl rfl rfl) ?_
    refine SL.ru rfl rfl (lt_b rfl) (ru_assign rfl rfl) ?_
    refine SL.ru rfl rfl (lt_b rfl) (ru_assign rfl rfl) ?_
    refine SL.nil ?_
    refine SC.of_SE ?_
    refine SC.norm [(2, bo false), (17, bo ((oldF ({ resetA A with r := up (resetA A).r 6 0 })).2))] [rNic 68 g1 F11 ({ resetA A with r := up (resetA A).r 6 0 })] ⟨rfl, rfl, trivial⟩ rfl ?_
    refine SC.seq ?_
    refine SC.region ?_
    refine SL.ru rfl rfl (lt_b rfl) (ru_move rfl rfl) ?_
    refine SL.ru rfl rfl (lt_b rfl) (ru_not (c := (!((oldF ({ resetA A with r := up (resetA A).r 6 0 })).2))) rfl rfl rfl) ?_
    refine SL.ru rfl rfl (lt_b rfl) (ru_assign rfl rfl) ?_
    refine SL.nil ?_
    refine SC.of_SE ?_
    refine SC.norm [(2, bo (!((oldF ({ resetA A with r := up (resetA A).r 6 0 })).2)))] [rNic 68 g1 F11 ({ resetA A with r := up (resetA A).r 6 0 })] ⟨rfl, trivial⟩ rfl ?_
    refine SC.ret ?_
    refine SE.res (.inl rfl) (res1 Try.results6 rfl) fun w1 hI => ⟨ret_bo (Eq.symm ?_), hI.2⟩
    rfl
  · skip
    obtain ⟨b, o, ea, hop⟩ := hops (l.length - nn) (by omega)
    obtain ⟨⟨k, n, v, ov, f, y⟩, hl⟩ : ∃ op : OpR, op = l[l.length - nn]'(by omega) := ⟨_, rfl⟩
    rw [← hl] at hop
    obtain ⟨hc, hb, hs⟩ := hop
    simp only at hc hb hs
    obtain ⟨fa, fc, rfl⟩ := hb.form
    subst ea
    refine SC.seq ?_
    refine SC.seq ?_
    refine SC.region ?_
    refine SL.ru rfl rfl (lt_b rfl) (ru_move rfl rfl) ?_
    refine SL.ru rfl rfl (lt_b rfl) (ru_move rfl rfl) ?_
    refine SL.ru rfl rfl (lt_b rfl) (ru_len Try.underlying22 rfl rfl) ?_
    refine SL.ru rfl rfl (lt_b rfl) (ru_lt (b := (decide ((((l.length : Int) - (nn : Int)) : Int) < (l.length : Int)))) rfl rfl rfl rfl) ?_
    refine SL.nil ?_
    refine SC.of_SE ?_
    refine SC.norm [(0, sl b o l.length c), (2, bo false), (4, pt g1 0), (5, iw ((l.length : Int) - (nn : Int))), (29, bo (decide ((((l.length : Int) - (nn : Int)) : Int) < (l.length : Int))))] [rNic 68 g1 F A] ⟨rfl, rfl, rfl, rfl, rfl, trivial⟩ rfl ?_
    refine SC.yes (show some (Value.bool (decide ((((l.length : Int) - (nn : Int)) : Int) < (l.length : Int)))) = some (Value.bool true) from congrArg (fun x => some (Value.bool x)) (decide_eq_true (by omega))) ?_
    refine SC.skip ?_
    refine SC.of_SE ?_
    refine SC.norm [(0, sl b o l.length c), (2, bo false), (4, pt g1 0), (5, iw ((l.length : Int) - (nn : Int)))] [rNic 68 g1 F A] ⟨rfl, rfl, rfl, rfl, trivial⟩ rfl ?_
    refine SC.seq ?_
    refine SC.block ?_
    refine SC.region ?_
    refine SL.ru rfl rfl (lt_b rfl) (ru_move rfl rfl) ?_
    refine SL.ru rfl rfl (lt_b rfl) (ru_move rfl rfl) ?_
    refine SL.ru rfl rfl (lt_b rfl) (ru_move rfl rfl) ?_
    refine SL.ru rfl rfl (lt_b rfl) (ru_indexS (o2 := o + ((l.length : Int) - (nn : Int)).toNat * 5) si22 rfl rfl rfl (by omega) (by omega) rfl) ?_
    refine SL.ru rfl rfl (lt_b rfl) (ru_loada_old (vs := [iw k, iw n, iw v, Value.slice fa f.length fc, bo y]) (fun _ h => h) ta32 rfl rfl rfl (by rw [show ((l.length : Int) - (nn : Int)).toNat = l.length - nn by omega]; exact hc)) ?_
    refine SL.call (ζ := Nat → Prop) (fun F60 => Value.tuple #[]) (fun F60 => [rNic 68 g1 F60 (playF A k n v f y)]) (fun F60 => True) rfl rfl co16 rfl rfl rfl (lt_b rfl) (fun w hI => (plays_any hk (nic_at hI (i := 0) rfl) (hb.only hI.2 (fun _ _ _ _ _ _ h => h)) (fun b o n c e hn h => by have := hs b o n c e hn; subst h; omega)).mono fun e w2 ⟨h1, ⟨F2, h2⟩, h3⟩ => ⟨F2, h1, hI.play1 h2 h3 (.inr hg1), trivial⟩) ?_
    intro F60 _
    refine SL.nil ?_
    refine SE.blkn ?_
    refine SC.of_SE ?_
    refine SC.norm [(0, sl b o l.length c), (2, bo false), (4, pt g1 0), (5, iw ((l.length : Int) - (nn : Int)))] [rNic 68 g1 F60 (playF A k n v f y)] ⟨rfl, rfl, rfl, rfl, trivial⟩ rfl ?_
    refine SC.region ?_
    refine SL.ru rfl rfl (lt_b rfl) (ru_move rfl rfl) ?_
    refine SL.ru rfl rfl (lt_b rfl) (ru_add (r := (IntKind.i64.wrap (((l.length : Int) - (nn : Int)) + 1))) rfl rfl rfl rfl) ?_
    refine SL.ru rfl rfl (lt_b rfl) (ru_assign rfl rfl) ?_
    refine SL.nil ?_
    refine SE.again (nn - 1) (playF A k n v f y, F60) (by omega) ⟨by omega, play_ok hk k n v f y⟩ ⟨rfl, rfl, rfl, (congrArg (fun x => some (iw x)) (show IntKind.i64.wrap (((l.length : Int) - (nn : Int)) + 1) = (l.length : Int) - (((nn - 1 : Nat) : Int) : Int) by rw [IntKind.wrap_i64]; omega)), trivial⟩ rfl

end Go.Proofs.Ytloejpkefoagfaa
