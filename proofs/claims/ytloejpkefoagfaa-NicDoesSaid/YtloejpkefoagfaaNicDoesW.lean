/-
  NicDoes answers true.
-/
import Derived.Test.YtloejpkefoagfaaNicDoes
import Derived.Test.YtloejpkefoagfaaNicAwake
namespace Go.Proofs.Ytloejpkefoagfaa
open Go.RowKit
set_option maxRecDepth 100000
set_option maxHeartbeats 4000000
theorem does_walk (w : World) {vv : Value} {l : List OpR} (h : OpsAt w vv l) : Calls Try.prog 5 #[vv] w fun e w' => e = .returned (.bool true) ∧ Only (fun _ => False) w w' := by
  obtain ⟨a, c, rfl, hll, hops⟩ := h
  refine calls_sc (l0 := []) (args := [Value.slice a l.length c]) (fun _ => False) Try.func5 rfl 99 Try.ntmps5 (le_b rfl) ⟨⟨by simp, List.Pairwise.nil⟩, Only.refl _ _⟩ ?_
  show SC _ _ _ _ [(0, Value.slice a l.length c)] []
  refine SC.seq ?_
  refine SC.region ?_
  refine SL.ru rfl rfl (lt_b rfl) (ru_assign rfl rfl) ?_
  refine SL.nil ?_
  refine SC.of_SE ?_
  refine SC.norm [(0, Value.slice a l.length c), (2, bo false)] [] ⟨rfl, rfl, trivial⟩ rfl ?_
  refine SC.seq ?_
  refine SC.region ?_
  refine SL.callv (bo true) rfl rfl co7 rfl rfl rfl (lt_b rfl) (fun w hI => H_only hI (awake_any _)) ?_
  refine SL.ru rfl rfl (lt_b rfl) (ru_assign rfl rfl) ?_
  refine SL.nil ?_
  refine SC.of_SE ?_
  refine SC.norm [(0, Value.slice a l.length c), (2, bo false), (3, bo true)] [] ⟨rfl, rfl, rfl, trivial⟩ rfl ?_
  refine SC.seq ?_
  refine SC.region ?_
  refine SL.call (ζ := Nat) (fun z => pt z 0) (fun z => [rNic 68 z (fun _ => False) newA]) (fun z => w.heap.size ≤ z) rfl rfl co8 rfl rfl rfl (lt_b rfl) (fun w hI => (p_new _).mono fun e w2 ⟨g, h1, h2, h3, h4⟩ => ⟨g, h2, hI.newNic h1 h3 h4, Nat.le_trans hI.2.size h1⟩) ?_
  intro g1 hg1
  refine SL.ru rfl rfl (lt_b rfl) (ru_assign rfl rfl) ?_
  refine SL.nil ?_
  refine SC.of_SE ?_
  refine SC.norm [(0, Value.slice a l.length c), (2, bo false), (3, bo true), (4, pt g1 0)] [rNic 68 g1 (fun _ => False) newA] ⟨rfl, rfl, rfl, rfl, trivial⟩ rfl ?_
  refine SC.seq ?_
  refine SC.region ?_
  refine SL.call (ζ := Nat) (fun z => pt z 0) (fun z => [rNic 68 g1 (fun _ => False) newA, rNic 58 z (fun _ => False) newA]) (fun z => w.heap.size ≤ z) rfl rfl co19 rfl rfl rfl (lt_b rfl) (fun w hI => (q_new _).mono fun e w2 ⟨g, h1, h2, h3, h4⟩ => ⟨g, h2, hI.newNic h1 h3 h4, Nat.le_trans hI.2.size h1⟩) ?_
  intro g2 hg2
  refine SL.ru rfl rfl (lt_b rfl) (ru_assign rfl rfl) ?_
  refine SL.nil ?_
  refine SC.of_SE ?_
  refine SC.norm [(0, Value.slice a l.length c), (2, bo false), (3, bo true), (4, pt g1 0), (5, pt g2 0)] [rNic 68 g1 (fun _ => False) newA, rNic 58 g2 (fun _ => False) newA] ⟨rfl, rfl, rfl, rfl, rfl, trivial⟩ rfl ?_
  refine SC.seq ?_
  refine SC.seq ?_
  refine SC.region ?_
  refine SL.ru rfl rfl (lt_b rfl) (ru_move rfl rfl) ?_
  refine SL.ru rfl rfl (lt_b rfl) (ru_not (c := false) rfl rfl rfl) ?_
  refine SL.ru rfl rfl (lt_b rfl) (ru_move rfl rfl) ?_
  refine SL.rug rfl rfl rfl rfl (lt_b rfl) (ru_move rfl rfl) ?_
  refine SL.rug rfl rfl rfl rfl (lt_b rfl) (ru_eqnil Try.underlying24 rfl rfl rfl rfl) ?_
  refine SL.ru rfl rfl (lt_b rfl) (ru_pick (u := bo true) (v := bo false) rfl rfl rfl rfl) ?_
  refine SL.nil ?_
  refine SC.of_SE ?_
  refine SC.norm [(0, Value.slice a l.length c), (2, bo false), (4, pt g1 0), (5, pt g2 0), (25, bo false)] [rNic 68 g1 (fun _ => False) newA, rNic 58 g2 (fun _ => False) newA] ⟨rfl, rfl, rfl, rfl, rfl, trivial⟩ rfl ?_
  refine SC.no rfl ?_
  refine SC.skip ?_
  refine SC.of_SE ?_
  refine SC.norm [(0, Value.slice a l.length c), (2, bo false), (4, pt g1 0), (5, pt g2 0)] [rNic 68 g1 (fun _ => False) newA, rNic 58 g2 (fun _ => False) newA] ⟨rfl, rfl, rfl, rfl, trivial⟩ rfl ?_
  refine SC.seq ?_
  refine SC.seq ?_
  refine SC.region ?_
  refine SL.ru rfl rfl (lt_b rfl) (ru_assign rfl rfl) ?_
  refine SL.nil ?_
  refine SC.of_SE ?_
  refine SC.norm [(0, Value.slice a l.length c), (2, bo false), (4, pt g1 0), (5, pt g2 0), (6, iw 0)] [rNic 68 g1 (fun _ => False) newA, rNic 58 g2 (fun _ => False) newA] ⟨rfl, rfl, rfl, rfl, rfl, trivial⟩ rfl ?_
  refine SC.block ?_
  refine SC.loop (γ := NicA × (Nat → Prop) × (Nat → Prop)) (fun nn _ => [(0, Value.slice a l.length c), (2, bo false), (4, pt g1 0), (5, pt g2 0), (6, iw ((l.length : Int) - (nn : Int)))]) (fun nn g => [rNic 68 g1 g.2.1 g.1, rNic 58 g2 g.2.2 g.1]) (fun nn g => nn ≤ l.length ∧ NicOk g.1) l.length (newA, (fun _ => False), (fun _ => False)) ⟨Nat.le_refl _, newA_ok⟩ ⟨rfl, rfl, rfl, rfl, (congrArg (fun x => some (iw x)) (show (0 : Int) = (l.length : Int) - ((l.length : Nat) : Int) by omega)), trivial⟩ rfl ?_
  rintro nn ⟨A, F, G⟩ ⟨hn, hk⟩
  rcases Nat.eq_zero_or_pos nn with h0 | h0
  · skip
    refine SC.seq ?_
    refine SC.seq ?_
    refine SC.region ?_
    refine SL.ru rfl rfl (lt_b rfl) (ru_move rfl rfl) ?_
    refine SL.ru rfl rfl (lt_b rfl) (ru_move rfl rfl) ?_
    refine SL.ru rfl rfl (lt_b rfl) (ru_len Try.underlying22 rfl rfl) ?_
    refine SL.ru rfl rfl (lt_b rfl) (ru_lt (b := (decide ((((l.length : Int) - (nn : Int)) : Int) < (l.length : Int)))) rfl rfl rfl rfl) ?_
    refine SL.nil ?_
    refine SC.of_SE ?_
    refine SC.norm [(0, Value.slice a l.length c), (2, bo false), (4, pt g1 0), (5, pt g2 0), (6, iw ((l.length : Int) - (nn : Int))), (29, bo (decide ((((l.length : Int) - (nn : Int)) : Int) < (l.length : Int))))] [rNic 68 g1 F A, rNic 58 g2 G A] ⟨rfl, rfl, rfl, rfl, rfl, rfl, trivial⟩ rfl ?_
    refine SC.no (show some (Value.bool (decide ((((l.length : Int) - (nn : Int)) : Int) < (l.length : Int)))) = some (Value.bool false) from congrArg (fun x => some (Value.bool x)) (decide_eq_false (by omega))) ?_
    refine SC.exit ?_
    refine SE.passe ?_
    refine SE.passe ?_
    refine SE.blke ?_
    refine SC.of_SE ?_
    refine SC.norm [(2, bo false), (4, pt g1 0), (5, pt g2 0)] [rNic 68 g1 F A, rNic 58 g2 G A] ⟨rfl, rfl, rfl, trivial⟩ rfl ?_
    refine SC.seq ?_
    refine SC.region ?_
    refine SL.ru rfl rfl (lt_b rfl) (ru_move rfl rfl) ?_
    refine SL.call (ζ := Nat → Prop) (fun F3 => Value.tuple #[iw (A.r 6), iw 0]) (fun F3 => [rNic 68 g1 F3 ({ A with r := up A.r 6 0 }), rNic 58 g2 G A]) (fun F3 => True) rfl rfl co18 rfl rfl rfl (lt_b rfl) (fun w hI => (p_read_6 hk (nic_at hI (i := 0) rfl)).mono fun e w2 ⟨h1, h2⟩ => by obtain ⟨F2, h3⟩ := hI.nicTo (i := 0) rfl (.inr hg1) h2; exact ⟨F2, h1, h3, trivial⟩) ?_
    intro F3 _
    refine SL.ru rfl rfl (lt_b rfl) (ru_move rfl rfl) ?_
    refine SL.ru rfl rfl (lt_b rfl) (ru_extract rfl rfl rfl) ?_
    refine SL.ru rfl rfl (lt_b rfl) (ru_extract rfl rfl rfl) ?_
    refine SL.ru rfl rfl (lt_b rfl) (ru_assign rfl rfl) ?_
    refine SL.ru rfl rfl (lt_b rfl) (ru_assign rfl rfl) ?_
    refine SL.nil ?_
    refine SC.of_SE ?_
    refine SC.norm [(2, bo false), (5, pt g2 0), (15, iw (A.r 6)), (16, iw 0)] [rNic 68 g1 F3 ({ A with r := up A.r 6 0 }), rNic 58 g2 G A] ⟨rfl, rfl, rfl, rfl, trivial⟩ rfl ?_
    refine SC.seq ?_
    refine SC.region ?_
    refine SL.ru rfl rfl (lt_b rfl) (ru_move rfl rfl) ?_
    refine SL.ru rfl rfl (lt_b rfl) (ru_move rfl rfl) ?_
    refine SL.ru rfl rfl (lt_b rfl) (ru_nilCheck rfl rfl) ?_
    refine SL.ru rfl rfl (lt_b rfl) (ru_fieldAddr (o2 := 0) fd58_0 rfl rfl rfl) ?_
    refine SL.ru rfl rfl (lt_b rfl) (ru_indexA (o2 := 6) ar44 rfl rfl rfl (by decide) (by decide) rfl) ?_
    refine SL.ru rfl rfl (lt_b rfl) (ru_nic_r (i := 1) (by decide) ts3 rfl rfl rfl) ?_
    refine SL.ru rfl rfl (lt_b rfl) (ru_eq (b := true) rfl rfl rfl (by simp)) ?_
    refine SL.ru rfl rfl (lt_b rfl) (ru_move rfl rfl) ?_
    refine SL.rug rfl rfl rfl rfl (lt_b rfl) (ru_move rfl rfl) ?_
    refine SL.rug rfl rfl rfl rfl (lt_b rfl) (ru_eq (b := true) rfl rfl rfl rfl) ?_
    refine SL.ru rfl rfl (lt_b rfl) (ru_pick (u := bo true) (v := bo false) rfl rfl rfl rfl) ?_
    refine SL.ru rfl rfl (lt_b rfl) (ru_assign rfl rfl) ?_
    refine SL.nil ?_
    refine SC.of_SE ?_
    refine SC.norm [(2, bo true)] [rNic 68 g1 F3 ({ A with r := up A.r 6 0 }), rNic 58 g2 G A] ⟨rfl, trivial⟩ rfl ?_
    refine SC.ret ?_
    refine SE.res (.inl rfl) (res1 Try.results5 rfl) fun w1 hI => ⟨rfl, hI.2⟩
  · skip
    obtain ⟨b, o, ea, hop⟩ := hops (l.length - nn) (by omega)
    obtain ⟨⟨k, n, v, ov, f, y⟩, hl⟩ : ∃ op : OpR, op = l[l.length - nn]'(by omega) := ⟨_, rfl⟩
    rw [← hl] at hop
    obtain ⟨hc, hb, hs⟩ := hop
    simp only at hc hb hs
    obtain ⟨fa, fc, rfl⟩ := hb.form
    subst ea
    refine SC.seq ?_
    refine SC.seq ?_
    refine SC.region ?_
    refine SL.ru rfl rfl (lt_b rfl) (ru_move rfl rfl) ?_
    refine SL.ru rfl rfl (lt_b rfl) (ru_move rfl rfl) ?_
    refine SL.ru rfl rfl (lt_b rfl) (ru_len Try.underlying22 rfl rfl) ?_
    refine SL.ru rfl rfl (lt_b rfl) (ru_lt (b := (decide ((((l.length : Int) - (nn : Int)) : Int) < (l.length : Int)))) rfl rfl rfl rfl) ?_
    refine SL.nil ?_
    refine SC.of_SE ?_
    refine SC.norm [(0, sl b o l.length c), (2, bo false), (4, pt g1 0), (5, pt g2 0), (6, iw ((l.length : Int) - (nn : Int))), (29, bo (decide ((((l.length : Int) - (nn : Int)) : Int) < (l.length : Int))))] [rNic 68 g1 F A, rNic 58 g2 G A] ⟨rfl, rfl, rfl, rfl, rfl, rfl, trivial⟩ rfl ?_
    refine SC.yes (show some (Value.bool (decide ((((l.length : Int) - (nn : Int)) : Int) < (l.length : Int)))) = some (Value.bool true) from congrArg (fun x => some (Value.bool x)) (decide_eq_true (by omega))) ?_
    refine SC.skip ?_
    refine SC.of_SE ?_
    refine SC.norm [(0, sl b o l.length c), (2, bo false), (4, pt g1 0), (5, pt g2 0), (6, iw ((l.length : Int) - (nn : Int)))] [rNic 68 g1 F A, rNic 58 g2 G A] ⟨rfl, rfl, rfl, rfl, rfl, trivial⟩ rfl ?_
    refine SC.seq ?_
    refine SC.block ?_
    refine SC.seq ?_
    refine SC.region ?_
    refine SL.ru rfl rfl (lt_b rfl) (ru_move rfl rfl) ?_
    refine SL.ru rfl rfl (lt_b rfl) (ru_move rfl rfl) ?_
    refine SL.ru rfl rfl (lt_b rfl) (ru_move rfl rfl) ?_
    refine SL.ru rfl rfl (lt_b rfl) (ru_move rfl rfl) ?_
    refine SL.ru rfl rfl (lt_b rfl) (ru_indexS (o2 := o + ((l.length : Int) - (nn : Int)).toNat * 5) si22 rfl rfl rfl (by omega) (by omega) rfl) ?_
    refine SL.ru rfl rfl (lt_b rfl) (ru_loada_old (vs := [iw k, iw n, iw v, Value.slice fa f.length fc, bo y]) (fun _ h => h) ta32 rfl rfl rfl (by rw [show ((l.length : Int) - (nn : Int)).toNat = l.length - nn by omega]; exact hc)) ?_
    refine SL.call (ζ := (Nat → Prop) × (Nat → Prop)) (fun z => bo true) (fun z => [rNic 68 g1 z.1 (playF A k n v f y), rNic 58 g2 z.2 (playF A k n v f y)]) (fun z => True) rfl rfl co20 rfl rfl rfl (lt_b rfl) (fun w hI => (does_any hk hI.pair (hb.only hI.2 (fun _ _ _ _ _ _ h => h)) (fun b o n c e hn h => by have := hs b o n c e hn; rcases h with rfl | rfl <;> omega)).mono fun e w2 ⟨h1, ⟨F2, G2, h2⟩, h3⟩ => ⟨(F2, G2), h1, ⟨h2, hI.2.trans' h3 (fun b hb => .inr (by rcases hb with rfl | rfl; exact hg1; exact hg2))⟩, trivial⟩) ?_
    rintro ⟨F4, G5⟩ _
    refine SL.ru rfl rfl (lt_b rfl) (ru_assign rfl rfl) ?_
    refine SL.nil ?_
    refine SC.of_SE ?_
    refine SC.norm [(0, sl b o l.length c), (2, bo false), (4, pt g1 0), (5, pt g2 0), (6, iw ((l.length : Int) - (nn : Int))), (7, bo true)] [rNic 68 g1 F4 (playF A k n v f y), rNic 58 g2 G5 (playF A k n v f y)] ⟨rfl, rfl, rfl, rfl, rfl, rfl, trivial⟩ rfl ?_
    refine SC.seq ?_
    refine SC.seq ?_
    refine SC.region ?_
    refine SL.ru rfl rfl (lt_b rfl) (ru_move rfl rfl) ?_
    refine SL.ru rfl rfl (lt_b rfl) (ru_not (c := false) rfl rfl rfl) ?_
    refine SL.nil ?_
    refine SC.of_SE ?_
    refine SC.norm [(0, sl b o l.length c), (2, bo false), (4, pt g1 0), (5, pt g2 0), (6, iw ((l.length : Int) - (nn : Int))), (40, bo false)] [rNic 68 g1 F4 (playF A k n v f y), rNic 58 g2 G5 (playF A k n v f y)] ⟨rfl, rfl, rfl, rfl, rfl, rfl, trivial⟩ rfl ?_
    refine SC.no rfl ?_
    refine SC.skip ?_
    refine SC.of_SE ?_
    refine SC.norm [(0, sl b o l.length c), (2, bo false), (4, pt g1 0), (5, pt g2 0), (6, iw ((l.length : Int) - (nn : Int)))] [rNic 68 g1 F4 (playF A k n v f y), rNic 58 g2 G5 (playF A k n v f y)] ⟨rfl, rfl, rfl, rfl, rfl, trivial⟩ rfl ?_
    refine SC.seq ?_
    refine SC.seq ?_
    refine SC.region ?_
    refine SL.ru rfl rfl (lt_b rfl) (ru_assign rfl rfl) ?_
    refine SL.nil ?_
    refine SC.of_SE ?_
    refine SC.norm [(0, sl b o l.length c), (2, bo false), (4, pt g1 0), (5, pt g2 0), (6, iw ((l.length : Int) - (nn : Int))), (8, iw 0)] [rNic 68 g1 F4 (playF A k n v f y), rNic 58 g2 G5 (playF A k n v f y)] ⟨rfl, rfl, rfl, rfl, rfl, rfl, trivial⟩ rfl ?_
    refine SC.block ?_
    refine SC.rounds 9 ?_
    refine SR.norm [(0, sl b o l.length c), (2, bo false), (4, pt g1 0), (5, pt g2 0), (6, iw ((l.length : Int) - (nn : Int))), (8, iw 0)] [rNic 68 g1 F4 (playF A k n v f y), rNic 58 g2 G5 (playF A k n v f y)] ⟨rfl, rfl, rfl, rfl, rfl, rfl, trivial⟩ rfl ?_
    refine SR.next ?_
    refine SC.seq ?_
    refine SC.seq ?_
    refine SC.region ?_
    refine SL.ru rfl rfl (lt_b rfl) (ru_move rfl rfl) ?_
    refine SL.ru rfl rfl (lt_b rfl) (ru_lt (b := true) rfl rfl rfl rfl) ?_
    refine SL.nil ?_
    refine SC.of_SE ?_
    refine SC.norm [(0, sl b o l.length c), (2, bo false), (4, pt g1 0), (5, pt g2 0), (6, iw ((l.length : Int) - (nn : Int))), (8, iw 0), (42, bo true)] [rNic 68 g1 F4 (playF A k n v f y), rNic 58 g2 G5 (playF A k n v f y)] ⟨rfl, rfl, rfl, rfl, rfl, rfl, rfl, trivial⟩ rfl ?_
    refine SC.yes rfl ?_
    refine SC.skip ?_
    refine SC.of_SE ?_
    refine SC.norm [(0, sl b o l.length c), (2, bo false), (4, pt g1 0), (5, pt g2 0), (6, iw ((l.length : Int) - (nn : Int))), (8, iw 0)] [rNic 68 g1 F4 (playF A k n v f y), rNic 58 g2 G5 (playF A k n v f y)] ⟨rfl, rfl, rfl, rfl, rfl, rfl, trivial⟩ rfl ?_
    refine SC.seq ?_
    refine SC.block ?_
    refine SC.seq ?_
    refine SC.seq ?_
    refine SC.region ?_
    refine SL.ru rfl rfl (lt_b rfl) (ru_move rfl rfl) ?_
    refine SL.ru rfl rfl (lt_b rfl) (ru_eq (b := false) rfl rfl rfl rfl) ?_
    refine SL.nil ?_
    refine SC.of_SE ?_
    refine SC.norm [(0, sl b o l.length c), (2, bo false), (4, pt g1 0), (5, pt g2 0), (6, iw ((l.length : Int) - (nn : Int))), (8, iw 0), (46, bo false)] [rNic 68 g1 F4 (playF A k n v f y), rNic 58 g2 G5 (playF A k n v f y)] ⟨rfl, rfl, rfl, rfl, rfl, rfl, rfl, trivial⟩ rfl ?_
    refine SC.no rfl ?_
    refine SC.skip ?_
    refine SC.of_SE ?_
    refine SC.norm [(0, sl b o l.length c), (2, bo false), (4, pt g1 0), (5, pt g2 0), (6, iw ((l.length : Int) - (nn : Int))), (8, iw 0)] [rNic 68 g1 F4 (playF A k n v f y), rNic 58 g2 G5 (playF A k n v f y)] ⟨rfl, rfl, rfl, rfl, rfl, rfl, trivial⟩ rfl ?_
    refine SC.seq ?_
    refine SC.region ?_
    refine SL.ru rfl rfl (lt_b rfl) (ru_move rfl rfl) ?_
    refine SL.ru rfl rfl (lt_b rfl) (ru_move rfl rfl) ?_
    refine SL.call (ζ := Nat → Prop) (fun F6 => Value.tuple #[iw ((playF A k n v f y).r 0), iw 0]) (fun F6 => [rNic 68 g1 F6 (playF A k n v f y), rNic 58 g2 G5 (playF A k n v f y)]) (fun F6 => True) rfl rfl co18 rfl rfl rfl (lt_b rfl) (fun w hI => (p_read_k (play_ok hk k n v f y) (nic_at hI (i := 0) rfl) 0 rfl (by decide) (by decide)).mono fun e w2 ⟨h1, h2⟩ => by obtain ⟨F2, h3⟩ := hI.nicTo (i := 0) rfl (.inr hg1) h2; exact ⟨F2, h1, h3, trivial⟩) ?_
    intro F6 _
    refine SL.ru rfl rfl (lt_b rfl) (ru_move rfl rfl) ?_
    refine SL.ru rfl rfl (lt_b rfl) (ru_extract rfl rfl rfl) ?_
    refine SL.ru rfl rfl (lt_b rfl) (ru_extract rfl rfl rfl) ?_
    refine SL.ru rfl rfl (lt_b rfl) (ru_assign rfl rfl) ?_
    refine SL.ru rfl rfl (lt_b rfl) (ru_assign rfl rfl) ?_
    refine SL.nil ?_
    refine SC.of_SE ?_
    refine SC.norm [(0, sl b o l.length c), (2, bo false), (4, pt g1 0), (5, pt g2 0), (6, iw ((l.length : Int) - (nn : Int))), (8, iw 0), (9, iw ((playF A k n v f y).r 0)), (10, iw 0)] [rNic 68 g1 F6 (playF A k n v f y), rNic 58 g2 G5 (playF A k n v f y)] ⟨rfl, rfl, rfl, rfl, rfl, rfl, rfl, rfl, trivial⟩ rfl ?_
    refine SC.seq ?_
    refine SC.region ?_
    refine SL.ru rfl rfl (lt_b rfl) (ru_move rfl rfl) ?_
    refine SL.ru rfl rfl (lt_b rfl) (ru_move rfl rfl) ?_
    refine SL.ru rfl rfl (lt_b rfl) (ru_move rfl rfl) ?_
    refine SL.ru rfl rfl (lt_b rfl) (ru_nilCheck rfl rfl) ?_
    refine SL.ru rfl rfl (lt_b rfl) (ru_fieldAddr (o2 := 0) fd58_0 rfl rfl rfl) ?_
    refine SL.ru rfl rfl (lt_b rfl) (ru_indexA (o2 := 0) ar44 rfl rfl rfl (by decide) (by decide) rfl) ?_
    refine SL.ru rfl rfl (lt_b rfl) (ru_nic_r (i := 1) (by decide) ts3 rfl rfl rfl) ?_
    refine SL.ru rfl rfl (lt_b rfl) (ru_ne (b := false) rfl rfl rfl (by simp)) ?_
    refine SL.ru rfl rfl (lt_b rfl) (ru_move rfl rfl) ?_
    refine SL.rug rfl rfl rfl rfl (lt_b rfl) (ru_move rfl rfl) ?_
    refine SL.rug rfl rfl rfl rfl (lt_b rfl) (ru_ne (b := false) rfl rfl rfl rfl) ?_
    refine SL.ru rfl rfl (lt_b rfl) (ru_pick (u := bo true) (v := bo false) rfl rfl rfl rfl) ?_
    refine SL.nil ?_
    refine SC.of_SE ?_
    refine SC.norm [(0, sl b o l.length c), (2, bo false), (4, pt g1 0), (5, pt g2 0), (6, iw ((l.length : Int) - (nn : Int))), (8, iw 0), (64, bo false)] [rNic 68 g1 F6 (playF A k n v f y), rNic 58 g2 G5 (playF A k n v f y)] ⟨rfl, rfl, rfl, rfl, rfl, rfl, rfl, trivial⟩ rfl ?_
    refine SC.no rfl ?_
    refine SC.skip ?_
    refine SE.blkn ?_
    refine SC.of_SE ?_
    refine SC.norm [(0, sl b o l.length c), (2, bo false), (4, pt g1 0), (5, pt g2 0), (6, iw ((l.length : Int) - (nn : Int))), (8, iw 0)] [rNic 68 g1 F6 (playF A k n v f y), rNic 58 g2 G5 (playF A k n v f y)] ⟨rfl, rfl, rfl, rfl, rfl, rfl, trivial⟩ rfl ?_
    refine SC.region ?_
    refine SL.ru rfl rfl (lt_b rfl) (ru_move rfl rfl) ?_
    refine SL.ru rfl rfl (lt_b rfl) (ru_add (r := 1) rfl rfl rfl rfl) ?_
    refine SL.ru rfl rfl (lt_b rfl) (ru_assign rfl rfl) ?_
    refine SL.nil ?_
    refine SE.round ?_
    refine SR.norm [(0, sl b o l.length c), (2, bo false), (4, pt g1 0), (5, pt g2 0), (6, iw ((l.length : Int) - (nn : Int))), (8, iw 1)] [rNic 68 g1 F6 (playF A k n v f y), rNic 58 g2 G5 (playF A k n v f y)] ⟨rfl, rfl, rfl, rfl, rfl, rfl, trivial⟩ rfl ?_
    refine SR.next ?_
    refine SC.seq ?_
    refine SC.seq ?_
    refine SC.region ?_
    refine SL.ru rfl rfl (lt_b rfl) (ru_move rfl rfl) ?_
    refine SL.ru rfl rfl (lt_b rfl) (ru_lt (b := true) rfl rfl rfl rfl) ?_
    refine SL.nil ?_
    refine SC.of_SE ?_
    refine SC.norm [(0, sl b o l.length c), (2, bo false), (4, pt g1 0), (5, pt g2 0), (6, iw ((l.length : Int) - (nn : Int))), (8, iw 1), (42, bo true)] [rNic 68 g1 F6 (playF A k n v f y), rNic 58 g2 G5 (playF A k n v f y)] ⟨rfl, rfl, rfl, rfl, rfl, rfl, rfl, trivial⟩ rfl ?_
    refine SC.yes rfl ?_
    refine SC.skip ?_
    refine SC.of_SE ?_
    refine SC.norm [(0, sl b o l.length c), (2, bo false), (4, pt g1 0), (5, pt g2 0), (6, iw ((l.length : Int) - (nn : Int))), (8, iw 1)] [rNic 68 g1 F6 (playF A k n v f y), rNic 58 g2 G5 (playF A k n v f y)] ⟨rfl, rfl, rfl, rfl, rfl, rfl, trivial⟩ rfl ?_
    refine SC.seq ?_
    refine SC.block ?_
    refine SC.seq ?_
    refine SC.seq ?_
    refine SC.region ?_
    refine SL.ru rfl rfl (lt_b rfl) (ru_move rfl rfl) ?_
    refine SL.ru rfl rfl (lt_b rfl) (ru_eq (b := false) rfl rfl rfl rfl) ?_
    refine SL.nil ?_
    refine SC.of_SE ?_
    refine SC.norm [(0, sl b o l.length c), (2, bo false), (4, pt g1 0), (5, pt g2 0), (6, iw ((l.length : Int) - (nn : Int))), (8, iw 1), (46, bo false)] [rNic 68 g1 F6 (playF A k n v f y), rNic 58 g2 G5 (playF A k n v f y)] ⟨rfl, rfl, rfl, rfl, rfl, rfl, rfl, trivial⟩ rfl ?_
    refine SC.no rfl ?_
    refine SC.skip ?_
    refine SC.of_SE ?_
    refine SC.norm [(0, sl b o l.length c), (2, bo false), (4, pt g1 0), (5, pt g2 0), (6, iw ((l.length : Int) - (nn : Int))), (8, iw 1)] [rNic 68 g1 F6 (playF A k n v f y), rNic 58 g2 G5 (playF A k n v f y)] ⟨rfl, rfl, rfl, rfl, rfl, rfl, trivial⟩ rfl ?_
    refine SC.seq ?_
    refine SC.region ?_
    refine SL.ru rfl rfl (lt_b rfl) (ru_move rfl rfl) ?_
    refine SL.ru rfl rfl (lt_b rfl) (ru_move rfl rfl) ?_
    refine SL.call (ζ := Nat → Prop) (fun F7 => Value.tuple #[iw ((playF A k n v f y).r 1), iw 0]) (fun F7 => [rNic 68 g1 F7 (playF A k n v f y), rNic 58 g2 G5 (playF A k n v f y)]) (fun F7 => True) rfl rfl co18 rfl rfl rfl (lt_b rfl) (fun w hI => (p_read_k (play_ok hk k n v f y) (nic_at hI (i := 0) rfl) 1 rfl (by decide) (by decide)).mono fun e w2 ⟨h1, h2⟩ => by obtain ⟨F2, h3⟩ := hI.nicTo (i := 0) rfl (.inr hg1) h2; exact ⟨F2, h1, h3, trivial⟩) ?_
    intro F7 _
    refine SL.ru rfl rfl (lt_b rfl) (ru_move rfl rfl) ?_
    refine SL.ru rfl rfl (lt_b rfl) (ru_extract rfl rfl rfl) ?_
    refine SL.ru rfl rfl (lt_b rfl) (ru_extract rfl rfl rfl) ?_
    refine SL.ru rfl rfl (lt_b rfl) (ru_assign rfl rfl) ?_
    refine SL.ru rfl rfl (lt_b rfl) (ru_assign rfl rfl) ?_
    refine SL.nil ?_
    refine SC.of_SE ?_
    refine SC.norm [(0, sl b o l.length c), (2, bo false), (4, pt g1 0), (5, pt g2 0), (6, iw ((l.length : Int) - (nn : Int))), (8, iw 1), (9, iw ((playF A k n v f y).r 1)), (10, iw 0)] [rNic 68 g1 F7 (playF A k n v f y), rNic 58 g2 G5 (playF A k n v f y)] ⟨rfl, rfl, rfl, rfl, rfl, rfl, rfl, rfl, trivial⟩ rfl ?_
    refine SC.seq ?_
    refine SC.region ?_
    refine SL.ru rfl rfl (lt_b rfl) (ru_move rfl rfl) ?_
    refine SL.ru rfl rfl (lt_b rfl) (ru_move rfl rfl) ?_
    refine SL.ru rfl rfl (lt_b rfl) (ru_move rfl rfl) ?_
    refine SL.ru rfl rfl (lt_b rfl) (ru_nilCheck rfl rfl) ?_
    refine SL.ru rfl rfl (lt_b rfl) (ru_fieldAddr (o2 := 0) fd58_0 rfl rfl rfl) ?_
    refine SL.ru rfl rfl (lt_b rfl) (ru_indexA (o2 := 1) ar44 rfl rfl rfl (by decide) (by decide) rfl) ?_
    refine SL.ru rfl rfl (lt_b rfl) (ru_nic_r (i := 1) (by decide) ts3 rfl rfl rfl) ?_
    refine SL.ru rfl rfl (lt_b rfl) (ru_ne (b := false) rfl rfl rfl (by simp)) ?_
    refine SL.ru rfl rfl (lt_b rfl) (ru_move rfl rfl) ?_
    refine SL.rug rfl rfl rfl rfl (lt_b rfl) (ru_move rfl rfl) ?_
    refine SL.rug rfl rfl rfl rfl (lt_b rfl) (ru_ne (b := false) rfl rfl rfl rfl) ?_
    refine SL.ru rfl rfl (lt_b rfl) (ru_pick (u := bo true) (v := bo false) rfl rfl rfl rfl) ?_
    refine SL.nil ?_
    refine SC.of_SE ?_
    refine SC.norm [(0, sl b o l.length c), (2, bo false), (4, pt g1 0), (5, pt g2 0), (6, iw ((l.length : Int) - (nn : Int))), (8, iw 1), (64, bo false)] [rNic 68 g1 F7 (playF A k n v f y), rNic 58 g2 G5 (playF A k n v f y)] ⟨rfl, rfl, rfl, rfl, rfl, rfl, rfl, trivial⟩ rfl ?_
    refine SC.no rfl ?_
    refine SC.skip ?_
    refine SE.blkn ?_
    refine SC.of_SE ?_
    refine SC.norm [(0, sl b o l.length c), (2, bo false), (4, pt g1 0), (5, pt g2 0), (6, iw ((l.length : Int) - (nn : Int))), (8, iw 1)] [rNic 68 g1 F7 (playF A k n v f y), rNic 58 g2 G5 (playF A k n v f y)] ⟨rfl, rfl, rfl, rfl, rfl, rfl, trivial⟩ rfl ?_
    refine SC.region ?_
    refine SL.ru rfl rfl (lt_b rfl) (ru_move rfl rfl) ?_
    refine SL.ru rfl rfl (lt_b rfl) (ru_add (r := 2) rfl rfl rfl rfl) ?_
    refine SL.ru rfl rfl (lt_b rfl) (ru_assign rfl rfl) ?_
    refine SL.nil ?_
    refine SE.round ?_
    refine SR.norm [(0, sl b o l.length c), (2, bo false), (4, pt g1 0), (5, pt g2 0), (6, iw ((l.length : Int) - (nn : Int))), (8, iw 2)] [rNic 68 g1 F7 (playF A k n v f y), rNic 58 g2 G5 (playF A k n v f y)] ⟨rfl, rfl, rfl, rfl, rfl, rfl, trivial⟩ rfl ?_
    refine SR.next ?_
    refine SC.seq ?_
    refine SC.seq ?_
    refine SC.region ?_
    refine SL.ru rfl rfl (lt_b rfl) (ru_move rfl rfl) ?_
    refine SL.ru rfl rfl (lt_b rfl) (ru_lt (b := true) rfl rfl rfl rfl) ?_
    refine SL.nil ?_
    refine SC.of_SE ?_
    refine SC.norm [(0, sl b o l.length c), (2, bo false), (4, pt g1 0), (5, pt g2 0), (6, iw ((l.length : Int) - (nn : Int))), (8, iw 2), (42, bo true)] [rNic 68 g1 F7 (playF A k n v f y), rNic 58 g2 G5 (playF A k n v f y)] ⟨rfl, rfl, rfl, rfl, rfl, rfl, rfl, trivial⟩ rfl ?_
    refine SC.yes rfl ?_
    refine SC.skip ?_
    refine SC.of_SE ?_
    refine SC.norm [(0, sl b o l.length c), (2, bo false), (4, pt g1 0), (5, pt g2 0), (6, iw ((l.length : Int) - (nn : Int))), (8, iw 2)] [rNic 68 g1 F7 (playF A k n v f y), rNic 58 g2 G5 (playF A k n v f y)] ⟨rfl, rfl, rfl, rfl, rfl, rfl, trivial⟩ rfl ?_
    refine SC.seq ?_
    refine SC.block ?_
    refine SC.seq ?_
    refine SC.seq ?_
    refine SC.region ?_
    refine SL.ru rfl rfl (lt_b rfl) (ru_move rfl rfl) ?_
    refine SL.ru rfl rfl (lt_b rfl) (ru_eq (b := false) rfl rfl rfl rfl) ?_
    refine SL.nil ?_
    refine SC.of_SE ?_
    refine SC.norm [(0, sl b o l.length c), (2, bo false), (4, pt g1 0), (5, pt g2 0), (6, iw ((l.length : Int) - (nn : Int))), (8, iw 2), (46, bo false)] [rNic 68 g1 F7 (playF A k n v f y), rNic 58 g2 G5 (playF A k n v f y)] ⟨rfl, rfl, rfl, rfl, rfl, rfl, rfl, trivial⟩ rfl ?_
    refine SC.no rfl ?_
    refine SC.skip ?_
    refine SC.of_SE ?_
    refine SC.norm [(0, sl b o l.length c), (2, bo false), (4, pt g1 0), (5, pt g2 0), (6, iw ((l.length : Int) - (nn : Int))), (8, iw 2)] [rNic 68 g1 F7 (playF A k n v f y), rNic 58 g2 G5 (playF A k n v f y)] ⟨rfl, rfl, rfl, rfl, rfl, rfl, trivial⟩ rfl ?_
    refine SC.seq ?_
    refine SC.region ?_
    refine SL.ru rfl rfl (lt_b rfl) (ru_move rfl rfl) ?_
    refine SL.ru rfl rfl (lt_b rfl) (ru_move rfl rfl) ?_
    refine SL.call (ζ := Nat → Prop) (fun F8 => Value.tuple #[iw ((playF A k n v f y).r 2), iw 0]) (fun F8 => [rNic 68 g1 F8 (playF A k n v f y), rNic 58 g2 G5 (playF A k n v f y)]) (fun F8 => True) rfl rfl co18 rfl rfl rfl (lt_b rfl) (fun w hI => (p_read_k (play_ok hk k n v f y) (nic_at hI (i := 0) rfl) 2 rfl (by decide) (by decide)).mono fun e w2 ⟨h1, h2⟩ => by obtain ⟨F2, h3⟩ := hI.nicTo (i := 0) rfl (.inr hg1) h2; exact ⟨F2, h1, h3, trivial⟩) ?_
    intro F8 _
    refine SL.ru rfl rfl (lt_b rfl) (ru_move rfl rfl) ?_
    refine SL.ru rfl rfl (lt_b rfl) (ru_extract rfl rfl rfl) ?_
    refine SL.ru rfl rfl (lt_b rfl) (ru_extract rfl rfl rfl) ?_
    refine SL.ru rfl rfl (lt_b rfl) (ru_assign rfl rfl) ?_
    refine SL.ru rfl rfl (lt_b rfl) (ru_assign rfl rfl) ?_
    refine SL.nil ?_
    refine SC.of_SE ?_
    refine SC.norm [(0, sl b o l.length c), (2, bo false), (4, pt g1 0), (5, pt g2 0), (6, iw ((l.length : Int) - (nn : Int))), (8, iw 2), (9, iw ((playF A k n v f y).r 2)), (10, iw 0)] [rNic 68 g1 F8 (playF A k n v f y), rNic 58 g2 G5 (playF A k n v f y)] ⟨rfl, rfl, rfl, rfl, rfl, rfl, rfl, rfl, trivial⟩ rfl ?_
    refine SC.seq ?_
    refine SC.region ?_
    refine SL.ru rfl rfl (lt_b rfl) (ru_move rfl rfl) ?_
    refine SL.ru rfl rfl (lt_b rfl) (ru_move rfl rfl) ?_
    refine SL.ru rfl rfl (lt_b rfl) (ru_move rfl rfl) ?_
    refine SL.ru rfl rfl (lt_b rfl) (ru_nilCheck rfl rfl) ?_
    refine SL.ru rfl rfl (lt_b rfl) (ru_fieldAddr (o2 := 0) fd58_0 rfl rfl rfl) ?_
    refine SL.ru rfl rfl (lt_b rfl) (ru_indexA (o2 := 2) ar44 rfl rfl rfl (by decide) (by decide) rfl) ?_
    refine SL.ru rfl rfl (lt_b rfl) (ru_nic_r (i := 1) (by decide) ts3 rfl rfl rfl) ?_
    refine SL.ru rfl rfl (lt_b rfl) (ru_ne (b := false) rfl rfl rfl (by simp)) ?_
    refine SL.ru rfl rfl (lt_b rfl) (ru_move rfl rfl) ?_
    refine SL.rug rfl rfl rfl rfl (lt_b rfl) (ru_move rfl rfl) ?_
    refine SL.rug rfl rfl rfl rfl (lt_b rfl) (ru_ne (b := false) rfl rfl rfl rfl) ?_
    refine SL.ru rfl rfl (lt_b rfl) (ru_pick (u := bo true) (v := bo false) rfl rfl rfl rfl) ?_
    refine SL.nil ?_
    refine SC.of_SE ?_
    refine SC.norm [(0, sl b o l.length c), (2, bo false), (4, pt g1 0), (5, pt g2 0), (6, iw ((l.length : Int) - (nn : Int))), (8, iw 2), (64, bo false)] [rNic 68 g1 F8 (playF A k n v f y), rNic 58 g2 G5 (playF A k n v f y)] ⟨rfl, rfl, rfl, rfl, rfl, rfl, rfl, trivial⟩ rfl ?_
    refine SC.no rfl ?_
    refine SC.skip ?_
    refine SE.blkn ?_
    refine SC.of_SE ?_
    refine SC.norm [(0, sl b o l.length c), (2, bo false), (4, pt g1 0), (5, pt g2 0), (6, iw ((l.length : Int) - (nn : Int))), (8, iw 2)] [rNic 68 g1 F8 (playF A k n v f y), rNic 58 g2 G5 (playF A k n v f y)] ⟨rfl, rfl, rfl, rfl, rfl, rfl, trivial⟩ rfl ?_
    refine SC.region ?_
    refine SL.ru rfl rfl (lt_b rfl) (ru_move rfl rfl) ?_
    refine SL.ru rfl rfl (lt_b rfl) (ru_add (r := 3) rfl rfl rfl rfl) ?_
    refine SL.ru rfl rfl (lt_b rfl) (ru_assign rfl rfl) ?_
    refine SL.nil ?_
    refine SE.round ?_
    refine SR.norm [(0, sl b o l.length c), (2, bo false), (4, pt g1 0), (5, pt g2 0), (6, iw ((l.length : Int) - (nn : Int))), (8, iw 3)] [rNic 68 g1 F8 (playF A k n v f y), rNic 58 g2 G5 (playF A k n v f y)] ⟨rfl, rfl, rfl, rfl, rfl, rfl, trivial⟩ rfl ?_
    refine SR.next ?_
    refine SC.seq ?_
    refine SC.seq ?_
    refine SC.region ?_
    refine SL.ru rfl rfl (lt_b rfl) (ru_move rfl rfl) ?_
    refine SL.ru rfl rfl (lt_b rfl) (ru_lt (b := true) rfl rfl rfl rfl) ?_
    refine SL.nil ?_
    refine SC.of_SE ?_
    refine SC.norm [(0, sl b o l.length c), (2, bo false), (4, pt g1 0), (5, pt g2 0), (6, iw ((l.length : Int) - (nn : Int))), (8, iw 3), (42, bo true)] [rNic 68 g1 F8 (playF A k n v f y), rNic 58 g2 G5 (playF A k n v f y)] ⟨rfl, rfl, rfl, rfl, rfl, rfl, rfl, trivial⟩ rfl ?_
    refine SC.yes rfl ?_
    refine SC.skip ?_
    refine SC.of_SE ?_
    refine SC.norm [(0, sl b o l.length c), (2, bo false), (4, pt g1 0), (5, pt g2 0), (6, iw ((l.length : Int) - (nn : Int))), (8, iw 3)] [rNic 68 g1 F8 (playF A k n v f y), rNic 58 g2 G5 (playF A k n v f y)] ⟨rfl, rfl, rfl, rfl, rfl, rfl, trivial⟩ rfl ?_
    refine SC.seq ?_
    refine SC.block ?_
    refine SC.seq ?_
    refine SC.seq ?_
    refine SC.region ?_
    refine SL.ru rfl rfl (lt_b rfl) (ru_move rfl rfl) ?_
    refine SL.ru rfl rfl (lt_b rfl) (ru_eq (b := false) rfl rfl rfl rfl) ?_
    refine SL.nil ?_
    refine SC.of_SE ?_
    refine SC.norm [(0, sl b o l.length c), (2, bo false), (4, pt g1 0), (5, pt g2 0), (6, iw ((l.length : Int) - (nn : Int))), (8, iw 3), (46, bo false)] [rNic 68 g1 F8 (playF A k n v f y), rNic 58 g2 G5 (playF A k n v f y)] ⟨rfl, rfl, rfl, rfl, rfl, rfl, rfl, trivial⟩ rfl ?_
    refine SC.no rfl ?_
    refine SC.skip ?_
    refine SC.of_SE ?_
    refine SC.norm [(0, sl b o l.length c), (2, bo false), (4, pt g1 0), (5, pt g2 0), (6, iw ((l.length : Int) - (nn : Int))), (8, iw 3)] [rNic 68 g1 F8 (playF A k n v f y), rNic 58 g2 G5 (playF A k n v f y)] ⟨rfl, rfl, rfl, rfl, rfl, rfl, trivial⟩ rfl ?_
    refine SC.seq ?_
    refine SC.region ?_
    refine SL.ru rfl rfl (lt_b rfl) (ru_move rfl rfl) ?_
    refine SL.ru rfl rfl (lt_b rfl) (ru_move rfl rfl) ?_
    refine SL.call (ζ := Nat → Prop) (fun F9 => Value.tuple #[iw ((playF A k n v f y).r 3), iw 0]) (fun F9 => [rNic 68 g1 F9 (playF A k n v f y), rNic 58 g2 G5 (playF A k n v f y)]) (fun F9 => True) rfl rfl co18 rfl rfl rfl (lt_b rfl) (fun w hI => (p_read_k (play_ok hk k n v f y) (nic_at hI (i := 0) rfl) 3 rfl (by decide) (by decide)).mono fun e w2 ⟨h1, h2⟩ => by obtain ⟨F2, h3⟩ := hI.nicTo (i := 0) rfl (.inr hg1) h2; exact ⟨F2, h1, h3, trivial⟩) ?_
    intro F9 _
    refine SL.ru rfl rfl (lt_b rfl) (ru_move rfl rfl) ?_
    refine SL.ru rfl rfl (lt_b rfl) (ru_extract rfl rfl rfl) ?_
    refine SL.ru rfl rfl (lt_b rfl) (ru_extract rfl rfl rfl) ?_
    refine SL.ru rfl rfl (lt_b rfl) (ru_assign rfl rfl) ?_
    refine SL.ru rfl rfl (lt_b rfl) (ru_assign rfl rfl) ?_
    refine SL.nil ?_
    refine SC.of_SE ?_
    refine SC.norm [(0, sl b o l.length c), (2, bo false), (4, pt g1 0), (5, pt g2 0), (6, iw ((l.length : Int) - (nn : Int))), (8, iw 3), (9, iw ((playF A k n v f y).r 3)), (10, iw 0)] [rNic 68 g1 F9 (playF A k n v f y), rNic 58 g2 G5 (playF A k n v f y)] ⟨rfl, rfl, rfl, rfl, rfl, rfl, rfl, rfl, trivial⟩ rfl ?_
    refine SC.seq ?_
    refine SC.region ?_
    refine SL.ru rfl rfl (lt_b rfl) (ru_move rfl rfl) ?_
    refine SL.ru rfl rfl (lt_b rfl) (ru_move rfl rfl) ?_
    refine SL.ru rfl rfl (lt_b rfl) (ru_move rfl rfl) ?_
    refine SL.ru rfl rfl (lt_b rfl) (ru_nilCheck rfl rfl) ?_
    refine SL.ru rfl rfl (lt_b rfl) (ru_fieldAddr (o2 := 0) fd58_0 rfl rfl rfl) ?_
    refine SL.ru rfl rfl (lt_b rfl) (ru_indexA (o2 := 3) ar44 rfl rfl rfl (by decide) (by decide) rfl) ?_
    refine SL.ru rfl rfl (lt_b rfl) (ru_nic_r (i := 1) (by decide) ts3 rfl rfl rfl) ?_
    refine SL.ru rfl rfl (lt_b rfl) (ru_ne (b := false) rfl rfl rfl (by simp)) ?_
    refine SL.ru rfl rfl (lt_b rfl) (ru_move rfl rfl) ?_
    refine SL.rug rfl rfl rfl rfl (lt_b rfl) (ru_move rfl rfl) ?_
    refine SL.rug rfl rfl rfl rfl (lt_b rfl) (ru_ne (b := false) rfl rfl rfl rfl) ?_
    refine SL.ru rfl rfl (lt_b rfl) (ru_pick (u := bo true) (v := bo false) rfl rfl rfl rfl) ?_
    refine SL.nil ?_
    refine SC.of_SE ?_
    refine SC.norm [(0, sl b o l.length c), (2, bo false), (4, pt g1 0), (5, pt g2 0), (6, iw ((l.length : Int) - (nn : Int))), (8, iw 3), (64, bo false)] [rNic 68 g1 F9 (playF A k n v f y), rNic 58 g2 G5 (playF A k n v f y)] ⟨rfl, rfl, rfl, rfl, rfl, rfl, rfl, trivial⟩ rfl ?_
    refine SC.no rfl ?_
    refine SC.skip ?_
    refine SE.blkn ?_
    refine SC.of_SE ?_
    refine SC.norm [(0, sl b o l.length c), (2, bo false), (4, pt g1 0), (5, pt g2 0), (6, iw ((l.length : Int) - (nn : Int))), (8, iw 3)] [rNic 68 g1 F9 (playF A k n v f y), rNic 58 g2 G5 (playF A k n v f y)] ⟨rfl, rfl, rfl, rfl, rfl, rfl, trivial⟩ rfl ?_
    refine SC.region ?_
    refine SL.ru rfl rfl (lt_b rfl) (ru_move rfl rfl) ?_
    refine SL.ru rfl rfl (lt_b rfl) (ru_add (r := 4) rfl rfl rfl rfl) ?_
    refine SL.ru rfl rfl (lt_b rfl) (ru_assign rfl rfl) ?_
    refine SL.nil ?_
    refine SE.round ?_
    refine SR.norm [(0, sl b o l.length c), (2, bo false), (4, pt g1 0), (5, pt g2 0), (6, iw ((l.length : Int) - (nn : Int))), (8, iw 4)] [rNic 68 g1 F9 (playF A k n v f y), rNic 58 g2 G5 (playF A k n v f y)] ⟨rfl, rfl, rfl, rfl, rfl, rfl, trivial⟩ rfl ?_
    refine SR.next ?_
    refine SC.seq ?_
    refine SC.seq ?_
    refine SC.region ?_
    refine SL.ru rfl rfl (lt_b rfl) (ru_move rfl rfl) ?_
    refine SL.ru rfl rfl (lt_b rfl) (ru_lt (b := true) rfl rfl rfl rfl) ?_
    refine SL.nil ?_
    refine SC.of_SE ?_
    refine SC.norm [(0, sl b o l.length c), (2, bo false), (4, pt g1 0), (5, pt g2 0), (6, iw ((l.length : Int) - (nn : Int))), (8, iw 4), (42, bo true)] [rNic 68 g1 F9 (playF A k n v f y), rNic 58 g2 G5 (playF A k n v f y)] ⟨rfl, rfl, rfl, rfl, rfl, rfl, rfl, trivial⟩ rfl ?_
    refine SC.yes rfl ?_
    refine SC.skip ?_
    refine SC.of_SE ?_
    refine SC.norm [(0, sl b o l.length c), (2, bo false), (4, pt g1 0), (5, pt g2 0), (6, iw ((l.length : Int) - (nn : Int))), (8, iw 4)] [rNic 68 g1 F9 (playF A k n v f y), rNic 58 g2 G5 (playF A k n v f y)] ⟨rfl, rfl, rfl, rfl, rfl, rfl, trivial⟩ rfl ?_
    refine SC.seq ?_
    refine SC.block ?_
    refine SC.seq ?_
    refine SC.seq ?_
    refine SC.region ?_
    refine SL.ru rfl rfl (lt_b rfl) (ru_move rfl rfl) ?_
    refine SL.ru rfl rfl (lt_b rfl) (ru_eq (b := false) rfl rfl rfl rfl) ?_
    refine SL.nil ?_
    refine SC.of_SE ?_
    refine SC.norm [(0, sl b o l.length c), (2, bo false), (4, pt g1 0), (5, pt g2 0), (6, iw ((l.length : Int) - (nn : Int))), (8, iw 4), (46, bo false)] [rNic 68 g1 F9 (playF A k n v f y), rNic 58 g2 G5 (playF A k n v f y)] ⟨rfl, rfl, rfl, rfl, rfl, rfl, rfl, trivial⟩ rfl ?_
    refine SC.no rfl ?_
    refine SC.skip ?_
    refine SC.of_SE ?_
    refine SC.norm [(0, sl b o l.length c), (2, bo false), (4, pt g1 0), (5, pt g2 0), (6, iw ((l.length : Int) - (nn : Int))), (8, iw 4)] [rNic 68 g1 F9 (playF A k n v f y), rNic 58 g2 G5 (playF A k n v f y)] ⟨rfl, rfl, rfl, rfl, rfl, rfl, trivial⟩ rfl ?_
    refine SC.seq ?_
    refine SC.region ?_
    refine SL.ru rfl rfl (lt_b rfl) (ru_move rfl rfl) ?_
    refine SL.ru rfl rfl (lt_b rfl) (ru_move rfl rfl) ?_
    refine SL.call (ζ := Nat → Prop) (fun F10 => Value.tuple #[iw ((playF A k n v f y).r 4), iw 0]) (fun F10 => [rNic 68 g1 F10 (playF A k n v f y), rNic 58 g2 G5 (playF A k n v f y)]) (fun F10 => True) rfl rfl co18 rfl rfl rfl (lt_b rfl) (fun w hI => (p_read_k (play_ok hk k n v f y) (nic_at hI (i := 0) rfl) 4 rfl (by decide) (by decide)).mono fun e w2 ⟨h1, h2⟩ => by obtain ⟨F2, h3⟩ := hI.nicTo (i := 0) rfl (.inr hg1) h2; exact ⟨F2, h1, h3, trivial⟩) ?_
    intro F10 _
    refine SL.ru rfl rfl (lt_b rfl) (ru_move rfl rfl) ?_
    refine SL.ru rfl rfl (lt_b rfl) (ru_extract rfl rfl rfl) ?_
    refine SL.ru rfl rfl (lt_b rfl) (ru_extract rfl rfl rfl) ?_
    refine SL.ru rfl rfl (lt_b rfl) (ru_assign rfl rfl) ?_
    refine SL.ru rfl rfl (lt_b rfl) (ru_assign rfl rfl) ?_
    refine SL.nil ?_
    refine SC.of_SE ?_
    refine SC.norm [(0, sl b o l.length c), (2, bo false), (4, pt g1 0), (5, pt g2 0), (6, iw ((l.length : Int) - (nn : Int))), (8, iw 4), (9, iw ((playF A k n v f y).r 4)), (10, iw 0)] [rNic 68 g1 F10 (playF A k n v f y), rNic 58 g2 G5 (playF A k n v f y)] ⟨rfl, rfl, rfl, rfl, rfl, rfl, rfl, rfl, trivial⟩ rfl ?_
    refine SC.seq ?_
    refine SC.region ?_
    refine SL.ru rfl rfl (lt_b rfl) (ru_move rfl rfl) ?_
    refine SL.ru rfl rfl (lt_b rfl) (ru_move rfl rfl) ?_
    refine SL.ru rfl rfl (lt_b rfl) (ru_move rfl rfl) ?_
    refine SL.ru rfl rfl (lt_b rfl) (ru_nilCheck rfl rfl) ?_
    refine SL.ru rfl rfl (lt_b rfl) (ru_fieldAddr (o2 := 0) fd58_0 rfl rfl rfl) ?_
    refine SL.ru rfl rfl (lt_b rfl) (ru_indexA (o2 := 4) ar44 rfl rfl rfl (by decide) (by decide) rfl) ?_
    refine SL.ru rfl rfl (lt_b rfl) (ru_nic_r (i := 1) (by decide) ts3 rfl rfl rfl) ?_
    refine SL.ru rfl rfl (lt_b rfl) (ru_ne (b := false) rfl rfl rfl (by simp)) ?_
    refine SL.ru rfl rfl (lt_b rfl) (ru_move rfl rfl) ?_
    refine SL.rug rfl rfl rfl rfl (lt_b rfl) (ru_move rfl rfl) ?_
    refine SL.rug rfl rfl rfl rfl (lt_b rfl) (ru_ne (b := false) rfl rfl rfl rfl) ?_
    refine SL.ru rfl rfl (lt_b rfl) (ru_pick (u := bo true) (v := bo false) rfl rfl rfl rfl) ?_
    refine SL.nil ?_
    refine SC.of_SE ?_
    refine SC.norm [(0, sl b o l.length c), (2, bo false), (4, pt g1 0), (5, pt g2 0), (6, iw ((l.length : Int) - (nn : Int))), (8, iw 4), (64, bo false)] [rNic 68 g1 F10 (playF A k n v f y), rNic 58 g2 G5 (playF A k n v f y)] ⟨rfl, rfl, rfl, rfl, rfl, rfl, rfl, trivial⟩ rfl ?_
    refine SC.no rfl ?_
    refine SC.skip ?_
    refine SE.blkn ?_
    refine SC.of_SE ?_
    refine SC.norm [(0, sl b o l.length c), (2, bo false), (4, pt g1 0), (5, pt g2 0), (6, iw ((l.length : Int) - (nn : Int))), (8, iw 4)] [rNic 68 g1 F10 (playF A k n v f y), rNic 58 g2 G5 (playF A k n v f y)] ⟨rfl, rfl, rfl, rfl, rfl, rfl, trivial⟩ rfl ?_
    refine SC.region ?_
    refine SL.ru rfl rfl (lt_b rfl) (ru_move rfl rfl) ?_
    refine SL.ru rfl rfl (lt_b rfl) (ru_add (r := 5) rfl rfl rfl rfl) ?_
    refine SL.ru rfl rfl (lt_b rfl) (ru_assign rfl rfl) ?_
    refine SL.nil ?_
    refine SE.round ?_
    refine SR.norm [(0, sl b o l.length c), (2, bo false), (4, pt g1 0), (5, pt g2 0), (6, iw ((l.length : Int) - (nn : Int))), (8, iw 5)] [rNic 68 g1 F10 (playF A k n v f y), rNic 58 g2 G5 (playF A k n v f y)] ⟨rfl, rfl, rfl, rfl, rfl, rfl, trivial⟩ rfl ?_
    refine SR.next ?_
    refine SC.seq ?_
    refine SC.seq ?_
    refine SC.region ?_
    refine SL.ru rfl rfl (lt_b rfl) (ru_move rfl rfl) ?_
    refine SL.ru rfl rfl (lt_b rfl) (ru_lt (b := true) rfl rfl rfl rfl) ?_
    refine SL.nil ?_
    refine SC.of_SE ?_
    refine SC.norm [(0, sl b o l.length c), (2, bo false), (4, pt g1 0), (5, pt g2 0), (6, iw ((l.length : Int) - (nn : Int))), (8, iw 5), (42, bo true)] [rNic 68 g1 F10 (playF A k n v f y), rNic 58 g2 G5 (playF A k n v f y)] ⟨rfl, rfl, rfl, rfl, rfl, rfl, rfl, trivial⟩ rfl ?_
    refine SC.yes rfl ?_
    refine SC.skip ?_
    refine SC.of_SE ?_
    refine SC.norm [(0, sl b o l.length c), (2, bo false), (4, pt g1 0), (5, pt g2 0), (6, iw ((l.length : Int) - (nn : Int))), (8, iw 5)] [rNic 68 g1 F10 (playF A k n v f y), rNic 58 g2 G5 (playF A k n v f y)] ⟨rfl, rfl, rfl, rfl, rfl, rfl, trivial⟩ rfl ?_
    refine SC.seq ?_
    refine SC.block ?_
    refine SC.seq ?_
    refine SC.seq ?_
    refine SC.region ?_
    refine SL.ru rfl rfl (lt_b rfl) (ru_move rfl rfl) ?_
    refine SL.ru rfl rfl (lt_b rfl) (ru_eq (b := false) rfl rfl rfl rfl) ?_
    refine SL.nil ?_
    refine SC.of_SE ?_
    refine SC.norm [(0, sl b o l.length c), (2, bo false), (4, pt g1 0), (5, pt g2 0), (6, iw ((l.length : Int) - (nn : Int))), (8, iw 5), (46, bo false)] [rNic 68 g1 F10 (playF A k n v f y), rNic 58 g2 G5 (playF A k n v f y)] ⟨rfl, rfl, rfl, rfl, rfl, rfl, rfl, trivial⟩ rfl ?_
    refine SC.no rfl ?_
    refine SC.skip ?_
    refine SC.of_SE ?_
    refine SC.norm [(0, sl b o l.length c), (2, bo false), (4, pt g1 0), (5, pt g2 0), (6, iw ((l.length : Int) - (nn : Int))), (8, iw 5)] [rNic 68 g1 F10 (playF A k n v f y), rNic 58 g2 G5 (playF A k n v f y)] ⟨rfl, rfl, rfl, rfl, rfl, rfl, trivial⟩ rfl ?_
    refine SC.seq ?_
    refine SC.region ?_
    refine SL.ru rfl rfl (lt_b rfl) (ru_move rfl rfl) ?_
    refine SL.ru rfl rfl (lt_b rfl) (ru_move rfl rfl) ?_
    refine SL.call (ζ := Nat → Prop) (fun F11 => Value.tuple #[iw ((playF A k n v f y).r 5), iw 0]) (fun F11 => [rNic 68 g1 F11 (playF A k n v f y), rNic 58 g2 G5 (playF A k n v f y)]) (fun F11 => True) rfl rfl co18 rfl rfl rfl (lt_b rfl) (fun w hI => (p_read_k (play_ok hk k n v f y) (nic_at hI (i := 0) rfl) 5 rfl (by decide) (by decide)).mono fun e w2 ⟨h1, h2⟩ => by obtain ⟨F2, h3⟩ := hI.nicTo (i := 0) rfl (.inr hg1) h2; exact ⟨F2, h1, h3, trivial⟩) ?_
    intro F11 _
    refine SL.ru rfl rfl (lt_b rfl) (ru_move rfl rfl) ?_
    refine SL.ru rfl rfl (lt_b rfl) (ru_extract rfl rfl rfl) ?_
    refine SL.ru rfl rfl (lt_b rfl) (ru_extract rfl rfl rfl) ?_
    refine SL.ru rfl rfl (lt_b rfl) (ru_assign rfl rfl) ?_
    refine SL.ru rfl rfl (lt_b rfl) (ru_assign rfl rfl) ?_
    refine SL.nil ?_
    refine SC.of_SE ?_
    refine SC.norm [(0, sl b o l.length c), (2, bo false), (4, pt g1 0), (5, pt g2 0), (6, iw ((l.length : Int) - (nn : Int))), (8, iw 5), (9, iw ((playF A k n v f y).r 5)), (10, iw 0)] [rNic 68 g1 F11 (playF A k n v f y), rNic 58 g2 G5 (playF A k n v f y)] ⟨rfl, rfl, rfl, rfl, rfl, rfl, rfl, rfl, trivial⟩ rfl ?_
    refine SC.seq ?_
    refine SC.region ?_
    refine SL.ru rfl rfl (lt_b rfl) (ru_move rfl rfl) ?_
    refine SL.ru rfl rfl (lt_b rfl) (ru_move rfl rfl) ?_
    refine SL.ru rfl rfl (lt_b rfl) (ru_move rfl rfl) ?_
    refine SL.ru rfl rfl (lt_b rfl) (ru_nilCheck rfl rfl) ?_
    refine SL.ru rfl rfl (lt_b rfl) (ru_fieldAddr (o2 := 0) fd58_0 rfl rfl rfl) ?_
    refine SL.ru rfl rfl (lt_b rfl) (ru_indexA (o2 := 5) ar44 rfl rfl rfl (by decide) (by decide) rfl) ?_
    refine SL.ru rfl rfl (lt_b rfl) (ru_nic_r (i := 1) (by decide) ts3 rfl rfl rfl) ?_
    refine SL.ru rfl rfl (lt_b rfl) (ru_ne (b := false) rfl rfl rfl (by simp)) ?_
    refine SL.ru rfl rfl (lt_b rfl) (ru_move rfl rfl) ?_
    refine SL.rug rfl rfl rfl rfl (lt_b rfl) (ru_move rfl rfl) ?_
    refine SL.rug rfl rfl rfl rfl (lt_b rfl) (ru_ne (b := false) rfl rfl rfl rfl) ?_
    refine SL.ru rfl rfl (lt_b rfl) (ru_pick (u := bo true) (v := bo false) rfl rfl rfl rfl) ?_
    refine SL.nil ?_
    refine SC.of_SE ?_
    refine SC.norm [(0, sl b o l.length c), (2, bo false), (4, pt g1 0), (5, pt g2 0), (6, iw ((l.length : Int) - (nn : Int))), (8, iw 5), (64, bo false)] [rNic 68 g1 F11 (playF A k n v f y), rNic 58 g2 G5 (playF A k n v f y)] ⟨rfl, rfl, rfl, rfl, rfl, rfl, rfl, trivial⟩ rfl ?_
    refine SC.no rfl ?_
    refine SC.skip ?_
    refine SE.blkn ?_
    refine SC.of_SE ?_
    refine SC.norm [(0, sl b o l.length c), (2, bo false), (4, pt g1 0), (5, pt g2 0), (6, iw ((l.length : Int) - (nn : Int))), (8, iw 5)] [rNic 68 g1 F11 (playF A k n v f y), rNic 58 g2 G5 (playF A k n v f y)] ⟨rfl, rfl, rfl, rfl, rfl, rfl, trivial⟩ rfl ?_
    refine SC.region ?_
    refine SL.ru rfl rfl (lt_b rfl) (ru_move rfl rfl) ?_
    refine SL.ru rfl rfl (lt_b rfl) (ru_add (r := 6) rfl rfl rfl rfl) ?_
    refine SL.ru rfl rfl (lt_b rfl) (ru_assign rfl rfl) ?_
    refine SL.nil ?_
    refine SE.round ?_
    refine SR.norm [(0, sl b o l.length c), (2, bo false), (4, pt g1 0), (5, pt g2 0), (6, iw ((l.length : Int) - (nn : Int))), (8, iw 6)] [rNic 68 g1 F11 (playF A k n v f y), rNic 58 g2 G5 (playF A k n v f y)] ⟨rfl, rfl, rfl, rfl, rfl, rfl, trivial⟩ rfl ?_
    refine SR.next ?_
    refine SC.seq ?_
    refine SC.seq ?_
    refine SC.region ?_
    refine SL.ru rfl rfl (lt_b rfl) (ru_move rfl rfl) ?_
    refine SL.ru rfl rfl (lt_b rfl) (ru_lt (b := true) rfl rfl rfl rfl) ?_
    refine SL.nil ?_
    refine SC.of_SE ?_
    refine SC.norm [(0, sl b o l.length c), (2, bo false), (4, pt g1 0), (5, pt g2 0), (6, iw ((l.length : Int) - (nn : Int))), (8, iw 6), (42, bo true)] [rNic 68 g1 F11 (playF A k n v f y), rNic 58 g2 G5 (playF A k n v f y)] ⟨rfl, rfl, rfl, rfl, rfl, rfl, rfl, trivial⟩ rfl ?_
    refine SC.yes rfl ?_
    refine SC.skip ?_
    refine SC.of_SE ?_
    refine SC.norm [(0, sl b o l.length c), (2, bo false), (4, pt g1 0), (5, pt g2 0), (6, iw ((l.length : Int) - (nn : Int))), (8, iw 6)] [rNic 68 g1 F11 (playF A k n v f y), rNic 58 g2 G5 (playF A k n v f y)] ⟨rfl, rfl, rfl, rfl, rfl, rfl, trivial⟩ rfl ?_
    refine SC.seq ?_
    refine SC.block ?_
    refine SC.seq ?_
    refine SC.seq ?_
    refine SC.region ?_
    refine SL.ru rfl rfl (lt_b rfl) (ru_move rfl rfl) ?_
    refine SL.ru rfl rfl (lt_b rfl) (ru_eq (b := true) rfl rfl rfl rfl) ?_
    refine SL.nil ?_
    refine SC.of_SE ?_
    refine SC.norm [(0, sl b o l.length c), (2, bo false), (4, pt g1 0), (5, pt g2 0), (6, iw ((l.length : Int) - (nn : Int))), (8, iw 6), (46, bo true)] [rNic 68 g1 F11 (playF A k n v f y), rNic 58 g2 G5 (playF A k n v f y)] ⟨rfl, rfl, rfl, rfl, rfl, rfl, rfl, trivial⟩ rfl ?_
    refine SC.yes rfl ?_
    refine SC.exit ?_
    refine SE.passe ?_
    refine SE.blke ?_
    refine SC.of_SE ?_
    refine SC.norm [(0, sl b o l.length c), (2, bo false), (4, pt g1 0), (5, pt g2 0), (6, iw ((l.length : Int) - (nn : Int))), (8, iw 6)] [rNic 68 g1 F11 (playF A k n v f y), rNic 58 g2 G5 (playF A k n v f y)] ⟨rfl, rfl, rfl, rfl, rfl, rfl, trivial⟩ rfl ?_
    refine SC.region ?_
    refine SL.ru rfl rfl (lt_b rfl) (ru_move rfl rfl) ?_
    refine SL.ru rfl rfl (lt_b rfl) (ru_add (r := 7) rfl rfl rfl rfl) ?_
    refine SL.ru rfl rfl (lt_b rfl) (ru_assign rfl rfl) ?_
    refine SL.nil ?_
    refine SE.round ?_
    refine SR.norm [(0, sl b o l.length c), (2, bo false), (4, pt g1 0), (5, pt g2 0), (6, iw ((l.length : Int) - (nn : Int))), (8, iw 7)] [rNic 68 g1 F11 (playF A k n v f y), rNic 58 g2 G5 (playF A k n v f y)] ⟨rfl, rfl, rfl, rfl, rfl, rfl, trivial⟩ rfl ?_
    refine SR.next ?_
    refine SC.seq ?_
    refine SC.seq ?_
    refine SC.region ?_
    refine SL.ru rfl rfl (lt_b rfl) (ru_move rfl rfl) ?_
    refine SL.ru rfl rfl (lt_b rfl) (ru_lt (b := true) rfl rfl rfl rfl) ?_
    refine SL.nil ?_
    refine SC.of_SE ?_
    refine SC.norm [(0, sl b o l.length c), (2, bo false), (4, pt g1 0), (5, pt g2 0), (6, iw ((l.length : Int) - (nn : Int))), (8, iw 7), (42, bo true)] [rNic 68 g1 F11 (playF A k n v f y), rNic 58 g2 G5 (playF A k n v f y)] ⟨rfl, rfl, rfl, rfl, rfl, rfl, rfl, trivial⟩ rfl ?_
    refine SC.yes rfl ?_
    refine SC.skip ?_
    refine SC.of_SE ?_
    refine SC.norm [(0, sl b o l.length c), (2, bo false), (4, pt g1 0), (5, pt g2 0), (6, iw ((l.length : Int) - (nn : Int))), (8, iw 7)] [rNic 68 g1 F11 (playF A k n v f y), rNic 58 g2 G5 (playF A k n v f y)] ⟨rfl, rfl, rfl, rfl, rfl, rfl, trivial⟩ rfl ?_
    refine SC.seq ?_
    refine SC.block ?_
    refine SC.seq ?_
    refine SC.seq ?_
    refine SC.region ?_
    refine SL.ru rfl rfl (lt_b rfl) (ru_move rfl rfl) ?_
    refine SL.ru rfl rfl (lt_b rfl) (ru_eq (b := false) rfl rfl rfl rfl) ?_
    refine SL.nil ?_
    refine SC.of_SE ?_
    refine SC.norm [(0, sl b o l.length c), (2, bo false), (4, pt g1 0), (5, pt g2 0), (6, iw ((l.length : Int) - (nn : Int))), (8, iw 7), (46, bo false)] [rNic 68 g1 F11 (playF A k n v f y), rNic 58 g2 G5 (playF A k n v f y)] ⟨rfl, rfl, rfl, rfl, rfl, rfl, rfl, trivial⟩ rfl ?_
    refine SC.no rfl ?_
    refine SC.skip ?_
    refine SC.of_SE ?_
    refine SC.norm [(0, sl b o l.length c), (2, bo false), (4, pt g1 0), (5, pt g2 0), (6, iw ((l.length : Int) - (nn : Int))), (8, iw 7)] [rNic 68 g1 F11 (playF A k n v f y), rNic 58 g2 G5 (playF A k n v f y)] ⟨rfl, rfl, rfl, rfl, rfl, rfl, trivial⟩ rfl ?_
    refine SC.seq ?_
    refine SC.region ?_
    refine SL.ru rfl rfl (lt_b rfl) (ru_move rfl rfl) ?_
    refine SL.ru rfl rfl (lt_b rfl) (ru_move rfl rfl) ?_
    refine SL.call (ζ := Nat → Prop) (fun F12 => Value.tuple #[iw ((playF A k n v f y).r 7), iw 0]) (fun F12 => [rNic 68 g1 F12 (playF A k n v f y), rNic 58 g2 G5 (playF A k n v f y)]) (fun F12 => True) rfl rfl co18 rfl rfl rfl (lt_b rfl) (fun w hI => (p_read_k (play_ok hk k n v f y) (nic_at hI (i := 0) rfl) 7 rfl (by decide) (by decide)).mono fun e w2 ⟨h1, h2⟩ => by obtain ⟨F2, h3⟩ := hI.nicTo (i := 0) rfl (.inr hg1) h2; exact ⟨F2, h1, h3, trivial⟩) ?_
    intro F12 _
    refine SL.ru rfl rfl (lt_b rfl) (ru_move rfl rfl) ?_
    refine SL.ru rfl rfl (lt_b rfl) (ru_extract rfl rfl rfl) ?_
    refine SL.ru rfl rfl (lt_b rfl) (ru_extract rfl rfl rfl) ?_
    refine SL.ru rfl rfl (lt_b rfl) (ru_assign rfl rfl) ?_
    refine SL.ru rfl rfl (lt_b rfl) (ru_assign rfl rfl) ?_
    refine SL.nil ?_
    refine SC.of_SE ?_
    refine SC.norm [(0, sl b o l.length c), (2, bo false), (4, pt g1 0), (5, pt g2 0), (6, iw ((l.length : Int) - (nn : Int))), (8, iw 7), (9, iw ((playF A k n v f y).r 7)), (10, iw 0)] [rNic 68 g1 F12 (playF A k n v f y), rNic 58 g2 G5 (playF A k n v f y)] ⟨rfl, rfl, rfl, rfl, rfl, rfl, rfl, rfl, trivial⟩ rfl ?_
    refine SC.seq ?_
    refine SC.region ?_
    refine SL.ru rfl rfl (lt_b rfl) (ru_move rfl rfl) ?_
    refine SL.ru rfl rfl (lt_b rfl) (ru_move rfl rfl) ?_
    refine SL.ru rfl rfl (lt_b rfl) (ru_move rfl rfl) ?_
    refine SL.ru rfl rfl (lt_b rfl) (ru_nilCheck rfl rfl) ?_
    refine SL.ru rfl rfl (lt_b rfl) (ru_fieldAddr (o2 := 0) fd58_0 rfl rfl rfl) ?_
    refine SL.ru rfl rfl (lt_b rfl) (ru_indexA (o2 := 7) ar44 rfl rfl rfl (by decide) (by decide) rfl) ?_
    refine SL.ru rfl rfl (lt_b rfl) (ru_nic_r (i := 1) (by decide) ts3 rfl rfl rfl) ?_
    refine SL.ru rfl rfl (lt_b rfl) (ru_ne (b := false) rfl rfl rfl (by simp)) ?_
    refine SL.ru rfl rfl (lt_b rfl) (ru_move rfl rfl) ?_
    refine SL.rug rfl rfl rfl rfl (lt_b rfl) (ru_move rfl rfl) ?_
    refine SL.rug rfl rfl rfl rfl (lt_b rfl) (ru_ne (b := false) rfl rfl rfl rfl) ?_
    refine SL.ru rfl rfl (lt_b rfl) (ru_pick (u := bo true) (v := bo false) rfl rfl rfl rfl) ?_
    refine SL.nil ?_
    refine SC.of_SE ?_
    refine SC.norm [(0, sl b o l.length c), (2, bo false), (4, pt g1 0), (5, pt g2 0), (6, iw ((l.length : Int) - (nn : Int))), (8, iw 7), (64, bo false)] [rNic 68 g1 F12 (playF A k n v f y), rNic 58 g2 G5 (playF A k n v f y)] ⟨rfl, rfl, rfl, rfl, rfl, rfl, rfl, trivial⟩ rfl ?_
    refine SC.no rfl ?_
    refine SC.skip ?_
    refine SE.blkn ?_
    refine SC.of_SE ?_
    refine SC.norm [(0, sl b o l.length c), (2, bo false), (4, pt g1 0), (5, pt g2 0), (6, iw ((l.length : Int) - (nn : Int))), (8, iw 7)] [rNic 68 g1 F12 (playF A k n v f y), rNic 58 g2 G5 (playF A k n v f y)] ⟨rfl, rfl, rfl, rfl, rfl, rfl, trivial⟩ rfl ?_
    refine SC.region ?_
    refine SL.ru rfl rfl (lt_b rfl) (ru_move rfl rfl) ?_
    refine SL.ru rfl rfl (lt_b rfl) (ru_add (r := 8) rfl rfl rfl rfl) ?_
    refine SL.ru rfl rfl (lt_b rfl) (ru_assign rfl rfl) ?_
    refine SL.nil ?_
    refine SE.round ?_
    refine SR.norm [(0, sl b o l.length c), (2, bo false), (4, pt g1 0), (5, pt g2 0), (6, iw ((l.length : Int) - (nn : Int))), (8, iw 8)] [rNic 68 g1 F12 (playF A k n v f y), rNic 58 g2 G5 (playF A k n v f y)] ⟨rfl, rfl, rfl, rfl, rfl, rfl, trivial⟩ rfl ?_
    refine SR.next ?_
    refine SC.seq ?_
    refine SC.seq ?_
    refine SC.region ?_
    refine SL.ru rfl rfl (lt_b rfl) (ru_move rfl rfl) ?_
    refine SL.ru rfl rfl (lt_b rfl) (ru_lt (b := false) rfl rfl rfl rfl) ?_
    refine SL.nil ?_
    refine SC.of_SE ?_
    refine SC.norm [(0, sl b o l.length c), (2, bo false), (4, pt g1 0), (5, pt g2 0), (6, iw ((l.length : Int) - (nn : Int))), (8, iw 8), (42, bo false)] [rNic 68 g1 F12 (playF A k n v f y), rNic 58 g2 G5 (playF A k n v f y)] ⟨rfl, rfl, rfl, rfl, rfl, rfl, rfl, trivial⟩ rfl ?_
    refine SC.no rfl ?_
    refine SC.exit ?_
    refine SE.passe ?_
    refine SE.passe ?_
    refine SE.blke ?_
    refine SC.of_SE ?_
    refine SC.norm [(0, sl b o l.length c), (2, bo false), (4, pt g1 0), (5, pt g2 0), (6, iw ((l.length : Int) - (nn : Int)))] [rNic 68 g1 F12 (playF A k n v f y), rNic 58 g2 G5 (playF A k n v f y)] ⟨rfl, rfl, rfl, rfl, rfl, trivial⟩ rfl ?_
    refine SC.seq ?_
    refine SC.region ?_
    refine SL.ru rfl rfl (lt_b rfl) (ru_move rfl rfl) ?_
    refine SL.callv (Value.tuple #[iw ((oldF (playF A k n v f y)).1), bo ((oldF (playF A k n v f y)).2)]) rfl rfl co21 rfl rfl rfl (lt_b rfl) (fun w hI => H_only hI (p_old (play_ok hk k n v f y) (nic_at hI (i := 0) rfl))) ?_
    refine SL.ru rfl rfl (lt_b rfl) (ru_move rfl rfl) ?_
    refine SL.ru rfl rfl (lt_b rfl) (ru_extract rfl rfl rfl) ?_
    refine SL.ru rfl rfl (lt_b rfl) (ru_extract rfl rfl rfl) ?_
    refine SL.ru rfl rfl (lt_b rfl) (ru_assign rfl rfl) ?_
    refine SL.ru rfl rfl (lt_b rfl) (ru_assign rfl rfl) ?_
    refine SL.nil ?_
    refine SC.of_SE ?_
    refine SC.norm [(0, sl b o l.length c), (2, bo false), (4, pt g1 0), (5, pt g2 0), (6, iw ((l.length : Int) - (nn : Int))), (11, iw ((oldF (playF A k n v f y)).1)), (12, bo ((oldF (playF A k n v f y)).2))] [rNic 68 g1 F12 (playF A k n v f y), rNic 58 g2 G5 (playF A k n v f y)] ⟨rfl, rfl, rfl, rfl, rfl, rfl, rfl, trivial⟩ rfl ?_
    refine SC.seq ?_
    refine SC.region ?_
    refine SL.ru rfl rfl (lt_b rfl) (ru_move rfl rfl) ?_
    refine SL.callv (Value.tuple #[iw ((oldF (playF A k n v f y)).1), bo ((oldF (playF A k n v f y)).2)]) rfl rfl co22 rfl rfl rfl (lt_b rfl) (fun w hI => H_only hI (q_old (play_ok hk k n v f y) (nic_at hI (i := 1) rfl))) ?_
    refine SL.ru rfl rfl (lt_b rfl) (ru_move rfl rfl) ?_
    refine SL.ru rfl rfl (lt_b rfl) (ru_extract rfl rfl rfl) ?_
    refine SL.ru rfl rfl (lt_b rfl) (ru_extract rfl rfl rfl) ?_
    refine SL.ru rfl rfl (lt_b rfl) (ru_assign rfl rfl) ?_
    refine SL.ru rfl rfl (lt_b rfl) (ru_assign rfl rfl) ?_
    refine SL.nil ?_
    refine SC.of_SE ?_
    refine SC.norm [(0, sl b o l.length c), (2, bo false), (4, pt g1 0), (5, pt g2 0), (6, iw ((l.length : Int) - (nn : Int))), (11, iw ((oldF (playF A k n v f y)).1)), (12, bo ((oldF (playF A k n v f y)).2)), (13, iw ((oldF (playF A k n v f y)).1)), (14, bo ((oldF (playF A k n v f y)).2))] [rNic 68 g1 F12 (playF A k n v f y), rNic 58 g2 G5 (playF A k n v f y)] ⟨rfl, rfl, rfl, rfl, rfl, rfl, rfl, rfl, rfl, trivial⟩ rfl ?_
    refine SC.seq ?_
    refine SC.region ?_
    refine SL.ru rfl rfl (lt_b rfl) (ru_move rfl rfl) ?_
    refine SL.ru rfl rfl (lt_b rfl) (ru_move rfl rfl) ?_
    refine SL.ru rfl rfl (lt_b rfl) (ru_ne (b := false) rfl rfl rfl (by simp)) ?_
    refine SL.ru rfl rfl (lt_b rfl) (ru_move rfl rfl) ?_
    refine SL.rug rfl rfl rfl rfl (lt_b rfl) (ru_move rfl rfl) ?_
    refine SL.rug rfl rfl rfl rfl (lt_b rfl) (ru_move rfl rfl) ?_
    refine SL.rug rfl rfl rfl rfl (lt_b rfl) (ru_neb (b := false) Try.underlying4 rfl rfl rfl (by simp)) ?_
    refine SL.ru rfl rfl (lt_b rfl) (ru_pick (u := bo true) (v := bo false) rfl rfl rfl rfl) ?_
    refine SL.nil ?_
    refine SC.of_SE ?_
    refine SC.norm [(0, sl b o l.length c), (2, bo false), (4, pt g1 0), (5, pt g2 0), (6, iw ((l.length : Int) - (nn : Int))), (82, bo false)] [rNic 68 g1 F12 (playF A k n v f y), rNic 58 g2 G5 (playF A k n v f y)] ⟨rfl, rfl, rfl, rfl, rfl, rfl, trivial⟩ rfl ?_
    refine SC.no rfl ?_
    refine SC.skip ?_
    refine SE.blkn ?_
    refine SC.of_SE ?_
    refine SC.norm [(0, sl b o l.length c), (2, bo false), (4, pt g1 0), (5, pt g2 0), (6, iw ((l.length : Int) - (nn : Int)))] [rNic 68 g1 F12 (playF A k n v f y), rNic 58 g2 G5 (playF A k n v f y)] ⟨rfl, rfl, rfl, rfl, rfl, trivial⟩ rfl ?_
    refine SC.region ?_
    refine SL.ru rfl rfl (lt_b rfl) (ru_move rfl rfl) ?_
    refine SL.ru rfl rfl (lt_b rfl) (ru_add (r := (IntKind.i64.wrap (((l.length : Int) - (nn : Int)) + 1))) rfl rfl rfl rfl) ?_
    refine SL.ru rfl rfl (lt_b rfl) (ru_assign rfl rfl) ?_
    refine SL.nil ?_
    refine SE.again (nn - 1) (playF A k n v f y, F12, G5) (by omega) ⟨by omega, play_ok hk k n v f y⟩ ⟨rfl, rfl, rfl, rfl, (congrArg (fun x => some (iw x)) (show IntKind.i64.wrap (((l.length : Int) - (nn : Int)) + 1) = (l.length : Int) - (((nn - 1 : Nat) : Int) : Int) by rw [IntKind.wrap_i64]; omega)), trivial⟩ rfl

end Go.Proofs.Ytloejpkefoagfaa
