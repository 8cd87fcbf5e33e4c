/-
  NicCarries answers true.
-/
import Derived.Test.YtloejpkefoagfaaNicCarL
import Derived.Test.YtloejpkefoagfaaNicAwake
namespace Go.Proofs.Ytloejpkefoagfaa
open Go.RowKit
set_option maxRecDepth 100000
set_option maxHeartbeats 4000000
theorem carries_walk (w : World) {vv : Value} {l : List OpR} (h : OpsAt w vv l) : Calls Try.prog 3 #[vv] w fun e w' => e = .returned (.bool true) ∧ Only (fun _ => False) w w' := by
  obtain ⟨a, c, rfl, hll, hops⟩ := h
  refine calls_sc (l0 := []) (args := [Value.slice a l.length c]) (fun _ => False) Try.func3 rfl 183 Try.ntmps3 (le_b rfl) ⟨⟨by simp, List.Pairwise.nil⟩, Only.refl _ _⟩ ?_
  show SC _ _ _ _ [(0, Value.slice a l.length c)] []
  refine SC.seq ?_
  refine SC.region ?_
  refine SL.ru rfl rfl (lt_b rfl) (ru_assign rfl rfl) ?_
  refine SL.nil ?_
  refine SC.of_SE ?_
  refine SC.norm [(0, Value.slice a l.length c), (2, bo false)] [] ⟨rfl, rfl, trivial⟩ rfl ?_
  refine SC.seq ?_
  refine SC.region ?_
  refine SL.callv (bo true) rfl rfl co7 rfl rfl rfl (lt_b rfl) (fun w hI => H_only hI (awake_any _)) ?_
  refine SL.ru rfl rfl (lt_b rfl) (ru_assign rfl rfl) ?_
  refine SL.nil ?_
  refine SC.of_SE ?_
  refine SC.norm [(0, Value.slice a l.length c), (2, bo false), (3, bo true)] [] ⟨rfl, rfl, rfl, trivial⟩ rfl ?_
  refine SC.seq ?_
  refine SC.region ?_
  refine SL.call (ζ := Nat) (fun z => pt z 0) (fun z => [rNic 68 z (fun _ => False) newA]) (fun z => w.heap.size ≤ z) rfl rfl co8 rfl rfl rfl (lt_b rfl) (fun w hI => (p_new _).mono fun e w2 ⟨g, h1, h2, h3, h4⟩ => ⟨g, h2, hI.newNic h1 h3 h4, Nat.le_trans hI.2.size h1⟩) ?_
  intro g1 hg1
  refine SL.ru rfl rfl (lt_b rfl) (ru_assign rfl rfl) ?_
  refine SL.nil ?_
  refine SC.of_SE ?_
  refine SC.norm [(0, Value.slice a l.length c), (2, bo false), (3, bo true), (4, pt g1 0)] [rNic 68 g1 (fun _ => False) newA] ⟨rfl, rfl, rfl, rfl, trivial⟩ rfl ?_
  refine SC.seq ?_
  refine SC.seq ?_
  refine SC.region ?_
  refine SL.ru rfl rfl (lt_b rfl) (ru_move rfl rfl) ?_
  refine SL.ru rfl rfl (lt_b rfl) (ru_not (c := false) rfl rfl rfl) ?_
  refine SL.ru rfl rfl (lt_b rfl) (ru_move rfl rfl) ?_
  refine SL.rug rfl rfl rfl rfl (lt_b rfl) (ru_move rfl rfl) ?_
  refine SL.rug rfl rfl rfl rfl (lt_b rfl) (ru_eqnil Try.underlying24 rfl rfl rfl rfl) ?_
  refine SL.ru rfl rfl (lt_b rfl) (ru_pick (u := bo true) (v := bo false) rfl rfl rfl rfl) ?_
  refine SL.nil ?_
  refine SC.of_SE ?_
  refine SC.norm [(0, Value.slice a l.length c), (2, bo false), (4, pt g1 0), (31, bo false)] [rNic 68 g1 (fun _ => False) newA] ⟨rfl, rfl, rfl, rfl, trivial⟩ rfl ?_
  refine SC.no rfl ?_
  refine SC.skip ?_
  refine SC.of_SE ?_
  refine SC.norm [(0, Value.slice a l.length c), (2, bo false), (4, pt g1 0)] [rNic 68 g1 (fun _ => False) newA] ⟨rfl, rfl, rfl, trivial⟩ rfl ?_
  refine SC.seq ?_
  refine SC.region ?_
  refine SL.ru rfl rfl (lt_b rfl) (ru_move rfl rfl) ?_
  refine SL.call (ζ := Nat → Prop) (fun F2 => iw ((writeF newA 0 1).1)) (fun F2 => [rNic 68 g1 F2 ((writeF newA 0 1).2)]) (fun F2 => True) rfl rfl co9 rfl rfl rfl (lt_b rfl) (fun w hI => (p_write newA_ok (nic_at hI (i := 0) rfl) 0 1).mono fun e w2 ⟨h1, h2⟩ => by obtain ⟨F2, h3⟩ := hI.nicTo (i := 0) rfl (.inr hg1) (NicTo.of h2); exact ⟨F2, h1, h3, trivial⟩) ?_
  intro F2 _
  refine SL.nil ?_
  refine SC.of_SE ?_
  refine SC.norm [(0, Value.slice a l.length c), (2, bo false), (4, pt g1 0)] [rNic 68 g1 F2 ((writeF newA 0 1).2)] ⟨rfl, rfl, rfl, trivial⟩ rfl ?_
  refine SC.seq ?_
  refine SC.region ?_
  refine SL.ru rfl rfl (lt_b rfl) (ru_assign rfl rfl) ?_
  refine SL.nil ?_
  refine SC.of_SE ?_
  refine SC.norm [(0, Value.slice a l.length c), (2, bo false), (4, pt g1 0), (5, Value.slice none 0 0)] [rNic 68 g1 F2 ((writeF newA 0 1).2)] ⟨rfl, rfl, rfl, rfl, trivial⟩ rfl ?_
  refine SC.seq ?_
  refine SC.region ?_
  refine SL.ru rfl rfl (lt_b rfl) (ru_assign rfl rfl) ?_
  refine SL.nil ?_
  refine SC.of_SE ?_
  refine SC.norm [(0, Value.slice a l.length c), (2, bo false), (4, pt g1 0), (5, Value.slice none 0 0), (6, Value.slice none 0 0)] [rNic 68 g1 F2 ((writeF newA 0 1).2)] ⟨rfl, rfl, rfl, rfl, rfl, trivial⟩ rfl ?_
  refine SC.seq ?_
  refine SC.region ?_
  refine SL.ru rfl rfl (lt_b rfl) (ru_assign rfl rfl) ?_
  refine SL.nil ?_
  refine SC.of_SE ?_
  refine SC.norm [(0, Value.slice a l.length c), (2, bo false), (4, pt g1 0), (5, Value.slice none 0 0), (6, Value.slice none 0 0), (7, iw 0)] [rNic 68 g1 F2 ((writeF newA 0 1).2)] ⟨rfl, rfl, rfl, rfl, rfl, rfl, trivial⟩ rfl ?_
  refine SC.seq ?_
  refine SC.region ?_
  refine SL.ru rfl rfl (lt_b rfl) (ru_assign rfl rfl) ?_
  refine SL.nil ?_
  refine SC.of_SE ?_
  refine SC.norm [(0, Value.slice a l.length c), (2, bo false), (4, pt g1 0), (5, Value.slice none 0 0), (6, Value.slice none 0 0), (7, iw 0), (8, iw 0)] [rNic 68 g1 F2 ((writeF newA 0 1).2)] ⟨rfl, rfl, rfl, rfl, rfl, rfl, rfl, trivial⟩ rfl ?_
  refine SC.seq ?_
  refine SC.region ?_
  refine SL.ru rfl rfl (lt_b rfl) (ru_assign rfl rfl) ?_
  refine SL.nil ?_
  refine SC.of_SE ?_
  refine SC.norm [(0, Value.slice a l.length c), (2, bo false), (4, pt g1 0), (5, Value.slice none 0 0), (6, Value.slice none 0 0), (7, iw 0), (8, iw 0), (9, iw 0)] [rNic 68 g1 F2 ((writeF newA 0 1).2)] ⟨rfl, rfl, rfl, rfl, rfl, rfl, rfl, rfl, trivial⟩ rfl ?_
  refine SC.seq ?_
  refine SC.region ?_
  refine SL.ru rfl rfl (lt_b rfl) (ru_assign rfl rfl) ?_
  refine SL.nil ?_
  refine SC.of_SE ?_
  refine SC.norm [(0, Value.slice a l.length c), (2, bo false), (4, pt g1 0), (5, Value.slice none 0 0), (6, Value.slice none 0 0), (7, iw 0), (8, iw 0), (9, iw 0), (10, iw 0)] [rNic 68 g1 F2 ((writeF newA 0 1).2)] ⟨rfl, rfl, rfl, rfl, rfl, rfl, rfl, rfl, rfl, trivial⟩ rfl ?_
  refine SC.seq ?_
  refine SC.region ?_
  refine SL.ru rfl rfl (lt_b rfl) (ru_assign rfl rfl) ?_
  refine SL.nil ?_
  refine SC.of_SE ?_
  refine SC.norm [(0, Value.slice a l.length c), (2, bo false), (4, pt g1 0), (5, Value.slice none 0 0), (6, Value.slice none 0 0), (7, iw 0), (8, iw 0), (9, iw 0), (10, iw 0), (11, Value.slice none 0 0)] [rNic 68 g1 F2 ((writeF newA 0 1).2)] ⟨rfl, rfl, rfl, rfl, rfl, rfl, rfl, rfl, rfl, rfl, trivial⟩ rfl ?_
  refine SC.seq ?_
  refine SC.seq ?_
  refine SC.region ?_
  refine SL.ru rfl rfl (lt_b rfl) (ru_assign rfl rfl) ?_
  refine SL.nil ?_
  refine SC.of_SE ?_
  refine SC.norm [(0, Value.slice a l.length c), (2, bo false), (4, pt g1 0), (5, Value.slice none 0 0), (6, Value.slice none 0 0), (7, iw 0), (8, iw 0), (9, iw 0), (10, iw 0), (11, Value.slice none 0 0), (12, iw 0)] [rNic 68 g1 F2 ((writeF newA 0 1).2)] ⟨rfl, rfl, rfl, rfl, rfl, rfl, rfl, rfl, rfl, rfl, rfl, trivial⟩ rfl ?_
  refine SC.block ?_
  refine SC.rows (rRow (.slice none 0 0) [] 30) (fun b (h : (Value.slice none 0 0).ownBlock = some b) => by cases h) (fun w => row_nil w 30) ?_
  refine SC.rows (rRow (.slice none 0 0) [] 3) (fun b (h : (Value.slice none 0 0).ownBlock = some b) => by cases h) (fun w => row_nil w 3) ?_
  refine SC.rows (rRow (.slice none 0 0) [] 30) (fun b (h : (Value.slice none 0 0).ownBlock = some b) => by cases h) (fun w => row_nil w 30) ?_
  refine SC.loop (γ := CG) (fun nn g => [(0, Value.slice a l.length c), (2, bo false), (4, pt g1 0), (5, Value.slice g.q1 g.n1 g.c1), (6, Value.slice g.q2 g.n2 g.c2), (7, iw g.tk), (8, iw g.tail), (9, iw g.free), (10, iw g.clk), (11, Value.slice g.q3 g.n3 g.c3), (12, iw ((l.length : Int) - (nn : Int)))]) (fun nn g => [rNic 68 g1 g.F g.A, rRow (.slice g.q1 g.n1 g.c1) g.S 30, rRow (.slice g.q2 g.n2 g.c2) (g.T.map iw) 3, rRow (.slice g.q3 g.n3 g.c3) g.C 30]) (fun nn g => CGok w l.length nn g) l.length ⟨{ newA with r := up newA.r 0 1 }, F2, [], [], [], [], 0, none, 0, 0, none, 0, 0, none, 0, 0, 0, 0, 0, 0⟩ (car_start _ _ _) ⟨rfl, rfl, rfl, rfl, rfl, rfl, rfl, rfl, rfl, rfl, (congrArg (fun x => some (iw x)) (show (0 : Int) = (l.length : Int) - ((l.length : Nat) : Int) by omega)), trivial⟩ rfl ?_
  rintro nn ⟨A, F, S, B, T, C, t, q1, n1, c1, q2, n2, c2, q3, n3, c3, tail, free, clk, tk⟩ ⟨hn, hk, hC, hSB, hb1, hb2, hrd, hq1, hq2, hq3, e1, e2, e3, e4, e5, e6, e7⟩
  dsimp only at hn hk hC hSB hb1 hb2 hrd hq1 hq2 hq3 e1 e2 e3 e4 e5 e6 e7
  subst e1 e2 e3 e4 e5 e6 e7
  have htl := hC.tl
  rcases Nat.eq_zero_or_pos nn with h0 | h0
  · skip
    refine SC.seq ?_
    refine SC.seq ?_
    refine SC.region ?_
    refine SL.ru rfl rfl (lt_b rfl) (ru_move rfl rfl) ?_
    refine SL.ru rfl rfl (lt_b rfl) (ru_move rfl rfl) ?_
    refine SL.ru rfl rfl (lt_b rfl) (ru_len Try.underlying22 rfl rfl) ?_
    refine SL.ru rfl rfl (lt_b rfl) (ru_lt (b := (decide ((((l.length : Int) - (nn : Int)) : Int) < (l.length : Int)))) rfl rfl rfl rfl) ?_
    refine SL.nil ?_
    refine SC.of_SE ?_
    refine SC.norm [(0, Value.slice a l.length c), (2, bo false), (4, pt g1 0), (5, Value.slice q1 S.length c1), (6, Value.slice q2 T.length c2), (7, iw (t : Int)), (8, iw ((B.length % 16 : Nat) : Int)), (9, iw ((C.length % 16 : Nat) : Int)), (10, iw A.clk), (11, Value.slice q3 C.length c3), (12, iw ((l.length : Int) - (nn : Int))), (37, bo (decide ((((l.length : Int) - (nn : Int)) : Int) < (l.length : Int))))] [rNic 68 g1 F A, rRow (.slice q1 S.length c1) S 30, rRow (.slice q2 T.length c2) (T.map iw) 3, rRow (.slice q3 C.length c3) C 30] ⟨rfl, rfl, rfl, rfl, rfl, rfl, rfl, rfl, rfl, rfl, rfl, rfl, trivial⟩ rfl ?_
    refine SC.no (show some (Value.bool (decide ((((l.length : Int) - (nn : Int)) : Int) < (l.length : Int)))) = some (Value.bool false) from congrArg (fun x => some (Value.bool x)) (decide_eq_false (by omega))) ?_
    refine SC.exit ?_
    refine SE.passe ?_
    refine SE.passe ?_
    refine SE.blke ?_
    refine SC.of_SE ?_
    refine SC.norm [(0, Value.slice a l.length c), (2, bo false), (11, Value.slice q3 C.length c3)] [rNic 68 g1 F A, rRow (.slice q1 S.length c1) S 30, rRow (.slice q2 T.length c2) (T.map iw) 3, rRow (.slice q3 C.length c3) C 30] ⟨rfl, rfl, rfl, trivial⟩ rfl ?_
    refine SC.seq ?_
    refine SC.region ?_
    refine SL.ru rfl rfl (lt_b rfl) (ru_move rfl rfl) ?_
    refine SL.ru rfl rfl (lt_b rfl) (ru_len Try.underlying28 rfl rfl) ?_
    refine SL.ru rfl rfl (lt_b rfl) (ru_move rfl rfl) ?_
    refine SL.ru rfl rfl (lt_b rfl) (ru_len Try.underlying22 rfl rfl) ?_
    refine SL.ru rfl rfl (lt_b rfl) (ru_le (b := (decide (((C.length : Int) : Int) ≤ (l.length : Int)))) rfl rfl rfl rfl) ?_
    refine SL.ru rfl rfl (lt_b rfl) (ru_assign rfl rfl) ?_
    refine SL.nil ?_
    refine SC.of_SE ?_
    refine SC.norm [(2, bo (decide (((C.length : Int) : Int) ≤ (l.length : Int))))] [rNic 68 g1 F A, rRow (.slice q1 S.length c1) S 30, rRow (.slice q2 T.length c2) (T.map iw) 3, rRow (.slice q3 C.length c3) C 30] ⟨rfl, trivial⟩ rfl ?_
    refine SC.ret ?_
    refine SE.res (.inl rfl) (res1 Try.results3 rfl) fun w1 hI => ⟨ret_bo (Eq.symm (decide_eq_true (by omega))), hI.2⟩
  · skip
    obtain ⟨b, o, ea, hop⟩ := hops (l.length - nn) (by omega)
    obtain ⟨⟨k, n, v, ov, f, y⟩, hl⟩ : ∃ op : OpR, op = l[l.length - nn]'(by omega) := ⟨_, rfl⟩
    rw [← hl] at hop
    obtain ⟨hc, hb, hs⟩ := hop
    simp only at hc hb hs
    obtain ⟨fa, fc, rfl⟩ := hb.form
    subst ea
    refine SC.seq ?_
    refine SC.seq ?_
    refine SC.region ?_
    refine SL.ru rfl rfl (lt_b rfl) (ru_move rfl rfl) ?_
    refine SL.ru rfl rfl (lt_b rfl) (ru_move rfl rfl) ?_
    refine SL.ru rfl rfl (lt_b rfl) (ru_len Try.underlying22 rfl rfl) ?_
    refine SL.ru rfl rfl (lt_b rfl) (ru_lt (b := (decide ((((l.length : Int) - (nn : Int)) : Int) < (l.length : Int)))) rfl rfl rfl rfl) ?_
    refine SL.nil ?_
    refine SC.of_SE ?_
    refine SC.norm [(0, sl b o l.length c), (2, bo false), (4, pt g1 0), (5, Value.slice q1 S.length c1), (6, Value.slice q2 T.length c2), (7, iw (t : Int)), (8, iw ((B.length % 16 : Nat) : Int)), (9, iw ((C.length % 16 : Nat) : Int)), (10, iw A.clk), (11, Value.slice q3 C.length c3), (12, iw ((l.length : Int) - (nn : Int))), (37, bo (decide ((((l.length : Int) - (nn : Int)) : Int) < (l.length : Int))))] [rNic 68 g1 F A, rRow (.slice q1 S.length c1) S 30, rRow (.slice q2 T.length c2) (T.map iw) 3, rRow (.slice q3 C.length c3) C 30] ⟨rfl, rfl, rfl, rfl, rfl, rfl, rfl, rfl, rfl, rfl, rfl, rfl, trivial⟩ rfl ?_
    refine SC.yes (show some (Value.bool (decide ((((l.length : Int) - (nn : Int)) : Int) < (l.length : Int)))) = some (Value.bool true) from congrArg (fun x => some (Value.bool x)) (decide_eq_true (by omega))) ?_
    refine SC.skip ?_
    refine SC.of_SE ?_
    refine SC.norm [(0, sl b o l.length c), (2, bo false), (4, pt g1 0), (5, Value.slice q1 S.length c1), (6, Value.slice q2 T.length c2), (7, iw (t : Int)), (8, iw ((B.length % 16 : Nat) : Int)), (9, iw ((C.length % 16 : Nat) : Int)), (10, iw A.clk), (11, Value.slice q3 C.length c3), (12, iw ((l.length : Int) - (nn : Int)))] [rNic 68 g1 F A, rRow (.slice q1 S.length c1) S 30, rRow (.slice q2 T.length c2) (T.map iw) 3, rRow (.slice q3 C.length c3) C 30] ⟨rfl, rfl, rfl, rfl, rfl, rfl, rfl, rfl, rfl, rfl, rfl, trivial⟩ rfl ?_
    refine SC.seq ?_
    refine SC.block ?_
    refine SC.seq ?_
    refine SC.region ?_
    refine SL.ru rfl rfl (lt_b rfl) (ru_move rfl rfl) ?_
    refine SL.ru rfl rfl (lt_b rfl) (ru_move rfl rfl) ?_
    refine SL.ru rfl rfl (lt_b rfl) (ru_indexS (o2 := o + ((l.length : Int) - (nn : Int)).toNat * 5) si22 rfl rfl rfl (by omega) (by omega) rfl) ?_
    refine SL.ru rfl rfl (lt_b rfl) (ru_fieldAddr (o2 := (o + ((l.length : Int) - (nn : Int)).toNat * 5 + 3)) fd32_3 rfl rfl rfl) ?_
    refine SL.ru rfl rfl (lt_b rfl) (ru_load_old (u := Value.slice fa f.length fc) (fun _ h => h) ts30 rfl rfl (by rw [show ((l.length : Int) - (nn : Int)).toNat = l.length - nn by omega]; exact hc 3 _ rfl)) ?_
    refine SL.ru rfl rfl (lt_b rfl) (ru_assign rfl rfl) ?_
    refine SL.nil ?_
    refine SC.of_SE ?_
    refine SC.norm [(0, sl b o l.length c), (2, bo false), (4, pt g1 0), (5, Value.slice q1 S.length c1), (6, Value.slice q2 T.length c2), (7, iw (t : Int)), (8, iw ((B.length % 16 : Nat) : Int)), (9, iw ((C.length % 16 : Nat) : Int)), (10, iw A.clk), (11, Value.slice q3 C.length c3), (12, iw ((l.length : Int) - (nn : Int))), (13, Value.slice fa f.length fc)] [rNic 68 g1 F A, rRow (.slice q1 S.length c1) S 30, rRow (.slice q2 T.length c2) (T.map iw) 3, rRow (.slice q3 C.length c3) C 30] ⟨rfl, rfl, rfl, rfl, rfl, rfl, rfl, rfl, rfl, rfl, rfl, rfl, trivial⟩ rfl ?_
    refine SC.seq ?_
    refine SC.seq ?_
    refine SC.region ?_
    refine SL.ru rfl rfl (lt_b rfl) (ru_move rfl rfl) ?_
    refine SL.ru rfl rfl (lt_b rfl) (ru_len Try.underlying30 rfl rfl) ?_
    refine SL.ru rfl rfl (lt_b rfl) (ru_lt (b := (decide (((f.length : Int) : Int) < 1))) rfl rfl rfl rfl) ?_
    refine SL.ru rfl rfl (lt_b rfl) (ru_move rfl rfl) ?_
    refine SL.join 4 [(0, sl b o l.length c), (2, bo false), (4, pt g1 0), (5, Value.slice q1 S.length c1), (6, Value.slice q2 T.length c2), (7, iw (t : Int)), (8, iw ((B.length % 16 : Nat) : Int)), (9, iw ((C.length % 16 : Nat) : Int)), (10, iw A.clk), (11, Value.slice q3 C.length c3), (12, iw ((l.length : Int) - (nn : Int))), (13, Value.slice fa f.length fc), (45, Value.slice fa f.length fc), (46, iw (f.length : Int)), (47, bo (decide (((f.length : Int) : Int) < 1))), (48, bo (decide (((f.length : Int) : Int) < 1))), (52, bo ((decide (((f.length : Int) : Int) < 1)) || (decide ((274 : Int) < (f.length : Int)))))] [rNic 68 g1 F A, rRow (.slice q1 S.length c1) S 30, rRow (.slice q2 T.length c2) (T.map iw) 3, rRow (.slice q3 C.length c3) C 30] ?_ ?_
    rotate_left
    · intro K hK
      rcases tf (decide (((f.length : Int) : Int) < 1)) with h3 | h3
      · skip
        refine SL.norm [(0, sl b o l.length c), (2, bo false), (4, pt g1 0), (5, Value.slice q1 S.length c1), (6, Value.slice q2 T.length c2), (7, iw (t : Int)), (8, iw ((B.length % 16 : Nat) : Int)), (9, iw ((C.length % 16 : Nat) : Int)), (10, iw A.clk), (11, Value.slice q3 C.length c3), (12, iw ((l.length : Int) - (nn : Int))), (13, Value.slice fa f.length fc), (45, Value.slice fa f.length fc), (46, iw (f.length : Int)), (47, bo true), (48, bo true)] [rNic 68 g1 F A, rRow (.slice q1 S.length c1) S 30, rRow (.slice q2 T.length c2) (T.map iw) 3, rRow (.slice q3 C.length c3) C 30] ⟨rfl, rfl, rfl, rfl, rfl, rfl, rfl, rfl, rfl, rfl, rfl, rfl, rfl, rfl, (congrArg (fun x => some (Value.bool x)) h3), (congrArg (fun x => some (Value.bool x)) h3), trivial⟩ rfl ?_
        refine SL.off (b := true) rfl rfl rfl rfl rfl (lt_b rfl) ?_
        refine SL.off (b := true) rfl rfl rfl rfl rfl (lt_b rfl) ?_
        refine SL.off (b := true) rfl rfl rfl rfl rfl (lt_b rfl) ?_
        refine SL.ru rfl rfl (lt_b rfl) (ru_pick (u := bo true) (v := undef) rfl rfl rfl rfl) ?_
        exact SL.joined hK ⟨rfl, rfl, rfl, rfl, rfl, rfl, rfl, rfl, rfl, rfl, rfl, rfl, rfl, rfl, (congrArg (fun x => some (Value.bool x)) h3.symm), (congrArg (fun x => some (Value.bool x)) h3.symm), (congrArg (fun x => some (Value.bool (x || (decide ((274 : Int) < (f.length : Int)))))) h3.symm), trivial⟩ rfl
      · skip
        refine SL.norm [(0, sl b o l.length c), (2, bo false), (4, pt g1 0), (5, Value.slice q1 S.length c1), (6, Value.slice q2 T.length c2), (7, iw (t : Int)), (8, iw ((B.length % 16 : Nat) : Int)), (9, iw ((C.length % 16 : Nat) : Int)), (10, iw A.clk), (11, Value.slice q3 C.length c3), (12, iw ((l.length : Int) - (nn : Int))), (13, Value.slice fa f.length fc), (45, Value.slice fa f.length fc), (46, iw (f.length : Int)), (47, bo false), (48, bo false)] [rNic 68 g1 F A, rRow (.slice q1 S.length c1) S 30, rRow (.slice q2 T.length c2) (T.map iw) 3, rRow (.slice q3 C.length c3) C 30] ⟨rfl, rfl, rfl, rfl, rfl, rfl, rfl, rfl, rfl, rfl, rfl, rfl, rfl, rfl, (congrArg (fun x => some (Value.bool x)) h3), (congrArg (fun x => some (Value.bool x)) h3), trivial⟩ rfl ?_
        refine SL.rug rfl rfl rfl rfl (lt_b rfl) (ru_move rfl rfl) ?_
        refine SL.rug rfl rfl rfl rfl (lt_b rfl) (ru_len Try.underlying30 rfl rfl) ?_
        refine SL.rug rfl rfl rfl rfl (lt_b rfl) (ru_gt (b := (decide ((274 : Int) < (f.length : Int)))) rfl rfl rfl rfl) ?_
        refine SL.ru rfl rfl (lt_b rfl) (ru_pick (u := bo true) (v := bo (decide ((274 : Int) < (f.length : Int)))) rfl rfl rfl rfl) ?_
        exact SL.joined hK ⟨rfl, rfl, rfl, rfl, rfl, rfl, rfl, rfl, rfl, rfl, rfl, rfl, rfl, rfl, (congrArg (fun x => some (Value.bool x)) h3.symm), (congrArg (fun x => some (Value.bool x)) h3.symm), (congrArg (fun x => some (Value.bool (x || (decide ((274 : Int) < (f.length : Int)))))) h3.symm), trivial⟩ rfl
    skip
    refine SL.nil ?_
    refine SC.of_SE ?_
    refine SC.norm [(0, sl b o l.length c), (2, bo false), (4, pt g1 0), (5, Value.slice q1 S.length c1), (6, Value.slice q2 T.length c2), (7, iw (t : Int)), (8, iw ((B.length % 16 : Nat) : Int)), (9, iw ((C.length % 16 : Nat) : Int)), (10, iw A.clk), (11, Value.slice q3 C.length c3), (12, iw ((l.length : Int) - (nn : Int))), (13, Value.slice fa f.length fc), (52, bo ((decide (((f.length : Int) : Int) < 1)) || (decide ((274 : Int) < (f.length : Int)))))] [rNic 68 g1 F A, rRow (.slice q1 S.length c1) S 30, rRow (.slice q2 T.length c2) (T.map iw) 3, rRow (.slice q3 C.length c3) C 30] ⟨rfl, rfl, rfl, rfl, rfl, rfl, rfl, rfl, rfl, rfl, rfl, rfl, rfl, trivial⟩ rfl ?_
    refine SC.both ((decide (((f.length : Int) : Int) < 1)) || (decide ((274 : Int) < (f.length : Int)))) rfl (fun h4 => ?_) (fun h4 => ?_)
    · skip
      refine SC.exit ?_
      refine SE.passe ?_
      refine SE.blke ?_
      refine SC.of_SE ?_
      refine SC.norm [(0, sl b o l.length c), (2, bo false), (4, pt g1 0), (5, Value.slice q1 S.length c1), (6, Value.slice q2 T.length c2), (7, iw (t : Int)), (8, iw ((B.length % 16 : Nat) : Int)), (9, iw ((C.length % 16 : Nat) : Int)), (10, iw A.clk), (11, Value.slice q3 C.length c3), (12, iw ((l.length : Int) - (nn : Int)))] [rNic 68 g1 F A, rRow (.slice q1 S.length c1) S 30, rRow (.slice q2 T.length c2) (T.map iw) 3, rRow (.slice q3 C.length c3) C 30] ⟨rfl, rfl, rfl, rfl, rfl, rfl, rfl, rfl, rfl, rfl, rfl, trivial⟩ rfl ?_
      refine SC.region ?_
      refine SL.ru rfl rfl (lt_b rfl) (ru_move rfl rfl) ?_
      refine SL.ru rfl rfl (lt_b rfl) (ru_add (r := (IntKind.i64.wrap (((l.length : Int) - (nn : Int)) + 1))) rfl rfl rfl rfl) ?_
      refine SL.ru rfl rfl (lt_b rfl) (ru_assign rfl rfl) ?_
      refine SL.nil ?_
      refine SE.again (nn - 1) ⟨A, F, S, B, T, C, t, q1, S.length, c1, q2, T.length, c2, q3, C.length, c3, ((B.length % 16 : Nat) : Int), ((C.length % 16 : Nat) : Int), A.clk, (t : Int)⟩ (by omega) ⟨(by omega), (hk), (hC), (hSB), (by (try dsimp only) <;> omega), (by (try dsimp only) <;> omega), (hrd), (hq1), (hq2), (hq3), (rfl), (rfl), (rfl), (rfl), (rfl), (rfl), (rfl)⟩ ⟨rfl, rfl, rfl, rfl, rfl, rfl, rfl, rfl, rfl, rfl, (congrArg (fun x => some (iw x)) (show IntKind.i64.wrap (((l.length : Int) - (nn : Int)) + 1) = (l.length : Int) - (((nn - 1 : Nat) : Int) : Int) by rw [IntKind.wrap_i64]; omega)), trivial⟩ rfl
    · skip
      have hf : 1 ≤ f.length ∧ f.length ≤ 274 := by simp at h4; omega
      refine SC.skip ?_
      refine SC.of_SE ?_
      refine SC.norm [(0, sl b o l.length c), (2, bo false), (4, pt g1 0), (5, Value.slice q1 S.length c1), (6, Value.slice q2 T.length c2), (7, iw (t : Int)), (8, iw ((B.length % 16 : Nat) : Int)), (9, iw ((C.length % 16 : Nat) : Int)), (10, iw A.clk), (11, Value.slice q3 C.length c3), (12, iw ((l.length : Int) - (nn : Int))), (13, Value.slice fa f.length fc)] [rNic 68 g1 F A, rRow (.slice q1 S.length c1) S 30, rRow (.slice q2 T.length c2) (T.map iw) 3, rRow (.slice q3 C.length c3) C 30] ⟨rfl, rfl, rfl, rfl, rfl, rfl, rfl, rfl, rfl, rfl, rfl, rfl, trivial⟩ rfl ?_
      refine SC.seq ?_
      refine SC.region ?_
      refine SL.ru rfl rfl (lt_b rfl) (ru_move rfl rfl) ?_
      refine SL.ru rfl rfl (lt_b rfl) (ru_move rfl rfl) ?_
      refine SL.ru rfl rfl (lt_b rfl) (ru_indexS (o2 := o + ((l.length : Int) - (nn : Int)).toNat * 5) si22 rfl rfl rfl (by omega) (by omega) rfl) ?_
      refine SL.ru rfl rfl (lt_b rfl) (ru_fieldAddr (o2 := (o + ((l.length : Int) - (nn : Int)).toNat * 5 + 0)) fd32_0 rfl rfl rfl) ?_
      refine SL.ru rfl rfl (lt_b rfl) (ru_load_old (u := iw k) (fun _ h => h) ts3 rfl rfl (by rw [show ((l.length : Int) - (nn : Int)).toNat = l.length - nn by omega]; exact hc 0 _ rfl)) ?_
      refine SL.ru rfl rfl (lt_b rfl) (ru_rem (r := (Int.tmod k 4)) rfl rfl rfl (by decide) rfl) ?_
      refine SL.nil ?_
      refine SC.of_SE ?_
      refine SC.norm [(0, sl b o l.length c), (2, bo false), (4, pt g1 0), (5, Value.slice q1 S.length c1), (6, Value.slice q2 T.length c2), (7, iw (t : Int)), (8, iw ((B.length % 16 : Nat) : Int)), (9, iw ((C.length % 16 : Nat) : Int)), (10, iw A.clk), (11, Value.slice q3 C.length c3), (12, iw ((l.length : Int) - (nn : Int))), (13, Value.slice fa f.length fc), (58, iw (Int.tmod k 4))] [rNic 68 g1 F A, rRow (.slice q1 S.length c1) S 30, rRow (.slice q2 T.length c2) (T.map iw) 3, rRow (.slice q3 C.length c3) C 30] ⟨rfl, rfl, rfl, rfl, rfl, rfl, rfl, rfl, rfl, rfl, rfl, rfl, rfl, trivial⟩ rfl ?_
      refine SC.block ?_
      refine SC.seq ?_
      refine SC.region ?_
      refine SL.ru rfl rfl (lt_b rfl) (ru_eq (b := (((Int.tmod k 4) : Int) == 0)) rfl rfl rfl rfl) ?_
      refine SL.ru rfl rfl (lt_b rfl) (ru_assign rfl rfl) ?_
      refine SL.nil ?_
      refine SC.of_SE ?_
      refine SC.norm [(0, sl b o l.length c), (2, bo false), (4, pt g1 0), (5, Value.slice q1 S.length c1), (6, Value.slice q2 T.length c2), (7, iw (t : Int)), (8, iw ((B.length % 16 : Nat) : Int)), (9, iw ((C.length % 16 : Nat) : Int)), (10, iw A.clk), (11, Value.slice q3 C.length c3), (12, iw ((l.length : Int) - (nn : Int))), (13, Value.slice fa f.length fc), (58, iw (Int.tmod k 4)), (105, bo (((Int.tmod k 4) : Int) == 0))] [rNic 68 g1 F A, rRow (.slice q1 S.length c1) S 30, rRow (.slice q2 T.length c2) (T.map iw) 3, rRow (.slice q3 C.length c3) C 30] ⟨rfl, rfl, rfl, rfl, rfl, rfl, rfl, rfl, rfl, rfl, rfl, rfl, rfl, rfl, trivial⟩ rfl ?_
      refine SC.both (((Int.tmod k 4) : Int) == 0) rfl (fun h5 => ?_) (fun h5 => ?_)
      · skip
        refine SC.seq ?_
        refine SC.seq ?_
        refine SC.region ?_
        refine SL.ru rfl rfl (lt_b rfl) (ru_move rfl rfl) ?_
        refine SL.ru rfl rfl (lt_b rfl) (ru_len Try.underlying28 rfl rfl) ?_
        refine SL.ru rfl rfl (lt_b rfl) (ru_move rfl rfl) ?_
        refine SL.ru rfl rfl (lt_b rfl) (ru_sub (r := (IntKind.i64.wrap ((S.length : Int) - (t : Int)))) rfl rfl rfl rfl) ?_
        refine SL.ru rfl rfl (lt_b rfl) (ru_eq (b := (((IntKind.i64.wrap ((S.length : Int) - (t : Int))) : Int) == 15)) rfl rfl rfl rfl) ?_
        refine SL.nil ?_
        refine SC.of_SE ?_
        refine SC.norm [(0, sl b o l.length c), (2, bo false), (4, pt g1 0), (5, Value.slice q1 S.length c1), (6, Value.slice q2 T.length c2), (7, iw (t : Int)), (8, iw ((B.length % 16 : Nat) : Int)), (9, iw ((C.length % 16 : Nat) : Int)), (10, iw A.clk), (11, Value.slice q3 C.length c3), (12, iw ((l.length : Int) - (nn : Int))), (13, Value.slice fa f.length fc), (111, bo (((IntKind.i64.wrap ((S.length : Int) - (t : Int))) : Int) == 15))] [rNic 68 g1 F A, rRow (.slice q1 S.length c1) S 30, rRow (.slice q2 T.length c2) (T.map iw) 3, rRow (.slice q3 C.length c3) C 30] ⟨rfl, rfl, rfl, rfl, rfl, rfl, rfl, rfl, rfl, rfl, rfl, rfl, rfl, trivial⟩ rfl ?_
        refine SC.both (((IntKind.i64.wrap ((S.length : Int) - (t : Int))) : Int) == 15) rfl (fun h6 => ?_) (fun h6 => ?_)
        · skip
          refine SC.exit ?_
          refine SE.passe ?_
          refine SE.blko (by decide) ?_
          refine SE.blke ?_
          refine SC.of_SE ?_
          refine SC.norm [(0, sl b o l.length c), (2, bo false), (4, pt g1 0), (5, Value.slice q1 S.length c1), (6, Value.slice q2 T.length c2), (7, iw (t : Int)), (8, iw ((B.length % 16 : Nat) : Int)), (9, iw ((C.length % 16 : Nat) : Int)), (10, iw A.clk), (11, Value.slice q3 C.length c3), (12, iw ((l.length : Int) - (nn : Int)))] [rNic 68 g1 F A, rRow (.slice q1 S.length c1) S 30, rRow (.slice q2 T.length c2) (T.map iw) 3, rRow (.slice q3 C.length c3) C 30] ⟨rfl, rfl, rfl, rfl, rfl, rfl, rfl, rfl, rfl, rfl, rfl, trivial⟩ rfl ?_
          refine SC.region ?_
          refine SL.ru rfl rfl (lt_b rfl) (ru_move rfl rfl) ?_
          refine SL.ru rfl rfl (lt_b rfl) (ru_add (r := (IntKind.i64.wrap (((l.length : Int) - (nn : Int)) + 1))) rfl rfl rfl rfl) ?_
          refine SL.ru rfl rfl (lt_b rfl) (ru_assign rfl rfl) ?_
          refine SL.nil ?_
          refine SE.again (nn - 1) ⟨A, F, S, B, T, C, t, q1, S.length, c1, q2, T.length, c2, q3, C.length, c3, ((B.length % 16 : Nat) : Int), ((C.length % 16 : Nat) : Int), A.clk, (t : Int)⟩ (by omega) ⟨(by omega), (hk), (hC), (hSB), (by (try dsimp only) <;> omega), (by (try dsimp only) <;> omega), (hrd), (hq1), (hq2), (hq3), (rfl), (rfl), (rfl), (rfl), (rfl), (rfl), (rfl)⟩ ⟨rfl, rfl, rfl, rfl, rfl, rfl, rfl, rfl, rfl, rfl, (congrArg (fun x => some (iw x)) (show IntKind.i64.wrap (((l.length : Int) - (nn : Int)) + 1) = (l.length : Int) - (((nn - 1 : Nat) : Int) : Int) by rw [IntKind.wrap_i64]; omega)), trivial⟩ rfl
        · skip
          have hne : ¬ B.length = t + 15 := by
            have := hC.lo; have := hC.hi; rw [IntKind.wrap_i64] at h6; simp at h6; omega
          have hsd := car_send hC hf hne
          refine SC.skip ?_
          refine SC.of_SE ?_
          refine SC.norm [(0, sl b o l.length c), (2, bo false), (4, pt g1 0), (5, Value.slice q1 S.length c1), (6, Value.slice q2 T.length c2), (7, iw (t : Int)), (8, iw ((B.length % 16 : Nat) : Int)), (9, iw ((C.length % 16 : Nat) : Int)), (10, iw A.clk), (11, Value.slice q3 C.length c3), (12, iw ((l.length : Int) - (nn : Int))), (13, Value.slice fa f.length fc)] [rNic 68 g1 F A, rRow (.slice q1 S.length c1) S 30, rRow (.slice q2 T.length c2) (T.map iw) 3, rRow (.slice q3 C.length c3) C 30] ⟨rfl, rfl, rfl, rfl, rfl, rfl, rfl, rfl, rfl, rfl, rfl, rfl, trivial⟩ rfl ?_
          refine SC.seq ?_
          refine SC.region ?_
          refine SL.ru rfl rfl (lt_b rfl) (ru_move rfl rfl) ?_
          refine SL.ru rfl rfl (lt_b rfl) (ru_move rfl rfl) ?_
          refine SL.ru rfl rfl (lt_b rfl) (ru_move rfl rfl) ?_
          refine SL.call (ζ := Nat → Prop) (fun F7 => iw ((setTxF A ((B.length % 16 : Nat) : Int) f).1)) (fun F7 => [rNic 68 g1 F7 ((setTxF A ((B.length % 16 : Nat) : Int) f).2), rRow (.slice q1 S.length c1) S 30, rRow (.slice q2 T.length c2) (T.map iw) 3, rRow (.slice q3 C.length c3) C 30]) (fun F7 => True) rfl rfl co10 rfl rfl rfl (lt_b rfl) (fun w hI => (p_settx hk (nic_at hI (i := 0) rfl) (hb.only hI.2 (fun _ _ _ _ _ _ h => h)) (fun b o n c e hn h => by have := hs b o n c e hn; subst h; omega) ((B.length % 16 : Nat) : Int)).mono fun e w2 ⟨h1, h2⟩ => by obtain ⟨F2, h3⟩ := hI.nicTo (i := 0) rfl (.inr hg1) h2; exact ⟨F2, h1, h3, trivial⟩) ?_
          intro F7 _
          refine SL.ru rfl rfl (lt_b rfl) (ru_assign rfl rfl) ?_
          refine SL.nil ?_
          refine SC.of_SE ?_
          refine SC.norm [(0, sl b o l.length c), (2, bo false), (4, pt g1 0), (5, Value.slice q1 S.length c1), (6, Value.slice q2 T.length c2), (7, iw (t : Int)), (8, iw ((B.length % 16 : Nat) : Int)), (9, iw ((C.length % 16 : Nat) : Int)), (10, iw A.clk), (11, Value.slice q3 C.length c3), (12, iw ((l.length : Int) - (nn : Int))), (13, Value.slice fa f.length fc), (14, iw ((setTxF A ((B.length % 16 : Nat) : Int) f).1))] [rNic 68 g1 F7 ((setTxF A ((B.length % 16 : Nat) : Int) f).2), rRow (.slice q1 S.length c1) S 30, rRow (.slice q2 T.length c2) (T.map iw) 3, rRow (.slice q3 C.length c3) C 30] ⟨rfl, rfl, rfl, rfl, rfl, rfl, rfl, rfl, rfl, rfl, rfl, rfl, rfl, trivial⟩ rfl ?_
          refine SC.seq ?_
          refine SC.region ?_
          refine SL.ru rfl rfl (lt_b rfl) (ru_move rfl rfl) ?_
          refine SL.ru rfl rfl (lt_b rfl) (ru_add (r := (IntKind.i64.wrap (((B.length % 16 : Nat) : Int) + 1))) rfl rfl rfl rfl) ?_
          refine SL.ru rfl rfl (lt_b rfl) (ru_rem (r := (nx ((B.length % 16 : Nat) : Int))) rfl rfl rfl (by decide) (nx_q (by omega))) ?_
          refine SL.ru rfl rfl (lt_b rfl) (ru_assign rfl rfl) ?_
          refine SL.nil ?_
          refine SC.of_SE ?_
          refine SC.norm [(0, sl b o l.length c), (2, bo false), (4, pt g1 0), (5, Value.slice q1 S.length c1), (6, Value.slice q2 T.length c2), (7, iw (t : Int)), (8, iw (nx ((B.length % 16 : Nat) : Int))), (9, iw ((C.length % 16 : Nat) : Int)), (10, iw A.clk), (11, Value.slice q3 C.length c3), (12, iw ((l.length : Int) - (nn : Int))), (13, Value.slice fa f.length fc), (14, iw ((setTxF A ((B.length % 16 : Nat) : Int) f).1))] [rNic 68 g1 F7 ((setTxF A ((B.length % 16 : Nat) : Int) f).2), rRow (.slice q1 S.length c1) S 30, rRow (.slice q2 T.length c2) (T.map iw) 3, rRow (.slice q3 C.length c3) C 30] ⟨rfl, rfl, rfl, rfl, rfl, rfl, rfl, rfl, rfl, rfl, rfl, rfl, rfl, trivial⟩ rfl ?_
          refine SC.seq ?_
          refine SC.region ?_
          refine SL.ru rfl rfl (lt_b rfl) (ru_move rfl rfl) ?_
          refine SL.ru rfl rfl (lt_b rfl) (ru_move rfl rfl) ?_
          refine SL.call (ζ := Nat → Prop) (fun F8 => iw ((writeF ((setTxF A ((B.length % 16 : Nat) : Int) f).2) 5 (nx ((B.length % 16 : Nat) : Int))).1)) (fun F8 => [rNic 68 g1 F8 ((writeF ((setTxF A ((B.length % 16 : Nat) : Int) f).2) 5 (nx ((B.length % 16 : Nat) : Int))).2), rRow (.slice q1 S.length c1) S 30, rRow (.slice q2 T.length c2) (T.map iw) 3, rRow (.slice q3 C.length c3) C 30]) (fun F8 => True) rfl rfl co9 rfl rfl rfl (lt_b rfl) (fun w hI => (p_write (setTx_ok hk ((B.length % 16 : Nat) : Int) f) (nic_at hI (i := 0) rfl) 5 (nx ((B.length % 16 : Nat) : Int))).mono fun e w2 ⟨h1, h2⟩ => by obtain ⟨F2, h3⟩ := hI.nicTo (i := 0) rfl (.inr hg1) (NicTo.of h2); exact ⟨F2, h1, h3, trivial⟩) ?_
          intro F8 _
          refine SL.ru rfl rfl (lt_b rfl) (ru_assign rfl rfl) ?_
          refine SL.nil ?_
          refine SC.of_SE ?_
          refine SC.norm [(0, sl b o l.length c), (2, bo false), (4, pt g1 0), (5, Value.slice q1 S.length c1), (6, Value.slice q2 T.length c2), (7, iw (t : Int)), (8, iw (nx ((B.length % 16 : Nat) : Int))), (9, iw ((C.length % 16 : Nat) : Int)), (10, iw A.clk), (11, Value.slice q3 C.length c3), (12, iw ((l.length : Int) - (nn : Int))), (13, Value.slice fa f.length fc), (14, iw ((setTxF A ((B.length % 16 : Nat) : Int) f).1)), (15, iw ((writeF ((setTxF A ((B.length % 16 : Nat) : Int) f).2) 5 (nx ((B.length % 16 : Nat) : Int))).1))] [rNic 68 g1 F8 ((writeF ((setTxF A ((B.length % 16 : Nat) : Int) f).2) 5 (nx ((B.length % 16 : Nat) : Int))).2), rRow (.slice q1 S.length c1) S 30, rRow (.slice q2 T.length c2) (T.map iw) 3, rRow (.slice q3 C.length c3) C 30] ⟨rfl, rfl, rfl, rfl, rfl, rfl, rfl, rfl, rfl, rfl, rfl, rfl, rfl, rfl, trivial⟩ rfl ?_
          refine SC.seq ?_
          refine SC.region ?_
          refine SL.ru rfl rfl (lt_b rfl) (ru_move rfl rfl) ?_
          refine SL.ru rfl rfl (lt_b rfl) (ru_move rfl rfl) ?_
          refine SL.buildSlice (size := 1) (vals := [(0, Value.slice fa f.length fc)]) (z := [Value.slice none 0 0]) (cs := [Value.slice fa f.length fc]) rfl rfl (lt_b rfl) rfl Try.underlying28 (by kernel_rfl) rfl rfl (by kernel_rfl) fun b9 hb9 => ?_
          refine SL.append_row (ri := 1) (rj := 4) (z := Value.slice none 0 0) (bytes := 24) rfl rfl (lt_b rfl) rfl Try.underlying28 (by kernel_rfl) rfl rfl rfl rfl rfl rfl (by first | omega | (simp; omega)) (by unfold maxLen; first | omega | (simp; omega)) (fun b hb => .inr (hq1 b hb)) fun q10 c11 hq12 => ?_
          refine SL.ru rfl rfl (lt_b rfl) (ru_assign rfl rfl) ?_
          refine SL.nil ?_
          refine SC.of_SE ?_
          refine SC.norm [(0, sl b o l.length c), (2, bo false), (4, pt g1 0), (5, Value.slice q10 (S.length + 1) c11), (6, Value.slice q2 T.length c2), (7, iw (t : Int)), (8, iw (nx ((B.length % 16 : Nat) : Int))), (9, iw ((C.length % 16 : Nat) : Int)), (10, iw A.clk), (11, Value.slice q3 C.length c3), (12, iw ((l.length : Int) - (nn : Int))), (14, iw ((setTxF A ((B.length % 16 : Nat) : Int) f).1)), (15, iw ((writeF ((setTxF A ((B.length % 16 : Nat) : Int) f).2) 5 (nx ((B.length % 16 : Nat) : Int))).1))] [rNic 68 g1 F8 ((writeF ((setTxF A ((B.length % 16 : Nat) : Int) f).2) 5 (nx ((B.length % 16 : Nat) : Int))).2), rRow (.slice q10 (S.length + 1) c11) (S ++ [Value.slice fa f.length fc]) 30, rRow (.slice q2 T.length c2) (T.map iw) 3, rRow (.slice q3 C.length c3) C 30, rBlk b9 [Value.slice fa f.length fc] 30] ⟨rfl, rfl, rfl, rfl, rfl, rfl, rfl, rfl, rfl, rfl, rfl, rfl, rfl, trivial⟩ rfl ?_
          refine SC.seq ?_
          refine SC.region ?_
          refine SL.ru rfl rfl (lt_b rfl) (ru_move rfl rfl) ?_
          refine SL.ru rfl rfl (lt_b rfl) (ru_move rfl rfl) ?_
          refine SL.buildSlice (size := 1) (vals := [(0, iw A.clk)]) (z := [iw 0]) (cs := [iw A.clk]) rfl rfl (lt_b rfl) rfl Try.underlying29 (by kernel_rfl) rfl rfl (by kernel_rfl) fun b13 hb13 => ?_
          refine SL.append_row (ri := 2) (rj := 5) (z := iw 0) (bytes := 8) rfl rfl (lt_b rfl) rfl Try.underlying29 (by kernel_rfl) rfl rfl rfl rfl rfl rfl (by first | omega | (simp; omega)) (by unfold maxLen; first | omega | (simp; omega)) (fun b hb => .inr (hq2 b hb)) fun q14 c15 hq16 => ?_
          refine SL.ru rfl rfl (lt_b rfl) (ru_assign rfl rfl) ?_
          refine SL.nil ?_
          refine SC.of_SE ?_
          refine SC.norm [(0, sl b o l.length c), (2, bo false), (4, pt g1 0), (5, Value.slice q10 (S.length + 1) c11), (6, Value.slice q14 (T.length + 1) c15), (7, iw (t : Int)), (8, iw (nx ((B.length % 16 : Nat) : Int))), (9, iw ((C.length % 16 : Nat) : Int)), (10, iw A.clk), (11, Value.slice q3 C.length c3), (12, iw ((l.length : Int) - (nn : Int))), (14, iw ((setTxF A ((B.length % 16 : Nat) : Int) f).1)), (15, iw ((writeF ((setTxF A ((B.length % 16 : Nat) : Int) f).2) 5 (nx ((B.length % 16 : Nat) : Int))).1))] [rNic 68 g1 F8 ((writeF ((setTxF A ((B.length % 16 : Nat) : Int) f).2) 5 (nx ((B.length % 16 : Nat) : Int))).2), rRow (.slice q10 (S.length + 1) c11) (S ++ [Value.slice fa f.length fc]) 30, rRow (.slice q14 (T.length + 1) c15) (T.map iw ++ [iw A.clk]) 3, rRow (.slice q3 C.length c3) C 30, rBlk b9 [Value.slice fa f.length fc] 30, rBlk b13 [iw A.clk] 3] ⟨rfl, rfl, rfl, rfl, rfl, rfl, rfl, rfl, rfl, rfl, rfl, rfl, rfl, trivial⟩ rfl ?_
          refine SC.seq ?_
          refine SC.region ?_
          refine SL.ru rfl rfl (lt_b rfl) (ru_move rfl rfl) ?_
          refine SL.ru rfl rfl (lt_b rfl) (ru_ne (b := false) rfl rfl rfl (bne_f hsd.1)) ?_
          refine SL.ru rfl rfl (lt_b rfl) (ru_move rfl rfl) ?_
          refine SL.rug rfl rfl rfl rfl (lt_b rfl) (ru_move rfl rfl) ?_
          refine SL.rug rfl rfl rfl rfl (lt_b rfl) (ru_ne (b := false) rfl rfl rfl (bne_f hsd.2.1)) ?_
          refine SL.ru rfl rfl (lt_b rfl) (ru_pick (u := bo true) (v := bo false) rfl rfl rfl rfl) ?_
          refine SL.nil ?_
          refine SC.of_SE ?_
          refine SC.norm [(0, sl b o l.length c), (2, bo false), (4, pt g1 0), (5, Value.slice q10 (S.length + 1) c11), (6, Value.slice q14 (T.length + 1) c15), (7, iw (t : Int)), (8, iw (nx ((B.length % 16 : Nat) : Int))), (9, iw ((C.length % 16 : Nat) : Int)), (10, iw A.clk), (11, Value.slice q3 C.length c3), (12, iw ((l.length : Int) - (nn : Int))), (135, bo false)] [rNic 68 g1 F8 ((writeF ((setTxF A ((B.length % 16 : Nat) : Int) f).2) 5 (nx ((B.length % 16 : Nat) : Int))).2), rRow (.slice q10 (S.length + 1) c11) (S ++ [Value.slice fa f.length fc]) 30, rRow (.slice q14 (T.length + 1) c15) (T.map iw ++ [iw A.clk]) 3, rRow (.slice q3 C.length c3) C 30, rBlk b9 [Value.slice fa f.length fc] 30, rBlk b13 [iw A.clk] 3] ⟨rfl, rfl, rfl, rfl, rfl, rfl, rfl, rfl, rfl, rfl, rfl, rfl, trivial⟩ rfl ?_
          refine SC.no rfl ?_
          refine SC.skip ?_
          refine SE.blkn ?_
          refine SE.blkn ?_
          refine SC.of_SE ?_
          refine SC.norm [(0, sl b o l.length c), (2, bo false), (4, pt g1 0), (5, Value.slice q10 (S.length + 1) c11), (6, Value.slice q14 (T.length + 1) c15), (7, iw (t : Int)), (8, iw (nx ((B.length % 16 : Nat) : Int))), (9, iw ((C.length % 16 : Nat) : Int)), (10, iw A.clk), (11, Value.slice q3 C.length c3), (12, iw ((l.length : Int) - (nn : Int)))] [rNic 68 g1 F8 ((writeF ((setTxF A ((B.length % 16 : Nat) : Int) f).2) 5 (nx ((B.length % 16 : Nat) : Int))).2), rRow (.slice q10 (S.length + 1) c11) (S ++ [Value.slice fa f.length fc]) 30, rRow (.slice q14 (T.length + 1) c15) (T.map iw ++ [iw A.clk]) 3, rRow (.slice q3 C.length c3) C 30, rBlk b9 [Value.slice fa f.length fc] 30, rBlk b13 [iw A.clk] 3] ⟨rfl, rfl, rfl, rfl, rfl, rfl, rfl, rfl, rfl, rfl, rfl, trivial⟩ rfl ?_
          refine SC.region ?_
          refine SL.ru rfl rfl (lt_b rfl) (ru_move rfl rfl) ?_
          refine SL.ru rfl rfl (lt_b rfl) (ru_add (r := (IntKind.i64.wrap (((l.length : Int) - (nn : Int)) + 1))) rfl rfl rfl rfl) ?_
          refine SL.ru rfl rfl (lt_b rfl) (ru_assign rfl rfl) ?_
          refine SL.nil ?_
          refine SE.keep 4 ?_
          refine SE.again (nn - 1) ⟨(writeF ((setTxF A ((B.length % 16 : Nat) : Int) f).2) 5 (nx ((B.length % 16 : Nat) : Int))).2, F8, S ++ [Value.slice fa f.length fc], B ++ [f], T ++ [A.clk], C, t, q10, S.length + 1, c11, q14, T.length + 1, c15, q3, C.length, c3, nx ((B.length % 16 : Nat) : Int), ((C.length % 16 : Nat) : Int), A.clk, (t : Int)⟩ (by omega) ⟨(by omega), (write_ok (setTx_ok hk ((B.length % 16 : Nat) : Int) f) 5 (nx ((B.length % 16 : Nat) : Int))), (hsd.2.2.1), (by simp [hSB]), (by simp; omega), (by (try dsimp only) <;> omega), (rd_snoc hrd hSB hb), ((fun b hb => (hq12 b hb).elim (fun h => h.elim) id)), ((fun b hb => (hq16 b hb).elim (fun h => h.elim) id)), (hq3), (by simp), (by simp), (rfl), (by rw [nx_nat, List.length_append]; rfl), (rfl), (hsd.2.2.2.symm), (rfl)⟩ ⟨rfl, rfl, rfl, rfl, rfl, rfl, rfl, rfl, rfl, rfl, (congrArg (fun x => some (iw x)) (show IntKind.i64.wrap (((l.length : Int) - (nn : Int)) + 1) = (l.length : Int) - (((nn - 1 : Nat) : Int) : Int) by rw [IntKind.wrap_i64]; omega)), trivial⟩ (by simp only [List.map_append]; rfl)
      · skip
        refine SC.seq ?_
        refine SC.region ?_
        refine SL.ru rfl rfl (lt_b rfl) (ru_eq (b := (((Int.tmod k 4) : Int) == 1)) rfl rfl rfl rfl) ?_
        refine SL.ru rfl rfl (lt_b rfl) (ru_assign rfl rfl) ?_
        refine SL.nil ?_
        refine SC.of_SE ?_
        refine SC.norm [(0, sl b o l.length c), (2, bo false), (4, pt g1 0), (5, Value.slice q1 S.length c1), (6, Value.slice q2 T.length c2), (7, iw (t : Int)), (8, iw ((B.length % 16 : Nat) : Int)), (9, iw ((C.length % 16 : Nat) : Int)), (10, iw A.clk), (11, Value.slice q3 C.length c3), (12, iw ((l.length : Int) - (nn : Int))), (13, Value.slice fa f.length fc), (58, iw (Int.tmod k 4)), (136, bo (((Int.tmod k 4) : Int) == 1))] [rNic 68 g1 F A, rRow (.slice q1 S.length c1) S 30, rRow (.slice q2 T.length c2) (T.map iw) 3, rRow (.slice q3 C.length c3) C 30] ⟨rfl, rfl, rfl, rfl, rfl, rfl, rfl, rfl, rfl, rfl, rfl, rfl, rfl, rfl, trivial⟩ rfl ?_
        refine SC.both (((Int.tmod k 4) : Int) == 1) rfl (fun h17 => ?_) (fun h17 => ?_)
        · skip
          refine SC.seq ?_
          by_cases he : t = B.length
          · skip
            have htk := car_none hC he
            refine SC.region ?_
            refine SL.ru rfl rfl (lt_b rfl) (ru_move rfl rfl) ?_
            refine SL.call (ζ := Option Addr × Nat) (fun z => Value.tuple #[Value.agg #[Value.slice z.1 ((takeR A).1.1.1.length) z.2, bo false, iw ((takeR A).1.1.2)], iw ((takeR A).1.2)]) (fun z => [rNic 68 g1 F ((takeR A).2), rRow (.slice q1 S.length c1) S 30, rRow (.slice q2 T.length c2) (T.map iw) 3, rRow (.slice q3 C.length c3) C 30, rMine (.slice z.1 ((takeR A).1.1.1).length z.2) ((takeR A).1.1.1) 5]) (fun z => ∀ b, (Value.slice z.1 (takeR A).1.1.1.length z.2).ownBlock = some b → w.heap.size ≤ b) rfl rfl co11 rfl rfl rfl (lt_b rfl) (fun w hI => (p_take hk (nic_at hI (i := 0) rfl)).mono fun e w2 ⟨v, h1, h2, h3, h4⟩ => by obtain ⟨qa, qc, rfl, k1, k2⟩ := hI.took (i := 0) rfl (.inr hg1) (take_len hk) h2 h3 h4; exact ⟨(qa, qc), h1, k1, k2⟩) ?_
            rintro ⟨a18, c19⟩ hq20
            refine SL.ru rfl rfl (lt_b rfl) (ru_move rfl rfl) ?_
            refine SL.ru rfl rfl (lt_b rfl) (ru_extract rfl rfl rfl) ?_
            refine SL.ru rfl rfl (lt_b rfl) (ru_extract rfl rfl rfl) ?_
            refine SL.alloca rfl rfl (lt_b rfl) ta35 rfl fun b21 hb21 => ?_
            refine SL.storea (i := 5) (vs := [Value.slice a18 ((takeR A).1.1.1.length) c19, bo false, iw ((takeR A).1.1.2)]) (c' := [Value.slice a18 ((takeR A).1.1.1.length) c19, bo false, iw ((takeR A).1.1.2)]) rfl rfl ta35 rfl rfl rfl rfl rfl rfl (le_b rfl) (.inr hb21) rfl ?_
            refine SL.ru rfl rfl (lt_b rfl) (ru_assign rfl rfl) ?_
            refine SL.nil ?_
            refine SC.of_SE ?_
            refine SC.norm [(0, sl b o l.length c), (2, bo false), (4, pt g1 0), (5, Value.slice q1 S.length c1), (6, Value.slice q2 T.length c2), (7, iw (t : Int)), (8, iw ((B.length % 16 : Nat) : Int)), (9, iw ((C.length % 16 : Nat) : Int)), (10, iw A.clk), (11, Value.slice q3 C.length c3), (12, iw ((l.length : Int) - (nn : Int))), (16, pt b21 0), (17, iw ((takeR A).1.2))] [rNic 68 g1 F ((takeR A).2), rRow (.slice q1 S.length c1) S 30, rRow (.slice q2 T.length c2) (T.map iw) 3, rRow (.slice q3 C.length c3) C 30, rMine (.slice a18 ((takeR A).1.1.1).length c19) ((takeR A).1.1.1) 5, rBlk b21 [Value.slice a18 ((takeR A).1.1.1.length) c19, bo false, iw ((takeR A).1.1.2)] 35] ⟨rfl, rfl, rfl, rfl, rfl, rfl, rfl, rfl, rfl, rfl, rfl, rfl, rfl, trivial⟩ rfl ?_
            refine SC.seq ?_
            refine SC.seq ?_
            refine SC.region ?_
            refine SL.ru rfl rfl (lt_b rfl) (ru_move rfl rfl) ?_
            refine SL.ru rfl rfl (lt_b rfl) (ru_eq (b := false) rfl rfl rfl (beq_f (by rw [htk]; show (7 : Int) ≠ 0; decide))) ?_
            refine SL.ru rfl rfl (lt_b rfl) (ru_move rfl rfl) ?_
            refine SL.ru rfl rfl (lt_b rfl) (ru_move rfl rfl) ?_
            refine SL.ru rfl rfl (lt_b rfl) (ru_len Try.underlying28 rfl rfl) ?_
            refine SL.ru rfl rfl (lt_b rfl) (ru_lt (b := false) rfl rfl rfl (decide_eq_false (by omega))) ?_
            refine SL.ru rfl rfl (lt_b rfl) (ru_neb (b := false) Try.underlying4 rfl rfl rfl rfl) ?_
            refine SL.nil ?_
            refine SC.of_SE ?_
            refine SC.norm [(0, sl b o l.length c), (2, bo false), (4, pt g1 0), (5, Value.slice q1 S.length c1), (6, Value.slice q2 T.length c2), (7, iw (t : Int)), (8, iw ((B.length % 16 : Nat) : Int)), (9, iw ((C.length % 16 : Nat) : Int)), (10, iw A.clk), (11, Value.slice q3 C.length c3), (12, iw ((l.length : Int) - (nn : Int))), (16, pt b21 0), (17, iw ((takeR A).1.2)), (149, bo false)] [rNic 68 g1 F ((takeR A).2), rRow (.slice q1 S.length c1) S 30, rRow (.slice q2 T.length c2) (T.map iw) 3, rRow (.slice q3 C.length c3) C 30, rMine (.slice a18 ((takeR A).1.1.1).length c19) ((takeR A).1.1.1) 5, rBlk b21 [Value.slice a18 ((takeR A).1.1.1.length) c19, bo false, iw ((takeR A).1.1.2)] 35] ⟨rfl, rfl, rfl, rfl, rfl, rfl, rfl, rfl, rfl, rfl, rfl, rfl, rfl, rfl, trivial⟩ rfl ?_
            refine SC.no rfl ?_
            refine SC.skip ?_
            refine SC.of_SE ?_
            refine SC.norm [(0, sl b o l.length c), (2, bo false), (4, pt g1 0), (5, Value.slice q1 S.length c1), (6, Value.slice q2 T.length c2), (7, iw (t : Int)), (8, iw ((B.length % 16 : Nat) : Int)), (9, iw ((C.length % 16 : Nat) : Int)), (10, iw A.clk), (11, Value.slice q3 C.length c3), (12, iw ((l.length : Int) - (nn : Int))), (16, pt b21 0), (17, iw ((takeR A).1.2))] [rNic 68 g1 F ((takeR A).2), rRow (.slice q1 S.length c1) S 30, rRow (.slice q2 T.length c2) (T.map iw) 3, rRow (.slice q3 C.length c3) C 30, rMine (.slice a18 ((takeR A).1.1.1).length c19) ((takeR A).1.1.1) 5, rBlk b21 [Value.slice a18 ((takeR A).1.1.1.length) c19, bo false, iw ((takeR A).1.1.2)] 35] ⟨rfl, rfl, rfl, rfl, rfl, rfl, rfl, rfl, rfl, rfl, rfl, rfl, rfl, trivial⟩ rfl ?_
            refine SC.seq ?_
            refine SC.region ?_
            refine SL.ru rfl rfl (lt_b rfl) (ru_move rfl rfl) ?_
            refine SL.ru rfl rfl (lt_b rfl) (ru_eq (b := false) rfl rfl rfl (beq_f (by rw [htk]; show (7 : Int) ≠ 0; decide))) ?_
            refine SL.nil ?_
            refine SC.of_SE ?_
            refine SC.norm [(0, sl b o l.length c), (2, bo false), (4, pt g1 0), (5, Value.slice q1 S.length c1), (6, Value.slice q2 T.length c2), (7, iw (t : Int)), (8, iw ((B.length % 16 : Nat) : Int)), (9, iw ((C.length % 16 : Nat) : Int)), (10, iw A.clk), (11, Value.slice q3 C.length c3), (12, iw ((l.length : Int) - (nn : Int))), (16, pt b21 0), (151, bo false)] [rNic 68 g1 F ((takeR A).2), rRow (.slice q1 S.length c1) S 30, rRow (.slice q2 T.length c2) (T.map iw) 3, rRow (.slice q3 C.length c3) C 30, rMine (.slice a18 ((takeR A).1.1.1).length c19) ((takeR A).1.1.1) 5, rBlk b21 [Value.slice a18 ((takeR A).1.1.1.length) c19, bo false, iw ((takeR A).1.1.2)] 35] ⟨rfl, rfl, rfl, rfl, rfl, rfl, rfl, rfl, rfl, rfl, rfl, rfl, rfl, trivial⟩ rfl ?_
            refine SC.no rfl ?_
            refine SC.skip ?_
            refine SE.blkn ?_
            refine SE.blkn ?_
            refine SC.of_SE ?_
            refine SC.norm [(0, sl b o l.length c), (2, bo false), (4, pt g1 0), (5, Value.slice q1 S.length c1), (6, Value.slice q2 T.length c2), (7, iw (t : Int)), (8, iw ((B.length % 16 : Nat) : Int)), (9, iw ((C.length % 16 : Nat) : Int)), (10, iw A.clk), (11, Value.slice q3 C.length c3), (12, iw ((l.length : Int) - (nn : Int)))] [rNic 68 g1 F ((takeR A).2), rRow (.slice q1 S.length c1) S 30, rRow (.slice q2 T.length c2) (T.map iw) 3, rRow (.slice q3 C.length c3) C 30, rMine (.slice a18 ((takeR A).1.1.1).length c19) ((takeR A).1.1.1) 5, rBlk b21 [Value.slice a18 ((takeR A).1.1.1.length) c19, bo false, iw ((takeR A).1.1.2)] 35] ⟨rfl, rfl, rfl, rfl, rfl, rfl, rfl, rfl, rfl, rfl, rfl, trivial⟩ rfl ?_
            refine SC.region ?_
            refine SL.ru rfl rfl (lt_b rfl) (ru_move rfl rfl) ?_
            refine SL.ru rfl rfl (lt_b rfl) (ru_add (r := (IntKind.i64.wrap (((l.length : Int) - (nn : Int)) + 1))) rfl rfl rfl rfl) ?_
            refine SL.ru rfl rfl (lt_b rfl) (ru_assign rfl rfl) ?_
            refine SL.nil ?_
            refine SE.keep 4 ?_
            refine SE.again (nn - 1) ⟨(takeR A).2, F, S, B, T, C, t, q1, S.length, c1, q2, T.length, c2, q3, C.length, c3, ((B.length % 16 : Nat) : Int), ((C.length % 16 : Nat) : Int), A.clk, (t : Int)⟩ (by omega) ⟨(by omega), (takeR_ok hk), (by rw [htk]; exact hC), (hSB), (by (try dsimp only) <;> omega), (by (try dsimp only) <;> omega), (hrd), (hq1), (hq2), (hq3), (rfl), (rfl), (rfl), (rfl), (rfl), (by rw [htk]), (rfl)⟩ ⟨rfl, rfl, rfl, rfl, rfl, rfl, rfl, rfl, rfl, rfl, (congrArg (fun x => some (iw x)) (show IntKind.i64.wrap (((l.length : Int) - (nn : Int)) + 1) = (l.length : Int) - (((nn - 1 : Nat) : Int) : Int) by rw [IntKind.wrap_i64]; omega)), trivial⟩ rfl
          · skip
            have htk := car_some hC he
            have hlo := hC.lo
            obtain ⟨u, hu⟩ : ∃ u, S[t]? = some u := ⟨_, List.getElem?_eq_getElem (by omega)⟩
            have hub := hrd t u _ hu (hC.bs t (Nat.le_refl _) (by omega))
            obtain ⟨ua, uc, rfl⟩ := hub.form
            refine SC.region ?_
            refine SL.ru rfl rfl (lt_b rfl) (ru_move rfl rfl) ?_
            refine SL.call (ζ := Option Addr × Nat) (fun z => Value.tuple #[Value.agg #[Value.slice z.1 ((takeR A).1.1.1.length) z.2, bo false, iw ((takeR A).1.1.2)], iw ((takeR A).1.2)]) (fun z => [rNic 68 g1 F ((takeR A).2), rRow (.slice q1 S.length c1) S 30, rRow (.slice q2 T.length c2) (T.map iw) 3, rRow (.slice q3 C.length c3) C 30, rMine (.slice z.1 ((takeR A).1.1.1).length z.2) ((takeR A).1.1.1) 5]) (fun z => ∀ b, (Value.slice z.1 (takeR A).1.1.1.length z.2).ownBlock = some b → w.heap.size ≤ b) rfl rfl co11 rfl rfl rfl (lt_b rfl) (fun w hI => (p_take hk (nic_at hI (i := 0) rfl)).mono fun e w2 ⟨v, h1, h2, h3, h4⟩ => by obtain ⟨qa, qc, rfl, k1, k2⟩ := hI.took (i := 0) rfl (.inr hg1) (take_len hk) h2 h3 h4; exact ⟨(qa, qc), h1, k1, k2⟩) ?_
            rintro ⟨a22, c23⟩ hq24
            refine SL.ru rfl rfl (lt_b rfl) (ru_move rfl rfl) ?_
            refine SL.ru rfl rfl (lt_b rfl) (ru_extract rfl rfl rfl) ?_
            refine SL.ru rfl rfl (lt_b rfl) (ru_extract rfl rfl rfl) ?_
            refine SL.alloca rfl rfl (lt_b rfl) ta35 rfl fun b25 hb25 => ?_
            refine SL.storea (i := 5) (vs := [Value.slice a22 ((takeR A).1.1.1.length) c23, bo false, iw ((takeR A).1.1.2)]) (c' := [Value.slice a22 ((takeR A).1.1.1.length) c23, bo false, iw ((takeR A).1.1.2)]) rfl rfl ta35 rfl rfl rfl rfl rfl rfl (le_b rfl) (.inr hb25) rfl ?_
            refine SL.ru rfl rfl (lt_b rfl) (ru_assign rfl rfl) ?_
            refine SL.nil ?_
            refine SC.of_SE ?_
            refine SC.norm [(0, sl b o l.length c), (2, bo false), (4, pt g1 0), (5, Value.slice q1 S.length c1), (6, Value.slice q2 T.length c2), (7, iw (t : Int)), (8, iw ((B.length % 16 : Nat) : Int)), (9, iw ((C.length % 16 : Nat) : Int)), (10, iw A.clk), (11, Value.slice q3 C.length c3), (12, iw ((l.length : Int) - (nn : Int))), (16, pt b25 0), (17, iw ((takeR A).1.2))] [rNic 68 g1 F ((takeR A).2), rRow (.slice q1 S.length c1) S 30, rRow (.slice q2 T.length c2) (T.map iw) 3, rRow (.slice q3 C.length c3) C 30, rMine (.slice a22 ((takeR A).1.1.1).length c23) ((takeR A).1.1.1) 5, rBlk b25 [Value.slice a22 ((takeR A).1.1.1.length) c23, bo false, iw ((takeR A).1.1.2)] 35] ⟨rfl, rfl, rfl, rfl, rfl, rfl, rfl, rfl, rfl, rfl, rfl, rfl, rfl, trivial⟩ rfl ?_
            refine SC.seq ?_
            refine SC.seq ?_
            refine SC.region ?_
            refine SL.ru rfl rfl (lt_b rfl) (ru_move rfl rfl) ?_
            refine SL.ru rfl rfl (lt_b rfl) (ru_eq (b := true) rfl rfl rfl (beq_t (by rw [htk]))) ?_
            refine SL.ru rfl rfl (lt_b rfl) (ru_move rfl rfl) ?_
            refine SL.ru rfl rfl (lt_b rfl) (ru_move rfl rfl) ?_
            refine SL.ru rfl rfl (lt_b rfl) (ru_len Try.underlying28 rfl rfl) ?_
            refine SL.ru rfl rfl (lt_b rfl) (ru_lt (b := true) rfl rfl rfl (decide_eq_true (by omega))) ?_
            refine SL.ru rfl rfl (lt_b rfl) (ru_neb (b := false) Try.underlying4 rfl rfl rfl rfl) ?_
            refine SL.nil ?_
            refine SC.of_SE ?_
            refine SC.norm [(0, sl b o l.length c), (2, bo false), (4, pt g1 0), (5, Value.slice q1 S.length c1), (6, Value.slice q2 T.length c2), (7, iw (t : Int)), (8, iw ((B.length % 16 : Nat) : Int)), (9, iw ((C.length % 16 : Nat) : Int)), (10, iw A.clk), (11, Value.slice q3 C.length c3), (12, iw ((l.length : Int) - (nn : Int))), (16, pt b25 0), (17, iw ((takeR A).1.2)), (149, bo false)] [rNic 68 g1 F ((takeR A).2), rRow (.slice q1 S.length c1) S 30, rRow (.slice q2 T.length c2) (T.map iw) 3, rRow (.slice q3 C.length c3) C 30, rMine (.slice a22 ((takeR A).1.1.1).length c23) ((takeR A).1.1.1) 5, rBlk b25 [Value.slice a22 ((takeR A).1.1.1.length) c23, bo false, iw ((takeR A).1.1.2)] 35] ⟨rfl, rfl, rfl, rfl, rfl, rfl, rfl, rfl, rfl, rfl, rfl, rfl, rfl, rfl, trivial⟩ rfl ?_
            refine SC.no rfl ?_
            refine SC.skip ?_
            refine SC.of_SE ?_
            refine SC.norm [(0, sl b o l.length c), (2, bo false), (4, pt g1 0), (5, Value.slice q1 S.length c1), (6, Value.slice q2 T.length c2), (7, iw (t : Int)), (8, iw ((B.length % 16 : Nat) : Int)), (9, iw ((C.length % 16 : Nat) : Int)), (10, iw A.clk), (11, Value.slice q3 C.length c3), (12, iw ((l.length : Int) - (nn : Int))), (16, pt b25 0), (17, iw ((takeR A).1.2))] [rNic 68 g1 F ((takeR A).2), rRow (.slice q1 S.length c1) S 30, rRow (.slice q2 T.length c2) (T.map iw) 3, rRow (.slice q3 C.length c3) C 30, rMine (.slice a22 ((takeR A).1.1.1).length c23) ((takeR A).1.1.1) 5, rBlk b25 [Value.slice a22 ((takeR A).1.1.1.length) c23, bo false, iw ((takeR A).1.1.2)] 35] ⟨rfl, rfl, rfl, rfl, rfl, rfl, rfl, rfl, rfl, rfl, rfl, rfl, rfl, trivial⟩ rfl ?_
            refine SC.seq ?_
            refine SC.region ?_
            refine SL.ru rfl rfl (lt_b rfl) (ru_move rfl rfl) ?_
            refine SL.ru rfl rfl (lt_b rfl) (ru_eq (b := true) rfl rfl rfl (beq_t (by rw [htk]))) ?_
            refine SL.nil ?_
            refine SC.of_SE ?_
            refine SC.norm [(0, sl b o l.length c), (2, bo false), (4, pt g1 0), (5, Value.slice q1 S.length c1), (6, Value.slice q2 T.length c2), (7, iw (t : Int)), (8, iw ((B.length % 16 : Nat) : Int)), (9, iw ((C.length % 16 : Nat) : Int)), (10, iw A.clk), (11, Value.slice q3 C.length c3), (12, iw ((l.length : Int) - (nn : Int))), (16, pt b25 0), (151, bo true)] [rNic 68 g1 F ((takeR A).2), rRow (.slice q1 S.length c1) S 30, rRow (.slice q2 T.length c2) (T.map iw) 3, rRow (.slice q3 C.length c3) C 30, rMine (.slice a22 ((takeR A).1.1.1).length c23) ((takeR A).1.1.1) 5, rBlk b25 [Value.slice a22 ((takeR A).1.1.1.length) c23, bo false, iw ((takeR A).1.1.2)] 35] ⟨rfl, rfl, rfl, rfl, rfl, rfl, rfl, rfl, rfl, rfl, rfl, rfl, rfl, trivial⟩ rfl ?_
            refine SC.yes rfl ?_
            refine SC.seq ?_
            refine SC.seq ?_
            refine SC.region_quiet (by kernel_rfl) (by kernel_rfl) ?_
            refine SQ.ru rfl rfl (lt_b rfl) (ru_fieldAddr (o2 := 0) fd35_0 rfl rfl rfl) ?_
            refine SQ.ru rfl rfl (lt_b rfl) (ru_load (i := 5) ts30 rfl rfl rfl rfl) ?_
            refine SQ.ru rfl rfl (lt_b rfl) (ru_str (f := (takeR A).1.1.1) Try.underlying30 Try.underlying5 Try.underlying9 rfl rfl (fun w hI => OwnBytes.bytes (hI.1.get (i := 4) rfl) (take_len hk))) ?_
            refine SQ.ru rfl rfl (lt_b rfl) (ru_move rfl rfl) ?_
            refine SQ.ru rfl rfl (lt_b rfl) (ru_move rfl rfl) ?_
            refine SQ.ru rfl rfl (lt_b rfl) (ru_index_row (ri := 1) si28 rfl rfl rfl rfl (by omega) (by omega)) ?_
            refine SQ.ru rfl rfl (lt_b rfl) (ru_load_row (ri := 1) (u := .slice ua (A.tb (t % 16)).length uc) ts30 rfl rfl rfl (by rw [Int.toNat_natCast]; exact hu)) ?_
            refine SQ.ru rfl rfl (lt_b rfl) (ru_str (f := A.tb (t % 16)) Try.underlying30 Try.underlying5 Try.underlying9 rfl rfl (fun w hI => hub.only hI.2 (fun _ _ _ _ _ _ h => h))) ?_
            refine SQ.ru rfl rfl (lt_b rfl) (ru_strne (f := (takeR A).1.1.1) (h := A.tb (t % 16)) (b := false) Try.underlying9 rfl rfl rfl (by rw [htk]; simp)) ?_
            refine SQ.ru rfl rfl (lt_b rfl) (ru_move rfl rfl) ?_
            refine SQ.rug rfl rfl rfl rfl (lt_b rfl) (ru_fieldAddr (o2 := 2) fd35_2 rfl rfl rfl) ?_
            refine SQ.rug rfl rfl rfl rfl (lt_b rfl) (ru_load (i := 5) ts3 rfl rfl rfl rfl) ?_
            refine SQ.rug rfl rfl rfl rfl (lt_b rfl) (ru_move rfl rfl) ?_
            refine SQ.rug rfl rfl rfl rfl (lt_b rfl) (ru_move rfl rfl) ?_
            refine SQ.rug rfl rfl rfl rfl (lt_b rfl) (ru_index_row (ri := 2) si29 rfl rfl rfl rfl (by omega) (by omega)) ?_
            refine SQ.rug rfl rfl rfl rfl (lt_b rfl) (ru_load_row (ri := 2) (u := iw (A.tp (t % 16))) ts3 rfl rfl rfl (by rw [Int.toNat_natCast, List.getElem?_map, hC.ts t (Nat.le_refl _) (by omega)]; rfl)) ?_
            refine SQ.rug rfl rfl rfl rfl (lt_b rfl) (ru_ne (b := false) rfl rfl rfl (bne_f (by rw [htk]))) ?_
            refine SQ.ru rfl rfl (lt_b rfl) (ru_pick (u := bo true) (v := bo false) rfl rfl rfl rfl) ?_
            refine SQ.nilE ?_
            refine SC.of_SE ?_
            refine SC.norm [(0, sl b o l.length c), (2, bo false), (4, pt g1 0), (5, Value.slice q1 S.length c1), (6, Value.slice q2 T.length c2), (7, iw (t : Int)), (8, iw ((B.length % 16 : Nat) : Int)), (9, iw ((C.length % 16 : Nat) : Int)), (10, iw A.clk), (11, Value.slice q3 C.length c3), (12, iw ((l.length : Int) - (nn : Int))), (169, bo false)] [rNic 68 g1 F ((takeR A).2), rRow (.slice q1 S.length c1) S 30, rRow (.slice q2 T.length c2) (T.map iw) 3, rRow (.slice q3 C.length c3) C 30, rMine (.slice a22 ((takeR A).1.1.1).length c23) ((takeR A).1.1.1) 5, rBlk b25 [Value.slice a22 ((takeR A).1.1.1.length) c23, bo false, iw ((takeR A).1.1.2)] 35] ⟨rfl, rfl, rfl, rfl, rfl, rfl, rfl, rfl, rfl, rfl, rfl, rfl, trivial⟩ rfl ?_
            refine SC.no rfl ?_
            refine SC.skip ?_
            refine SC.of_SE ?_
            refine SC.norm [(0, sl b o l.length c), (2, bo false), (4, pt g1 0), (5, Value.slice q1 S.length c1), (6, Value.slice q2 T.length c2), (7, iw (t : Int)), (8, iw ((B.length % 16 : Nat) : Int)), (9, iw ((C.length % 16 : Nat) : Int)), (10, iw A.clk), (11, Value.slice q3 C.length c3), (12, iw ((l.length : Int) - (nn : Int)))] [rNic 68 g1 F ((takeR A).2), rRow (.slice q1 S.length c1) S 30, rRow (.slice q2 T.length c2) (T.map iw) 3, rRow (.slice q3 C.length c3) C 30, rMine (.slice a22 ((takeR A).1.1.1).length c23) ((takeR A).1.1.1) 5, rBlk b25 [Value.slice a22 ((takeR A).1.1.1.length) c23, bo false, iw ((takeR A).1.1.2)] 35] ⟨rfl, rfl, rfl, rfl, rfl, rfl, rfl, rfl, rfl, rfl, rfl, trivial⟩ rfl ?_
            refine SC.region ?_
            refine SL.ru rfl rfl (lt_b rfl) (ru_move rfl rfl) ?_
            refine SL.ru rfl rfl (lt_b rfl) (ru_add (r := (IntKind.i64.wrap ((t : Int) + 1))) rfl rfl rfl rfl) ?_
            refine SL.ru rfl rfl (lt_b rfl) (ru_assign rfl rfl) ?_
            refine SL.nil ?_
            refine SE.blkn ?_
            refine SE.blkn ?_
            refine SC.of_SE ?_
            refine SC.norm [(0, sl b o l.length c), (2, bo false), (4, pt g1 0), (5, Value.slice q1 S.length c1), (6, Value.slice q2 T.length c2), (7, iw (IntKind.i64.wrap ((t : Int) + 1))), (8, iw ((B.length % 16 : Nat) : Int)), (9, iw ((C.length % 16 : Nat) : Int)), (10, iw A.clk), (11, Value.slice q3 C.length c3), (12, iw ((l.length : Int) - (nn : Int)))] [rNic 68 g1 F ((takeR A).2), rRow (.slice q1 S.length c1) S 30, rRow (.slice q2 T.length c2) (T.map iw) 3, rRow (.slice q3 C.length c3) C 30, rMine (.slice a22 ((takeR A).1.1.1).length c23) ((takeR A).1.1.1) 5, rBlk b25 [Value.slice a22 ((takeR A).1.1.1.length) c23, bo false, iw ((takeR A).1.1.2)] 35] ⟨rfl, rfl, rfl, rfl, rfl, rfl, rfl, rfl, rfl, rfl, rfl, trivial⟩ rfl ?_
            refine SC.region ?_
            refine SL.ru rfl rfl (lt_b rfl) (ru_move rfl rfl) ?_
            refine SL.ru rfl rfl (lt_b rfl) (ru_add (r := (IntKind.i64.wrap (((l.length : Int) - (nn : Int)) + 1))) rfl rfl rfl rfl) ?_
            refine SL.ru rfl rfl (lt_b rfl) (ru_assign rfl rfl) ?_
            refine SL.nil ?_
            refine SE.keep 4 ?_
            refine SE.again (nn - 1) ⟨(takeR A).2, F, S, B, T, C, t + 1, q1, S.length, c1, q2, T.length, c2, q3, C.length, c3, ((B.length % 16 : Nat) : Int), ((C.length % 16 : Nat) : Int), A.clk, IntKind.i64.wrap ((t : Int) + 1)⟩ (by omega) ⟨(by omega), (takeR_ok hk), (by rw [htk]; exact car_take hC he), (hSB), (by (try dsimp only) <;> omega), (by (try dsimp only) <;> omega), (hrd), (hq1), (hq2), (hq3), (rfl), (rfl), (rfl), (rfl), (rfl), (by rw [htk]; rfl), (by rw [IntKind.wrap_i64]; have := hC.lo; dsimp only; omega)⟩ ⟨rfl, rfl, rfl, rfl, rfl, rfl, rfl, rfl, rfl, rfl, (congrArg (fun x => some (iw x)) (show IntKind.i64.wrap (((l.length : Int) - (nn : Int)) + 1) = (l.length : Int) - (((nn - 1 : Nat) : Int) : Int) by rw [IntKind.wrap_i64]; omega)), trivial⟩ rfl
        · skip
          refine SC.seq ?_
          refine SC.region ?_
          refine SL.ru rfl rfl (lt_b rfl) (ru_eq (b := (((Int.tmod k 4) : Int) == 2)) rfl rfl rfl rfl) ?_
          refine SL.ru rfl rfl (lt_b rfl) (ru_assign rfl rfl) ?_
          refine SL.nil ?_
          refine SC.of_SE ?_
          refine SC.norm [(0, sl b o l.length c), (2, bo false), (4, pt g1 0), (5, Value.slice q1 S.length c1), (6, Value.slice q2 T.length c2), (7, iw (t : Int)), (8, iw ((B.length % 16 : Nat) : Int)), (9, iw ((C.length % 16 : Nat) : Int)), (10, iw A.clk), (11, Value.slice q3 C.length c3), (12, iw ((l.length : Int) - (nn : Int))), (13, Value.slice fa f.length fc), (172, bo (((Int.tmod k 4) : Int) == 2))] [rNic 68 g1 F A, rRow (.slice q1 S.length c1) S 30, rRow (.slice q2 T.length c2) (T.map iw) 3, rRow (.slice q3 C.length c3) C 30] ⟨rfl, rfl, rfl, rfl, rfl, rfl, rfl, rfl, rfl, rfl, rfl, rfl, rfl, trivial⟩ rfl ?_
          refine SC.both (((Int.tmod k 4) : Int) == 2) rfl (fun h26 => ?_) (fun h26 => ?_)
          · skip
            refine SC.seq ?_
            refine SC.region ?_
            refine SL.ru rfl rfl (lt_b rfl) (ru_move rfl rfl) ?_
            refine SL.call (ζ := Nat → Prop) (fun F27 => Value.tuple #[]) (fun F27 => [rNic 68 g1 F27 (tickF A), rRow (.slice q1 S.length c1) S 30, rRow (.slice q2 T.length c2) (T.map iw) 3, rRow (.slice q3 C.length c3) C 30]) (fun F27 => True) rfl rfl co12 rfl rfl rfl (lt_b rfl) (fun w hI => (p_tick hk (nic_at hI (i := 0) rfl)).mono fun e w2 ⟨h1, h2⟩ => by obtain ⟨F2, h3⟩ := hI.nicTo (i := 0) rfl (.inr hg1) h2; exact ⟨F2, h1, h3, trivial⟩) ?_
            intro F27 _
            refine SL.nil ?_
            refine SC.of_SE ?_
            refine SC.norm [(0, sl b o l.length c), (2, bo false), (4, pt g1 0), (5, Value.slice q1 S.length c1), (6, Value.slice q2 T.length c2), (7, iw (t : Int)), (8, iw ((B.length % 16 : Nat) : Int)), (9, iw ((C.length % 16 : Nat) : Int)), (10, iw A.clk), (11, Value.slice q3 C.length c3), (12, iw ((l.length : Int) - (nn : Int)))] [rNic 68 g1 F27 (tickF A), rRow (.slice q1 S.length c1) S 30, rRow (.slice q2 T.length c2) (T.map iw) 3, rRow (.slice q3 C.length c3) C 30] ⟨rfl, rfl, rfl, rfl, rfl, rfl, rfl, rfl, rfl, rfl, rfl, trivial⟩ rfl ?_
            refine SC.region ?_
            refine SL.ru rfl rfl (lt_b rfl) (ru_move rfl rfl) ?_
            refine SL.ru rfl rfl (lt_b rfl) (ru_add (r := (IntKind.i64.wrap (A.clk + 1))) rfl rfl rfl rfl) ?_
            refine SL.ru rfl rfl (lt_b rfl) (ru_assign rfl rfl) ?_
            refine SL.nil ?_
            refine SE.blkn ?_
            refine SE.blkn ?_
            refine SC.of_SE ?_
            refine SC.norm [(0, sl b o l.length c), (2, bo false), (4, pt g1 0), (5, Value.slice q1 S.length c1), (6, Value.slice q2 T.length c2), (7, iw (t : Int)), (8, iw ((B.length % 16 : Nat) : Int)), (9, iw ((C.length % 16 : Nat) : Int)), (10, iw (IntKind.i64.wrap (A.clk + 1))), (11, Value.slice q3 C.length c3), (12, iw ((l.length : Int) - (nn : Int)))] [rNic 68 g1 F27 (tickF A), rRow (.slice q1 S.length c1) S 30, rRow (.slice q2 T.length c2) (T.map iw) 3, rRow (.slice q3 C.length c3) C 30] ⟨rfl, rfl, rfl, rfl, rfl, rfl, rfl, rfl, rfl, rfl, rfl, trivial⟩ rfl ?_
            refine SC.region ?_
            refine SL.ru rfl rfl (lt_b rfl) (ru_move rfl rfl) ?_
            refine SL.ru rfl rfl (lt_b rfl) (ru_add (r := (IntKind.i64.wrap (((l.length : Int) - (nn : Int)) + 1))) rfl rfl rfl rfl) ?_
            refine SL.ru rfl rfl (lt_b rfl) (ru_assign rfl rfl) ?_
            refine SL.nil ?_
            refine SE.again (nn - 1) ⟨tickF A, F27, S, B, T, C, t, q1, S.length, c1, q2, T.length, c2, q3, C.length, c3, ((B.length % 16 : Nat) : Int), ((C.length % 16 : Nat) : Int), IntKind.i64.wrap (A.clk + 1), (t : Int)⟩ (by omega) ⟨(by omega), (tick_ok hk), (car_tick hC), (hSB), (by (try dsimp only) <;> omega), (by (try dsimp only) <;> omega), (hrd), (hq1), (hq2), (hq3), (rfl), (rfl), (rfl), (rfl), (rfl), (rfl), (rfl)⟩ ⟨rfl, rfl, rfl, rfl, rfl, rfl, rfl, rfl, rfl, rfl, (congrArg (fun x => some (iw x)) (show IntKind.i64.wrap (((l.length : Int) - (nn : Int)) + 1) = (l.length : Int) - (((nn - 1 : Nat) : Int) : Int) by rw [IntKind.wrap_i64]; omega)), trivial⟩ rfl
          · skip
            have hcm := car_come hC hf.2
            refine SC.seq ?_
            refine SC.region ?_
            refine SL.ru rfl rfl (lt_b rfl) (ru_move rfl rfl) ?_
            refine SL.ru rfl rfl (lt_b rfl) (ru_move rfl rfl) ?_
            refine SL.call (ζ := Nat → Prop) (fun F28 => iw ((setRxF A ((C.length % 16 : Nat) : Int) 274).1)) (fun F28 => [rNic 68 g1 F28 ((setRxF A ((C.length % 16 : Nat) : Int) 274).2), rRow (.slice q1 S.length c1) S 30, rRow (.slice q2 T.length c2) (T.map iw) 3, rRow (.slice q3 C.length c3) C 30]) (fun F28 => True) rfl rfl co13 rfl rfl rfl (lt_b rfl) (fun w hI => (p_setrx hk (nic_at hI (i := 0) rfl) ((C.length % 16 : Nat) : Int) 274).mono fun e w2 ⟨h1, h2⟩ => by obtain ⟨F2, h3⟩ := hI.nicTo (i := 0) rfl (.inr hg1) h2; exact ⟨F2, h1, h3, trivial⟩) ?_
            intro F28 _
            refine SL.ru rfl rfl (lt_b rfl) (ru_assign rfl rfl) ?_
            refine SL.nil ?_
            refine SC.of_SE ?_
            refine SC.norm [(0, sl b o l.length c), (2, bo false), (4, pt g1 0), (5, Value.slice q1 S.length c1), (6, Value.slice q2 T.length c2), (7, iw (t : Int)), (8, iw ((B.length % 16 : Nat) : Int)), (9, iw ((C.length % 16 : Nat) : Int)), (10, iw A.clk), (11, Value.slice q3 C.length c3), (12, iw ((l.length : Int) - (nn : Int))), (13, Value.slice fa f.length fc), (18, iw ((setRxF A ((C.length % 16 : Nat) : Int) 274).1))] [rNic 68 g1 F28 ((setRxF A ((C.length % 16 : Nat) : Int) 274).2), rRow (.slice q1 S.length c1) S 30, rRow (.slice q2 T.length c2) (T.map iw) 3, rRow (.slice q3 C.length c3) C 30] ⟨rfl, rfl, rfl, rfl, rfl, rfl, rfl, rfl, rfl, rfl, rfl, rfl, rfl, trivial⟩ rfl ?_
            refine SC.seq ?_
            refine SC.region ?_
            refine SL.ru rfl rfl (lt_b rfl) (ru_move rfl rfl) ?_
            refine SL.ru rfl rfl (lt_b rfl) (ru_move rfl rfl) ?_
            refine SL.ru rfl rfl (lt_b rfl) (ru_add (r := (IntKind.i64.wrap (((C.length % 16 : Nat) : Int) + 1))) rfl rfl rfl rfl) ?_
            refine SL.ru rfl rfl (lt_b rfl) (ru_rem (r := (nx ((C.length % 16 : Nat) : Int))) rfl rfl rfl (by decide) (nx_q (by omega))) ?_
            refine SL.call (ζ := Nat → Prop) (fun F29 => iw ((writeF ((setRxF A ((C.length % 16 : Nat) : Int) 274).2) 3 (nx ((C.length % 16 : Nat) : Int))).1)) (fun F29 => [rNic 68 g1 F29 ((writeF ((setRxF A ((C.length % 16 : Nat) : Int) 274).2) 3 (nx ((C.length % 16 : Nat) : Int))).2), rRow (.slice q1 S.length c1) S 30, rRow (.slice q2 T.length c2) (T.map iw) 3, rRow (.slice q3 C.length c3) C 30]) (fun F29 => True) rfl rfl co9 rfl rfl rfl (lt_b rfl) (fun w hI => (p_write (setRx_ok hk ((C.length % 16 : Nat) : Int) 274) (nic_at hI (i := 0) rfl) 3 (nx ((C.length % 16 : Nat) : Int))).mono fun e w2 ⟨h1, h2⟩ => by obtain ⟨F2, h3⟩ := hI.nicTo (i := 0) rfl (.inr hg1) (NicTo.of h2); exact ⟨F2, h1, h3, trivial⟩) ?_
            intro F29 _
            refine SL.ru rfl rfl (lt_b rfl) (ru_assign rfl rfl) ?_
            refine SL.nil ?_
            refine SC.of_SE ?_
            refine SC.norm [(0, sl b o l.length c), (2, bo false), (4, pt g1 0), (5, Value.slice q1 S.length c1), (6, Value.slice q2 T.length c2), (7, iw (t : Int)), (8, iw ((B.length % 16 : Nat) : Int)), (9, iw ((C.length % 16 : Nat) : Int)), (10, iw A.clk), (11, Value.slice q3 C.length c3), (12, iw ((l.length : Int) - (nn : Int))), (13, Value.slice fa f.length fc), (18, iw ((setRxF A ((C.length % 16 : Nat) : Int) 274).1)), (19, iw ((writeF ((setRxF A ((C.length % 16 : Nat) : Int) 274).2) 3 (nx ((C.length % 16 : Nat) : Int))).1))] [rNic 68 g1 F29 ((writeF ((setRxF A ((C.length % 16 : Nat) : Int) 274).2) 3 (nx ((C.length % 16 : Nat) : Int))).2), rRow (.slice q1 S.length c1) S 30, rRow (.slice q2 T.length c2) (T.map iw) 3, rRow (.slice q3 C.length c3) C 30] ⟨rfl, rfl, rfl, rfl, rfl, rfl, rfl, rfl, rfl, rfl, rfl, rfl, rfl, rfl, trivial⟩ rfl ?_
            refine SC.seq ?_
            refine SC.region ?_
            refine SL.ru rfl rfl (lt_b rfl) (ru_move rfl rfl) ?_
            refine SL.ru rfl rfl (lt_b rfl) (ru_move rfl rfl) ?_
            refine SL.call (ζ := Nat → Prop) (fun F30 => iw ((giveF ((writeF ((setRxF A ((C.length % 16 : Nat) : Int) 274).2) 3 (nx ((C.length % 16 : Nat) : Int))).2) f false).1)) (fun F30 => [rNic 68 g1 F30 ((giveF ((writeF ((setRxF A ((C.length % 16 : Nat) : Int) 274).2) 3 (nx ((C.length % 16 : Nat) : Int))).2) f false).2), rRow (.slice q1 S.length c1) S 30, rRow (.slice q2 T.length c2) (T.map iw) 3, rRow (.slice q3 C.length c3) C 30]) (fun F30 => True) rfl rfl co14 rfl rfl rfl (lt_b rfl) (fun w hI => (p_give (write_ok (setRx_ok hk ((C.length % 16 : Nat) : Int) 274) 3 (nx ((C.length % 16 : Nat) : Int))) (nic_at hI (i := 0) rfl) (hb.only hI.2 (fun _ _ _ _ _ _ h => h)) (fun b o n c e hn h => by have := hs b o n c e hn; subst h; omega) false).mono fun e w2 ⟨h1, h2⟩ => by obtain ⟨F2, h3⟩ := hI.nicTo (i := 0) rfl (.inr hg1) h2; exact ⟨F2, h1, h3, trivial⟩) ?_
            intro F30 _
            refine SL.ru rfl rfl (lt_b rfl) (ru_assign rfl rfl) ?_
            refine SL.nil ?_
            refine SC.of_SE ?_
            refine SC.norm [(0, sl b o l.length c), (2, bo false), (4, pt g1 0), (5, Value.slice q1 S.length c1), (6, Value.slice q2 T.length c2), (7, iw (t : Int)), (8, iw ((B.length % 16 : Nat) : Int)), (9, iw ((C.length % 16 : Nat) : Int)), (10, iw A.clk), (11, Value.slice q3 C.length c3), (12, iw ((l.length : Int) - (nn : Int))), (13, Value.slice fa f.length fc), (18, iw ((setRxF A ((C.length % 16 : Nat) : Int) 274).1)), (19, iw ((writeF ((setRxF A ((C.length % 16 : Nat) : Int) 274).2) 3 (nx ((C.length % 16 : Nat) : Int))).1)), (20, iw ((giveF ((writeF ((setRxF A ((C.length % 16 : Nat) : Int) 274).2) 3 (nx ((C.length % 16 : Nat) : Int))).2) f false).1))] [rNic 68 g1 F30 ((giveF ((writeF ((setRxF A ((C.length % 16 : Nat) : Int) 274).2) 3 (nx ((C.length % 16 : Nat) : Int))).2) f false).2), rRow (.slice q1 S.length c1) S 30, rRow (.slice q2 T.length c2) (T.map iw) 3, rRow (.slice q3 C.length c3) C 30] ⟨rfl, rfl, rfl, rfl, rfl, rfl, rfl, rfl, rfl, rfl, rfl, rfl, rfl, rfl, rfl, trivial⟩ rfl ?_
            refine SC.seq ?_
            refine SC.region ?_
            refine SL.ru rfl rfl (lt_b rfl) (ru_move rfl rfl) ?_
            refine SL.ru rfl rfl (lt_b rfl) (ru_move rfl rfl) ?_
            refine SL.call (ζ := Option Addr × Nat) (fun z => Value.tuple #[Value.slice z.1 ((rxR ((giveF ((writeF ((setRxF A ((C.length % 16 : Nat) : Int) 274).2) 3 (nx ((C.length % 16 : Nat) : Int))).2) f false).2) ((C.length % 16 : Nat) : Int)).1.1.length) z.2, bo ((rxR ((giveF ((writeF ((setRxF A ((C.length % 16 : Nat) : Int) 274).2) 3 (nx ((C.length % 16 : Nat) : Int))).2) f false).2) ((C.length % 16 : Nat) : Int)).1.2), iw ((rxR ((giveF ((writeF ((setRxF A ((C.length % 16 : Nat) : Int) 274).2) 3 (nx ((C.length % 16 : Nat) : Int))).2) f false).2) ((C.length % 16 : Nat) : Int)).2)]) (fun z => [rNic 68 g1 F30 ((giveF ((writeF ((setRxF A ((C.length % 16 : Nat) : Int) 274).2) 3 (nx ((C.length % 16 : Nat) : Int))).2) f false).2), rRow (.slice q1 S.length c1) S 30, rRow (.slice q2 T.length c2) (T.map iw) 3, rRow (.slice q3 C.length c3) C 30, rMine (.slice z.1 ((rxR ((giveF ((writeF ((setRxF A ((C.length % 16 : Nat) : Int) 274).2) 3 (nx ((C.length % 16 : Nat) : Int))).2) f false).2) ((C.length % 16 : Nat) : Int)).1.1).length z.2) ((rxR ((giveF ((writeF ((setRxF A ((C.length % 16 : Nat) : Int) 274).2) 3 (nx ((C.length % 16 : Nat) : Int))).2) f false).2) ((C.length % 16 : Nat) : Int)).1.1) 5]) (fun z => ∀ b, (Value.slice z.1 (rxR ((giveF ((writeF ((setRxF A ((C.length % 16 : Nat) : Int) 274).2) 3 (nx ((C.length % 16 : Nat) : Int))).2) f false).2) ((C.length % 16 : Nat) : Int)).1.1.length z.2).ownBlock = some b → w.heap.size ≤ b) rfl rfl co15 rfl rfl rfl (lt_b rfl) (fun w hI => (p_rx (give_ok (write_ok (setRx_ok hk ((C.length % 16 : Nat) : Int) 274) 3 (nx ((C.length % 16 : Nat) : Int))) f false) (nic_at hI (i := 0) rfl) ((C.length % 16 : Nat) : Int)).mono fun e w2 ⟨v, h1, h3, h4⟩ => by obtain ⟨qa, qc, rfl, k1, k2⟩ := hI.rxed (rx_len (give_ok (write_ok (setRx_ok hk ((C.length % 16 : Nat) : Int) 274) 3 (nx ((C.length % 16 : Nat) : Int))) f false) _) h3 h4; exact ⟨(qa, qc), h1, k1, k2⟩) ?_
            rintro ⟨a31, c32⟩ hq33
            refine SL.ru rfl rfl (lt_b rfl) (ru_move rfl rfl) ?_
            refine SL.ru rfl rfl (lt_b rfl) (ru_extract rfl rfl rfl) ?_
            refine SL.ru rfl rfl (lt_b rfl) (ru_extract rfl rfl rfl) ?_
            refine SL.ru rfl rfl (lt_b rfl) (ru_extract rfl rfl rfl) ?_
            refine SL.ru rfl rfl (lt_b rfl) (ru_assign rfl rfl) ?_
            refine SL.ru rfl rfl (lt_b rfl) (ru_assign rfl rfl) ?_
            refine SL.ru rfl rfl (lt_b rfl) (ru_assign rfl rfl) ?_
            refine SL.nil ?_
            refine SC.of_SE ?_
            refine SC.norm [(0, sl b o l.length c), (2, bo false), (4, pt g1 0), (5, Value.slice q1 S.length c1), (6, Value.slice q2 T.length c2), (7, iw (t : Int)), (8, iw ((B.length % 16 : Nat) : Int)), (9, iw ((C.length % 16 : Nat) : Int)), (10, iw A.clk), (11, Value.slice q3 C.length c3), (12, iw ((l.length : Int) - (nn : Int))), (13, Value.slice fa f.length fc), (18, iw ((setRxF A ((C.length % 16 : Nat) : Int) 274).1)), (19, iw ((writeF ((setRxF A ((C.length % 16 : Nat) : Int) 274).2) 3 (nx ((C.length % 16 : Nat) : Int))).1)), (20, iw ((giveF ((writeF ((setRxF A ((C.length % 16 : Nat) : Int) 274).2) 3 (nx ((C.length % 16 : Nat) : Int))).2) f false).1)), (21, Value.slice a31 ((rxR ((giveF ((writeF ((setRxF A ((C.length % 16 : Nat) : Int) 274).2) 3 (nx ((C.length % 16 : Nat) : Int))).2) f false).2) ((C.length % 16 : Nat) : Int)).1.1.length) c32), (23, iw ((rxR ((giveF ((writeF ((setRxF A ((C.length % 16 : Nat) : Int) 274).2) 3 (nx ((C.length % 16 : Nat) : Int))).2) f false).2) ((C.length % 16 : Nat) : Int)).2))] [rNic 68 g1 F30 ((giveF ((writeF ((setRxF A ((C.length % 16 : Nat) : Int) 274).2) 3 (nx ((C.length % 16 : Nat) : Int))).2) f false).2), rRow (.slice q1 S.length c1) S 30, rRow (.slice q2 T.length c2) (T.map iw) 3, rRow (.slice q3 C.length c3) C 30, rMine (.slice a31 ((rxR ((giveF ((writeF ((setRxF A ((C.length % 16 : Nat) : Int) 274).2) 3 (nx ((C.length % 16 : Nat) : Int))).2) f false).2) ((C.length % 16 : Nat) : Int)).1.1).length c32) ((rxR ((giveF ((writeF ((setRxF A ((C.length % 16 : Nat) : Int) 274).2) 3 (nx ((C.length % 16 : Nat) : Int))).2) f false).2) ((C.length % 16 : Nat) : Int)).1.1) 5] ⟨rfl, rfl, rfl, rfl, rfl, rfl, rfl, rfl, rfl, rfl, rfl, rfl, rfl, rfl, rfl, rfl, rfl, trivial⟩ rfl ?_
            refine SC.seq ?_
            refine SC.seq ?_
            refine SC.region ?_
            refine SL.ru rfl rfl (lt_b rfl) (ru_move rfl rfl) ?_
            refine SL.ru rfl rfl (lt_b rfl) (ru_ne (b := false) rfl rfl rfl (bne_f hcm.1)) ?_
            refine SL.ru rfl rfl (lt_b rfl) (ru_move rfl rfl) ?_
            refine SL.rug rfl rfl rfl rfl (lt_b rfl) (ru_move rfl rfl) ?_
            refine SL.rug rfl rfl rfl rfl (lt_b rfl) (ru_ne (b := false) rfl rfl rfl (bne_f hcm.2.1)) ?_
            refine SL.ru rfl rfl (lt_b rfl) (ru_pick (u := bo true) (v := bo false) rfl rfl rfl rfl) ?_
            refine SL.ru rfl rfl (lt_b rfl) (ru_move rfl rfl) ?_
            refine SL.rug rfl rfl rfl rfl (lt_b rfl) (ru_move rfl rfl) ?_
            refine SL.rug rfl rfl rfl rfl (lt_b rfl) (ru_ne (b := false) rfl rfl rfl (bne_f hcm.2.2.1)) ?_
            refine SL.ru rfl rfl (lt_b rfl) (ru_pick (u := bo true) (v := bo false) rfl rfl rfl rfl) ?_
            refine SL.ru rfl rfl (lt_b rfl) (ru_move rfl rfl) ?_
            refine SL.rug rfl rfl rfl rfl (lt_b rfl) (ru_move rfl rfl) ?_
            refine SL.rug rfl rfl rfl rfl (lt_b rfl) (ru_ne (b := false) rfl rfl rfl (bne_f (by rw [hcm.2.2.2.1]))) ?_
            refine SL.ru rfl rfl (lt_b rfl) (ru_pick (u := bo true) (v := bo false) rfl rfl rfl rfl) ?_
            refine SL.ru rfl rfl (lt_b rfl) (ru_move rfl rfl) ?_
            refine SL.rug rfl rfl rfl rfl (lt_b rfl) (ru_move rfl rfl) ?_
            refine SL.rug rfl rfl rfl rfl (lt_b rfl) (ru_str (f := (rxR ((giveF ((writeF ((setRxF A ((C.length % 16 : Nat) : Int) 274).2) 3 (nx ((C.length % 16 : Nat) : Int))).2) f false).2) ((C.length % 16 : Nat) : Int)).1.1) Try.underlying30 Try.underlying5 Try.underlying9 rfl rfl (fun w hI => OwnBytes.bytes (hI.1.get (i := 4) rfl) (by rw [hcm.2.2.2.1]; exact hb.len))) ?_
            refine SL.rug rfl rfl rfl rfl (lt_b rfl) (ru_move rfl rfl) ?_
            refine SL.rug rfl rfl rfl rfl (lt_b rfl) (ru_str (f := f) Try.underlying30 Try.underlying5 Try.underlying9 rfl rfl (fun w hI => hb.only hI.2 (fun _ _ _ _ _ _ h => h))) ?_
            refine SL.rug rfl rfl rfl rfl (lt_b rfl) (ru_strne (f := (rxR ((giveF ((writeF ((setRxF A ((C.length % 16 : Nat) : Int) 274).2) 3 (nx ((C.length % 16 : Nat) : Int))).2) f false).2) ((C.length % 16 : Nat) : Int)).1.1) (h := f) (b := false) Try.underlying9 rfl rfl rfl (by rw [hcm.2.2.2.1]; simp)) ?_
            refine SL.ru rfl rfl (lt_b rfl) (ru_pick (u := bo true) (v := bo false) rfl rfl rfl rfl) ?_
            refine SL.nil ?_
            refine SC.of_SE ?_
            refine SC.norm [(0, sl b o l.length c), (2, bo false), (4, pt g1 0), (5, Value.slice q1 S.length c1), (6, Value.slice q2 T.length c2), (7, iw (t : Int)), (8, iw ((B.length % 16 : Nat) : Int)), (9, iw ((C.length % 16 : Nat) : Int)), (10, iw A.clk), (11, Value.slice q3 C.length c3), (12, iw ((l.length : Int) - (nn : Int))), (13, Value.slice fa f.length fc), (97, bo false)] [rNic 68 g1 F30 ((giveF ((writeF ((setRxF A ((C.length % 16 : Nat) : Int) 274).2) 3 (nx ((C.length % 16 : Nat) : Int))).2) f false).2), rRow (.slice q1 S.length c1) S 30, rRow (.slice q2 T.length c2) (T.map iw) 3, rRow (.slice q3 C.length c3) C 30, rMine (.slice a31 ((rxR ((giveF ((writeF ((setRxF A ((C.length % 16 : Nat) : Int) 274).2) 3 (nx ((C.length % 16 : Nat) : Int))).2) f false).2) ((C.length % 16 : Nat) : Int)).1.1).length c32) ((rxR ((giveF ((writeF ((setRxF A ((C.length % 16 : Nat) : Int) 274).2) 3 (nx ((C.length % 16 : Nat) : Int))).2) f false).2) ((C.length % 16 : Nat) : Int)).1.1) 5] ⟨rfl, rfl, rfl, rfl, rfl, rfl, rfl, rfl, rfl, rfl, rfl, rfl, rfl, trivial⟩ rfl ?_
            refine SC.no rfl ?_
            refine SC.skip ?_
            refine SC.of_SE ?_
            refine SC.norm [(0, sl b o l.length c), (2, bo false), (4, pt g1 0), (5, Value.slice q1 S.length c1), (6, Value.slice q2 T.length c2), (7, iw (t : Int)), (8, iw ((B.length % 16 : Nat) : Int)), (9, iw ((C.length % 16 : Nat) : Int)), (10, iw A.clk), (11, Value.slice q3 C.length c3), (12, iw ((l.length : Int) - (nn : Int))), (13, Value.slice fa f.length fc)] [rNic 68 g1 F30 ((giveF ((writeF ((setRxF A ((C.length % 16 : Nat) : Int) 274).2) 3 (nx ((C.length % 16 : Nat) : Int))).2) f false).2), rRow (.slice q1 S.length c1) S 30, rRow (.slice q2 T.length c2) (T.map iw) 3, rRow (.slice q3 C.length c3) C 30, rMine (.slice a31 ((rxR ((giveF ((writeF ((setRxF A ((C.length % 16 : Nat) : Int) 274).2) 3 (nx ((C.length % 16 : Nat) : Int))).2) f false).2) ((C.length % 16 : Nat) : Int)).1.1).length c32) ((rxR ((giveF ((writeF ((setRxF A ((C.length % 16 : Nat) : Int) 274).2) 3 (nx ((C.length % 16 : Nat) : Int))).2) f false).2) ((C.length % 16 : Nat) : Int)).1.1) 5] ⟨rfl, rfl, rfl, rfl, rfl, rfl, rfl, rfl, rfl, rfl, rfl, rfl, trivial⟩ rfl ?_
            refine SC.seq ?_
            refine SC.region ?_
            refine SL.ru rfl rfl (lt_b rfl) (ru_move rfl rfl) ?_
            refine SL.ru rfl rfl (lt_b rfl) (ru_move rfl rfl) ?_
            refine SL.buildSlice (size := 1) (vals := [(0, Value.slice fa f.length fc)]) (z := [Value.slice none 0 0]) (cs := [Value.slice fa f.length fc]) rfl rfl (lt_b rfl) rfl Try.underlying28 (by kernel_rfl) rfl rfl (by kernel_rfl) fun b34 hb34 => ?_
            refine SL.append_row (ri := 3) (rj := 5) (z := Value.slice none 0 0) (bytes := 24) rfl rfl (lt_b rfl) rfl Try.underlying28 (by kernel_rfl) rfl rfl rfl rfl rfl rfl (by first | omega | (simp; omega)) (by unfold maxLen; first | omega | (simp; omega)) (fun b hb => .inr (hq3 b hb)) fun q35 c36 hq37 => ?_
            refine SL.ru rfl rfl (lt_b rfl) (ru_assign rfl rfl) ?_
            refine SL.nil ?_
            refine SC.of_SE ?_
            refine SC.norm [(0, sl b o l.length c), (2, bo false), (4, pt g1 0), (5, Value.slice q1 S.length c1), (6, Value.slice q2 T.length c2), (7, iw (t : Int)), (8, iw ((B.length % 16 : Nat) : Int)), (9, iw ((C.length % 16 : Nat) : Int)), (10, iw A.clk), (11, Value.slice q35 (C.length + 1) c36), (12, iw ((l.length : Int) - (nn : Int)))] [rNic 68 g1 F30 ((giveF ((writeF ((setRxF A ((C.length % 16 : Nat) : Int) 274).2) 3 (nx ((C.length % 16 : Nat) : Int))).2) f false).2), rRow (.slice q1 S.length c1) S 30, rRow (.slice q2 T.length c2) (T.map iw) 3, rRow (.slice q35 (C.length + 1) c36) (C ++ [Value.slice fa f.length fc]) 30, rMine (.slice a31 ((rxR ((giveF ((writeF ((setRxF A ((C.length % 16 : Nat) : Int) 274).2) 3 (nx ((C.length % 16 : Nat) : Int))).2) f false).2) ((C.length % 16 : Nat) : Int)).1.1).length c32) ((rxR ((giveF ((writeF ((setRxF A ((C.length % 16 : Nat) : Int) 274).2) 3 (nx ((C.length % 16 : Nat) : Int))).2) f false).2) ((C.length % 16 : Nat) : Int)).1.1) 5, rBlk b34 [Value.slice fa f.length fc] 30] ⟨rfl, rfl, rfl, rfl, rfl, rfl, rfl, rfl, rfl, rfl, rfl, trivial⟩ rfl ?_
            refine SC.region ?_
            refine SL.ru rfl rfl (lt_b rfl) (ru_move rfl rfl) ?_
            refine SL.ru rfl rfl (lt_b rfl) (ru_add (r := (IntKind.i64.wrap (((C.length % 16 : Nat) : Int) + 1))) rfl rfl rfl rfl) ?_
            refine SL.ru rfl rfl (lt_b rfl) (ru_rem (r := (nx ((C.length % 16 : Nat) : Int))) rfl rfl rfl (by decide) (nx_q (by omega))) ?_
            refine SL.ru rfl rfl (lt_b rfl) (ru_assign rfl rfl) ?_
            refine SL.nil ?_
            refine SE.blkn ?_
            refine SE.blkn ?_
            refine SC.of_SE ?_
            refine SC.norm [(0, sl b o l.length c), (2, bo false), (4, pt g1 0), (5, Value.slice q1 S.length c1), (6, Value.slice q2 T.length c2), (7, iw (t : Int)), (8, iw ((B.length % 16 : Nat) : Int)), (9, iw (nx ((C.length % 16 : Nat) : Int))), (10, iw A.clk), (11, Value.slice q35 (C.length + 1) c36), (12, iw ((l.length : Int) - (nn : Int)))] [rNic 68 g1 F30 ((giveF ((writeF ((setRxF A ((C.length % 16 : Nat) : Int) 274).2) 3 (nx ((C.length % 16 : Nat) : Int))).2) f false).2), rRow (.slice q1 S.length c1) S 30, rRow (.slice q2 T.length c2) (T.map iw) 3, rRow (.slice q35 (C.length + 1) c36) (C ++ [Value.slice fa f.length fc]) 30, rMine (.slice a31 ((rxR ((giveF ((writeF ((setRxF A ((C.length % 16 : Nat) : Int) 274).2) 3 (nx ((C.length % 16 : Nat) : Int))).2) f false).2) ((C.length % 16 : Nat) : Int)).1.1).length c32) ((rxR ((giveF ((writeF ((setRxF A ((C.length % 16 : Nat) : Int) 274).2) 3 (nx ((C.length % 16 : Nat) : Int))).2) f false).2) ((C.length % 16 : Nat) : Int)).1.1) 5, rBlk b34 [Value.slice fa f.length fc] 30] ⟨rfl, rfl, rfl, rfl, rfl, rfl, rfl, rfl, rfl, rfl, rfl, trivial⟩ rfl ?_
            refine SC.region ?_
            refine SL.ru rfl rfl (lt_b rfl) (ru_move rfl rfl) ?_
            refine SL.ru rfl rfl (lt_b rfl) (ru_add (r := (IntKind.i64.wrap (((l.length : Int) - (nn : Int)) + 1))) rfl rfl rfl rfl) ?_
            refine SL.ru rfl rfl (lt_b rfl) (ru_assign rfl rfl) ?_
            refine SL.nil ?_
            refine SE.keep 4 ?_
            refine SE.again (nn - 1) ⟨(giveF ((writeF ((setRxF A ((C.length % 16 : Nat) : Int) 274).2) 3 (nx ((C.length % 16 : Nat) : Int))).2) f false).2, F30, S, B, T, C ++ [Value.slice fa f.length fc], t, q1, S.length, c1, q2, T.length, c2, q35, C.length + 1, c36, ((B.length % 16 : Nat) : Int), nx ((C.length % 16 : Nat) : Int), A.clk, (t : Int)⟩ (by omega) ⟨(by omega), (give_ok (write_ok (setRx_ok hk ((C.length % 16 : Nat) : Int) 274) 3 (nx ((C.length % 16 : Nat) : Int))) f false), (by rw [List.length_append]; exact hcm.2.2.2.2.1), (hSB), (by (try dsimp only) <;> omega), (by simp; omega), (hrd), (hq1), (hq2), ((fun b hb => (hq37 b hb).elim (fun h => h.elim) id)), (rfl), (rfl), (by simp), (rfl), (by rw [nx_nat, List.length_append]; rfl), (hcm.2.2.2.2.2.symm), (rfl)⟩ ⟨rfl, rfl, rfl, rfl, rfl, rfl, rfl, rfl, rfl, rfl, (congrArg (fun x => some (iw x)) (show IntKind.i64.wrap (((l.length : Int) - (nn : Int)) + 1) = (l.length : Int) - (((nn - 1 : Nat) : Int) : Int) by rw [IntKind.wrap_i64]; omega)), trivial⟩ rfl

end Go.Proofs.Ytloejpkefoagfaa
