/-
  PoolDoes answers true.
-/
import Derived.Test.YthofjobcjkeomaaPoolLaw
namespace Go.Proofs.Ythofjobcjkeomaa
open Go.RowKit
set_option maxRecDepth 100000
set_option maxHeartbeats 4000000
theorem pdoes_no {w : World} {many : Int} (hno : many < 1 ∨ 4096 < many) {va : Option Addr} {vc : Nat} {l : List OpR} (hll : l.length ≤ 140737488351232) (hops : ∀ i (hi : i < l.length), ∃ b o, va = some ⟨b, o, none⟩ ∧
    ∃ ov, (∀ j u, [iw l[i].kind, iw l[i].id, iw l[i].a, iw l[i].b, ov][j]? = some u → w.cell? ⟨b, o + i * 5 + j, none⟩ = some u) ∧ BytesAt w ov l[i].d ∧ sliceIn ov (fun b => b < w.heap.size)) :
    Calls Try.prog 4 #[iw many, .slice va l.length vc] w fun e w' => e = .returned (.bool true) ∧ Only (fun _ => False) w w' := by
  refine calls_sc (l0 := []) (args := [iw many, .slice va l.length vc]) (fun _ => False) Try.func4 rfl 92 Try.ntmps4 (le_b rfl) ⟨⟨by simp, List.Pairwise.nil⟩, Only.refl _ _⟩ ?_
  show SC _ _ _ _ [(0, iw many), (1, .slice va l.length vc)] []
  refine SC.seq ?_
  refine SC.region ?_
  refine SL.ru rfl rfl (lt_b rfl) (ru_assign rfl rfl) ?_
  refine SL.nil ?_
  refine SC.of_SE ?_
  refine SC.norm [(0, iw many), (1, Value.slice va l.length vc), (4, bo false)] [] ⟨rfl, rfl, rfl, trivial⟩ rfl ?_
  refine SC.seq ?_
  refine SC.region ?_
  refine SL.callv (bo true) rfl rfl co7 rfl rfl rfl (lt_b rfl) (fun w hI => H_only hI (awake_any _)) ?_
  refine SL.ru rfl rfl (lt_b rfl) (ru_assign rfl rfl) ?_
  refine SL.nil ?_
  refine SC.of_SE ?_
  refine SC.norm [(0, iw many), (1, Value.slice va l.length vc), (4, bo false), (5, bo true)] [] ⟨rfl, rfl, rfl, rfl, trivial⟩ rfl ?_
  refine SC.seq ?_
  refine SC.region ?_
  refine SL.ru rfl rfl (lt_b rfl) (ru_move rfl rfl) ?_
  refine SL.callv (Value.tuple #[Value.pointer none, iw 1]) rfl rfl co8 rfl rfl rfl (lt_b rfl) (fun w hI => H_same hI (new_no hno)) ?_
  refine SL.ru rfl rfl (lt_b rfl) (ru_move rfl rfl) ?_
  refine SL.ru rfl rfl (lt_b rfl) (ru_extract rfl rfl rfl) ?_
  refine SL.ru rfl rfl (lt_b rfl) (ru_extract rfl rfl rfl) ?_
  refine SL.ru rfl rfl (lt_b rfl) (ru_assign rfl rfl) ?_
  refine SL.ru rfl rfl (lt_b rfl) (ru_assign rfl rfl) ?_
  refine SL.nil ?_
  refine SC.of_SE ?_
  refine SC.norm [(0, iw many), (1, Value.slice va l.length vc), (4, bo false), (5, bo true), (6, Value.pointer none), (7, iw 1)] [] ⟨rfl, rfl, rfl, rfl, rfl, rfl, trivial⟩ rfl ?_
  refine SC.seq ?_
  refine SC.region ?_
  refine SL.ru rfl rfl (lt_b rfl) (ru_move rfl rfl) ?_
  refine SL.callv (Value.tuple #[Value.pointer none, iw 1]) rfl rfl co15 rfl rfl rfl (lt_b rfl) (fun w hI => H_same hI (rnew_no hno)) ?_
  refine SL.ru rfl rfl (lt_b rfl) (ru_move rfl rfl) ?_
  refine SL.ru rfl rfl (lt_b rfl) (ru_extract rfl rfl rfl) ?_
  refine SL.ru rfl rfl (lt_b rfl) (ru_extract rfl rfl rfl) ?_
  refine SL.ru rfl rfl (lt_b rfl) (ru_assign rfl rfl) ?_
  refine SL.ru rfl rfl (lt_b rfl) (ru_assign rfl rfl) ?_
  refine SL.nil ?_
  refine SC.of_SE ?_
  refine SC.norm [(0, iw many), (1, Value.slice va l.length vc), (4, bo false), (5, bo true), (6, Value.pointer none), (7, iw 1), (8, Value.pointer none), (9, iw 1)] [] ⟨rfl, rfl, rfl, rfl, rfl, rfl, rfl, rfl, trivial⟩ rfl ?_
  refine SC.seq ?_
  refine SC.seq ?_
  refine SC.region ?_
  refine SL.ru rfl rfl (lt_b rfl) (ru_move rfl rfl) ?_
  refine SL.ru rfl rfl (lt_b rfl) (ru_not (c := false) rfl rfl rfl) ?_
  refine SL.ru rfl rfl (lt_b rfl) (ru_move rfl rfl) ?_
  refine SL.rug rfl rfl rfl rfl (lt_b rfl) (ru_move rfl rfl) ?_
  refine SL.rug rfl rfl rfl rfl (lt_b rfl) (ru_move rfl rfl) ?_
  refine SL.rug rfl rfl rfl rfl (lt_b rfl) (ru_ne (b := false) rfl rfl rfl rfl) ?_
  refine SL.ru rfl rfl (lt_b rfl) (ru_pick (u := bo true) (v := bo false) rfl rfl rfl rfl) ?_
  refine SL.ru rfl rfl (lt_b rfl) (ru_move rfl rfl) ?_
  refine SL.rug rfl rfl rfl rfl (lt_b rfl) (ru_move rfl rfl) ?_
  refine SL.rug rfl rfl rfl rfl (lt_b rfl) (ru_eqnil Try.underlying24 rfl rfl rfl rfl) ?_
  refine SL.rug rfl rfl rfl rfl (lt_b rfl) (ru_move rfl rfl) ?_
  refine SL.rug rfl rfl rfl rfl (lt_b rfl) (ru_ne (b := true) rfl rfl rfl rfl) ?_
  refine SL.rug rfl rfl rfl rfl (lt_b rfl) (ru_neb (b := false) Try.underlying4 rfl rfl rfl rfl) ?_
  refine SL.ru rfl rfl (lt_b rfl) (ru_pick (u := bo true) (v := bo false) rfl rfl rfl rfl) ?_
  refine SL.nil ?_
  refine SC.of_SE ?_
  refine SC.norm [(0, iw many), (1, Value.slice va l.length vc), (4, bo false), (6, Value.pointer none), (8, Value.pointer none), (9, iw 1), (39, bo false)] [] ⟨rfl, rfl, rfl, rfl, rfl, rfl, rfl, trivial⟩ rfl ?_
  refine SC.no rfl ?_
  refine SC.skip ?_
  refine SC.of_SE ?_
  refine SC.norm [(0, iw many), (1, Value.slice va l.length vc), (4, bo false), (6, Value.pointer none), (8, Value.pointer none), (9, iw 1)] [] ⟨rfl, rfl, rfl, rfl, rfl, rfl, trivial⟩ rfl ?_
  refine SC.seq ?_
  refine SC.seq ?_
  refine SC.region ?_
  refine SL.ru rfl rfl (lt_b rfl) (ru_move rfl rfl) ?_
  refine SL.ru rfl rfl (lt_b rfl) (ru_ne (b := true) rfl rfl rfl rfl) ?_
  refine SL.nil ?_
  refine SC.of_SE ?_
  refine SC.norm [(0, iw many), (1, Value.slice va l.length vc), (4, bo false), (6, Value.pointer none), (8, Value.pointer none), (41, bo true)] [] ⟨rfl, rfl, rfl, rfl, rfl, rfl, trivial⟩ rfl ?_
  refine SC.yes rfl ?_
  refine SC.seq ?_
  refine SC.region ?_
  refine SL.ru rfl rfl (lt_b rfl) (ru_assign rfl rfl) ?_
  refine SL.nil ?_
  refine SC.of_SE ?_
  refine SC.norm [(0, iw many), (1, Value.slice va l.length vc), (4, bo true), (6, Value.pointer none), (8, Value.pointer none)] [] ⟨rfl, rfl, rfl, rfl, rfl, trivial⟩ rfl ?_
  refine SC.ret ?_
  refine SE.passr ?_
  refine SE.res (.inl rfl) (res1 Try.results4 rfl) fun w1 hI => ⟨rfl, hI.2⟩

theorem pdoes_in {w : World} {n : Nat} (h1 : 1 ≤ n) (h2 : n ≤ 4096) {va : Option Addr} {vc : Nat} {l : List OpR} (hll : l.length ≤ 140737488351232) (hops : ∀ i (hi : i < l.length), ∃ b o, va = some ⟨b, o, none⟩ ∧
    ∃ ov, (∀ j u, [iw l[i].kind, iw l[i].id, iw l[i].a, iw l[i].b, ov][j]? = some u → w.cell? ⟨b, o + i * 5 + j, none⟩ = some u) ∧ BytesAt w ov l[i].d ∧ sliceIn ov (fun b => b < w.heap.size)) :
    Calls Try.prog 4 #[iw (n : Int), .slice va l.length vc] w fun e w' => e = .returned (.bool true) ∧ Only (fun _ => False) w w' := by
  refine calls_sc (l0 := []) (args := [iw (n : Int), .slice va l.length vc]) (fun _ => False) Try.func4 rfl 92 Try.ntmps4 (le_b rfl) ⟨⟨by simp, List.Pairwise.nil⟩, Only.refl _ _⟩ ?_
  show SC _ _ _ _ [(0, iw (n : Int)), (1, .slice va l.length vc)] []
  refine SC.seq ?_
  refine SC.region ?_
  refine SL.ru rfl rfl (lt_b rfl) (ru_assign rfl rfl) ?_
  refine SL.nil ?_
  refine SC.of_SE ?_
  refine SC.norm [(0, iw (n : Int)), (1, Value.slice va l.length vc), (4, bo false)] [] ⟨rfl, rfl, rfl, trivial⟩ rfl ?_
  refine SC.seq ?_
  refine SC.region ?_
  refine SL.callv (bo true) rfl rfl co7 rfl rfl rfl (lt_b rfl) (fun w hI => H_only hI (awake_any _)) ?_
  refine SL.ru rfl rfl (lt_b rfl) (ru_assign rfl rfl) ?_
  refine SL.nil ?_
  refine SC.of_SE ?_
  refine SC.norm [(0, iw (n : Int)), (1, Value.slice va l.length vc), (4, bo false), (5, bo true)] [] ⟨rfl, rfl, rfl, rfl, trivial⟩ rfl ?_
  refine SC.seq ?_
  refine SC.region ?_
  refine SL.ru rfl rfl (lt_b rfl) (ru_move rfl rfl) ?_
  refine SL.call (ζ := Nat × Nat) (fun z => Value.tuple #[pt z.1 0, iw 0]) (fun z => [rPool z.1 z.2 (List.replicate n ⟨0, [], []⟩)]) (fun z => w.heap.size ≤ z.1 ∧ w.heap.size ≤ z.2) rfl rfl co8 rfl rfl rfl (lt_b rfl) (fun w hI => (new_in h1 h2).mono fun e w2 ⟨p, ab, k1, k2, k3, k4, k5⟩ => ⟨(p, ab), k1, (hI.add k5 (r := rPool p ab (List.replicate n ⟨0, [], []⟩)) k2 (fun b hb => by rcases hb with rfl | rfl; exact k3; exact k4)), Nat.le_trans hI.2.size k3, Nat.le_trans hI.2.size k4⟩) ?_
  rintro ⟨p, ab⟩ ⟨hp1, hp2⟩
  simp only at hp1 hp2
  refine SL.ru rfl rfl (lt_b rfl) (ru_move rfl rfl) ?_
  refine SL.ru rfl rfl (lt_b rfl) (ru_extract rfl rfl rfl) ?_
  refine SL.ru rfl rfl (lt_b rfl) (ru_extract rfl rfl rfl) ?_
  refine SL.ru rfl rfl (lt_b rfl) (ru_assign rfl rfl) ?_
  refine SL.ru rfl rfl (lt_b rfl) (ru_assign rfl rfl) ?_
  refine SL.nil ?_
  refine SC.of_SE ?_
  refine SC.norm [(0, iw (n : Int)), (1, Value.slice va l.length vc), (4, bo false), (5, bo true), (6, pt p 0), (7, iw 0)] [rPool p ab (List.replicate n ⟨0, [], []⟩)] ⟨rfl, rfl, rfl, rfl, rfl, rfl, trivial⟩ rfl ?_
  refine SC.seq ?_
  refine SC.region ?_
  refine SL.ru rfl rfl (lt_b rfl) (ru_move rfl rfl) ?_
  refine SL.call (ζ := Nat × Nat) (fun z => Value.tuple #[pt z.1 0, iw 0]) (fun z => [rTwo p ab z.1 z.2 (fun _ => False) (List.replicate n ⟨0, [], []⟩) (List.replicate n ⟨0, [], []⟩)]) (fun z => w.heap.size ≤ z.2) rfl rfl co15 rfl rfl rfl (lt_b rfl) (fun w hI => (rnew_in h1 h2).mono fun e w2 ⟨r, rb, k1, k2, k3, k4, k5⟩ => ⟨(r, rb), k1, Inv.newQ hI k2 k3 k4 k5, Nat.le_trans hI.2.size k4⟩) ?_
  rintro ⟨r, rb⟩ hr2
  simp only at hr2
  refine SL.ru rfl rfl (lt_b rfl) (ru_move rfl rfl) ?_
  refine SL.ru rfl rfl (lt_b rfl) (ru_extract rfl rfl rfl) ?_
  refine SL.ru rfl rfl (lt_b rfl) (ru_extract rfl rfl rfl) ?_
  refine SL.ru rfl rfl (lt_b rfl) (ru_assign rfl rfl) ?_
  refine SL.ru rfl rfl (lt_b rfl) (ru_assign rfl rfl) ?_
  refine SL.nil ?_
  refine SC.of_SE ?_
  refine SC.norm [(0, iw (n : Int)), (1, Value.slice va l.length vc), (4, bo false), (5, bo true), (6, pt p 0), (7, iw 0), (8, pt r 0), (9, iw 0)] [rTwo p ab r rb (fun _ => False) (List.replicate n ⟨0, [], []⟩) (List.replicate n ⟨0, [], []⟩)] ⟨rfl, rfl, rfl, rfl, rfl, rfl, rfl, rfl, trivial⟩ rfl ?_
  refine SC.seq ?_
  refine SC.seq ?_
  refine SC.region ?_
  refine SL.ru rfl rfl (lt_b rfl) (ru_move rfl rfl) ?_
  refine SL.ru rfl rfl (lt_b rfl) (ru_not (c := false) rfl rfl rfl) ?_
  refine SL.ru rfl rfl (lt_b rfl) (ru_move rfl rfl) ?_
  refine SL.rug rfl rfl rfl rfl (lt_b rfl) (ru_move rfl rfl) ?_
  refine SL.rug rfl rfl rfl rfl (lt_b rfl) (ru_move rfl rfl) ?_
  refine SL.rug rfl rfl rfl rfl (lt_b rfl) (ru_ne (b := false) rfl rfl rfl rfl) ?_
  refine SL.ru rfl rfl (lt_b rfl) (ru_pick (u := bo true) (v := bo false) rfl rfl rfl rfl) ?_
  refine SL.ru rfl rfl (lt_b rfl) (ru_move rfl rfl) ?_
  refine SL.rug rfl rfl rfl rfl (lt_b rfl) (ru_move rfl rfl) ?_
  refine SL.rug rfl rfl rfl rfl (lt_b rfl) (ru_eqnil Try.underlying24 rfl rfl rfl rfl) ?_
  refine SL.rug rfl rfl rfl rfl (lt_b rfl) (ru_move rfl rfl) ?_
  refine SL.rug rfl rfl rfl rfl (lt_b rfl) (ru_ne (b := false) rfl rfl rfl rfl) ?_
  refine SL.rug rfl rfl rfl rfl (lt_b rfl) (ru_neb (b := false) Try.underlying4 rfl rfl rfl rfl) ?_
  refine SL.ru rfl rfl (lt_b rfl) (ru_pick (u := bo true) (v := bo false) rfl rfl rfl rfl) ?_
  refine SL.nil ?_
  refine SC.of_SE ?_
  refine SC.norm [(0, iw (n : Int)), (1, Value.slice va l.length vc), (4, bo false), (6, pt p 0), (8, pt r 0), (9, iw 0), (39, bo false)] [rTwo p ab r rb (fun _ => False) (List.replicate n ⟨0, [], []⟩) (List.replicate n ⟨0, [], []⟩)] ⟨rfl, rfl, rfl, rfl, rfl, rfl, rfl, trivial⟩ rfl ?_
  refine SC.no rfl ?_
  refine SC.skip ?_
  refine SC.of_SE ?_
  refine SC.norm [(0, iw (n : Int)), (1, Value.slice va l.length vc), (4, bo false), (6, pt p 0), (8, pt r 0), (9, iw 0)] [rTwo p ab r rb (fun _ => False) (List.replicate n ⟨0, [], []⟩) (List.replicate n ⟨0, [], []⟩)] ⟨rfl, rfl, rfl, rfl, rfl, rfl, trivial⟩ rfl ?_
  refine SC.seq ?_
  refine SC.seq ?_
  refine SC.region ?_
  refine SL.ru rfl rfl (lt_b rfl) (ru_move rfl rfl) ?_
  refine SL.ru rfl rfl (lt_b rfl) (ru_ne (b := false) rfl rfl rfl rfl) ?_
  refine SL.nil ?_
  refine SC.of_SE ?_
  refine SC.norm [(0, iw (n : Int)), (1, Value.slice va l.length vc), (4, bo false), (6, pt p 0), (8, pt r 0), (41, bo false)] [rTwo p ab r rb (fun _ => False) (List.replicate n ⟨0, [], []⟩) (List.replicate n ⟨0, [], []⟩)] ⟨rfl, rfl, rfl, rfl, rfl, rfl, trivial⟩ rfl ?_
  refine SC.no rfl ?_
  refine SC.skip ?_
  refine SC.of_SE ?_
  refine SC.norm [(0, iw (n : Int)), (1, Value.slice va l.length vc), (4, bo false), (6, pt p 0), (8, pt r 0)] [rTwo p ab r rb (fun _ => False) (List.replicate n ⟨0, [], []⟩) (List.replicate n ⟨0, [], []⟩)] ⟨rfl, rfl, rfl, rfl, rfl, trivial⟩ rfl ?_
  refine SC.seq ?_
  refine SC.seq ?_
  refine SC.region ?_
  refine SL.ru rfl rfl (lt_b rfl) (ru_assign rfl rfl) ?_
  refine SL.nil ?_
  refine SC.of_SE ?_
  refine SC.norm [(0, iw (n : Int)), (1, Value.slice va l.length vc), (4, bo false), (6, pt p 0), (8, pt r 0), (10, iw 0)] [rTwo p ab r rb (fun _ => False) (List.replicate n ⟨0, [], []⟩) (List.replicate n ⟨0, [], []⟩)] ⟨rfl, rfl, rfl, rfl, rfl, rfl, trivial⟩ rfl ?_
  refine SC.block ?_
  refine SC.loop (γ := List Bf × (Nat → Prop)) (fun nn _ => [(0, iw (n : Int)), (1, Value.slice va l.length vc), (4, bo false), (6, pt p 0), (8, pt r 0), (10, iw ((l.length : Int) - (nn : Int)))]) (fun nn g => [rTwo p ab r rb g.2 g.1 g.1]) (fun nn g => nn ≤ l.length ∧ g.1.length = n ∧ ∀ x ∈ g.1, x.refs ≤ 1 + (l.length - nn)) l.length ((List.replicate n ⟨0, [], []⟩), fun _ => False) ⟨Nat.le_refl _, List.length_replicate, fun x hx => by rw [List.eq_of_mem_replicate hx]; exact Nat.zero_le _⟩ ⟨rfl, rfl, rfl, rfl, rfl, (congrArg (fun x => some (iw x)) (show (0 : Int) = (l.length : Int) - ((l.length : Nat) : Int) by omega)), trivial⟩ rfl ?_
  rintro nn ⟨L, F⟩ ⟨hn, hL, hR⟩
  simp only at hL hR
  rcases Nat.eq_zero_or_pos nn with h0 | h0
  · skip
    refine SC.seq ?_
    refine SC.seq ?_
    refine SC.region ?_
    refine SL.ru rfl rfl (lt_b rfl) (ru_move rfl rfl) ?_
    refine SL.ru rfl rfl (lt_b rfl) (ru_move rfl rfl) ?_
    refine SL.ru rfl rfl (lt_b rfl) (ru_len Try.underlying22 rfl rfl) ?_
    refine SL.ru rfl rfl (lt_b rfl) (ru_lt (b := (decide ((((l.length : Int) - (nn : Int)) : Int) < (l.length : Int)))) rfl rfl rfl rfl) ?_
    refine SL.nil ?_
    refine SC.of_SE ?_
    refine SC.norm [(0, iw (n : Int)), (1, Value.slice va l.length vc), (4, bo false), (6, pt p 0), (8, pt r 0), (10, iw ((l.length : Int) - (nn : Int))), (45, bo (decide ((((l.length : Int) - (nn : Int)) : Int) < (l.length : Int))))] [rTwo p ab r rb F L L] ⟨rfl, rfl, rfl, rfl, rfl, rfl, rfl, trivial⟩ rfl ?_
    refine SC.no (show some (Value.bool (decide ((((l.length : Int) - (nn : Int)) : Int) < (l.length : Int)))) = some (Value.bool false) from congrArg (fun x => some (Value.bool x)) (decide_eq_false (by omega))) ?_
    refine SC.exit ?_
    refine SE.passe ?_
    refine SE.passe ?_
    refine SE.blke ?_
    refine SC.of_SE ?_
    refine SC.norm [(4, bo false), (6, pt p 0), (8, pt r 0)] [rTwo p ab r rb F L L] ⟨rfl, rfl, rfl, trivial⟩ rfl ?_
    refine SC.seq ?_
    refine SC.seq ?_
    refine SC.region ?_
    refine SL.ru rfl rfl (lt_b rfl) (ru_assign rfl rfl) ?_
    refine SL.nil ?_
    refine SC.of_SE ?_
    refine SC.norm [(4, bo false), (6, pt p 0), (8, pt r 0), (13, iw (-1))] [rTwo p ab r rb F L L] ⟨rfl, rfl, rfl, rfl, trivial⟩ rfl ?_
    refine SC.block ?_
    refine SC.rounds 22 ?_
    refine SR.norm [(4, bo false), (6, pt p 0), (8, pt r 0), (13, iw (-1))] [rTwo p ab r rb F L L] ⟨rfl, rfl, rfl, rfl, trivial⟩ rfl ?_
    refine SR.next ?_
    refine SC.seq ?_
    refine SC.seq ?_
    refine SC.region ?_
    refine SL.ru rfl rfl (lt_b rfl) (ru_move rfl rfl) ?_
    refine SL.ru rfl rfl (lt_b rfl) (ru_lt (b := true) rfl rfl rfl rfl) ?_
    refine SL.nil ?_
    refine SC.of_SE ?_
    refine SC.norm [(4, bo false), (6, pt p 0), (8, pt r 0), (13, iw (-1)), (83, bo true)] [rTwo p ab r rb F L L] ⟨rfl, rfl, rfl, rfl, rfl, trivial⟩ rfl ?_
    refine SC.yes rfl ?_
    refine SC.skip ?_
    refine SC.of_SE ?_
    refine SC.norm [(4, bo false), (6, pt p 0), (8, pt r 0), (13, iw (-1))] [rTwo p ab r rb F L L] ⟨rfl, rfl, rfl, rfl, trivial⟩ rfl ?_
    refine SC.seq ?_
    refine SC.block ?_
    refine SC.seq ?_
    refine SC.region ?_
    refine SL.ru rfl rfl (lt_b rfl) (ru_move rfl rfl) ?_
    refine SL.ru rfl rfl (lt_b rfl) (ru_move rfl rfl) ?_
    refine SL.ru rfl rfl (lt_b rfl) (ru_move rfl rfl) ?_
    refine SL.callv (bo true) rfl rfl co17 rfl rfl rfl (lt_b rfl) (fun w hI => H_only hI (same_any (two_p hI) (two_q hI) (-1))) ?_
    refine SL.ru rfl rfl (lt_b rfl) (ru_assign rfl rfl) ?_
    refine SL.nil ?_
    refine SC.of_SE ?_
    refine SC.norm [(4, bo false), (6, pt p 0), (8, pt r 0), (13, iw (-1)), (14, bo true)] [rTwo p ab r rb F L L] ⟨rfl, rfl, rfl, rfl, rfl, trivial⟩ rfl ?_
    refine SC.seq ?_
    refine SC.region ?_
    refine SL.ru rfl rfl (lt_b rfl) (ru_move rfl rfl) ?_
    refine SL.ru rfl rfl (lt_b rfl) (ru_not (c := false) rfl rfl rfl) ?_
    refine SL.nil ?_
    refine SC.of_SE ?_
    refine SC.norm [(4, bo false), (6, pt p 0), (8, pt r 0), (13, iw (-1)), (91, bo false)] [rTwo p ab r rb F L L] ⟨rfl, rfl, rfl, rfl, rfl, trivial⟩ rfl ?_
    refine SC.no rfl ?_
    refine SC.skip ?_
    refine SE.blkn ?_
    refine SC.of_SE ?_
    refine SC.norm [(4, bo false), (6, pt p 0), (8, pt r 0), (13, iw (-1))] [rTwo p ab r rb F L L] ⟨rfl, rfl, rfl, rfl, trivial⟩ rfl ?_
    refine SC.region ?_
    refine SL.ru rfl rfl (lt_b rfl) (ru_move rfl rfl) ?_
    refine SL.ru rfl rfl (lt_b rfl) (ru_add (r := 0) rfl rfl rfl rfl) ?_
    refine SL.ru rfl rfl (lt_b rfl) (ru_assign rfl rfl) ?_
    refine SL.nil ?_
    refine SE.round ?_
    refine SR.norm [(4, bo false), (6, pt p 0), (8, pt r 0), (13, iw 0)] [rTwo p ab r rb F L L] ⟨rfl, rfl, rfl, rfl, trivial⟩ rfl ?_
    refine SR.next ?_
    refine SC.seq ?_
    refine SC.seq ?_
    refine SC.region ?_
    refine SL.ru rfl rfl (lt_b rfl) (ru_move rfl rfl) ?_
    refine SL.ru rfl rfl (lt_b rfl) (ru_lt (b := true) rfl rfl rfl rfl) ?_
    refine SL.nil ?_
    refine SC.of_SE ?_
    refine SC.norm [(4, bo false), (6, pt p 0), (8, pt r 0), (13, iw 0), (83, bo true)] [rTwo p ab r rb F L L] ⟨rfl, rfl, rfl, rfl, rfl, trivial⟩ rfl ?_
    refine SC.yes rfl ?_
    refine SC.skip ?_
    refine SC.of_SE ?_
    refine SC.norm [(4, bo false), (6, pt p 0), (8, pt r 0), (13, iw 0)] [rTwo p ab r rb F L L] ⟨rfl, rfl, rfl, rfl, trivial⟩ rfl ?_
    refine SC.seq ?_
    refine SC.block ?_
    refine SC.seq ?_
    refine SC.region ?_
    refine SL.ru rfl rfl (lt_b rfl) (ru_move rfl rfl) ?_
    refine SL.ru rfl rfl (lt_b rfl) (ru_move rfl rfl) ?_
    refine SL.ru rfl rfl (lt_b rfl) (ru_move rfl rfl) ?_
    refine SL.callv (bo true) rfl rfl co17 rfl rfl rfl (lt_b rfl) (fun w hI => H_only hI (same_any (two_p hI) (two_q hI) 0)) ?_
    refine SL.ru rfl rfl (lt_b rfl) (ru_assign rfl rfl) ?_
    refine SL.nil ?_
    refine SC.of_SE ?_
    refine SC.norm [(4, bo false), (6, pt p 0), (8, pt r 0), (13, iw 0), (14, bo true)] [rTwo p ab r rb F L L] ⟨rfl, rfl, rfl, rfl, rfl, trivial⟩ rfl ?_
    refine SC.seq ?_
    refine SC.region ?_
    refine SL.ru rfl rfl (lt_b rfl) (ru_move rfl rfl) ?_
    refine SL.ru rfl rfl (lt_b rfl) (ru_not (c := false) rfl rfl rfl) ?_
    refine SL.nil ?_
    refine SC.of_SE ?_
    refine SC.norm [(4, bo false), (6, pt p 0), (8, pt r 0), (13, iw 0), (91, bo false)] [rTwo p ab r rb F L L] ⟨rfl, rfl, rfl, rfl, rfl, trivial⟩ rfl ?_
    refine SC.no rfl ?_
    refine SC.skip ?_
    refine SE.blkn ?_
    refine SC.of_SE ?_
    refine SC.norm [(4, bo false), (6, pt p 0), (8, pt r 0), (13, iw 0)] [rTwo p ab r rb F L L] ⟨rfl, rfl, rfl, rfl, trivial⟩ rfl ?_
    refine SC.region ?_
    refine SL.ru rfl rfl (lt_b rfl) (ru_move rfl rfl) ?_
    refine SL.ru rfl rfl (lt_b rfl) (ru_add (r := 1) rfl rfl rfl rfl) ?_
    refine SL.ru rfl rfl (lt_b rfl) (ru_assign rfl rfl) ?_
    refine SL.nil ?_
    refine SE.round ?_
    refine SR.norm [(4, bo false), (6, pt p 0), (8, pt r 0), (13, iw 1)] [rTwo p ab r rb F L L] ⟨rfl, rfl, rfl, rfl, trivial⟩ rfl ?_
    refine SR.next ?_
    refine SC.seq ?_
    refine SC.seq ?_
    refine SC.region ?_
    refine SL.ru rfl rfl (lt_b rfl) (ru_move rfl rfl) ?_
    refine SL.ru rfl rfl (lt_b rfl) (ru_lt (b := true) rfl rfl rfl rfl) ?_
    refine SL.nil ?_
    refine SC.of_SE ?_
    refine SC.norm [(4, bo false), (6, pt p 0), (8, pt r 0), (13, iw 1), (83, bo true)] [rTwo p ab r rb F L L] ⟨rfl, rfl, rfl, rfl, rfl, trivial⟩ rfl ?_
    refine SC.yes rfl ?_
    refine SC.skip ?_
    refine SC.of_SE ?_
    refine SC.norm [(4, bo false), (6, pt p 0), (8, pt r 0), (13, iw 1)] [rTwo p ab r rb F L L] ⟨rfl, rfl, rfl, rfl, trivial⟩ rfl ?_
    refine SC.seq ?_
    refine SC.block ?_
    refine SC.seq ?_
    refine SC.region ?_
    refine SL.ru rfl rfl (lt_b rfl) (ru_move rfl rfl) ?_
    refine SL.ru rfl rfl (lt_b rfl) (ru_move rfl rfl) ?_
    refine SL.ru rfl rfl (lt_b rfl) (ru_move rfl rfl) ?_
    refine SL.callv (bo true) rfl rfl co17 rfl rfl rfl (lt_b rfl) (fun w hI => H_only hI (same_any (two_p hI) (two_q hI) 1)) ?_
    refine SL.ru rfl rfl (lt_b rfl) (ru_assign rfl rfl) ?_
    refine SL.nil ?_
    refine SC.of_SE ?_
    refine SC.norm [(4, bo false), (6, pt p 0), (8, pt r 0), (13, iw 1), (14, bo true)] [rTwo p ab r rb F L L] ⟨rfl, rfl, rfl, rfl, rfl, trivial⟩ rfl ?_
    refine SC.seq ?_
    refine SC.region ?_
    refine SL.ru rfl rfl (lt_b rfl) (ru_move rfl rfl) ?_
    refine SL.ru rfl rfl (lt_b rfl) (ru_not (c := false) rfl rfl rfl) ?_
    refine SL.nil ?_
    refine SC.of_SE ?_
    refine SC.norm [(4, bo false), (6, pt p 0), (8, pt r 0), (13, iw 1), (91, bo false)] [rTwo p ab r rb F L L] ⟨rfl, rfl, rfl, rfl, rfl, trivial⟩ rfl ?_
    refine SC.no rfl ?_
    refine SC.skip ?_
    refine SE.blkn ?_
    refine SC.of_SE ?_
    refine SC.norm [(4, bo false), (6, pt p 0), (8, pt r 0), (13, iw 1)] [rTwo p ab r rb F L L] ⟨rfl, rfl, rfl, rfl, trivial⟩ rfl ?_
    refine SC.region ?_
    refine SL.ru rfl rfl (lt_b rfl) (ru_move rfl rfl) ?_
    refine SL.ru rfl rfl (lt_b rfl) (ru_add (r := 2) rfl rfl rfl rfl) ?_
    refine SL.ru rfl rfl (lt_b rfl) (ru_assign rfl rfl) ?_
    refine SL.nil ?_
    refine SE.round ?_
    refine SR.norm [(4, bo false), (6, pt p 0), (8, pt r 0), (13, iw 2)] [rTwo p ab r rb F L L] ⟨rfl, rfl, rfl, rfl, trivial⟩ rfl ?_
    refine SR.next ?_
    refine SC.seq ?_
    refine SC.seq ?_
    refine SC.region ?_
    refine SL.ru rfl rfl (lt_b rfl) (ru_move rfl rfl) ?_
    refine SL.ru rfl rfl (lt_b rfl) (ru_lt (b := true) rfl rfl rfl rfl) ?_
    refine SL.nil ?_
    refine SC.of_SE ?_
    refine SC.norm [(4, bo false), (6, pt p 0), (8, pt r 0), (13, iw 2), (83, bo true)] [rTwo p ab r rb F L L] ⟨rfl, rfl, rfl, rfl, rfl, trivial⟩ rfl ?_
    refine SC.yes rfl ?_
    refine SC.skip ?_
    refine SC.of_SE ?_
    refine SC.norm [(4, bo false), (6, pt p 0), (8, pt r 0), (13, iw 2)] [rTwo p ab r rb F L L] ⟨rfl, rfl, rfl, rfl, trivial⟩ rfl ?_
    refine SC.seq ?_
    refine SC.block ?_
    refine SC.seq ?_
    refine SC.region ?_
    refine SL.ru rfl rfl (lt_b rfl) (ru_move rfl rfl) ?_
    refine SL.ru rfl rfl (lt_b rfl) (ru_move rfl rfl) ?_
    refine SL.ru rfl rfl (lt_b rfl) (ru_move rfl rfl) ?_
    refine SL.callv (bo true) rfl rfl co17 rfl rfl rfl (lt_b rfl) (fun w hI => H_only hI (same_any (two_p hI) (two_q hI) 2)) ?_
    refine SL.ru rfl rfl (lt_b rfl) (ru_assign rfl rfl) ?_
    refine SL.nil ?_
    refine SC.of_SE ?_
    refine SC.norm [(4, bo false), (6, pt p 0), (8, pt r 0), (13, iw 2), (14, bo true)] [rTwo p ab r rb F L L] ⟨rfl, rfl, rfl, rfl, rfl, trivial⟩ rfl ?_
    refine SC.seq ?_
    refine SC.region ?_
    refine SL.ru rfl rfl (lt_b rfl) (ru_move rfl rfl) ?_
    refine SL.ru rfl rfl (lt_b rfl) (ru_not (c := false) rfl rfl rfl) ?_
    refine SL.nil ?_
    refine SC.of_SE ?_
    refine SC.norm [(4, bo false), (6, pt p 0), (8, pt r 0), (13, iw 2), (91, bo false)] [rTwo p ab r rb F L L] ⟨rfl, rfl, rfl, rfl, rfl, trivial⟩ rfl ?_
    refine SC.no rfl ?_
    refine SC.skip ?_
    refine SE.blkn ?_
    refine SC.of_SE ?_
    refine SC.norm [(4, bo false), (6, pt p 0), (8, pt r 0), (13, iw 2)] [rTwo p ab r rb F L L] ⟨rfl, rfl, rfl, rfl, trivial⟩ rfl ?_
    refine SC.region ?_
    refine SL.ru rfl rfl (lt_b rfl) (ru_move rfl rfl) ?_
    refine SL.ru rfl rfl (lt_b rfl) (ru_add (r := 3) rfl rfl rfl rfl) ?_
    refine SL.ru rfl rfl (lt_b rfl) (ru_assign rfl rfl) ?_
    refine SL.nil ?_
    refine SE.round ?_
    refine SR.norm [(4, bo false), (6, pt p 0), (8, pt r 0), (13, iw 3)] [rTwo p ab r rb F L L] ⟨rfl, rfl, rfl, rfl, trivial⟩ rfl ?_
    refine SR.next ?_
    refine SC.seq ?_
    refine SC.seq ?_
    refine SC.region ?_
    refine SL.ru rfl rfl (lt_b rfl) (ru_move rfl rfl) ?_
    refine SL.ru rfl rfl (lt_b rfl) (ru_lt (b := true) rfl rfl rfl rfl) ?_
    refine SL.nil ?_
    refine SC.of_SE ?_
    refine SC.norm [(4, bo false), (6, pt p 0), (8, pt r 0), (13, iw 3), (83, bo true)] [rTwo p ab r rb F L L] ⟨rfl, rfl, rfl, rfl, rfl, trivial⟩ rfl ?_
    refine SC.yes rfl ?_
    refine SC.skip ?_
    refine SC.of_SE ?_
    refine SC.norm [(4, bo false), (6, pt p 0), (8, pt r 0), (13, iw 3)] [rTwo p ab r rb F L L] ⟨rfl, rfl, rfl, rfl, trivial⟩ rfl ?_
    refine SC.seq ?_
    refine SC.block ?_
    refine SC.seq ?_
    refine SC.region ?_
    refine SL.ru rfl rfl (lt_b rfl) (ru_move rfl rfl) ?_
    refine SL.ru rfl rfl (lt_b rfl) (ru_move rfl rfl) ?_
    refine SL.ru rfl rfl (lt_b rfl) (ru_move rfl rfl) ?_
    refine SL.callv (bo true) rfl rfl co17 rfl rfl rfl (lt_b rfl) (fun w hI => H_only hI (same_any (two_p hI) (two_q hI) 3)) ?_
    refine SL.ru rfl rfl (lt_b rfl) (ru_assign rfl rfl) ?_
    refine SL.nil ?_
    refine SC.of_SE ?_
    refine SC.norm [(4, bo false), (6, pt p 0), (8, pt r 0), (13, iw 3), (14, bo true)] [rTwo p ab r rb F L L] ⟨rfl, rfl, rfl, rfl, rfl, trivial⟩ rfl ?_
    refine SC.seq ?_
    refine SC.region ?_
    refine SL.ru rfl rfl (lt_b rfl) (ru_move rfl rfl) ?_
    refine SL.ru rfl rfl (lt_b rfl) (ru_not (c := false) rfl rfl rfl) ?_
    refine SL.nil ?_
    refine SC.of_SE ?_
    refine SC.norm [(4, bo false), (6, pt p 0), (8, pt r 0), (13, iw 3), (91, bo false)] [rTwo p ab r rb F L L] ⟨rfl, rfl, rfl, rfl, rfl, trivial⟩ rfl ?_
    refine SC.no rfl ?_
    refine SC.skip ?_
    refine SE.blkn ?_
    refine SC.of_SE ?_
    refine SC.norm [(4, bo false), (6, pt p 0), (8, pt r 0), (13, iw 3)] [rTwo p ab r rb F L L] ⟨rfl, rfl, rfl, rfl, trivial⟩ rfl ?_
    refine SC.region ?_
    refine SL.ru rfl rfl (lt_b rfl) (ru_move rfl rfl) ?_
    refine SL.ru rfl rfl (lt_b rfl) (ru_add (r := 4) rfl rfl rfl rfl) ?_
    refine SL.ru rfl rfl (lt_b rfl) (ru_assign rfl rfl) ?_
    refine SL.nil ?_
    refine SE.round ?_
    refine SR.norm [(4, bo false), (6, pt p 0), (8, pt r 0), (13, iw 4)] [rTwo p ab r rb F L L] ⟨rfl, rfl, rfl, rfl, trivial⟩ rfl ?_
    refine SR.next ?_
    refine SC.seq ?_
    refine SC.seq ?_
    refine SC.region ?_
    refine SL.ru rfl rfl (lt_b rfl) (ru_move rfl rfl) ?_
    refine SL.ru rfl rfl (lt_b rfl) (ru_lt (b := true) rfl rfl rfl rfl) ?_
    refine SL.nil ?_
    refine SC.of_SE ?_
    refine SC.norm [(4, bo false), (6, pt p 0), (8, pt r 0), (13, iw 4), (83, bo true)] [rTwo p ab r rb F L L] ⟨rfl, rfl, rfl, rfl, rfl, trivial⟩ rfl ?_
    refine SC.yes rfl ?_
    refine SC.skip ?_
    refine SC.of_SE ?_
    refine SC.norm [(4, bo false), (6, pt p 0), (8, pt r 0), (13, iw 4)] [rTwo p ab r rb F L L] ⟨rfl, rfl, rfl, rfl, trivial⟩ rfl ?_
    refine SC.seq ?_
    refine SC.block ?_
    refine SC.seq ?_
    refine SC.region ?_
    refine SL.ru rfl rfl (lt_b rfl) (ru_move rfl rfl) ?_
    refine SL.ru rfl rfl (lt_b rfl) (ru_move rfl rfl) ?_
    refine SL.ru rfl rfl (lt_b rfl) (ru_move rfl rfl) ?_
    refine SL.callv (bo true) rfl rfl co17 rfl rfl rfl (lt_b rfl) (fun w hI => H_only hI (same_any (two_p hI) (two_q hI) 4)) ?_
    refine SL.ru rfl rfl (lt_b rfl) (ru_assign rfl rfl) ?_
    refine SL.nil ?_
    refine SC.of_SE ?_
    refine SC.norm [(4, bo false), (6, pt p 0), (8, pt r 0), (13, iw 4), (14, bo true)] [rTwo p ab r rb F L L] ⟨rfl, rfl, rfl, rfl, rfl, trivial⟩ rfl ?_
    refine SC.seq ?_
    refine SC.region ?_
    refine SL.ru rfl rfl (lt_b rfl) (ru_move rfl rfl) ?_
    refine SL.ru rfl rfl (lt_b rfl) (ru_not (c := false) rfl rfl rfl) ?_
    refine SL.nil ?_
    refine SC.of_SE ?_
    refine SC.norm [(4, bo false), (6, pt p 0), (8, pt r 0), (13, iw 4), (91, bo false)] [rTwo p ab r rb F L L] ⟨rfl, rfl, rfl, rfl, rfl, trivial⟩ rfl ?_
    refine SC.no rfl ?_
    refine SC.skip ?_
    refine SE.blkn ?_
    refine SC.of_SE ?_
    refine SC.norm [(4, bo false), (6, pt p 0), (8, pt r 0), (13, iw 4)] [rTwo p ab r rb F L L] ⟨rfl, rfl, rfl, rfl, trivial⟩ rfl ?_
    refine SC.region ?_
    refine SL.ru rfl rfl (lt_b rfl) (ru_move rfl rfl) ?_
    refine SL.ru rfl rfl (lt_b rfl) (ru_add (r := 5) rfl rfl rfl rfl) ?_
    refine SL.ru rfl rfl (lt_b rfl) (ru_assign rfl rfl) ?_
    refine SL.nil ?_
    refine SE.round ?_
    refine SR.norm [(4, bo false), (6, pt p 0), (8, pt r 0), (13, iw 5)] [rTwo p ab r rb F L L] ⟨rfl, rfl, rfl, rfl, trivial⟩ rfl ?_
    refine SR.next ?_
    refine SC.seq ?_
    refine SC.seq ?_
    refine SC.region ?_
    refine SL.ru rfl rfl (lt_b rfl) (ru_move rfl rfl) ?_
    refine SL.ru rfl rfl (lt_b rfl) (ru_lt (b := true) rfl rfl rfl rfl) ?_
    refine SL.nil ?_
    refine SC.of_SE ?_
    refine SC.norm [(4, bo false), (6, pt p 0), (8, pt r 0), (13, iw 5), (83, bo true)] [rTwo p ab r rb F L L] ⟨rfl, rfl, rfl, rfl, rfl, trivial⟩ rfl ?_
    refine SC.yes rfl ?_
    refine SC.skip ?_
    refine SC.of_SE ?_
    refine SC.norm [(4, bo false), (6, pt p 0), (8, pt r 0), (13, iw 5)] [rTwo p ab r rb F L L] ⟨rfl, rfl, rfl, rfl, trivial⟩ rfl ?_
    refine SC.seq ?_
    refine SC.block ?_
    refine SC.seq ?_
    refine SC.region ?_
    refine SL.ru rfl rfl (lt_b rfl) (ru_move rfl rfl) ?_
    refine SL.ru rfl rfl (lt_b rfl) (ru_move rfl rfl) ?_
    refine SL.ru rfl rfl (lt_b rfl) (ru_move rfl rfl) ?_
    refine SL.callv (bo true) rfl rfl co17 rfl rfl rfl (lt_b rfl) (fun w hI => H_only hI (same_any (two_p hI) (two_q hI) 5)) ?_
    refine SL.ru rfl rfl (lt_b rfl) (ru_assign rfl rfl) ?_
    refine SL.nil ?_
    refine SC.of_SE ?_
    refine SC.norm [(4, bo false), (6, pt p 0), (8, pt r 0), (13, iw 5), (14, bo true)] [rTwo p ab r rb F L L] ⟨rfl, rfl, rfl, rfl, rfl, trivial⟩ rfl ?_
    refine SC.seq ?_
    refine SC.region ?_
    refine SL.ru rfl rfl (lt_b rfl) (ru_move rfl rfl) ?_
    refine SL.ru rfl rfl (lt_b rfl) (ru_not (c := false) rfl rfl rfl) ?_
    refine SL.nil ?_
    refine SC.of_SE ?_
    refine SC.norm [(4, bo false), (6, pt p 0), (8, pt r 0), (13, iw 5), (91, bo false)] [rTwo p ab r rb F L L] ⟨rfl, rfl, rfl, rfl, rfl, trivial⟩ rfl ?_
    refine SC.no rfl ?_
    refine SC.skip ?_
    refine SE.blkn ?_
    refine SC.of_SE ?_
    refine SC.norm [(4, bo false), (6, pt p 0), (8, pt r 0), (13, iw 5)] [rTwo p ab r rb F L L] ⟨rfl, rfl, rfl, rfl, trivial⟩ rfl ?_
    refine SC.region ?_
    refine SL.ru rfl rfl (lt_b rfl) (ru_move rfl rfl) ?_
    refine SL.ru rfl rfl (lt_b rfl) (ru_add (r := 6) rfl rfl rfl rfl) ?_
    refine SL.ru rfl rfl (lt_b rfl) (ru_assign rfl rfl) ?_
    refine SL.nil ?_
    refine SE.round ?_
    refine SR.norm [(4, bo false), (6, pt p 0), (8, pt r 0), (13, iw 6)] [rTwo p ab r rb F L L] ⟨rfl, rfl, rfl, rfl, trivial⟩ rfl ?_
    refine SR.next ?_
    refine SC.seq ?_
    refine SC.seq ?_
    refine SC.region ?_
    refine SL.ru rfl rfl (lt_b rfl) (ru_move rfl rfl) ?_
    refine SL.ru rfl rfl (lt_b rfl) (ru_lt (b := true) rfl rfl rfl rfl) ?_
    refine SL.nil ?_
    refine SC.of_SE ?_
    refine SC.norm [(4, bo false), (6, pt p 0), (8, pt r 0), (13, iw 6), (83, bo true)] [rTwo p ab r rb F L L] ⟨rfl, rfl, rfl, rfl, rfl, trivial⟩ rfl ?_
    refine SC.yes rfl ?_
    refine SC.skip ?_
    refine SC.of_SE ?_
    refine SC.norm [(4, bo false), (6, pt p 0), (8, pt r 0), (13, iw 6)] [rTwo p ab r rb F L L] ⟨rfl, rfl, rfl, rfl, trivial⟩ rfl ?_
    refine SC.seq ?_
    refine SC.block ?_
    refine SC.seq ?_
    refine SC.region ?_
    refine SL.ru rfl rfl (lt_b rfl) (ru_move rfl rfl) ?_
    refine SL.ru rfl rfl (lt_b rfl) (ru_move rfl rfl) ?_
    refine SL.ru rfl rfl (lt_b rfl) (ru_move rfl rfl) ?_
    refine SL.callv (bo true) rfl rfl co17 rfl rfl rfl (lt_b rfl) (fun w hI => H_only hI (same_any (two_p hI) (two_q hI) 6)) ?_
    refine SL.ru rfl rfl (lt_b rfl) (ru_assign rfl rfl) ?_
    refine SL.nil ?_
    refine SC.of_SE ?_
    refine SC.norm [(4, bo false), (6, pt p 0), (8, pt r 0), (13, iw 6), (14, bo true)] [rTwo p ab r rb F L L] ⟨rfl, rfl, rfl, rfl, rfl, trivial⟩ rfl ?_
    refine SC.seq ?_
    refine SC.region ?_
    refine SL.ru rfl rfl (lt_b rfl) (ru_move rfl rfl) ?_
    refine SL.ru rfl rfl (lt_b rfl) (ru_not (c := false) rfl rfl rfl) ?_
    refine SL.nil ?_
    refine SC.of_SE ?_
    refine SC.norm [(4, bo false), (6, pt p 0), (8, pt r 0), (13, iw 6), (91, bo false)] [rTwo p ab r rb F L L] ⟨rfl, rfl, rfl, rfl, rfl, trivial⟩ rfl ?_
    refine SC.no rfl ?_
    refine SC.skip ?_
    refine SE.blkn ?_
    refine SC.of_SE ?_
    refine SC.norm [(4, bo false), (6, pt p 0), (8, pt r 0), (13, iw 6)] [rTwo p ab r rb F L L] ⟨rfl, rfl, rfl, rfl, trivial⟩ rfl ?_
    refine SC.region ?_
    refine SL.ru rfl rfl (lt_b rfl) (ru_move rfl rfl) ?_
    refine SL.ru rfl rfl (lt_b rfl) (ru_add (r := 7) rfl rfl rfl rfl) ?_
    refine SL.ru rfl rfl (lt_b rfl) (ru_assign rfl rfl) ?_
    refine SL.nil ?_
    refine SE.round ?_
    refine SR.norm [(4, bo false), (6, pt p 0), (8, pt r 0), (13, iw 7)] [rTwo p ab r rb F L L] ⟨rfl, rfl, rfl, rfl, trivial⟩ rfl ?_
    refine SR.next ?_
    refine SC.seq ?_
    refine SC.seq ?_
    refine SC.region ?_
    refine SL.ru rfl rfl (lt_b rfl) (ru_move rfl rfl) ?_
    refine SL.ru rfl rfl (lt_b rfl) (ru_lt (b := true) rfl rfl rfl rfl) ?_
    refine SL.nil ?_
    refine SC.of_SE ?_
    refine SC.norm [(4, bo false), (6, pt p 0), (8, pt r 0), (13, iw 7), (83, bo true)] [rTwo p ab r rb F L L] ⟨rfl, rfl, rfl, rfl, rfl, trivial⟩ rfl ?_
    refine SC.yes rfl ?_
    refine SC.skip ?_
    refine SC.of_SE ?_
    refine SC.norm [(4, bo false), (6, pt p 0), (8, pt r 0), (13, iw 7)] [rTwo p ab r rb F L L] ⟨rfl, rfl, rfl, rfl, trivial⟩ rfl ?_
    refine SC.seq ?_
    refine SC.block ?_
    refine SC.seq ?_
    refine SC.region ?_
    refine SL.ru rfl rfl (lt_b rfl) (ru_move rfl rfl) ?_
    refine SL.ru rfl rfl (lt_b rfl) (ru_move rfl rfl) ?_
    refine SL.ru rfl rfl (lt_b rfl) (ru_move rfl rfl) ?_
    refine SL.callv (bo true) rfl rfl co17 rfl rfl rfl (lt_b rfl) (fun w hI => H_only hI (same_any (two_p hI) (two_q hI) 7)) ?_
    refine SL.ru rfl rfl (lt_b rfl) (ru_assign rfl rfl) ?_
    refine SL.nil ?_
    refine SC.of_SE ?_
    refine SC.norm [(4, bo false), (6, pt p 0), (8, pt r 0), (13, iw 7), (14, bo true)] [rTwo p ab r rb F L L] ⟨rfl, rfl, rfl, rfl, rfl, trivial⟩ rfl ?_
    refine SC.seq ?_
    refine SC.region ?_
    refine SL.ru rfl rfl (lt_b rfl) (ru_move rfl rfl) ?_
    refine SL.ru rfl rfl (lt_b rfl) (ru_not (c := false) rfl rfl rfl) ?_
    refine SL.nil ?_
    refine SC.of_SE ?_
    refine SC.norm [(4, bo false), (6, pt p 0), (8, pt r 0), (13, iw 7), (91, bo false)] [rTwo p ab r rb F L L] ⟨rfl, rfl, rfl, rfl, rfl, trivial⟩ rfl ?_
    refine SC.no rfl ?_
    refine SC.skip ?_
    refine SE.blkn ?_
    refine SC.of_SE ?_
    refine SC.norm [(4, bo false), (6, pt p 0), (8, pt r 0), (13, iw 7)] [rTwo p ab r rb F L L] ⟨rfl, rfl, rfl, rfl, trivial⟩ rfl ?_
    refine SC.region ?_
    refine SL.ru rfl rfl (lt_b rfl) (ru_move rfl rfl) ?_
    refine SL.ru rfl rfl (lt_b rfl) (ru_add (r := 8) rfl rfl rfl rfl) ?_
    refine SL.ru rfl rfl (lt_b rfl) (ru_assign rfl rfl) ?_
    refine SL.nil ?_
    refine SE.round ?_
    refine SR.norm [(4, bo false), (6, pt p 0), (8, pt r 0), (13, iw 8)] [rTwo p ab r rb F L L] ⟨rfl, rfl, rfl, rfl, trivial⟩ rfl ?_
    refine SR.next ?_
    refine SC.seq ?_
    refine SC.seq ?_
    refine SC.region ?_
    refine SL.ru rfl rfl (lt_b rfl) (ru_move rfl rfl) ?_
    refine SL.ru rfl rfl (lt_b rfl) (ru_lt (b := true) rfl rfl rfl rfl) ?_
    refine SL.nil ?_
    refine SC.of_SE ?_
    refine SC.norm [(4, bo false), (6, pt p 0), (8, pt r 0), (13, iw 8), (83, bo true)] [rTwo p ab r rb F L L] ⟨rfl, rfl, rfl, rfl, rfl, trivial⟩ rfl ?_
    refine SC.yes rfl ?_
    refine SC.skip ?_
    refine SC.of_SE ?_
    refine SC.norm [(4, bo false), (6, pt p 0), (8, pt r 0), (13, iw 8)] [rTwo p ab r rb F L L] ⟨rfl, rfl, rfl, rfl, trivial⟩ rfl ?_
    refine SC.seq ?_
    refine SC.block ?_
    refine SC.seq ?_
    refine SC.region ?_
    refine SL.ru rfl rfl (lt_b rfl) (ru_move rfl rfl) ?_
    refine SL.ru rfl rfl (lt_b rfl) (ru_move rfl rfl) ?_
    refine SL.ru rfl rfl (lt_b rfl) (ru_move rfl rfl) ?_
    refine SL.callv (bo true) rfl rfl co17 rfl rfl rfl (lt_b rfl) (fun w hI => H_only hI (same_any (two_p hI) (two_q hI) 8)) ?_
    refine SL.ru rfl rfl (lt_b rfl) (ru_assign rfl rfl) ?_
    refine SL.nil ?_
    refine SC.of_SE ?_
    refine SC.norm [(4, bo false), (6, pt p 0), (8, pt r 0), (13, iw 8), (14, bo true)] [rTwo p ab r rb F L L] ⟨rfl, rfl, rfl, rfl, rfl, trivial⟩ rfl ?_
    refine SC.seq ?_
    refine SC.region ?_
    refine SL.ru rfl rfl (lt_b rfl) (ru_move rfl rfl) ?_
    refine SL.ru rfl rfl (lt_b rfl) (ru_not (c := false) rfl rfl rfl) ?_
    refine SL.nil ?_
    refine SC.of_SE ?_
    refine SC.norm [(4, bo false), (6, pt p 0), (8, pt r 0), (13, iw 8), (91, bo false)] [rTwo p ab r rb F L L] ⟨rfl, rfl, rfl, rfl, rfl, trivial⟩ rfl ?_
    refine SC.no rfl ?_
    refine SC.skip ?_
    refine SE.blkn ?_
    refine SC.of_SE ?_
    refine SC.norm [(4, bo false), (6, pt p 0), (8, pt r 0), (13, iw 8)] [rTwo p ab r rb F L L] ⟨rfl, rfl, rfl, rfl, trivial⟩ rfl ?_
    refine SC.region ?_
    refine SL.ru rfl rfl (lt_b rfl) (ru_move rfl rfl) ?_
    refine SL.ru rfl rfl (lt_b rfl) (ru_add (r := 9) rfl rfl rfl rfl) ?_
    refine SL.ru rfl rfl (lt_b rfl) (ru_assign rfl rfl) ?_
    refine SL.nil ?_
    refine SE.round ?_
    refine SR.norm [(4, bo false), (6, pt p 0), (8, pt r 0), (13, iw 9)] [rTwo p ab r rb F L L] ⟨rfl, rfl, rfl, rfl, trivial⟩ rfl ?_
    refine SR.next ?_
    refine SC.seq ?_
    refine SC.seq ?_
    refine SC.region ?_
    refine SL.ru rfl rfl (lt_b rfl) (ru_move rfl rfl) ?_
    refine SL.ru rfl rfl (lt_b rfl) (ru_lt (b := true) rfl rfl rfl rfl) ?_
    refine SL.nil ?_
    refine SC.of_SE ?_
    refine SC.norm [(4, bo false), (6, pt p 0), (8, pt r 0), (13, iw 9), (83, bo true)] [rTwo p ab r rb F L L] ⟨rfl, rfl, rfl, rfl, rfl, trivial⟩ rfl ?_
    refine SC.yes rfl ?_
    refine SC.skip ?_
    refine SC.of_SE ?_
    refine SC.norm [(4, bo false), (6, pt p 0), (8, pt r 0), (13, iw 9)] [rTwo p ab r rb F L L] ⟨rfl, rfl, rfl, rfl, trivial⟩ rfl ?_
    refine SC.seq ?_
    refine SC.block ?_
    refine SC.seq ?_
    refine SC.region ?_
    refine SL.ru rfl rfl (lt_b rfl) (ru_move rfl rfl) ?_
    refine SL.ru rfl rfl (lt_b rfl) (ru_move rfl rfl) ?_
    refine SL.ru rfl rfl (lt_b rfl) (ru_move rfl rfl) ?_
    refine SL.callv (bo true) rfl rfl co17 rfl rfl rfl (lt_b rfl) (fun w hI => H_only hI (same_any (two_p hI) (two_q hI) 9)) ?_
    refine SL.ru rfl rfl (lt_b rfl) (ru_assign rfl rfl) ?_
    refine SL.nil ?_
    refine SC.of_SE ?_
    refine SC.norm [(4, bo false), (6, pt p 0), (8, pt r 0), (13, iw 9), (14, bo true)] [rTwo p ab r rb F L L] ⟨rfl, rfl, rfl, rfl, rfl, trivial⟩ rfl ?_
    refine SC.seq ?_
    refine SC.region ?_
    refine SL.ru rfl rfl (lt_b rfl) (ru_move rfl rfl) ?_
    refine SL.ru rfl rfl (lt_b rfl) (ru_not (c := false) rfl rfl rfl) ?_
    refine SL.nil ?_
    refine SC.of_SE ?_
    refine SC.norm [(4, bo false), (6, pt p 0), (8, pt r 0), (13, iw 9), (91, bo false)] [rTwo p ab r rb F L L] ⟨rfl, rfl, rfl, rfl, rfl, trivial⟩ rfl ?_
    refine SC.no rfl ?_
    refine SC.skip ?_
    refine SE.blkn ?_
    refine SC.of_SE ?_
    refine SC.norm [(4, bo false), (6, pt p 0), (8, pt r 0), (13, iw 9)] [rTwo p ab r rb F L L] ⟨rfl, rfl, rfl, rfl, trivial⟩ rfl ?_
    refine SC.region ?_
    refine SL.ru rfl rfl (lt_b rfl) (ru_move rfl rfl) ?_
    refine SL.ru rfl rfl (lt_b rfl) (ru_add (r := 10) rfl rfl rfl rfl) ?_
    refine SL.ru rfl rfl (lt_b rfl) (ru_assign rfl rfl) ?_
    refine SL.nil ?_
    refine SE.round ?_
    refine SR.norm [(4, bo false), (6, pt p 0), (8, pt r 0), (13, iw 10)] [rTwo p ab r rb F L L] ⟨rfl, rfl, rfl, rfl, trivial⟩ rfl ?_
    refine SR.next ?_
    refine SC.seq ?_
    refine SC.seq ?_
    refine SC.region ?_
    refine SL.ru rfl rfl (lt_b rfl) (ru_move rfl rfl) ?_
    refine SL.ru rfl rfl (lt_b rfl) (ru_lt (b := true) rfl rfl rfl rfl) ?_
    refine SL.nil ?_
    refine SC.of_SE ?_
    refine SC.norm [(4, bo false), (6, pt p 0), (8, pt r 0), (13, iw 10), (83, bo true)] [rTwo p ab r rb F L L] ⟨rfl, rfl, rfl, rfl, rfl, trivial⟩ rfl ?_
    refine SC.yes rfl ?_
    refine SC.skip ?_
    refine SC.of_SE ?_
    refine SC.norm [(4, bo false), (6, pt p 0), (8, pt r 0), (13, iw 10)] [rTwo p ab r rb F L L] ⟨rfl, rfl, rfl, rfl, trivial⟩ rfl ?_
    refine SC.seq ?_
    refine SC.block ?_
    refine SC.seq ?_
    refine SC.region ?_
    refine SL.ru rfl rfl (lt_b rfl) (ru_move rfl rfl) ?_
    refine SL.ru rfl rfl (lt_b rfl) (ru_move rfl rfl) ?_
    refine SL.ru rfl rfl (lt_b rfl) (ru_move rfl rfl) ?_
    refine SL.callv (bo true) rfl rfl co17 rfl rfl rfl (lt_b rfl) (fun w hI => H_only hI (same_any (two_p hI) (two_q hI) 10)) ?_
    refine SL.ru rfl rfl (lt_b rfl) (ru_assign rfl rfl) ?_
    refine SL.nil ?_
    refine SC.of_SE ?_
    refine SC.norm [(4, bo false), (6, pt p 0), (8, pt r 0), (13, iw 10), (14, bo true)] [rTwo p ab r rb F L L] ⟨rfl, rfl, rfl, rfl, rfl, trivial⟩ rfl ?_
    refine SC.seq ?_
    refine SC.region ?_
    refine SL.ru rfl rfl (lt_b rfl) (ru_move rfl rfl) ?_
    refine SL.ru rfl rfl (lt_b rfl) (ru_not (c := false) rfl rfl rfl) ?_
    refine SL.nil ?_
    refine SC.of_SE ?_
    refine SC.norm [(4, bo false), (6, pt p 0), (8, pt r 0), (13, iw 10), (91, bo false)] [rTwo p ab r rb F L L] ⟨rfl, rfl, rfl, rfl, rfl, trivial⟩ rfl ?_
    refine SC.no rfl ?_
    refine SC.skip ?_
    refine SE.blkn ?_
    refine SC.of_SE ?_
    refine SC.norm [(4, bo false), (6, pt p 0), (8, pt r 0), (13, iw 10)] [rTwo p ab r rb F L L] ⟨rfl, rfl, rfl, rfl, trivial⟩ rfl ?_
    refine SC.region ?_
    refine SL.ru rfl rfl (lt_b rfl) (ru_move rfl rfl) ?_
    refine SL.ru rfl rfl (lt_b rfl) (ru_add (r := 11) rfl rfl rfl rfl) ?_
    refine SL.ru rfl rfl (lt_b rfl) (ru_assign rfl rfl) ?_
    refine SL.nil ?_
    refine SE.round ?_
    refine SR.norm [(4, bo false), (6, pt p 0), (8, pt r 0), (13, iw 11)] [rTwo p ab r rb F L L] ⟨rfl, rfl, rfl, rfl, trivial⟩ rfl ?_
    refine SR.next ?_
    refine SC.seq ?_
    refine SC.seq ?_
    refine SC.region ?_
    refine SL.ru rfl rfl (lt_b rfl) (ru_move rfl rfl) ?_
    refine SL.ru rfl rfl (lt_b rfl) (ru_lt (b := true) rfl rfl rfl rfl) ?_
    refine SL.nil ?_
    refine SC.of_SE ?_
    refine SC.norm [(4, bo false), (6, pt p 0), (8, pt r 0), (13, iw 11), (83, bo true)] [rTwo p ab r rb F L L] ⟨rfl, rfl, rfl, rfl, rfl, trivial⟩ rfl ?_
    refine SC.yes rfl ?_
    refine SC.skip ?_
    refine SC.of_SE ?_
    refine SC.norm [(4, bo false), (6, pt p 0), (8, pt r 0), (13, iw 11)] [rTwo p ab r rb F L L] ⟨rfl, rfl, rfl, rfl, trivial⟩ rfl ?_
    refine SC.seq ?_
    refine SC.block ?_
    refine SC.seq ?_
    refine SC.region ?_
    refine SL.ru rfl rfl (lt_b rfl) (ru_move rfl rfl) ?_
    refine SL.ru rfl rfl (lt_b rfl) (ru_move rfl rfl) ?_
    refine SL.ru rfl rfl (lt_b rfl) (ru_move rfl rfl) ?_
    refine SL.callv (bo true) rfl rfl co17 rfl rfl rfl (lt_b rfl) (fun w hI => H_only hI (same_any (two_p hI) (two_q hI) 11)) ?_
    refine SL.ru rfl rfl (lt_b rfl) (ru_assign rfl rfl) ?_
    refine SL.nil ?_
    refine SC.of_SE ?_
    refine SC.norm [(4, bo false), (6, pt p 0), (8, pt r 0), (13, iw 11), (14, bo true)] [rTwo p ab r rb F L L] ⟨rfl, rfl, rfl, rfl, rfl, trivial⟩ rfl ?_
    refine SC.seq ?_
    refine SC.region ?_
    refine SL.ru rfl rfl (lt_b rfl) (ru_move rfl rfl) ?_
    refine SL.ru rfl rfl (lt_b rfl) (ru_not (c := false) rfl rfl rfl) ?_
    refine SL.nil ?_
    refine SC.of_SE ?_
    refine SC.norm [(4, bo false), (6, pt p 0), (8, pt r 0), (13, iw 11), (91, bo false)] [rTwo p ab r rb F L L] ⟨rfl, rfl, rfl, rfl, rfl, trivial⟩ rfl ?_
    refine SC.no rfl ?_
    refine SC.skip ?_
    refine SE.blkn ?_
    refine SC.of_SE ?_
    refine SC.norm [(4, bo false), (6, pt p 0), (8, pt r 0), (13, iw 11)] [rTwo p ab r rb F L L] ⟨rfl, rfl, rfl, rfl, trivial⟩ rfl ?_
    refine SC.region ?_
    refine SL.ru rfl rfl (lt_b rfl) (ru_move rfl rfl) ?_
    refine SL.ru rfl rfl (lt_b rfl) (ru_add (r := 12) rfl rfl rfl rfl) ?_
    refine SL.ru rfl rfl (lt_b rfl) (ru_assign rfl rfl) ?_
    refine SL.nil ?_
    refine SE.round ?_
    refine SR.norm [(4, bo false), (6, pt p 0), (8, pt r 0), (13, iw 12)] [rTwo p ab r rb F L L] ⟨rfl, rfl, rfl, rfl, trivial⟩ rfl ?_
    refine SR.next ?_
    refine SC.seq ?_
    refine SC.seq ?_
    refine SC.region ?_
    refine SL.ru rfl rfl (lt_b rfl) (ru_move rfl rfl) ?_
    refine SL.ru rfl rfl (lt_b rfl) (ru_lt (b := true) rfl rfl rfl rfl) ?_
    refine SL.nil ?_
    refine SC.of_SE ?_
    refine SC.norm [(4, bo false), (6, pt p 0), (8, pt r 0), (13, iw 12), (83, bo true)] [rTwo p ab r rb F L L] ⟨rfl, rfl, rfl, rfl, rfl, trivial⟩ rfl ?_
    refine SC.yes rfl ?_
    refine SC.skip ?_
    refine SC.of_SE ?_
    refine SC.norm [(4, bo false), (6, pt p 0), (8, pt r 0), (13, iw 12)] [rTwo p ab r rb F L L] ⟨rfl, rfl, rfl, rfl, trivial⟩ rfl ?_
    refine SC.seq ?_
    refine SC.block ?_
    refine SC.seq ?_
    refine SC.region ?_
    refine SL.ru rfl rfl (lt_b rfl) (ru_move rfl rfl) ?_
    refine SL.ru rfl rfl (lt_b rfl) (ru_move rfl rfl) ?_
    refine SL.ru rfl rfl (lt_b rfl) (ru_move rfl rfl) ?_
    refine SL.callv (bo true) rfl rfl co17 rfl rfl rfl (lt_b rfl) (fun w hI => H_only hI (same_any (two_p hI) (two_q hI) 12)) ?_
    refine SL.ru rfl rfl (lt_b rfl) (ru_assign rfl rfl) ?_
    refine SL.nil ?_
    refine SC.of_SE ?_
    refine SC.norm [(4, bo false), (6, pt p 0), (8, pt r 0), (13, iw 12), (14, bo true)] [rTwo p ab r rb F L L] ⟨rfl, rfl, rfl, rfl, rfl, trivial⟩ rfl ?_
    refine SC.seq ?_
    refine SC.region ?_
    refine SL.ru rfl rfl (lt_b rfl) (ru_move rfl rfl) ?_
    refine SL.ru rfl rfl (lt_b rfl) (ru_not (c := false) rfl rfl rfl) ?_
    refine SL.nil ?_
    refine SC.of_SE ?_
    refine SC.norm [(4, bo false), (6, pt p 0), (8, pt r 0), (13, iw 12), (91, bo false)] [rTwo p ab r rb F L L] ⟨rfl, rfl, rfl, rfl, rfl, trivial⟩ rfl ?_
    refine SC.no rfl ?_
    refine SC.skip ?_
    refine SE.blkn ?_
    refine SC.of_SE ?_
    refine SC.norm [(4, bo false), (6, pt p 0), (8, pt r 0), (13, iw 12)] [rTwo p ab r rb F L L] ⟨rfl, rfl, rfl, rfl, trivial⟩ rfl ?_
    refine SC.region ?_
    refine SL.ru rfl rfl (lt_b rfl) (ru_move rfl rfl) ?_
    refine SL.ru rfl rfl (lt_b rfl) (ru_add (r := 13) rfl rfl rfl rfl) ?_
    refine SL.ru rfl rfl (lt_b rfl) (ru_assign rfl rfl) ?_
    refine SL.nil ?_
    refine SE.round ?_
    refine SR.norm [(4, bo false), (6, pt p 0), (8, pt r 0), (13, iw 13)] [rTwo p ab r rb F L L] ⟨rfl, rfl, rfl, rfl, trivial⟩ rfl ?_
    refine SR.next ?_
    refine SC.seq ?_
    refine SC.seq ?_
    refine SC.region ?_
    refine SL.ru rfl rfl (lt_b rfl) (ru_move rfl rfl) ?_
    refine SL.ru rfl rfl (lt_b rfl) (ru_lt (b := true) rfl rfl rfl rfl) ?_
    refine SL.nil ?_
    refine SC.of_SE ?_
    refine SC.norm [(4, bo false), (6, pt p 0), (8, pt r 0), (13, iw 13), (83, bo true)] [rTwo p ab r rb F L L] ⟨rfl, rfl, rfl, rfl, rfl, trivial⟩ rfl ?_
    refine SC.yes rfl ?_
    refine SC.skip ?_
    refine SC.of_SE ?_
    refine SC.norm [(4, bo false), (6, pt p 0), (8, pt r 0), (13, iw 13)] [rTwo p ab r rb F L L] ⟨rfl, rfl, rfl, rfl, trivial⟩ rfl ?_
    refine SC.seq ?_
    refine SC.block ?_
    refine SC.seq ?_
    refine SC.region ?_
    refine SL.ru rfl rfl (lt_b rfl) (ru_move rfl rfl) ?_
    refine SL.ru rfl rfl (lt_b rfl) (ru_move rfl rfl) ?_
    refine SL.ru rfl rfl (lt_b rfl) (ru_move rfl rfl) ?_
    refine SL.callv (bo true) rfl rfl co17 rfl rfl rfl (lt_b rfl) (fun w hI => H_only hI (same_any (two_p hI) (two_q hI) 13)) ?_
    refine SL.ru rfl rfl (lt_b rfl) (ru_assign rfl rfl) ?_
    refine SL.nil ?_
    refine SC.of_SE ?_
    refine SC.norm [(4, bo false), (6, pt p 0), (8, pt r 0), (13, iw 13), (14, bo true)] [rTwo p ab r rb F L L] ⟨rfl, rfl, rfl, rfl, rfl, trivial⟩ rfl ?_
    refine SC.seq ?_
    refine SC.region ?_
    refine SL.ru rfl rfl (lt_b rfl) (ru_move rfl rfl) ?_
    refine SL.ru rfl rfl (lt_b rfl) (ru_not (c := false) rfl rfl rfl) ?_
    refine SL.nil ?_
    refine SC.of_SE ?_
    refine SC.norm [(4, bo false), (6, pt p 0), (8, pt r 0), (13, iw 13), (91, bo false)] [rTwo p ab r rb F L L] ⟨rfl, rfl, rfl, rfl, rfl, trivial⟩ rfl ?_
    refine SC.no rfl ?_
    refine SC.skip ?_
    refine SE.blkn ?_
    refine SC.of_SE ?_
    refine SC.norm [(4, bo false), (6, pt p 0), (8, pt r 0), (13, iw 13)] [rTwo p ab r rb F L L] ⟨rfl, rfl, rfl, rfl, trivial⟩ rfl ?_
    refine SC.region ?_
    refine SL.ru rfl rfl (lt_b rfl) (ru_move rfl rfl) ?_
    refine SL.ru rfl rfl (lt_b rfl) (ru_add (r := 14) rfl rfl rfl rfl) ?_
    refine SL.ru rfl rfl (lt_b rfl) (ru_assign rfl rfl) ?_
    refine SL.nil ?_
    refine SE.round ?_
    refine SR.norm [(4, bo false), (6, pt p 0), (8, pt r 0), (13, iw 14)] [rTwo p ab r rb F L L] ⟨rfl, rfl, rfl, rfl, trivial⟩ rfl ?_
    refine SR.next ?_
    refine SC.seq ?_
    refine SC.seq ?_
    refine SC.region ?_
    refine SL.ru rfl rfl (lt_b rfl) (ru_move rfl rfl) ?_
    refine SL.ru rfl rfl (lt_b rfl) (ru_lt (b := true) rfl rfl rfl rfl) ?_
    refine SL.nil ?_
    refine SC.of_SE ?_
    refine SC.norm [(4, bo false), (6, pt p 0), (8, pt r 0), (13, iw 14), (83, bo true)] [rTwo p ab r rb F L L] ⟨rfl, rfl, rfl, rfl, rfl, trivial⟩ rfl ?_
    refine SC.yes rfl ?_
    refine SC.skip ?_
    refine SC.of_SE ?_
    refine SC.norm [(4, bo false), (6, pt p 0), (8, pt r 0), (13, iw 14)] [rTwo p ab r rb F L L] ⟨rfl, rfl, rfl, rfl, trivial⟩ rfl ?_
    refine SC.seq ?_
    refine SC.block ?_
    refine SC.seq ?_
    refine SC.region ?_
    refine SL.ru rfl rfl (lt_b rfl) (ru_move rfl rfl) ?_
    refine SL.ru rfl rfl (lt_b rfl) (ru_move rfl rfl) ?_
    refine SL.ru rfl rfl (lt_b rfl) (ru_move rfl rfl) ?_
    refine SL.callv (bo true) rfl rfl co17 rfl rfl rfl (lt_b rfl) (fun w hI => H_only hI (same_any (two_p hI) (two_q hI) 14)) ?_
    refine SL.ru rfl rfl (lt_b rfl) (ru_assign rfl rfl) ?_
    refine SL.nil ?_
    refine SC.of_SE ?_
    refine SC.norm [(4, bo false), (6, pt p 0), (8, pt r 0), (13, iw 14), (14, bo true)] [rTwo p ab r rb F L L] ⟨rfl, rfl, rfl, rfl, rfl, trivial⟩ rfl ?_
    refine SC.seq ?_
    refine SC.region ?_
    refine SL.ru rfl rfl (lt_b rfl) (ru_move rfl rfl) ?_
    refine SL.ru rfl rfl (lt_b rfl) (ru_not (c := false) rfl rfl rfl) ?_
    refine SL.nil ?_
    refine SC.of_SE ?_
    refine SC.norm [(4, bo false), (6, pt p 0), (8, pt r 0), (13, iw 14), (91, bo false)] [rTwo p ab r rb F L L] ⟨rfl, rfl, rfl, rfl, rfl, trivial⟩ rfl ?_
    refine SC.no rfl ?_
    refine SC.skip ?_
    refine SE.blkn ?_
    refine SC.of_SE ?_
    refine SC.norm [(4, bo false), (6, pt p 0), (8, pt r 0), (13, iw 14)] [rTwo p ab r rb F L L] ⟨rfl, rfl, rfl, rfl, trivial⟩ rfl ?_
    refine SC.region ?_
    refine SL.ru rfl rfl (lt_b rfl) (ru_move rfl rfl) ?_
    refine SL.ru rfl rfl (lt_b rfl) (ru_add (r := 15) rfl rfl rfl rfl) ?_
    refine SL.ru rfl rfl (lt_b rfl) (ru_assign rfl rfl) ?_
    refine SL.nil ?_
    refine SE.round ?_
    refine SR.norm [(4, bo false), (6, pt p 0), (8, pt r 0), (13, iw 15)] [rTwo p ab r rb F L L] ⟨rfl, rfl, rfl, rfl, trivial⟩ rfl ?_
    refine SR.next ?_
    refine SC.seq ?_
    refine SC.seq ?_
    refine SC.region ?_
    refine SL.ru rfl rfl (lt_b rfl) (ru_move rfl rfl) ?_
    refine SL.ru rfl rfl (lt_b rfl) (ru_lt (b := true) rfl rfl rfl rfl) ?_
    refine SL.nil ?_
    refine SC.of_SE ?_
    refine SC.norm [(4, bo false), (6, pt p 0), (8, pt r 0), (13, iw 15), (83, bo true)] [rTwo p ab r rb F L L] ⟨rfl, rfl, rfl, rfl, rfl, trivial⟩ rfl ?_
    refine SC.yes rfl ?_
    refine SC.skip ?_
    refine SC.of_SE ?_
    refine SC.norm [(4, bo false), (6, pt p 0), (8, pt r 0), (13, iw 15)] [rTwo p ab r rb F L L] ⟨rfl, rfl, rfl, rfl, trivial⟩ rfl ?_
    refine SC.seq ?_
    refine SC.block ?_
    refine SC.seq ?_
    refine SC.region ?_
    refine SL.ru rfl rfl (lt_b rfl) (ru_move rfl rfl) ?_
    refine SL.ru rfl rfl (lt_b rfl) (ru_move rfl rfl) ?_
    refine SL.ru rfl rfl (lt_b rfl) (ru_move rfl rfl) ?_
    refine SL.callv (bo true) rfl rfl co17 rfl rfl rfl (lt_b rfl) (fun w hI => H_only hI (same_any (two_p hI) (two_q hI) 15)) ?_
    refine SL.ru rfl rfl (lt_b rfl) (ru_assign rfl rfl) ?_
    refine SL.nil ?_
    refine SC.of_SE ?_
    refine SC.norm [(4, bo false), (6, pt p 0), (8, pt r 0), (13, iw 15), (14, bo true)] [rTwo p ab r rb F L L] ⟨rfl, rfl, rfl, rfl, rfl, trivial⟩ rfl ?_
    refine SC.seq ?_
    refine SC.region ?_
    refine SL.ru rfl rfl (lt_b rfl) (ru_move rfl rfl) ?_
    refine SL.ru rfl rfl (lt_b rfl) (ru_not (c := false) rfl rfl rfl) ?_
    refine SL.nil ?_
    refine SC.of_SE ?_
    refine SC.norm [(4, bo false), (6, pt p 0), (8, pt r 0), (13, iw 15), (91, bo false)] [rTwo p ab r rb F L L] ⟨rfl, rfl, rfl, rfl, rfl, trivial⟩ rfl ?_
    refine SC.no rfl ?_
    refine SC.skip ?_
    refine SE.blkn ?_
    refine SC.of_SE ?_
    refine SC.norm [(4, bo false), (6, pt p 0), (8, pt r 0), (13, iw 15)] [rTwo p ab r rb F L L] ⟨rfl, rfl, rfl, rfl, trivial⟩ rfl ?_
    refine SC.region ?_
    refine SL.ru rfl rfl (lt_b rfl) (ru_move rfl rfl) ?_
    refine SL.ru rfl rfl (lt_b rfl) (ru_add (r := 16) rfl rfl rfl rfl) ?_
    refine SL.ru rfl rfl (lt_b rfl) (ru_assign rfl rfl) ?_
    refine SL.nil ?_
    refine SE.round ?_
    refine SR.norm [(4, bo false), (6, pt p 0), (8, pt r 0), (13, iw 16)] [rTwo p ab r rb F L L] ⟨rfl, rfl, rfl, rfl, trivial⟩ rfl ?_
    refine SR.next ?_
    refine SC.seq ?_
    refine SC.seq ?_
    refine SC.region ?_
    refine SL.ru rfl rfl (lt_b rfl) (ru_move rfl rfl) ?_
    refine SL.ru rfl rfl (lt_b rfl) (ru_lt (b := true) rfl rfl rfl rfl) ?_
    refine SL.nil ?_
    refine SC.of_SE ?_
    refine SC.norm [(4, bo false), (6, pt p 0), (8, pt r 0), (13, iw 16), (83, bo true)] [rTwo p ab r rb F L L] ⟨rfl, rfl, rfl, rfl, rfl, trivial⟩ rfl ?_
    refine SC.yes rfl ?_
    refine SC.skip ?_
    refine SC.of_SE ?_
    refine SC.norm [(4, bo false), (6, pt p 0), (8, pt r 0), (13, iw 16)] [rTwo p ab r rb F L L] ⟨rfl, rfl, rfl, rfl, trivial⟩ rfl ?_
    refine SC.seq ?_
    refine SC.block ?_
    refine SC.seq ?_
    refine SC.region ?_
    refine SL.ru rfl rfl (lt_b rfl) (ru_move rfl rfl) ?_
    refine SL.ru rfl rfl (lt_b rfl) (ru_move rfl rfl) ?_
    refine SL.ru rfl rfl (lt_b rfl) (ru_move rfl rfl) ?_
    refine SL.callv (bo true) rfl rfl co17 rfl rfl rfl (lt_b rfl) (fun w hI => H_only hI (same_any (two_p hI) (two_q hI) 16)) ?_
    refine SL.ru rfl rfl (lt_b rfl) (ru_assign rfl rfl) ?_
    refine SL.nil ?_
    refine SC.of_SE ?_
    refine SC.norm [(4, bo false), (6, pt p 0), (8, pt r 0), (13, iw 16), (14, bo true)] [rTwo p ab r rb F L L] ⟨rfl, rfl, rfl, rfl, rfl, trivial⟩ rfl ?_
    refine SC.seq ?_
    refine SC.region ?_
    refine SL.ru rfl rfl (lt_b rfl) (ru_move rfl rfl) ?_
    refine SL.ru rfl rfl (lt_b rfl) (ru_not (c := false) rfl rfl rfl) ?_
    refine SL.nil ?_
    refine SC.of_SE ?_
    refine SC.norm [(4, bo false), (6, pt p 0), (8, pt r 0), (13, iw 16), (91, bo false)] [rTwo p ab r rb F L L] ⟨rfl, rfl, rfl, rfl, rfl, trivial⟩ rfl ?_
    refine SC.no rfl ?_
    refine SC.skip ?_
    refine SE.blkn ?_
    refine SC.of_SE ?_
    refine SC.norm [(4, bo false), (6, pt p 0), (8, pt r 0), (13, iw 16)] [rTwo p ab r rb F L L] ⟨rfl, rfl, rfl, rfl, trivial⟩ rfl ?_
    refine SC.region ?_
    refine SL.ru rfl rfl (lt_b rfl) (ru_move rfl rfl) ?_
    refine SL.ru rfl rfl (lt_b rfl) (ru_add (r := 17) rfl rfl rfl rfl) ?_
    refine SL.ru rfl rfl (lt_b rfl) (ru_assign rfl rfl) ?_
    refine SL.nil ?_
    refine SE.round ?_
    refine SR.norm [(4, bo false), (6, pt p 0), (8, pt r 0), (13, iw 17)] [rTwo p ab r rb F L L] ⟨rfl, rfl, rfl, rfl, trivial⟩ rfl ?_
    refine SR.next ?_
    refine SC.seq ?_
    refine SC.seq ?_
    refine SC.region ?_
    refine SL.ru rfl rfl (lt_b rfl) (ru_move rfl rfl) ?_
    refine SL.ru rfl rfl (lt_b rfl) (ru_lt (b := true) rfl rfl rfl rfl) ?_
    refine SL.nil ?_
    refine SC.of_SE ?_
    refine SC.norm [(4, bo false), (6, pt p 0), (8, pt r 0), (13, iw 17), (83, bo true)] [rTwo p ab r rb F L L] ⟨rfl, rfl, rfl, rfl, rfl, trivial⟩ rfl ?_
    refine SC.yes rfl ?_
    refine SC.skip ?_
    refine SC.of_SE ?_
    refine SC.norm [(4, bo false), (6, pt p 0), (8, pt r 0), (13, iw 17)] [rTwo p ab r rb F L L] ⟨rfl, rfl, rfl, rfl, trivial⟩ rfl ?_
    refine SC.seq ?_
    refine SC.block ?_
    refine SC.seq ?_
    refine SC.region ?_
    refine SL.ru rfl rfl (lt_b rfl) (ru_move rfl rfl) ?_
    refine SL.ru rfl rfl (lt_b rfl) (ru_move rfl rfl) ?_
    refine SL.ru rfl rfl (lt_b rfl) (ru_move rfl rfl) ?_
    refine SL.callv (bo true) rfl rfl co17 rfl rfl rfl (lt_b rfl) (fun w hI => H_only hI (same_any (two_p hI) (two_q hI) 17)) ?_
    refine SL.ru rfl rfl (lt_b rfl) (ru_assign rfl rfl) ?_
    refine SL.nil ?_
    refine SC.of_SE ?_
    refine SC.norm [(4, bo false), (6, pt p 0), (8, pt r 0), (13, iw 17), (14, bo true)] [rTwo p ab r rb F L L] ⟨rfl, rfl, rfl, rfl, rfl, trivial⟩ rfl ?_
    refine SC.seq ?_
    refine SC.region ?_
    refine SL.ru rfl rfl (lt_b rfl) (ru_move rfl rfl) ?_
    refine SL.ru rfl rfl (lt_b rfl) (ru_not (c := false) rfl rfl rfl) ?_
    refine SL.nil ?_
    refine SC.of_SE ?_
    refine SC.norm [(4, bo false), (6, pt p 0), (8, pt r 0), (13, iw 17), (91, bo false)] [rTwo p ab r rb F L L] ⟨rfl, rfl, rfl, rfl, rfl, trivial⟩ rfl ?_
    refine SC.no rfl ?_
    refine SC.skip ?_
    refine SE.blkn ?_
    refine SC.of_SE ?_
    refine SC.norm [(4, bo false), (6, pt p 0), (8, pt r 0), (13, iw 17)] [rTwo p ab r rb F L L] ⟨rfl, rfl, rfl, rfl, trivial⟩ rfl ?_
    refine SC.region ?_
    refine SL.ru rfl rfl (lt_b rfl) (ru_move rfl rfl) ?_
    refine SL.ru rfl rfl (lt_b rfl) (ru_add (r := 18) rfl rfl rfl rfl) ?_
    refine SL.ru rfl rfl (lt_b rfl) (ru_assign rfl rfl) ?_
    refine SL.nil ?_
    refine SE.round ?_
    refine SR.norm [(4, bo false), (6, pt p 0), (8, pt r 0), (13, iw 18)] [rTwo p ab r rb F L L] ⟨rfl, rfl, rfl, rfl, trivial⟩ rfl ?_
    refine SR.next ?_
    refine SC.seq ?_
    refine SC.seq ?_
    refine SC.region ?_
    refine SL.ru rfl rfl (lt_b rfl) (ru_move rfl rfl) ?_
    refine SL.ru rfl rfl (lt_b rfl) (ru_lt (b := true) rfl rfl rfl rfl) ?_
    refine SL.nil ?_
    refine SC.of_SE ?_
    refine SC.norm [(4, bo false), (6, pt p 0), (8, pt r 0), (13, iw 18), (83, bo true)] [rTwo p ab r rb F L L] ⟨rfl, rfl, rfl, rfl, rfl, trivial⟩ rfl ?_
    refine SC.yes rfl ?_
    refine SC.skip ?_
    refine SC.of_SE ?_
    refine SC.norm [(4, bo false), (6, pt p 0), (8, pt r 0), (13, iw 18)] [rTwo p ab r rb F L L] ⟨rfl, rfl, rfl, rfl, trivial⟩ rfl ?_
    refine SC.seq ?_
    refine SC.block ?_
    refine SC.seq ?_
    refine SC.region ?_
    refine SL.ru rfl rfl (lt_b rfl) (ru_move rfl rfl) ?_
    refine SL.ru rfl rfl (lt_b rfl) (ru_move rfl rfl) ?_
    refine SL.ru rfl rfl (lt_b rfl) (ru_move rfl rfl) ?_
    refine SL.callv (bo true) rfl rfl co17 rfl rfl rfl (lt_b rfl) (fun w hI => H_only hI (same_any (two_p hI) (two_q hI) 18)) ?_
    refine SL.ru rfl rfl (lt_b rfl) (ru_assign rfl rfl) ?_
    refine SL.nil ?_
    refine SC.of_SE ?_
    refine SC.norm [(4, bo false), (6, pt p 0), (8, pt r 0), (13, iw 18), (14, bo true)] [rTwo p ab r rb F L L] ⟨rfl, rfl, rfl, rfl, rfl, trivial⟩ rfl ?_
    refine SC.seq ?_
    refine SC.region ?_
    refine SL.ru rfl rfl (lt_b rfl) (ru_move rfl rfl) ?_
    refine SL.ru rfl rfl (lt_b rfl) (ru_not (c := false) rfl rfl rfl) ?_
    refine SL.nil ?_
    refine SC.of_SE ?_
    refine SC.norm [(4, bo false), (6, pt p 0), (8, pt r 0), (13, iw 18), (91, bo false)] [rTwo p ab r rb F L L] ⟨rfl, rfl, rfl, rfl, rfl, trivial⟩ rfl ?_
    refine SC.no rfl ?_
    refine SC.skip ?_
    refine SE.blkn ?_
    refine SC.of_SE ?_
    refine SC.norm [(4, bo false), (6, pt p 0), (8, pt r 0), (13, iw 18)] [rTwo p ab r rb F L L] ⟨rfl, rfl, rfl, rfl, trivial⟩ rfl ?_
    refine SC.region ?_
    refine SL.ru rfl rfl (lt_b rfl) (ru_move rfl rfl) ?_
    refine SL.ru rfl rfl (lt_b rfl) (ru_add (r := 19) rfl rfl rfl rfl) ?_
    refine SL.ru rfl rfl (lt_b rfl) (ru_assign rfl rfl) ?_
    refine SL.nil ?_
    refine SE.round ?_
    refine SR.norm [(4, bo false), (6, pt p 0), (8, pt r 0), (13, iw 19)] [rTwo p ab r rb F L L] ⟨rfl, rfl, rfl, rfl, trivial⟩ rfl ?_
    refine SR.next ?_
    refine SC.seq ?_
    refine SC.seq ?_
    refine SC.region ?_
    refine SL.ru rfl rfl (lt_b rfl) (ru_move rfl rfl) ?_
    refine SL.ru rfl rfl (lt_b rfl) (ru_lt (b := true) rfl rfl rfl rfl) ?_
    refine SL.nil ?_
    refine SC.of_SE ?_
    refine SC.norm [(4, bo false), (6, pt p 0), (8, pt r 0), (13, iw 19), (83, bo true)] [rTwo p ab r rb F L L] ⟨rfl, rfl, rfl, rfl, rfl, trivial⟩ rfl ?_
    refine SC.yes rfl ?_
    refine SC.skip ?_
    refine SC.of_SE ?_
    refine SC.norm [(4, bo false), (6, pt p 0), (8, pt r 0), (13, iw 19)] [rTwo p ab r rb F L L] ⟨rfl, rfl, rfl, rfl, trivial⟩ rfl ?_
    refine SC.seq ?_
    refine SC.block ?_
    refine SC.seq ?_
    refine SC.region ?_
    refine SL.ru rfl rfl (lt_b rfl) (ru_move rfl rfl) ?_
    refine SL.ru rfl rfl (lt_b rfl) (ru_move rfl rfl) ?_
    refine SL.ru rfl rfl (lt_b rfl) (ru_move rfl rfl) ?_
    refine SL.callv (bo true) rfl rfl co17 rfl rfl rfl (lt_b rfl) (fun w hI => H_only hI (same_any (two_p hI) (two_q hI) 19)) ?_
    refine SL.ru rfl rfl (lt_b rfl) (ru_assign rfl rfl) ?_
    refine SL.nil ?_
    refine SC.of_SE ?_
    refine SC.norm [(4, bo false), (6, pt p 0), (8, pt r 0), (13, iw 19), (14, bo true)] [rTwo p ab r rb F L L] ⟨rfl, rfl, rfl, rfl, rfl, trivial⟩ rfl ?_
    refine SC.seq ?_
    refine SC.region ?_
    refine SL.ru rfl rfl (lt_b rfl) (ru_move rfl rfl) ?_
    refine SL.ru rfl rfl (lt_b rfl) (ru_not (c := false) rfl rfl rfl) ?_
    refine SL.nil ?_
    refine SC.of_SE ?_
    refine SC.norm [(4, bo false), (6, pt p 0), (8, pt r 0), (13, iw 19), (91, bo false)] [rTwo p ab r rb F L L] ⟨rfl, rfl, rfl, rfl, rfl, trivial⟩ rfl ?_
    refine SC.no rfl ?_
    refine SC.skip ?_
    refine SE.blkn ?_
    refine SC.of_SE ?_
    refine SC.norm [(4, bo false), (6, pt p 0), (8, pt r 0), (13, iw 19)] [rTwo p ab r rb F L L] ⟨rfl, rfl, rfl, rfl, trivial⟩ rfl ?_
    refine SC.region ?_
    refine SL.ru rfl rfl (lt_b rfl) (ru_move rfl rfl) ?_
    refine SL.ru rfl rfl (lt_b rfl) (ru_add (r := 20) rfl rfl rfl rfl) ?_
    refine SL.ru rfl rfl (lt_b rfl) (ru_assign rfl rfl) ?_
    refine SL.nil ?_
    refine SE.round ?_
    refine SR.norm [(4, bo false), (6, pt p 0), (8, pt r 0), (13, iw 20)] [rTwo p ab r rb F L L] ⟨rfl, rfl, rfl, rfl, trivial⟩ rfl ?_
    refine SR.next ?_
    refine SC.seq ?_
    refine SC.seq ?_
    refine SC.region ?_
    refine SL.ru rfl rfl (lt_b rfl) (ru_move rfl rfl) ?_
    refine SL.ru rfl rfl (lt_b rfl) (ru_lt (b := false) rfl rfl rfl rfl) ?_
    refine SL.nil ?_
    refine SC.of_SE ?_
    refine SC.norm [(4, bo false), (6, pt p 0), (8, pt r 0), (13, iw 20), (83, bo false)] [rTwo p ab r rb F L L] ⟨rfl, rfl, rfl, rfl, rfl, trivial⟩ rfl ?_
    refine SC.no rfl ?_
    refine SC.exit ?_
    refine SE.passe ?_
    refine SE.passe ?_
    refine SE.blke ?_
    refine SC.of_SE ?_
    refine SC.norm [(4, bo false)] [rTwo p ab r rb F L L] ⟨rfl, trivial⟩ rfl ?_
    refine SC.seq ?_
    refine SC.region ?_
    refine SL.ru rfl rfl (lt_b rfl) (ru_assign rfl rfl) ?_
    refine SL.nil ?_
    refine SC.of_SE ?_
    refine SC.norm [(4, bo true)] [rTwo p ab r rb F L L] ⟨rfl, trivial⟩ rfl ?_
    refine SC.ret ?_
    refine SE.res (.inl rfl) (res1 Try.results4 rfl) fun w1 hI => ⟨rfl, hI.2⟩
  · skip
    obtain ⟨bb, o, ea, hop⟩ := hops (l.length - nn) (by omega)
    obtain ⟨⟨k, id, a, b, f⟩, hl⟩ : ∃ op : OpR, op = l[l.length - nn]'(by omega) := ⟨_, rfl⟩
    rw [← hl] at hop
    obtain ⟨ov, hc, hb, hs⟩ := hop
    simp only at hc hb hs
    obtain ⟨fa, fc, rfl⟩ := hb.form
    subst ea
    refine SC.seq ?_
    refine SC.seq ?_
    refine SC.region ?_
    refine SL.ru rfl rfl (lt_b rfl) (ru_move rfl rfl) ?_
    refine SL.ru rfl rfl (lt_b rfl) (ru_move rfl rfl) ?_
    refine SL.ru rfl rfl (lt_b rfl) (ru_len Try.underlying22 rfl rfl) ?_
    refine SL.ru rfl rfl (lt_b rfl) (ru_lt (b := (decide ((((l.length : Int) - (nn : Int)) : Int) < (l.length : Int)))) rfl rfl rfl rfl) ?_
    refine SL.nil ?_
    refine SC.of_SE ?_
    refine SC.norm [(0, iw (n : Int)), (1, sl bb o l.length vc), (4, bo false), (6, pt p 0), (8, pt r 0), (10, iw ((l.length : Int) - (nn : Int))), (45, bo (decide ((((l.length : Int) - (nn : Int)) : Int) < (l.length : Int))))] [rTwo p ab r rb F L L] ⟨rfl, rfl, rfl, rfl, rfl, rfl, rfl, trivial⟩ rfl ?_
    refine SC.yes (show some (Value.bool (decide ((((l.length : Int) - (nn : Int)) : Int) < (l.length : Int)))) = some (Value.bool true) from congrArg (fun x => some (Value.bool x)) (decide_eq_true (by omega))) ?_
    refine SC.skip ?_
    refine SC.of_SE ?_
    refine SC.norm [(0, iw (n : Int)), (1, sl bb o l.length vc), (4, bo false), (6, pt p 0), (8, pt r 0), (10, iw ((l.length : Int) - (nn : Int)))] [rTwo p ab r rb F L L] ⟨rfl, rfl, rfl, rfl, rfl, rfl, trivial⟩ rfl ?_
    refine SC.seq ?_
    refine SC.block ?_
    refine SC.seq ?_
    refine SC.region ?_
    refine SL.ru rfl rfl (lt_b rfl) (ru_move rfl rfl) ?_
    refine SL.ru rfl rfl (lt_b rfl) (ru_move rfl rfl) ?_
    refine SL.ru rfl rfl (lt_b rfl) (ru_move rfl rfl) ?_
    refine SL.ru rfl rfl (lt_b rfl) (ru_move rfl rfl) ?_
    refine SL.ru rfl rfl (lt_b rfl) (ru_indexS (o2 := o + ((l.length : Int) - (nn : Int)).toNat * 5) si22 rfl rfl rfl (by omega) (by omega) rfl) ?_
    refine SL.ru rfl rfl (lt_b rfl) (ru_loada_old (vs := [iw k, iw id, iw a, iw b, Value.slice fa f.length fc]) (fun _ h => h) ta31 rfl rfl rfl (by rw [show ((l.length : Int) - (nn : Int)).toNat = l.length - nn by omega]; exact hc)) ?_
    refine SL.call (ζ := (Nat → Prop) × List Bf) (fun z => bo true) (fun z => [rTwo p ab r rb z.1 z.2 z.2]) (fun z => Next L z.2) rfl rfl co16 rfl rfl rfl (lt_b rfl) (fun w hI => (does_any (hI.1.get (i := 0) rfl) (fun x hx => by have := hR x hx; omega) (hb.only hI.2 (fun _ _ _ _ _ _ h => h)) (fun x o n c e hn h => by have := hs x o n c e hn; rcases h with (rfl | rfl) | rfl <;> omega)).mono fun e w2 ⟨h1, ⟨F2, L2, h2, h3⟩, h4⟩ => ⟨(F2, L2), h1, ⟨⟨fun q hq => by simp at hq; subst hq; exact h3, List.pairwise_singleton _ _⟩, hI.2.trans' h4 (fun x hx => .inr (by rcases hx with (rfl | rfl) | rfl; exact hp1; exact hp2; exact hr2))⟩, h2⟩) ?_
    rintro ⟨F1, L2⟩ hN3
    simp only at hN3
    refine SL.ru rfl rfl (lt_b rfl) (ru_assign rfl rfl) ?_
    refine SL.nil ?_
    refine SC.of_SE ?_
    refine SC.norm [(0, iw (n : Int)), (1, sl bb o l.length vc), (4, bo false), (6, pt p 0), (8, pt r 0), (10, iw ((l.length : Int) - (nn : Int))), (11, bo true)] [rTwo p ab r rb F1 L2 L2] ⟨rfl, rfl, rfl, rfl, rfl, rfl, rfl, trivial⟩ rfl ?_
    refine SC.seq ?_
    refine SC.region ?_
    refine SL.ru rfl rfl (lt_b rfl) (ru_move rfl rfl) ?_
    refine SL.ru rfl rfl (lt_b rfl) (ru_move rfl rfl) ?_
    refine SL.ru rfl rfl (lt_b rfl) (ru_move rfl rfl) ?_
    refine SL.ru rfl rfl (lt_b rfl) (ru_move rfl rfl) ?_
    refine SL.ru rfl rfl (lt_b rfl) (ru_indexS (o2 := o + ((l.length : Int) - (nn : Int)).toNat * 5) si22 rfl rfl rfl (by omega) (by omega) rfl) ?_
    refine SL.ru rfl rfl (lt_b rfl) (ru_fieldAddr (o2 := (o + ((l.length : Int) - (nn : Int)).toNat * 5 + 1)) fd31_1 rfl rfl rfl) ?_
    refine SL.ru rfl rfl (lt_b rfl) (ru_load_old (u := iw id) (fun _ h => h) ts3 rfl rfl (by rw [show ((l.length : Int) - (nn : Int)).toNat = l.length - nn by omega]; exact hc 1 _ rfl)) ?_
    refine SL.callv (bo true) rfl rfl co17 rfl rfl rfl (lt_b rfl) (fun w hI => H_only hI (same_any (two_p hI) (two_q hI) id)) ?_
    refine SL.ru rfl rfl (lt_b rfl) (ru_assign rfl rfl) ?_
    refine SL.nil ?_
    refine SC.of_SE ?_
    refine SC.norm [(0, iw (n : Int)), (1, sl bb o l.length vc), (4, bo false), (6, pt p 0), (8, pt r 0), (10, iw ((l.length : Int) - (nn : Int))), (11, bo true), (12, bo true)] [rTwo p ab r rb F1 L2 L2] ⟨rfl, rfl, rfl, rfl, rfl, rfl, rfl, rfl, trivial⟩ rfl ?_
    refine SC.seq ?_
    refine SC.region ?_
    refine SL.ru rfl rfl (lt_b rfl) (ru_move rfl rfl) ?_
    refine SL.ru rfl rfl (lt_b rfl) (ru_not (c := false) rfl rfl rfl) ?_
    refine SL.ru rfl rfl (lt_b rfl) (ru_move rfl rfl) ?_
    refine SL.rug rfl rfl rfl rfl (lt_b rfl) (ru_move rfl rfl) ?_
    refine SL.rug rfl rfl rfl rfl (lt_b rfl) (ru_not (c := false) rfl rfl rfl) ?_
    refine SL.ru rfl rfl (lt_b rfl) (ru_pick (u := bo true) (v := bo false) rfl rfl rfl rfl) ?_
    refine SL.ru rfl rfl (lt_b rfl) (ru_move rfl rfl) ?_
    refine SL.rug rfl rfl rfl rfl (lt_b rfl) (ru_move rfl rfl) ?_
    refine SL.callvg (iw (nfree L2 : Int)) rfl rfl rfl rfl co10 rfl rfl rfl (lt_b rfl) (fun w hI => H_same hI (left_any (two_p hI))) ?_
    refine SL.rug rfl rfl rfl rfl (lt_b rfl) (ru_move rfl rfl) ?_
    refine SL.callvg (iw (nfree L2 : Int)) rfl rfl rfl rfl co18 rfl rfl rfl (lt_b rfl) (fun w hI => H_same hI (rleft_any (two_q hI))) ?_
    refine SL.rug rfl rfl rfl rfl (lt_b rfl) (ru_ne (b := false) rfl rfl rfl (by simp)) ?_
    refine SL.ru rfl rfl (lt_b rfl) (ru_pick (u := bo true) (v := bo false) rfl rfl rfl rfl) ?_
    refine SL.ru rfl rfl (lt_b rfl) (ru_move rfl rfl) ?_
    refine SL.rug rfl rfl rfl rfl (lt_b rfl) (ru_move rfl rfl) ?_
    refine SL.callvg (iw (L2.length : Int)) rfl rfl rfl rfl co19 rfl rfl rfl (lt_b rfl) (fun w hI => H_same hI (size_any (two_p hI))) ?_
    refine SL.rug rfl rfl rfl rfl (lt_b rfl) (ru_move rfl rfl) ?_
    refine SL.rug rfl rfl rfl rfl (lt_b rfl) (ru_ne (b := false) rfl rfl rfl (ne_f (by have := hN3.1; omega))) ?_
    refine SL.ru rfl rfl (lt_b rfl) (ru_pick (u := bo true) (v := bo false) rfl rfl rfl rfl) ?_
    refine SL.nil ?_
    refine SC.of_SE ?_
    refine SC.norm [(0, iw (n : Int)), (1, sl bb o l.length vc), (4, bo false), (6, pt p 0), (8, pt r 0), (10, iw ((l.length : Int) - (nn : Int))), (81, bo false)] [rTwo p ab r rb F1 L2 L2] ⟨rfl, rfl, rfl, rfl, rfl, rfl, rfl, trivial⟩ rfl ?_
    refine SC.no rfl ?_
    refine SC.skip ?_
    refine SE.blkn ?_
    refine SC.of_SE ?_
    refine SC.norm [(0, iw (n : Int)), (1, sl bb o l.length vc), (4, bo false), (6, pt p 0), (8, pt r 0), (10, iw ((l.length : Int) - (nn : Int)))] [rTwo p ab r rb F1 L2 L2] ⟨rfl, rfl, rfl, rfl, rfl, rfl, trivial⟩ rfl ?_
    refine SC.region ?_
    refine SL.ru rfl rfl (lt_b rfl) (ru_move rfl rfl) ?_
    refine SL.ru rfl rfl (lt_b rfl) (ru_add (r := (IntKind.i64.wrap (((l.length : Int) - (nn : Int)) + 1))) rfl rfl rfl rfl) ?_
    refine SL.ru rfl rfl (lt_b rfl) (ru_assign rfl rfl) ?_
    refine SL.nil ?_
    refine SE.again (nn - 1) (L2, F1) (by omega) ⟨by omega, hN3.1.trans hL, fun x hx => by have := hN3.2 _ (by omega) hR x hx; omega⟩ ⟨rfl, rfl, rfl, rfl, rfl, (congrArg (fun x => some (iw x)) (show IntKind.i64.wrap (((l.length : Int) - (nn : Int)) + 1) = (l.length : Int) - (((nn - 1 : Nat) : Int) : Int) by rw [IntKind.wrap_i64]; omega)), trivial⟩ rfl

theorem pdoes_walk (w : World) (many : Int) {vv : Value} {l : List OpR} (h : OpsAt w vv l) : Calls Try.prog 4 #[iw many, vv] w fun e w' => e = .returned (.bool true) ∧ Only (fun _ => False) w w' := by
  obtain ⟨a, c, rfl, hll, hops⟩ := ops_form h
  by_cases hno : many < 1 ∨ 4096 < many
  · exact pdoes_no hno hll hops
  · obtain ⟨n, rfl⟩ : ∃ n : Nat, many = (n : Int) := ⟨many.toNat, by omega⟩
    exact pdoes_in (by omega) (by omega) hll hops

end Go.Proofs.Ythofjobcjkeomaa
