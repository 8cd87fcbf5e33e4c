/-
  A new device, and a write (the reference's).
-/
import Derived.Test.YtloejpkefoagfaaNicHost
namespace Go.Proofs.Ytloejpkefoagfaa
open Go.RowKit
set_option maxRecDepth 100000
set_option maxHeartbeats 4000000
theorem q_new (w : World) : Calls Try.prog 19 #[] w fun e w' => ∃ g, w.heap.size ≤ g ∧ e = .returned (pt g 0) ∧ Blk w' g (nc newA nilv nilv) 58 ∧ Only (fun _ => False) w w' := by
  refine calls_sc (l0 := []) (args := []) (fun _ => False) Try.func19 rfl 9 Try.ntmps19 (le_b rfl) ⟨⟨by simp, List.Pairwise.nil⟩, Only.refl _ _⟩ ?_
  show SC _ _ _ _ [] []
  refine SC.seq ?_
  refine SC.region ?_
  refine SL.ru rfl rfl (lt_b rfl) (ru_assign rfl rfl) ?_
  refine SL.nil ?_
  refine SC.of_SE ?_
  refine SC.norm [(0, Value.pointer none)] [] ⟨rfl, trivial⟩ rfl ?_
  refine SC.seq ?_
  refine SC.region ?_
  refine SL.ru rfl rfl (lt_b rfl) (ru_build (vals := []) (cells := [iw 0, iw 0, iw 0, iw 0, iw 0, iw 0, iw 0, iw 0, Value.slice none 0 0, iw 0, Value.slice none 0 0, iw 0, Value.slice none 0 0, iw 0, Value.slice none 0 0, iw 0, Value.slice none 0 0, iw 0, Value.slice none 0 0, iw 0, Value.slice none 0 0, iw 0, Value.slice none 0 0, iw 0, Value.slice none 0 0, iw 0, Value.slice none 0 0, iw 0, Value.slice none 0 0, iw 0, Value.slice none 0 0, iw 0, Value.slice none 0 0, iw 0, Value.slice none 0 0, iw 0, Value.slice none 0 0, iw 0, Value.slice none 0 0, iw 0, iw 0, bo false, Value.slice none 0 0, bo false, iw 0, bo false, Value.slice none 0 0, bo false, iw 0, bo false, Value.slice none 0 0, bo false, iw 0, bo false, Value.slice none 0 0, bo false, iw 0, bo false, Value.slice none 0 0, bo false, iw 0, bo false, Value.slice none 0 0, bo false, iw 0, bo false, Value.slice none 0 0, bo false, iw 0, bo false, Value.slice none 0 0, bo false, iw 0, bo false, Value.slice none 0 0, bo false, iw 0, bo false, Value.slice none 0 0, bo false, iw 0, bo false, Value.slice none 0 0, bo false, iw 0, bo false, Value.slice none 0 0, bo false, iw 0, bo false, Value.slice none 0 0, bo false, iw 0, bo false, Value.slice none 0 0, bo false, iw 0, bo false, Value.slice none 0 0, bo false, iw 0, bo false, Value.slice none 0 0, bo false, iw 0]) rfl rfl (by kernel_rfl)) ?_
  refine SL.box (c := [iw 0, iw 0, iw 0, iw 0, iw 0, iw 0, iw 0, iw 0, Value.slice none 0 0, iw 0, Value.slice none 0 0, iw 0, Value.slice none 0 0, iw 0, Value.slice none 0 0, iw 0, Value.slice none 0 0, iw 0, Value.slice none 0 0, iw 0, Value.slice none 0 0, iw 0, Value.slice none 0 0, iw 0, Value.slice none 0 0, iw 0, Value.slice none 0 0, iw 0, Value.slice none 0 0, iw 0, Value.slice none 0 0, iw 0, Value.slice none 0 0, iw 0, Value.slice none 0 0, iw 0, Value.slice none 0 0, iw 0, Value.slice none 0 0, iw 0, iw 0, bo false, Value.slice none 0 0, bo false, iw 0, bo false, Value.slice none 0 0, bo false, iw 0, bo false, Value.slice none 0 0, bo false, iw 0, bo false, Value.slice none 0 0, bo false, iw 0, bo false, Value.slice none 0 0, bo false, iw 0, bo false, Value.slice none 0 0, bo false, iw 0, bo false, Value.slice none 0 0, bo false, iw 0, bo false, Value.slice none 0 0, bo false, iw 0, bo false, Value.slice none 0 0, bo false, iw 0, bo false, Value.slice none 0 0, bo false, iw 0, bo false, Value.slice none 0 0, bo false, iw 0, bo false, Value.slice none 0 0, bo false, iw 0, bo false, Value.slice none 0 0, bo false, iw 0, bo false, Value.slice none 0 0, bo false, iw 0, bo false, Value.slice none 0 0, bo false, iw 0, bo false, Value.slice none 0 0, bo false, iw 0]) rfl rfl (lt_b rfl) rfl rfl rfl fun b1 hb1 => ?_
  refine SL.ru rfl rfl (lt_b rfl) (ru_assign rfl rfl) ?_
  refine SL.nil ?_
  refine SC.of_SE ?_
  refine SC.norm [(0, Value.pointer none), (1, pt b1 0)] [rBlk b1 [iw 0, iw 0, iw 0, iw 0, iw 0, iw 0, iw 0, iw 0, Value.slice none 0 0, iw 0, Value.slice none 0 0, iw 0, Value.slice none 0 0, iw 0, Value.slice none 0 0, iw 0, Value.slice none 0 0, iw 0, Value.slice none 0 0, iw 0, Value.slice none 0 0, iw 0, Value.slice none 0 0, iw 0, Value.slice none 0 0, iw 0, Value.slice none 0 0, iw 0, Value.slice none 0 0, iw 0, Value.slice none 0 0, iw 0, Value.slice none 0 0, iw 0, Value.slice none 0 0, iw 0, Value.slice none 0 0, iw 0, Value.slice none 0 0, iw 0, iw 0, bo false, Value.slice none 0 0, bo false, iw 0, bo false, Value.slice none 0 0, bo false, iw 0, bo false, Value.slice none 0 0, bo false, iw 0, bo false, Value.slice none 0 0, bo false, iw 0, bo false, Value.slice none 0 0, bo false, iw 0, bo false, Value.slice none 0 0, bo false, iw 0, bo false, Value.slice none 0 0, bo false, iw 0, bo false, Value.slice none 0 0, bo false, iw 0, bo false, Value.slice none 0 0, bo false, iw 0, bo false, Value.slice none 0 0, bo false, iw 0, bo false, Value.slice none 0 0, bo false, iw 0, bo false, Value.slice none 0 0, bo false, iw 0, bo false, Value.slice none 0 0, bo false, iw 0, bo false, Value.slice none 0 0, bo false, iw 0, bo false, Value.slice none 0 0, bo false, iw 0, bo false, Value.slice none 0 0, bo false, iw 0] 58] ⟨rfl, rfl, trivial⟩ rfl ?_
  refine SC.seq ?_
  refine SC.region ?_
  refine SL.ru rfl rfl (lt_b rfl) (ru_move rfl rfl) ?_
  refine SL.ru rfl rfl (lt_b rfl) (ru_nilCheck rfl rfl) ?_
  refine SL.ru rfl rfl (lt_b rfl) (ru_fieldAddr (o2 := 0) fd58_0 rfl rfl rfl) ?_
  refine SL.ru rfl rfl (lt_b rfl) (ru_indexA (o2 := 1) ar44 rfl rfl rfl (by decide) (by decide) rfl) ?_
  refine SL.store (i := 0) (c' := [iw 0, iw 1, iw 0, iw 0, iw 0, iw 0, iw 0, iw 0, Value.slice none 0 0, iw 0, Value.slice none 0 0, iw 0, Value.slice none 0 0, iw 0, Value.slice none 0 0, iw 0, Value.slice none 0 0, iw 0, Value.slice none 0 0, iw 0, Value.slice none 0 0, iw 0, Value.slice none 0 0, iw 0, Value.slice none 0 0, iw 0, Value.slice none 0 0, iw 0, Value.slice none 0 0, iw 0, Value.slice none 0 0, iw 0, Value.slice none 0 0, iw 0, Value.slice none 0 0, iw 0, Value.slice none 0 0, iw 0, Value.slice none 0 0, iw 0, iw 0, bo false, Value.slice none 0 0, bo false, iw 0, bo false, Value.slice none 0 0, bo false, iw 0, bo false, Value.slice none 0 0, bo false, iw 0, bo false, Value.slice none 0 0, bo false, iw 0, bo false, Value.slice none 0 0, bo false, iw 0, bo false, Value.slice none 0 0, bo false, iw 0, bo false, Value.slice none 0 0, bo false, iw 0, bo false, Value.slice none 0 0, bo false, iw 0, bo false, Value.slice none 0 0, bo false, iw 0, bo false, Value.slice none 0 0, bo false, iw 0, bo false, Value.slice none 0 0, bo false, iw 0, bo false, Value.slice none 0 0, bo false, iw 0, bo false, Value.slice none 0 0, bo false, iw 0, bo false, Value.slice none 0 0, bo false, iw 0, bo false, Value.slice none 0 0, bo false, iw 0, bo false, Value.slice none 0 0, bo false, iw 0]) rfl rfl ts3 rfl rfl rfl rfl rfl (lt_b rfl) (.inr hb1) rfl ?_
  refine SL.nil ?_
  refine SC.of_SE ?_
  refine SC.norm [(0, Value.pointer none), (1, pt b1 0)] [rBlk b1 [iw 0, iw 1, iw 0, iw 0, iw 0, iw 0, iw 0, iw 0, Value.slice none 0 0, iw 0, Value.slice none 0 0, iw 0, Value.slice none 0 0, iw 0, Value.slice none 0 0, iw 0, Value.slice none 0 0, iw 0, Value.slice none 0 0, iw 0, Value.slice none 0 0, iw 0, Value.slice none 0 0, iw 0, Value.slice none 0 0, iw 0, Value.slice none 0 0, iw 0, Value.slice none 0 0, iw 0, Value.slice none 0 0, iw 0, Value.slice none 0 0, iw 0, Value.slice none 0 0, iw 0, Value.slice none 0 0, iw 0, Value.slice none 0 0, iw 0, iw 0, bo false, Value.slice none 0 0, bo false, iw 0, bo false, Value.slice none 0 0, bo false, iw 0, bo false, Value.slice none 0 0, bo false, iw 0, bo false, Value.slice none 0 0, bo false, iw 0, bo false, Value.slice none 0 0, bo false, iw 0, bo false, Value.slice none 0 0, bo false, iw 0, bo false, Value.slice none 0 0, bo false, iw 0, bo false, Value.slice none 0 0, bo false, iw 0, bo false, Value.slice none 0 0, bo false, iw 0, bo false, Value.slice none 0 0, bo false, iw 0, bo false, Value.slice none 0 0, bo false, iw 0, bo false, Value.slice none 0 0, bo false, iw 0, bo false, Value.slice none 0 0, bo false, iw 0, bo false, Value.slice none 0 0, bo false, iw 0, bo false, Value.slice none 0 0, bo false, iw 0, bo false, Value.slice none 0 0, bo false, iw 0] 58] ⟨rfl, rfl, trivial⟩ rfl ?_
  refine SC.seq ?_
  refine SC.region ?_
  refine SL.ru rfl rfl (lt_b rfl) (ru_move rfl rfl) ?_
  refine SL.ru rfl rfl (lt_b rfl) (ru_assign rfl rfl) ?_
  refine SL.nil ?_
  refine SC.of_SE ?_
  refine SC.norm [(0, pt b1 0)] [rBlk b1 [iw 0, iw 1, iw 0, iw 0, iw 0, iw 0, iw 0, iw 0, Value.slice none 0 0, iw 0, Value.slice none 0 0, iw 0, Value.slice none 0 0, iw 0, Value.slice none 0 0, iw 0, Value.slice none 0 0, iw 0, Value.slice none 0 0, iw 0, Value.slice none 0 0, iw 0, Value.slice none 0 0, iw 0, Value.slice none 0 0, iw 0, Value.slice none 0 0, iw 0, Value.slice none 0 0, iw 0, Value.slice none 0 0, iw 0, Value.slice none 0 0, iw 0, Value.slice none 0 0, iw 0, Value.slice none 0 0, iw 0, Value.slice none 0 0, iw 0, iw 0, bo false, Value.slice none 0 0, bo false, iw 0, bo false, Value.slice none 0 0, bo false, iw 0, bo false, Value.slice none 0 0, bo false, iw 0, bo false, Value.slice none 0 0, bo false, iw 0, bo false, Value.slice none 0 0, bo false, iw 0, bo false, Value.slice none 0 0, bo false, iw 0, bo false, Value.slice none 0 0, bo false, iw 0, bo false, Value.slice none 0 0, bo false, iw 0, bo false, Value.slice none 0 0, bo false, iw 0, bo false, Value.slice none 0 0, bo false, iw 0, bo false, Value.slice none 0 0, bo false, iw 0, bo false, Value.slice none 0 0, bo false, iw 0, bo false, Value.slice none 0 0, bo false, iw 0, bo false, Value.slice none 0 0, bo false, iw 0, bo false, Value.slice none 0 0, bo false, iw 0, bo false, Value.slice none 0 0, bo false, iw 0] 58] ⟨rfl, trivial⟩ rfl ?_
  refine SC.ret ?_
  refine SE.res (.inl rfl) (res1 Try.results19 rfl) fun w1 hI => ⟨b1, hb1, rfl, ?_, hI.2⟩
  have e : [iw 0, iw 1, iw 0, iw 0, iw 0, iw 0, iw 0, iw 0, Value.slice none 0 0, iw 0, Value.slice none 0 0, iw 0, Value.slice none 0 0, iw 0, Value.slice none 0 0, iw 0, Value.slice none 0 0, iw 0, Value.slice none 0 0, iw 0, Value.slice none 0 0, iw 0, Value.slice none 0 0, iw 0, Value.slice none 0 0, iw 0, Value.slice none 0 0, iw 0, Value.slice none 0 0, iw 0, Value.slice none 0 0, iw 0, Value.slice none 0 0, iw 0, Value.slice none 0 0, iw 0, Value.slice none 0 0, iw 0, Value.slice none 0 0, iw 0, iw 0, bo false, Value.slice none 0 0, bo false, iw 0, bo false, Value.slice none 0 0, bo false, iw 0, bo false, Value.slice none 0 0, bo false, iw 0, bo false, Value.slice none 0 0, bo false, iw 0, bo false, Value.slice none 0 0, bo false, iw 0, bo false, Value.slice none 0 0, bo false, iw 0, bo false, Value.slice none 0 0, bo false, iw 0, bo false, Value.slice none 0 0, bo false, iw 0, bo false, Value.slice none 0 0, bo false, iw 0, bo false, Value.slice none 0 0, bo false, iw 0, bo false, Value.slice none 0 0, bo false, iw 0, bo false, Value.slice none 0 0, bo false, iw 0, bo false, Value.slice none 0 0, bo false, iw 0, bo false, Value.slice none 0 0, bo false, iw 0, bo false, Value.slice none 0 0, bo false, iw 0, bo false, Value.slice none 0 0, bo false, iw 0] = nc newA nilv nilv := by kernel_rfl
  rw [← e]
  exact hI.1.get (i := 0) rfl

theorem q_write {w : World} {d : Nat} {F : Nat → Prop} {A : NicA} (hk : NicOk A) (h : NicAt 58 w d F A) (reg v : Int) : Calls Try.prog 28 #[pt d 0, iw reg, iw v] w fun e w' => e = .returned (iw (writeF A reg v).1) ∧ NicAt 58 w' d F (writeF A reg v).2 ∧ Only (fun b => b = d) w w' := by
  have hok := hk
  obtain ⟨r2, r3, r4, r5, r6, _, _, _⟩ := hok
  obtain ⟨tv, cv, hI⟩ := h.inv 97 (fun b => b = d)
  refine calls_sc (l0 := _) (args := [pt d 0, iw reg, iw v]) (fun b => b = d) Try.func28 rfl 97 Try.ntmps28 (le_b rfl) hI ?_
  show SC _ _ _ _ [(0, pt d 0), (1, iw reg), (2, iw v)] [rBlk d (nc A tv cv) 58, rFrs F tv cv A.tb A.cb]
  refine SC.seq ?_
  refine SC.region ?_
  refine SL.ru rfl rfl (lt_b rfl) (ru_assign rfl rfl) ?_
  refine SL.nil ?_
  refine SC.of_SE ?_
  refine SC.norm [(0, pt d 0), (1, iw reg), (2, iw v), (6, iw 0)] [rBlk d (nc A tv cv) 58, rFrs F tv cv A.tb A.cb] ⟨rfl, rfl, rfl, rfl, trivial⟩ rfl ?_
  refine SC.seq ?_
  refine SC.seq ?_
  refine SC.region ?_
  refine SL.ru rfl rfl (lt_b rfl) (ru_move rfl rfl) ?_
  refine SL.ru rfl rfl (lt_b rfl) (ru_eq (b := ((reg : Int) == 0)) rfl rfl rfl rfl) ?_
  refine SL.ru rfl rfl (lt_b rfl) (ru_move rfl rfl) ?_
  refine SL.join 3 [(0, pt d 0), (1, iw reg), (2, iw v), (6, iw 0), (9, iw reg), (10, bo ((reg : Int) == 0)), (11, bo ((reg : Int) == 0)), (14, bo (((reg : Int) == 0) && ((v : Int) == 2)))] [rBlk d (nc A tv cv) 58, rFrs F tv cv A.tb A.cb] ?_ ?_
  rotate_left
  · intro K hK
    rcases tf ((reg : Int) == 0) with h1 | h1
    · skip
      refine SL.norm [(0, pt d 0), (1, iw reg), (2, iw v), (6, iw 0), (9, iw reg), (10, bo true), (11, bo true)] [rBlk d (nc A tv cv) 58, rFrs F tv cv A.tb A.cb] ⟨rfl, rfl, rfl, rfl, rfl, (congrArg (fun x => some (Value.bool x)) h1), (congrArg (fun x => some (Value.bool x)) h1), trivial⟩ rfl ?_
      refine SL.rug rfl rfl rfl rfl (lt_b rfl) (ru_move rfl rfl) ?_
      refine SL.rug rfl rfl rfl rfl (lt_b rfl) (ru_eq (b := ((v : Int) == 2)) rfl rfl rfl rfl) ?_
      refine SL.ru rfl rfl (lt_b rfl) (ru_pick (u := bo ((v : Int) == 2)) (v := bo false) rfl rfl rfl rfl) ?_
      exact SL.joined hK ⟨rfl, rfl, rfl, rfl, rfl, (congrArg (fun x => some (Value.bool x)) h1.symm), (congrArg (fun x => some (Value.bool x)) h1.symm), (congrArg (fun x => some (Value.bool (x && ((v : Int) == 2)))) h1.symm), trivial⟩ rfl
    · skip
      refine SL.norm [(0, pt d 0), (1, iw reg), (2, iw v), (6, iw 0), (9, iw reg), (10, bo false), (11, bo false)] [rBlk d (nc A tv cv) 58, rFrs F tv cv A.tb A.cb] ⟨rfl, rfl, rfl, rfl, rfl, (congrArg (fun x => some (Value.bool x)) h1), (congrArg (fun x => some (Value.bool x)) h1), trivial⟩ rfl ?_
      refine SL.off (b := false) rfl rfl rfl rfl rfl (lt_b rfl) ?_
      refine SL.off (b := false) rfl rfl rfl rfl rfl (lt_b rfl) ?_
      refine SL.ru rfl rfl (lt_b rfl) (ru_pick (u := undef) (v := bo false) rfl rfl rfl rfl) ?_
      exact SL.joined hK ⟨rfl, rfl, rfl, rfl, rfl, (congrArg (fun x => some (Value.bool x)) h1.symm), (congrArg (fun x => some (Value.bool x)) h1.symm), (congrArg (fun x => some (Value.bool (x && ((v : Int) == 2)))) h1.symm), trivial⟩ rfl
  skip
  refine SL.nil ?_
  refine SC.of_SE ?_
  refine SC.norm [(0, pt d 0), (1, iw reg), (2, iw v), (6, iw 0), (14, bo (((reg : Int) == 0) && ((v : Int) == 2)))] [rBlk d (nc A tv cv) 58, rFrs F tv cv A.tb A.cb] ⟨rfl, rfl, rfl, rfl, rfl, trivial⟩ rfl ?_
  refine SC.both (((reg : Int) == 0) && ((v : Int) == 2)) rfl (fun h2 => ?_) (fun h2 => ?_)
  · skip
    have h0 := w_0 h2
    refine SC.seq ?_
    refine SC.region ?_
    refine SL.call (ζ := Nat) (fun g3 => pt g3 0) (fun g3 => [rBlk d (nc A tv cv) 58, rFrs F tv cv A.tb A.cb, rBlk g3 (nc newA nilv nilv) 58]) (fun g3 => w.heap.size ≤ g3) rfl rfl co19 rfl rfl rfl (lt_b rfl) (fun w hI => (q_new _).mono fun e w2 ⟨g, h1, h2, h3, h4⟩ => ⟨g, h2, hI.add h4 h3 (fun q hq => by cases hq; exact h1), Nat.le_trans hI.2.size h1⟩) ?_
    intro g3 hg3
    refine SL.ru rfl rfl (lt_b rfl) (ru_assign rfl rfl) ?_
    refine SL.nil ?_
    refine SC.of_SE ?_
    refine SC.norm [(0, pt d 0), (1, iw reg), (2, iw v), (6, iw 0), (7, pt g3 0)] [rBlk d (nc A tv cv) 58, rFrs F tv cv A.tb A.cb, rBlk g3 (nc newA nilv nilv) 58] ⟨rfl, rfl, rfl, rfl, rfl, trivial⟩ rfl ?_
    refine SC.seq ?_
    refine SC.region ?_
    refine SL.ru rfl rfl (lt_b rfl) (ru_move rfl rfl) ?_
    refine SL.ru rfl rfl (lt_b rfl) (ru_move rfl rfl) ?_
    refine SL.ru rfl rfl (lt_b rfl) (ru_nilCheck rfl rfl) ?_
    refine SL.ru rfl rfl (lt_b rfl) (ru_fieldAddr (o2 := 104) fd58_3 rfl rfl rfl) ?_
    refine SL.ru rfl rfl (lt_b rfl) (ru_load (i := 0) (v := iw A.clk) ts3 rfl rfl rfl nc_clk) ?_
    refine SL.ru rfl rfl (lt_b rfl) (ru_nilCheck rfl rfl) ?_
    refine SL.ru rfl rfl (lt_b rfl) (ru_fieldAddr (o2 := 104) fd58_3 rfl rfl rfl) ?_
    refine SL.store (i := 2) (c' := (nc { newA with clk := A.clk } nilv nilv)) rfl rfl ts3 rfl rfl rfl rfl rfl (by rw [nc_len]; omega) (.inr hg3) (set_clk A.clk) ?_
    refine SL.nil ?_
    refine SC.of_SE ?_
    refine SC.norm [(0, pt d 0), (1, iw reg), (2, iw v), (6, iw 0), (7, pt g3 0)] [rBlk d (nc A tv cv) 58, rFrs F tv cv A.tb A.cb, rBlk g3 (nc { newA with clk := A.clk } nilv nilv) 58] ⟨rfl, rfl, rfl, rfl, rfl, trivial⟩ rfl ?_
    refine SC.seq ?_
    refine SC.region_tail 9 (by kernel_rfl) (by kernel_rfl) ?_
    refine SQ.ru rfl rfl (lt_b rfl) (ru_move rfl rfl) ?_
    refine SQ.ru rfl rfl (lt_b rfl) (ru_move rfl rfl) ?_
    refine SQ.ru rfl rfl (lt_b rfl) (ru_nilCheck rfl rfl) ?_
    refine SQ.ru rfl rfl (lt_b rfl) (ru_fieldAddr (o2 := 0) fd58_0 rfl rfl rfl) ?_
    refine SQ.ru rfl rfl (lt_b rfl) (ru_indexA (o2 := 1) ar44 rfl rfl rfl (by decide) (by decide) rfl) ?_
    refine SQ.ru rfl rfl (lt_b rfl) (ru_load (i := 0) (v := iw (A.r 1)) ts3 rfl rfl rfl (nc_r (by decide))) ?_
    refine SQ.ru rfl rfl (lt_b rfl) (ru_nilCheck rfl rfl) ?_
    refine SQ.ru rfl rfl (lt_b rfl) (ru_fieldAddr (o2 := 0) fd58_0 rfl rfl rfl) ?_
    refine SQ.ru rfl rfl (lt_b rfl) (ru_indexA (o2 := 1) ar44 rfl rfl rfl (by decide) (by decide) rfl) ?_
    refine SQ.nilL ?_
    refine SL.store (i := 2) (c' := (nc { newA with r := up newA.r 1 (A.r 1), clk := A.clk } nilv nilv)) rfl rfl ts3 rfl rfl rfl rfl rfl (by rw [nc_len]; omega) (.inr hg3) (set_r (by decide) (A.r 1)) ?_
    refine SL.nil ?_
    refine SC.of_SE ?_
    refine SC.norm [(0, pt d 0), (1, iw reg), (2, iw v), (6, iw 0), (7, pt g3 0)] [rBlk d (nc A tv cv) 58, rFrs F tv cv A.tb A.cb, rBlk g3 (nc { newA with r := up newA.r 1 (A.r 1), clk := A.clk } nilv nilv) 58] ⟨rfl, rfl, rfl, rfl, rfl, trivial⟩ rfl ?_
    refine SC.seq ?_
    refine SC.region ?_
    refine SL.ru rfl rfl (lt_b rfl) (ru_move rfl rfl) ?_
    refine SL.ru rfl rfl (lt_b rfl) (ru_move rfl rfl) ?_
    refine SL.ru rfl rfl (lt_b rfl) (ru_nilCheck rfl rfl) ?_
    refine SL.ru rfl rfl (lt_b rfl) (ru_loada (i := 2) (vs := (nc { newA with r := up newA.r 1 (A.r 1), clk := A.clk } nilv nilv)) ta58 rfl rfl rfl nc_all (by rw [nc_len]; exact Nat.le_refl _)) ?_
    refine SL.ru rfl rfl (lt_b rfl) (ru_nilCheck rfl rfl) ?_
    refine SL.storea (i := 0) (vs := (nc { newA with r := up newA.r 1 (A.r 1), clk := A.clk } nilv nilv)) (c' := (nc { newA with r := up newA.r 1 (A.r 1), clk := A.clk } nilv nilv)) rfl rfl ta58 rfl rfl rfl (nc_one (fun _ => rfl) (fun _ => rfl)) nc_len rfl (by rw [nc_len, nc_len]; omega) (.inl rfl) nc_whole ?_
    refine SL.nil ?_
    refine SC.of_SE ?_
    refine SC.norm [(0, pt d 0), (1, iw reg), (2, iw v), (6, iw 0)] [rBlk d (nc { newA with r := up newA.r 1 (A.r 1), clk := A.clk } nilv nilv) 58, rFrs F tv cv A.tb A.cb, rBlk g3 (nc { newA with r := up newA.r 1 (A.r 1), clk := A.clk } nilv nilv) 58] ⟨rfl, rfl, rfl, rfl, trivial⟩ rfl ?_
    refine SC.seq ?_
    refine SC.region ?_
    refine SL.ru rfl rfl (lt_b rfl) (ru_assign rfl rfl) ?_
    refine SL.nil ?_
    refine SC.of_SE ?_
    refine SC.norm [(0, pt d 0), (1, iw reg), (2, iw v), (6, iw 0)] [rBlk d (nc { newA with r := up newA.r 1 (A.r 1), clk := A.clk } nilv nilv) 58, rFrs F tv cv A.tb A.cb, rBlk g3 (nc { newA with r := up newA.r 1 (A.r 1), clk := A.clk } nilv nilv) 58] ⟨rfl, rfl, rfl, rfl, trivial⟩ rfl ?_
    refine SC.ret ?_
    refine SE.passr ?_
    refine SE.res (.inl rfl) (res1 Try.results28 rfl) fun w1 hI => ?_
    have e : writeF A reg v = (0, { newA with r := up newA.r 1 (A.r 1), clk := A.clk }) := by
      try simp at h2
      unfold writeF
      (repeat' split) <;> first | rfl | (exfalso; omega) | (exfalso; simp_all; done) | (exfalso; simp_all; omega)
    rw [e]
    exact ⟨rfl, NicAt.fin_reset rfl rfl hI⟩
  · skip
    refine SC.skip ?_
    refine SC.of_SE ?_
    refine SC.norm [(0, pt d 0), (1, iw reg), (2, iw v), (6, iw 0)] [rBlk d (nc A tv cv) 58, rFrs F tv cv A.tb A.cb] ⟨rfl, rfl, rfl, rfl, trivial⟩ rfl ?_
    refine SC.seq ?_
    refine SC.seq ?_
    refine SC.region ?_
    refine SL.ru rfl rfl (lt_b rfl) (ru_move rfl rfl) ?_
    refine SL.ru rfl rfl (lt_b rfl) (ru_eq (b := ((reg : Int) == 0)) rfl rfl rfl rfl) ?_
    refine SL.ru rfl rfl (lt_b rfl) (ru_move rfl rfl) ?_
    refine SL.join 7 [(0, pt d 0), (1, iw reg), (2, iw v), (6, iw 0), (37, iw reg), (38, bo ((reg : Int) == 0)), (39, bo ((reg : Int) == 0)), (46, bo (((reg : Int) == 0) && (((v : Int) == 0) || ((v : Int) == 1))))] [rBlk d (nc A tv cv) 58, rFrs F tv cv A.tb A.cb] ?_ ?_
    rotate_left
    · intro K hK
      rcases tf ((reg : Int) == 0) with h4 | h4
      · skip
        refine SL.norm [(0, pt d 0), (1, iw reg), (2, iw v), (6, iw 0), (37, iw reg), (38, bo true), (39, bo true)] [rBlk d (nc A tv cv) 58, rFrs F tv cv A.tb A.cb] ⟨rfl, rfl, rfl, rfl, rfl, (congrArg (fun x => some (Value.bool x)) h4), (congrArg (fun x => some (Value.bool x)) h4), trivial⟩ rfl ?_
        refine SL.rug rfl rfl rfl rfl (lt_b rfl) (ru_move rfl rfl) ?_
        refine SL.rug rfl rfl rfl rfl (lt_b rfl) (ru_eq (b := ((v : Int) == 0)) rfl rfl rfl rfl) ?_
        refine SL.rug rfl rfl rfl rfl (lt_b rfl) (ru_move rfl rfl) ?_
        refine SL.join 3 [(0, pt d 0), (1, iw reg), (2, iw v), (6, iw 0), (37, iw reg), (38, bo true), (39, bo true), (40, iw v), (41, bo ((v : Int) == 0)), (42, bo ((v : Int) == 0)), (45, bo (((v : Int) == 0) || ((v : Int) == 1)))] [rBlk d (nc A tv cv) 58, rFrs F tv cv A.tb A.cb] ?_ ?_
        rotate_left
        · intro K hK
          rcases tf ((v : Int) == 0) with h5 | h5
          · skip
            refine SL.norm [(0, pt d 0), (1, iw reg), (2, iw v), (6, iw 0), (37, iw reg), (38, bo true), (39, bo true), (40, iw v), (41, bo true), (42, bo true)] [rBlk d (nc A tv cv) 58, rFrs F tv cv A.tb A.cb] ⟨rfl, rfl, rfl, rfl, rfl, rfl, rfl, rfl, (congrArg (fun x => some (Value.bool x)) h5), (congrArg (fun x => some (Value.bool x)) h5), trivial⟩ rfl ?_
            refine SL.off (b := true) rfl rfl rfl rfl rfl (lt_b rfl) ?_
            refine SL.off (b := true) rfl rfl rfl rfl rfl (lt_b rfl) ?_
            refine SL.rug rfl rfl rfl rfl (lt_b rfl) (ru_pick (u := bo true) (v := undef) rfl rfl rfl rfl) ?_
            exact SL.joined hK ⟨rfl, rfl, rfl, rfl, rfl, rfl, rfl, rfl, (congrArg (fun x => some (Value.bool x)) h5.symm), (congrArg (fun x => some (Value.bool x)) h5.symm), (congrArg (fun x => some (Value.bool (x || ((v : Int) == 1)))) h5.symm), trivial⟩ rfl
          · skip
            refine SL.norm [(0, pt d 0), (1, iw reg), (2, iw v), (6, iw 0), (37, iw reg), (38, bo true), (39, bo true), (40, iw v), (41, bo false), (42, bo false)] [rBlk d (nc A tv cv) 58, rFrs F tv cv A.tb A.cb] ⟨rfl, rfl, rfl, rfl, rfl, rfl, rfl, rfl, (congrArg (fun x => some (Value.bool x)) h5), (congrArg (fun x => some (Value.bool x)) h5), trivial⟩ rfl ?_
            refine SL.rug rfl rfl rfl rfl (lt_b rfl) (ru_move rfl rfl) ?_
            refine SL.rug rfl rfl rfl rfl (lt_b rfl) (ru_eq (b := ((v : Int) == 1)) rfl rfl rfl rfl) ?_
            refine SL.rug rfl rfl rfl rfl (lt_b rfl) (ru_pick (u := bo true) (v := bo ((v : Int) == 1)) rfl rfl rfl rfl) ?_
            exact SL.joined hK ⟨rfl, rfl, rfl, rfl, rfl, rfl, rfl, rfl, (congrArg (fun x => some (Value.bool x)) h5.symm), (congrArg (fun x => some (Value.bool x)) h5.symm), (congrArg (fun x => some (Value.bool (x || ((v : Int) == 1)))) h5.symm), trivial⟩ rfl
        skip
        refine SL.ru rfl rfl (lt_b rfl) (ru_pick (u := bo (((v : Int) == 0) || ((v : Int) == 1))) (v := bo false) rfl rfl rfl rfl) ?_
        exact SL.joined hK ⟨rfl, rfl, rfl, rfl, rfl, (congrArg (fun x => some (Value.bool x)) h4.symm), (congrArg (fun x => some (Value.bool x)) h4.symm), (congrArg (fun x => some (Value.bool (x && (((v : Int) == 0) || ((v : Int) == 1))))) h4.symm), trivial⟩ rfl
      · skip
        refine SL.norm [(0, pt d 0), (1, iw reg), (2, iw v), (6, iw 0), (37, iw reg), (38, bo false), (39, bo false)] [rBlk d (nc A tv cv) 58, rFrs F tv cv A.tb A.cb] ⟨rfl, rfl, rfl, rfl, rfl, (congrArg (fun x => some (Value.bool x)) h4), (congrArg (fun x => some (Value.bool x)) h4), trivial⟩ rfl ?_
        refine SL.off (b := false) rfl rfl rfl rfl rfl (lt_b rfl) ?_
        refine SL.off (b := false) rfl rfl rfl rfl rfl (lt_b rfl) ?_
        refine SL.off (b := false) rfl rfl rfl rfl rfl (lt_b rfl) ?_
        refine SL.offu rfl rfl rfl rfl (lt_b rfl) ?_
        refine SL.offu rfl rfl rfl rfl (lt_b rfl) ?_
        refine SL.off (b := false) rfl rfl rfl rfl rfl (lt_b rfl) ?_
        refine SL.ru rfl rfl (lt_b rfl) (ru_pick (u := undef) (v := bo false) rfl rfl rfl rfl) ?_
        exact SL.joined hK ⟨rfl, rfl, rfl, rfl, rfl, (congrArg (fun x => some (Value.bool x)) h4.symm), (congrArg (fun x => some (Value.bool x)) h4.symm), (congrArg (fun x => some (Value.bool (x && (((v : Int) == 0) || ((v : Int) == 1))))) h4.symm), trivial⟩ rfl
    skip
    refine SL.nil ?_
    refine SC.of_SE ?_
    refine SC.norm [(0, pt d 0), (1, iw reg), (2, iw v), (6, iw 0), (46, bo (((reg : Int) == 0) && (((v : Int) == 0) || ((v : Int) == 1))))] [rBlk d (nc A tv cv) 58, rFrs F tv cv A.tb A.cb] ⟨rfl, rfl, rfl, rfl, rfl, trivial⟩ rfl ?_
    refine SC.both (((reg : Int) == 0) && (((v : Int) == 0) || ((v : Int) == 1))) rfl (fun h6 => ?_) (fun h6 => ?_)
    · skip
      have h0 := w_0 h6
      refine SC.seq ?_
      refine SC.region ?_
      refine SL.ru rfl rfl (lt_b rfl) (ru_move rfl rfl) ?_
      refine SL.ru rfl rfl (lt_b rfl) (ru_move rfl rfl) ?_
      refine SL.ru rfl rfl (lt_b rfl) (ru_move rfl rfl) ?_
      refine SL.ru rfl rfl (lt_b rfl) (ru_nilCheck rfl rfl) ?_
      refine SL.ru rfl rfl (lt_b rfl) (ru_fieldAddr (o2 := 0) fd58_0 rfl rfl rfl) ?_
      refine SL.ru rfl rfl (lt_b rfl) (ru_indexA (o2 := 0 + reg.toNat * 1) ar44 rfl rfl rfl (by omega) (by omega) rfl) ?_
      refine SL.store (i := 0) (c' := (nc { A with r := up A.r reg.toNat v } tv cv)) rfl rfl ts3 rfl rfl rfl rfl rfl (by rw [nc_len]; omega) (.inl rfl) (set_r' (by omega) v) ?_
      refine SL.nil ?_
      refine SC.of_SE ?_
      refine SC.norm [(0, pt d 0), (1, iw reg), (2, iw v), (6, iw 0)] [rBlk d (nc { A with r := up A.r reg.toNat v } tv cv) 58, rFrs F tv cv A.tb A.cb] ⟨rfl, rfl, rfl, rfl, trivial⟩ rfl ?_
      refine SC.seq ?_
      refine SC.region ?_
      refine SL.ru rfl rfl (lt_b rfl) (ru_assign rfl rfl) ?_
      refine SL.nil ?_
      refine SC.of_SE ?_
      refine SC.norm [(0, pt d 0), (1, iw reg), (2, iw v), (6, iw 0)] [rBlk d (nc { A with r := up A.r reg.toNat v } tv cv) 58, rFrs F tv cv A.tb A.cb] ⟨rfl, rfl, rfl, rfl, trivial⟩ rfl ?_
      refine SC.ret ?_
      refine SE.passr ?_
      refine SE.res (.inl rfl) (res1 Try.results28 rfl) fun w1 hI => ?_
      have e : writeF A reg v = (0, { A with r := up A.r reg.toNat v }) := by
        try simp at h2 h6
        unfold writeF
        (repeat' split) <;> first | rfl | (exfalso; omega) | (exfalso; simp_all; done) | (exfalso; simp_all; omega)
      rw [e]
      exact ⟨rfl, NicAt.fin' hI⟩
    · skip
      refine SC.skip ?_
      refine SC.of_SE ?_
      refine SC.norm [(0, pt d 0), (1, iw reg), (2, iw v), (6, iw 0)] [rBlk d (nc A tv cv) 58, rFrs F tv cv A.tb A.cb] ⟨rfl, rfl, rfl, rfl, trivial⟩ rfl ?_
      refine SC.seq ?_
      refine SC.seq ?_
      refine SC.region ?_
      refine SL.ru rfl rfl (lt_b rfl) (ru_move rfl rfl) ?_
      refine SL.ru rfl rfl (lt_b rfl) (ru_ne (b := ((reg : Int) != 3)) rfl rfl rfl rfl) ?_
      refine SL.ru rfl rfl (lt_b rfl) (ru_move rfl rfl) ?_
      refine SL.join 3 [(0, pt d 0), (1, iw reg), (2, iw v), (6, iw 0), (53, iw reg), (54, bo ((reg : Int) != 3)), (55, bo ((reg : Int) != 3)), (58, bo (((reg : Int) != 3) && ((reg : Int) != 5)))] [rBlk d (nc A tv cv) 58, rFrs F tv cv A.tb A.cb] ?_ ?_
      rotate_left
      · intro K hK
        rcases tf ((reg : Int) != 3) with h7 | h7
        · skip
          refine SL.norm [(0, pt d 0), (1, iw reg), (2, iw v), (6, iw 0), (53, iw reg), (54, bo true), (55, bo true)] [rBlk d (nc A tv cv) 58, rFrs F tv cv A.tb A.cb] ⟨rfl, rfl, rfl, rfl, rfl, (congrArg (fun x => some (Value.bool x)) h7), (congrArg (fun x => some (Value.bool x)) h7), trivial⟩ rfl ?_
          refine SL.rug rfl rfl rfl rfl (lt_b rfl) (ru_move rfl rfl) ?_
          refine SL.rug rfl rfl rfl rfl (lt_b rfl) (ru_ne (b := ((reg : Int) != 5)) rfl rfl rfl rfl) ?_
          refine SL.ru rfl rfl (lt_b rfl) (ru_pick (u := bo ((reg : Int) != 5)) (v := bo false) rfl rfl rfl rfl) ?_
          exact SL.joined hK ⟨rfl, rfl, rfl, rfl, rfl, (congrArg (fun x => some (Value.bool x)) h7.symm), (congrArg (fun x => some (Value.bool x)) h7.symm), (congrArg (fun x => some (Value.bool (x && ((reg : Int) != 5)))) h7.symm), trivial⟩ rfl
        · skip
          refine SL.norm [(0, pt d 0), (1, iw reg), (2, iw v), (6, iw 0), (53, iw reg), (54, bo false), (55, bo false)] [rBlk d (nc A tv cv) 58, rFrs F tv cv A.tb A.cb] ⟨rfl, rfl, rfl, rfl, rfl, (congrArg (fun x => some (Value.bool x)) h7), (congrArg (fun x => some (Value.bool x)) h7), trivial⟩ rfl ?_
          refine SL.off (b := false) rfl rfl rfl rfl rfl (lt_b rfl) ?_
          refine SL.off (b := false) rfl rfl rfl rfl rfl (lt_b rfl) ?_
          refine SL.ru rfl rfl (lt_b rfl) (ru_pick (u := undef) (v := bo false) rfl rfl rfl rfl) ?_
          exact SL.joined hK ⟨rfl, rfl, rfl, rfl, rfl, (congrArg (fun x => some (Value.bool x)) h7.symm), (congrArg (fun x => some (Value.bool x)) h7.symm), (congrArg (fun x => some (Value.bool (x && ((reg : Int) != 5)))) h7.symm), trivial⟩ rfl
      skip
      refine SL.ru rfl rfl (lt_b rfl) (ru_move rfl rfl) ?_
      refine SL.join 3 [(0, pt d 0), (1, iw reg), (2, iw v), (6, iw 0), (53, iw reg), (54, bo ((reg : Int) != 3)), (55, bo ((reg : Int) != 3)), (58, bo (((reg : Int) != 3) && ((reg : Int) != 5))), (59, bo (((reg : Int) != 3) && ((reg : Int) != 5))), (62, bo ((((reg : Int) != 3) && ((reg : Int) != 5)) || (decide ((v : Int) < 0))))] [rBlk d (nc A tv cv) 58, rFrs F tv cv A.tb A.cb] ?_ ?_
      rotate_left
      · intro K hK
        rcases tf (((reg : Int) != 3) && ((reg : Int) != 5)) with h8 | h8
        · skip
          refine SL.norm [(0, pt d 0), (1, iw reg), (2, iw v), (6, iw 0), (53, iw reg), (54, bo ((reg : Int) != 3)), (55, bo ((reg : Int) != 3)), (58, bo true), (59, bo true)] [rBlk d (nc A tv cv) 58, rFrs F tv cv A.tb A.cb] ⟨rfl, rfl, rfl, rfl, rfl, rfl, rfl, (congrArg (fun x => some (Value.bool x)) h8), (congrArg (fun x => some (Value.bool x)) h8), trivial⟩ rfl ?_
          refine SL.off (b := true) rfl rfl rfl rfl rfl (lt_b rfl) ?_
          refine SL.off (b := true) rfl rfl rfl rfl rfl (lt_b rfl) ?_
          refine SL.ru rfl rfl (lt_b rfl) (ru_pick (u := bo true) (v := undef) rfl rfl rfl rfl) ?_
          exact SL.joined hK ⟨rfl, rfl, rfl, rfl, rfl, rfl, rfl, (congrArg (fun x => some (Value.bool x)) h8.symm), (congrArg (fun x => some (Value.bool x)) h8.symm), (congrArg (fun x => some (Value.bool (x || (decide ((v : Int) < 0))))) h8.symm), trivial⟩ rfl
        · skip
          refine SL.norm [(0, pt d 0), (1, iw reg), (2, iw v), (6, iw 0), (53, iw reg), (54, bo ((reg : Int) != 3)), (55, bo ((reg : Int) != 3)), (58, bo false), (59, bo false)] [rBlk d (nc A tv cv) 58, rFrs F tv cv A.tb A.cb] ⟨rfl, rfl, rfl, rfl, rfl, rfl, rfl, (congrArg (fun x => some (Value.bool x)) h8), (congrArg (fun x => some (Value.bool x)) h8), trivial⟩ rfl ?_
          refine SL.rug rfl rfl rfl rfl (lt_b rfl) (ru_move rfl rfl) ?_
          refine SL.rug rfl rfl rfl rfl (lt_b rfl) (ru_lt (b := (decide ((v : Int) < 0))) rfl rfl rfl rfl) ?_
          refine SL.ru rfl rfl (lt_b rfl) (ru_pick (u := bo true) (v := bo (decide ((v : Int) < 0))) rfl rfl rfl rfl) ?_
          exact SL.joined hK ⟨rfl, rfl, rfl, rfl, rfl, rfl, rfl, (congrArg (fun x => some (Value.bool x)) h8.symm), (congrArg (fun x => some (Value.bool x)) h8.symm), (congrArg (fun x => some (Value.bool (x || (decide ((v : Int) < 0))))) h8.symm), trivial⟩ rfl
      skip
      refine SL.ru rfl rfl (lt_b rfl) (ru_move rfl rfl) ?_
      refine SL.join 3 [(0, pt d 0), (1, iw reg), (2, iw v), (6, iw 0), (53, iw reg), (54, bo ((reg : Int) != 3)), (55, bo ((reg : Int) != 3)), (58, bo (((reg : Int) != 3) && ((reg : Int) != 5))), (59, bo (((reg : Int) != 3) && ((reg : Int) != 5))), (62, bo ((((reg : Int) != 3) && ((reg : Int) != 5)) || (decide ((v : Int) < 0)))), (63, bo ((((reg : Int) != 3) && ((reg : Int) != 5)) || (decide ((v : Int) < 0)))), (66, bo (((((reg : Int) != 3) && ((reg : Int) != 5)) || (decide ((v : Int) < 0))) || (decide ((16 : Int) ≤ v))))] [rBlk d (nc A tv cv) 58, rFrs F tv cv A.tb A.cb] ?_ ?_
      rotate_left
      · intro K hK
        rcases tf ((((reg : Int) != 3) && ((reg : Int) != 5)) || (decide ((v : Int) < 0))) with h9 | h9
        · skip
          refine SL.norm [(0, pt d 0), (1, iw reg), (2, iw v), (6, iw 0), (53, iw reg), (54, bo ((reg : Int) != 3)), (55, bo ((reg : Int) != 3)), (58, bo (((reg : Int) != 3) && ((reg : Int) != 5))), (59, bo (((reg : Int) != 3) && ((reg : Int) != 5))), (62, bo true), (63, bo true)] [rBlk d (nc A tv cv) 58, rFrs F tv cv A.tb A.cb] ⟨rfl, rfl, rfl, rfl, rfl, rfl, rfl, rfl, rfl, (congrArg (fun x => some (Value.bool x)) h9), (congrArg (fun x => some (Value.bool x)) h9), trivial⟩ rfl ?_
          refine SL.off (b := true) rfl rfl rfl rfl rfl (lt_b rfl) ?_
          refine SL.off (b := true) rfl rfl rfl rfl rfl (lt_b rfl) ?_
          refine SL.ru rfl rfl (lt_b rfl) (ru_pick (u := bo true) (v := undef) rfl rfl rfl rfl) ?_
          exact SL.joined hK ⟨rfl, rfl, rfl, rfl, rfl, rfl, rfl, rfl, rfl, (congrArg (fun x => some (Value.bool x)) h9.symm), (congrArg (fun x => some (Value.bool x)) h9.symm), (congrArg (fun x => some (Value.bool (x || (decide ((16 : Int) ≤ v))))) h9.symm), trivial⟩ rfl
        · skip
          refine SL.norm [(0, pt d 0), (1, iw reg), (2, iw v), (6, iw 0), (53, iw reg), (54, bo ((reg : Int) != 3)), (55, bo ((reg : Int) != 3)), (58, bo (((reg : Int) != 3) && ((reg : Int) != 5))), (59, bo (((reg : Int) != 3) && ((reg : Int) != 5))), (62, bo false), (63, bo false)] [rBlk d (nc A tv cv) 58, rFrs F tv cv A.tb A.cb] ⟨rfl, rfl, rfl, rfl, rfl, rfl, rfl, rfl, rfl, (congrArg (fun x => some (Value.bool x)) h9), (congrArg (fun x => some (Value.bool x)) h9), trivial⟩ rfl ?_
          refine SL.rug rfl rfl rfl rfl (lt_b rfl) (ru_move rfl rfl) ?_
          refine SL.rug rfl rfl rfl rfl (lt_b rfl) (ru_ge (b := (decide ((16 : Int) ≤ v))) rfl rfl rfl rfl) ?_
          refine SL.ru rfl rfl (lt_b rfl) (ru_pick (u := bo true) (v := bo (decide ((16 : Int) ≤ v))) rfl rfl rfl rfl) ?_
          exact SL.joined hK ⟨rfl, rfl, rfl, rfl, rfl, rfl, rfl, rfl, rfl, (congrArg (fun x => some (Value.bool x)) h9.symm), (congrArg (fun x => some (Value.bool x)) h9.symm), (congrArg (fun x => some (Value.bool (x || (decide ((16 : Int) ≤ v))))) h9.symm), trivial⟩ rfl
      skip
      refine SL.nil ?_
      refine SC.of_SE ?_
      refine SC.norm [(0, pt d 0), (1, iw reg), (2, iw v), (6, iw 0), (66, bo (((((reg : Int) != 3) && ((reg : Int) != 5)) || (decide ((v : Int) < 0))) || (decide ((16 : Int) ≤ v))))] [rBlk d (nc A tv cv) 58, rFrs F tv cv A.tb A.cb] ⟨rfl, rfl, rfl, rfl, rfl, trivial⟩ rfl ?_
      refine SC.both (((((reg : Int) != 3) && ((reg : Int) != 5)) || (decide ((v : Int) < 0))) || (decide ((16 : Int) ≤ v))) rfl (fun h10 => ?_) (fun h10 => ?_)
      · skip
        refine SC.seq ?_
        refine SC.region ?_
        refine SL.ru rfl rfl (lt_b rfl) (ru_assign rfl rfl) ?_
        refine SL.nil ?_
        refine SC.of_SE ?_
        refine SC.norm [(0, pt d 0), (1, iw reg), (2, iw v), (6, iw 1)] [rBlk d (nc A tv cv) 58, rFrs F tv cv A.tb A.cb] ⟨rfl, rfl, rfl, rfl, trivial⟩ rfl ?_
        refine SC.ret ?_
        refine SE.passr ?_
        refine SE.res (.inl rfl) (res1 Try.results28 rfl) fun w1 hI => ?_
        have e : writeF A reg v = (1, A) := by
          try simp at h2 h6 h10
          unfold writeF
          (repeat' split) <;> first | rfl | (exfalso; omega) | (exfalso; simp_all; done) | (exfalso; simp_all; omega)
        rw [e]
        exact ⟨rfl, NicAt.fin' hI⟩
      · skip
        have hv := w_rng h10
        have hr := w_reg h10
        refine SC.skip ?_
        refine SC.of_SE ?_
        refine SC.norm [(0, pt d 0), (1, iw reg), (2, iw v), (6, iw 0)] [rBlk d (nc A tv cv) 58, rFrs F tv cv A.tb A.cb] ⟨rfl, rfl, rfl, rfl, trivial⟩ rfl ?_
        refine SC.seq ?_
        refine SC.seq ?_
        refine SC.region ?_
        refine SL.ru rfl rfl (lt_b rfl) (ru_move rfl rfl) ?_
        refine SL.ru rfl rfl (lt_b rfl) (ru_eq (b := ((reg : Int) == 5)) rfl rfl rfl rfl) ?_
        refine SL.nil ?_
        refine SC.of_SE ?_
        refine SC.norm [(0, pt d 0), (1, iw reg), (2, iw v), (6, iw 0), (68, bo ((reg : Int) == 5))] [rBlk d (nc A tv cv) 58, rFrs F tv cv A.tb A.cb] ⟨rfl, rfl, rfl, rfl, rfl, trivial⟩ rfl ?_
        refine SC.both ((reg : Int) == 5) rfl (fun h11 => ?_) (fun h11 => ?_)
        · skip
          have h5 := w_5 h11
          have e5 : A.r reg.toNat = A.r 5 := by rw [h5]; rfl
          refine SC.seq ?_
          refine SC.region ?_
          refine SL.ru rfl rfl (lt_b rfl) (ru_move rfl rfl) ?_
          refine SL.ru rfl rfl (lt_b rfl) (ru_move rfl rfl) ?_
          refine SL.ru rfl rfl (lt_b rfl) (ru_nilCheck rfl rfl) ?_
          refine SL.ru rfl rfl (lt_b rfl) (ru_fieldAddr (o2 := 0) fd58_0 rfl rfl rfl) ?_
          refine SL.ru rfl rfl (lt_b rfl) (ru_indexA (o2 := 0 + reg.toNat * 1) ar44 rfl rfl rfl (by omega) (by omega) rfl) ?_
          refine SL.ru rfl rfl (lt_b rfl) (ru_load (i := 0) (v := iw (A.r reg.toNat)) ts3 rfl rfl rfl (nc_r' (by omega))) ?_
          refine SL.ru rfl rfl (lt_b rfl) (ru_assign rfl rfl) ?_
          refine SL.nil ?_
          refine SC.of_SE ?_
          refine SC.norm [(0, pt d 0), (1, iw reg), (2, iw v), (6, iw 0), (8, iw (A.r reg.toNat))] [rBlk d (nc A tv cv) 58, rFrs F tv cv A.tb A.cb] ⟨rfl, rfl, rfl, rfl, rfl, trivial⟩ rfl ?_
          refine SC.block ?_
          refine SC.loop (γ := Unit) (fun n _ => [(0, pt d 0), (1, iw reg), (2, iw v), (6, iw 0), (8, iw ((v - (n : Int)) % 16))]) (fun n _ => [rBlk d (nc { A with tp := posts A.tp (A.r 5) ((v - (n : Int)) % 16) A.clk } tv cv) 58, rFrs F tv cv A.tb A.cb]) (fun n _ => n ≤ ((v - A.r 5) % 16).toNat) ((v - A.r 5) % 16).toNat () (Nat.le_refl _) ⟨rfl, rfl, rfl, rfl, (congrArg (fun x => some (iw x)) (show A.r reg.toNat = (v - (((((v - A.r 5) % 16).toNat : Nat) : Int) : Int)) % 16 by omega)), trivial⟩ (congrArg (fun c => [rBlk d c 58, rFrs F tv cv A.tb A.cb]) (nc_posts r5 hv)) ?_
          rintro n ⟨⟩ hn
          rcases Nat.eq_zero_or_pos n with h0 | h0
          · skip
            have ez : (v - (n : Int)) % 16 = v := by omega
            refine SC.seq ?_
            refine SC.seq ?_
            refine SC.region ?_
            refine SL.ru rfl rfl (lt_b rfl) (ru_move rfl rfl) ?_
            refine SL.ru rfl rfl (lt_b rfl) (ru_move rfl rfl) ?_
            refine SL.ru rfl rfl (lt_b rfl) (ru_ne (b := ((((v - (n : Int)) % 16) : Int) != v)) rfl rfl rfl rfl) ?_
            refine SL.nil ?_
            refine SC.of_SE ?_
            refine SC.norm [(0, pt d 0), (1, iw reg), (2, iw v), (6, iw 0), (8, iw ((v - (n : Int)) % 16)), (77, bo ((((v - (n : Int)) % 16) : Int) != v))] [rBlk d (nc { A with tp := posts A.tp (A.r 5) ((v - (n : Int)) % 16) A.clk } tv cv) 58, rFrs F tv cv A.tb A.cb] ⟨rfl, rfl, rfl, rfl, rfl, rfl, trivial⟩ rfl ?_
            refine SC.no (show some (Value.bool ((((v - (n : Int)) % 16) : Int) != v)) = some (Value.bool false) from congrArg (fun x => some (Value.bool x)) (bne_f (by omega))) ?_
            refine SC.exit ?_
            refine SE.passe ?_
            refine SE.passe ?_
            refine SE.blke ?_
            refine SC.of_SE ?_
            refine SC.norm [(0, pt d 0), (1, iw reg), (2, iw v), (6, iw 0)] [rBlk d (nc { A with tp := posts A.tp (A.r 5) ((v - (n : Int)) % 16) A.clk } tv cv) 58, rFrs F tv cv A.tb A.cb] ⟨rfl, rfl, rfl, rfl, trivial⟩ rfl ?_
            refine SC.seq ?_
            refine SC.region ?_
            refine SL.ru rfl rfl (lt_b rfl) (ru_move rfl rfl) ?_
            refine SL.ru rfl rfl (lt_b rfl) (ru_move rfl rfl) ?_
            refine SL.ru rfl rfl (lt_b rfl) (ru_move rfl rfl) ?_
            refine SL.ru rfl rfl (lt_b rfl) (ru_nilCheck rfl rfl) ?_
            refine SL.ru rfl rfl (lt_b rfl) (ru_fieldAddr (o2 := 0) fd58_0 rfl rfl rfl) ?_
            refine SL.ru rfl rfl (lt_b rfl) (ru_indexA (o2 := 0 + reg.toNat * 1) ar44 rfl rfl rfl (by omega) (by omega) rfl) ?_
            refine SL.store (i := 0) (c' := (nc { A with r := up A.r reg.toNat v, tp := posts A.tp (A.r 5) ((v - (n : Int)) % 16) A.clk } tv cv)) rfl rfl ts3 rfl rfl rfl rfl rfl (by rw [nc_len]; omega) (.inl rfl) (set_r' (by omega) v) ?_
            refine SL.nil ?_
            refine SC.of_SE ?_
            refine SC.norm [(6, iw 0)] [rBlk d (nc { A with r := up A.r reg.toNat v, tp := posts A.tp (A.r 5) ((v - (n : Int)) % 16) A.clk } tv cv) 58, rFrs F tv cv A.tb A.cb] ⟨rfl, trivial⟩ rfl ?_
            refine SC.seq ?_
            refine SC.region ?_
            refine SL.ru rfl rfl (lt_b rfl) (ru_assign rfl rfl) ?_
            refine SL.nil ?_
            refine SC.of_SE ?_
            refine SC.norm [(6, iw 0)] [rBlk d (nc { A with r := up A.r reg.toNat v, tp := posts A.tp (A.r 5) ((v - (n : Int)) % 16) A.clk } tv cv) 58, rFrs F tv cv A.tb A.cb] ⟨rfl, trivial⟩ rfl ?_
            refine SC.ret ?_
            refine SE.res (.inl rfl) (res1 Try.results28 rfl) fun w1 hI => ?_
            rw [ez] at hI
            have e : writeF A reg v = (0, { A with r := up A.r reg.toNat v, tp := posts A.tp (A.r 5) v A.clk }) := by
              try simp at h2 h6 h10 h11
              unfold writeF
              (repeat' split) <;> first | rfl | (exfalso; omega) | (exfalso; simp_all; done) | (exfalso; simp_all; omega)
            rw [e]
            exact ⟨rfl, NicAt.fin' hI⟩
          · skip
            refine SC.seq ?_
            refine SC.seq ?_
            refine SC.region ?_
            refine SL.ru rfl rfl (lt_b rfl) (ru_move rfl rfl) ?_
            refine SL.ru rfl rfl (lt_b rfl) (ru_move rfl rfl) ?_
            refine SL.ru rfl rfl (lt_b rfl) (ru_ne (b := ((((v - (n : Int)) % 16) : Int) != v)) rfl rfl rfl rfl) ?_
            refine SL.nil ?_
            refine SC.of_SE ?_
            refine SC.norm [(0, pt d 0), (1, iw reg), (2, iw v), (6, iw 0), (8, iw ((v - (n : Int)) % 16)), (77, bo ((((v - (n : Int)) % 16) : Int) != v))] [rBlk d (nc { A with tp := posts A.tp (A.r 5) ((v - (n : Int)) % 16) A.clk } tv cv) 58, rFrs F tv cv A.tb A.cb] ⟨rfl, rfl, rfl, rfl, rfl, rfl, trivial⟩ rfl ?_
            refine SC.yes (show some (Value.bool ((((v - (n : Int)) % 16) : Int) != v)) = some (Value.bool true) from congrArg (fun x => some (Value.bool x)) (bne_t (by omega))) ?_
            refine SC.skip ?_
            refine SC.of_SE ?_
            refine SC.norm [(0, pt d 0), (1, iw reg), (2, iw v), (6, iw 0), (8, iw ((v - (n : Int)) % 16))] [rBlk d (nc { A with tp := posts A.tp (A.r 5) ((v - (n : Int)) % 16) A.clk } tv cv) 58, rFrs F tv cv A.tb A.cb] ⟨rfl, rfl, rfl, rfl, rfl, trivial⟩ rfl ?_
            refine SC.seq ?_
            refine SC.block ?_
            refine SC.region_tail 10 (by kernel_rfl) (by kernel_rfl) ?_
            refine SQ.ru rfl rfl (lt_b rfl) (ru_move rfl rfl) ?_
            refine SQ.ru rfl rfl (lt_b rfl) (ru_move rfl rfl) ?_
            refine SQ.ru rfl rfl (lt_b rfl) (ru_move rfl rfl) ?_
            refine SQ.ru rfl rfl (lt_b rfl) (ru_nilCheck rfl rfl) ?_
            refine SQ.ru rfl rfl (lt_b rfl) (ru_fieldAddr (o2 := 104) fd58_3 rfl rfl rfl) ?_
            refine SQ.ru rfl rfl (lt_b rfl) (ru_load (i := 0) (v := iw A.clk) ts3 rfl rfl rfl nc_clk) ?_
            refine SQ.ru rfl rfl (lt_b rfl) (ru_nilCheck rfl rfl) ?_
            refine SQ.ru rfl rfl (lt_b rfl) (ru_fieldAddr (o2 := 8) fd58_1 rfl rfl rfl) ?_
            refine SQ.ru rfl rfl (lt_b rfl) (ru_indexA (o2 := 8 + (((v - (n : Int)) % 16).toNat) * 2) ar53 rfl rfl rfl (by omega) (by omega) rfl) ?_
            refine SQ.ru rfl rfl (lt_b rfl) (ru_fieldAddr (o2 := (8 + (((v - (n : Int)) % 16).toNat) * 2 + 1)) fd52_1 rfl rfl rfl) ?_
            refine SQ.nilL ?_
            refine SL.store (i := 0) (c' := (nc { A with tp := up (posts A.tp (A.r 5) ((v - (n : Int)) % 16) A.clk) (((v - (n : Int)) % 16).toNat) A.clk } tv cv)) rfl rfl ts3 rfl rfl rfl rfl rfl (by rw [nc_len]; omega) (.inl rfl) (set_tp (by omega) A.clk) ?_
            refine SL.nil ?_
            refine SE.blkn ?_
            refine SC.of_SE ?_
            refine SC.norm [(0, pt d 0), (1, iw reg), (2, iw v), (6, iw 0), (8, iw ((v - (n : Int)) % 16))] [rBlk d (nc { A with tp := up (posts A.tp (A.r 5) ((v - (n : Int)) % 16) A.clk) (((v - (n : Int)) % 16).toNat) A.clk } tv cv) 58, rFrs F tv cv A.tb A.cb] ⟨rfl, rfl, rfl, rfl, rfl, trivial⟩ rfl ?_
            refine SC.region ?_
            refine SL.ru rfl rfl (lt_b rfl) (ru_move rfl rfl) ?_
            refine SL.ru rfl rfl (lt_b rfl) (ru_add (r := (IntKind.i64.wrap (((v - (n : Int)) % 16) + 1))) rfl rfl rfl rfl) ?_
            refine SL.ru rfl rfl (lt_b rfl) (ru_rem (r := (Int.tmod (IntKind.i64.wrap (((v - (n : Int)) % 16) + 1)) 16)) rfl rfl rfl (by decide) rfl) ?_
            refine SL.ru rfl rfl (lt_b rfl) (ru_assign rfl rfl) ?_
            refine SL.nil ?_
            refine SE.again (n - 1) () (by omega) (by omega) ⟨rfl, rfl, rfl, rfl, (congrArg (fun x => some (iw x)) (dev_nx h0)), trivial⟩ (congrArg (fun c => [rBlk d c 58, rFrs F tv cv A.tb A.cb]) (nc_posts' r5 hv h0 hn))
        · skip
          refine SC.skip ?_
          refine SC.of_SE ?_
          refine SC.norm [(0, pt d 0), (1, iw reg), (2, iw v), (6, iw 0)] [rBlk d (nc A tv cv) 58, rFrs F tv cv A.tb A.cb] ⟨rfl, rfl, rfl, rfl, trivial⟩ rfl ?_
          refine SC.seq ?_
          refine SC.region ?_
          refine SL.ru rfl rfl (lt_b rfl) (ru_move rfl rfl) ?_
          refine SL.ru rfl rfl (lt_b rfl) (ru_move rfl rfl) ?_
          refine SL.ru rfl rfl (lt_b rfl) (ru_move rfl rfl) ?_
          refine SL.ru rfl rfl (lt_b rfl) (ru_nilCheck rfl rfl) ?_
          refine SL.ru rfl rfl (lt_b rfl) (ru_fieldAddr (o2 := 0) fd58_0 rfl rfl rfl) ?_
          refine SL.ru rfl rfl (lt_b rfl) (ru_indexA (o2 := 0 + reg.toNat * 1) ar44 rfl rfl rfl (by omega) (by omega) rfl) ?_
          refine SL.store (i := 0) (c' := (nc { A with r := up A.r reg.toNat v } tv cv)) rfl rfl ts3 rfl rfl rfl rfl rfl (by rw [nc_len]; omega) (.inl rfl) (set_r' (by omega) v) ?_
          refine SL.nil ?_
          refine SC.of_SE ?_
          refine SC.norm [(6, iw 0)] [rBlk d (nc { A with r := up A.r reg.toNat v } tv cv) 58, rFrs F tv cv A.tb A.cb] ⟨rfl, trivial⟩ rfl ?_
          refine SC.seq ?_
          refine SC.region ?_
          refine SL.ru rfl rfl (lt_b rfl) (ru_assign rfl rfl) ?_
          refine SL.nil ?_
          refine SC.of_SE ?_
          refine SC.norm [(6, iw 0)] [rBlk d (nc { A with r := up A.r reg.toNat v } tv cv) 58, rFrs F tv cv A.tb A.cb] ⟨rfl, trivial⟩ rfl ?_
          refine SC.ret ?_
          refine SE.res (.inl rfl) (res1 Try.results28 rfl) fun w1 hI => ?_
          have e : writeF A reg v = (0, { A with r := up A.r reg.toNat v }) := by
            try simp at h2 h6 h10 h11
            unfold writeF
            (repeat' split) <;> first | rfl | (exfalso; omega) | (exfalso; simp_all; done) | (exfalso; simp_all; omega)
          rw [e]
          exact ⟨rfl, NicAt.fin' hI⟩

end Go.Proofs.Ytloejpkefoagfaa
