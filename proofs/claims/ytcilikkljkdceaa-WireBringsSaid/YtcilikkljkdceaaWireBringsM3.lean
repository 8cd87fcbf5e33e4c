/-
  What the proof of WireBrings stands on, part 3: each theorem by itself, under the conditions that it names.
-/
import Derived.Test.YtcilikkljkdceaaWireBringsM2
import Derived.ProofKit
import Derived.OpenShut
import Derived.ShutString
import Derived.ChangeOld
import Derived.SizedLaws
import Derived.ChangeSlices
import Derived.Deep.Slices
import Derived.Deep.Fields
import Derived.ChangeSame
/-
  The document's devices, in its wire as one thing.
-/
namespace Go.Proofs.Ytcilikkljkdceaa
open Go.RowKit
set_option maxRecDepth 100000
set_option maxHeartbeats 4000000
theorem rv_settx0 {w : World} {wd d0 d1 : Nat} {G : Nat → Prop} {S : Wi} (h : (rWq wd d0 d1 G S).ok w) (hk : NicOk S.A0) {v : Value} {f : List UInt8} (hb : BytesAt w v f) (hs : sliceIn v (fun b => ¬ G b)) (i : Int) : Calls Try.prog 57 #[pt d0 0, iw i, v] w fun e w' => e = .returned (iw (setTxF S.A0 i f).1) ∧ RTo 100 92 46 w wd d0 d1 G (S.setA false (setTxF S.A0 i f).2) w' := by
  obtain ⟨F, k1, k2, k3, k4⟩ := rwi_dev0 h
  exact (q_settx hk k1 hb (fun b o n c e hn => fun hd => hs b o n c e hn (hd ▸ k3)) i).mono fun e w2 ⟨h1, h2⟩ => ⟨h1, k4 _ _ h2⟩
theorem rv_write0 {w : World} {wd d0 d1 : Nat} {G : Nat → Prop} {S : Wi} (h : (rWq wd d0 d1 G S).ok w) (hk : NicOk S.A0) (reg v : Int) : Calls Try.prog 28 #[pt d0 0, iw reg, iw v] w fun e w' => e = .returned (iw (writeF S.A0 reg v).1) ∧ RTo 100 92 46 w wd d0 d1 G (S.setA false (writeF S.A0 reg v).2) w' := by
  obtain ⟨F, k1, k2, k3, k4⟩ := rwi_dev0 h
  exact (q_write hk k1 reg v).mono fun e w2 ⟨h1, h2, h3⟩ => ⟨h1, k4 _ _ ⟨F, h2, fun b hb => .inl hb, h3⟩⟩
end Go.Proofs.Ytcilikkljkdceaa

/-
  New wires.
-/
namespace Go.Proofs.Ytcilikkljkdceaa
open Go.RowKit
set_option maxRecDepth 100000
set_option maxHeartbeats 4000000
theorem pwnew_any {w : World} {d0 d1 : Nat} : Calls Try.prog 29 #[pt d0 0, pt d1 0] w fun e w' => ∃ g, e = .returned (pt g 0) ∧ w.heap.size ≤ g ∧ Blk w' g [pt d0 0, pt d1 0, .slice none 0 0, .slice none 0 0, iw 0] 77 ∧ Only (fun _ => False) w w' := by
  refine calls_sc (l0 := []) (args := [pt d0 0, pt d1 0]) (fun _ => False) Try.func29 rfl 10 Try.ntmps29 (le_b rfl) ⟨⟨by simp, List.Pairwise.nil⟩, Only.refl _ _⟩ ?_
  show SC _ _ _ _ [(0, pt d0 0), (1, pt d1 0)] []
  refine SC.sr ?_
  refine SL.as ?_
  refine SL.nl ?_
  refine SC.sr ?_
  refine SL.mv ?_
  refine SL.mv ?_
  refine SL.uu (ru_build (vals := [(0, pt d0 0), (1, pt d1 0)]) (cells := [pt d0 0, pt d1 0]) rfl rfl (by kernel_rfl)) ?_
  refine SL.uu (ru_build (vals := [(0, Value.agg #[pt d0 0, pt d1 0])]) (cells := [pt d0 0, pt d1 0, Value.slice none 0 0, Value.slice none 0 0, iw 0]) rfl rfl (by kernel_rfl)) ?_
  refine SL.box (c := [pt d0 0, pt d1 0, Value.slice none 0 0, Value.slice none 0 0, iw 0]) rfl rfl (lt_b rfl) rfl rfl rfl fun b1 hb1 => ?_
  refine SL.as ?_
  refine SL.nl ?_
  refine SC.ret ?_
  refine SE.res (.inl rfl) (res1 Try.results29 rfl) fun w1 hI => ⟨b1, rfl, hb1, hI.1.get (i := 0) rfl, hI.2⟩
theorem qwnew_any {w : World} {d0 d1 : Nat} : Calls Try.prog 30 #[pt d0 0, pt d1 0] w fun e w' => ∃ g, e = .returned (pt g 0) ∧ w.heap.size ≤ g ∧ Blk w' g [pt d0 0, pt d1 0, .slice none 0 0, .slice none 0 0, iw 0] 92 ∧ Only (fun _ => False) w w' := by
  refine calls_sc (l0 := []) (args := [pt d0 0, pt d1 0]) (fun _ => False) Try.func30 rfl 19 Try.ntmps30 (le_b rfl) ⟨⟨by simp, List.Pairwise.nil⟩, Only.refl _ _⟩ ?_
  show SC _ _ _ _ [(0, pt d0 0), (1, pt d1 0)] []
  refine SC.sr ?_
  refine SL.as ?_
  refine SL.nl ?_
  refine SC.sr ?_
  refine SL.uu (ru_build (vals := []) (cells := [Value.pointer none, Value.pointer none, Value.slice none 0 0, Value.slice none 0 0, iw 0]) rfl rfl (by kernel_rfl)) ?_
  refine SL.box (c := [Value.pointer none, Value.pointer none, Value.slice none 0 0, Value.slice none 0 0, iw 0]) rfl rfl (lt_b rfl) rfl rfl rfl fun b1 hb1 => ?_
  refine SL.as ?_
  refine SL.nl ?_
  refine SC.sr ?_
  refine SL.mv ?_
  refine SL.mv ?_
  refine SL.nk ?_
  refine SL.fa 0 fd92_0 ?_
  refine SL.ia 0 ar37 ?_
  refine SL.store (i := 0) (c' := [pt d0 0, Value.pointer none, Value.slice none 0 0, Value.slice none 0 0, iw 0]) rfl rfl ts36 rfl rfl rfl rfl rfl (lt_b rfl) (.inr hb1) rfl ?_
  refine SL.nl ?_
  refine SC.sr ?_
  refine SL.mv ?_
  refine SL.mv ?_
  refine SL.nk ?_
  refine SL.fa 0 fd92_0 ?_
  refine SL.ia 1 ar37 ?_
  refine SL.store (i := 0) (c' := [pt d0 0, pt d1 0, Value.slice none 0 0, Value.slice none 0 0, iw 0]) rfl rfl ts36 rfl rfl rfl rfl rfl (lt_b rfl) (.inr hb1) rfl ?_
  refine SL.nl ?_
  refine SC.sr ?_
  refine SL.mv ?_
  refine SL.as ?_
  refine SL.nl ?_
  refine SC.ret ?_
  refine SE.res (.inl rfl) (res1 Try.results30 rfl) fun w1 hI => ⟨b1, rfl, hb1, hI.1.get (i := 0) rfl, hI.2⟩

end Go.Proofs.Ytcilikkljkdceaa

/-
  begun.
-/
namespace Go.Proofs.Ytcilikkljkdceaa
open Go.RowKit
set_option maxRecDepth 100000
set_option maxHeartbeats 4000000
theorem nil_in0 {S : Nat → Prop} {n c : Nat} : sliceIn (.slice none n c) S := fun b o n c e _ => by simp at e
theorem newAt {T : TypeId} {w : World} {g : Nat} (h : Blk w g (nc newA nilv nilv) T) : NicAt T w g (fun _ => False) newA :=
  ⟨nilv, nilv, h, id, fun b hb => hb.elim, fun i _ => ⟨BytesAt.nil _, nil_in0⟩, fun i _ => ⟨BytesAt.nil _, nil_in0⟩⟩
def onA : NicA := (writeF newA 0 1).2
def wi0 : Wi := ⟨onA, onA, [], [], 0⟩
def rg0 : Rg := ⟨wi0, wi0, 0, 0, 0, 0⟩
theorem begun_any (w : World) : Calls Try.prog 8 #[] w fun e w' => ∃ g wd d0 d1 vd e0 e1 G1 G2, e = .returned (pt g 0) ∧ Sep w' (RgL g wd d0 d1 vd e0 e1 G1 G2 rg0) ∧ w.heap.size ≤ g ∧ (∀ b, G1 b → w.heap.size ≤ b) ∧ (∀ b, G2 b → w.heap.size ≤ b) ∧ Only (fun _ => False) w w' := by
  refine calls_sc (l0 := []) (args := []) (fun _ => False) Try.func8 rfl 81 Try.ntmps8 (le_b rfl) ⟨⟨by simp, List.Pairwise.nil⟩, Only.refl _ _⟩ ?_
  show SC _ _ _ _ [] []
  refine SC.sr ?_
  refine SL.as ?_
  refine SL.nl ?_
  refine SC.sr ?_
  refine SL.uu (ru_build (vals := []) (cells := [Value.pointer none, Value.pointer none, Value.pointer none, Value.pointer none, Value.pointer none, Value.pointer none, iw 0, iw 0, iw 0, iw 0]) rfl rfl (by kernel_rfl)) ?_
  refine SL.box (c := [Value.pointer none, Value.pointer none, Value.pointer none, Value.pointer none, Value.pointer none, Value.pointer none, iw 0, iw 0, iw 0, iw 0]) rfl rfl (lt_b rfl) rfl rfl rfl fun g hg => ?_
  refine SL.as ?_
  refine SL.nl ?_
  refine SC.seq ?_
  refine SC.sr ?_
  refine SL.as ?_
  refine SL.nl ?_
  refine SC.block ?_
  refine SC.rounds 3 ?_
  refine SR.norm [(0, Value.pointer none), (1, pt g 0), (2, iw 0)] _ ⟨rfl, rfl, rfl, trivial⟩ rfl ?_
  refine SR.next ?_
  refine SC.seq ?_
  refine SC.sr ?_
  refine SL.mv ?_
  refine SL.uu (ru_lt (b := true) rfl rfl rfl rfl) ?_
  refine SL.nl ?_
  refine SC.yes rfl ?_
  refine SC.skip ?_
  refine SC.of_SE ?_
  refine SC.seq ?_
  refine SC.block ?_
  refine SC.seq ?_
  refine SC.region_mk_tail 5 [(2, Mk.blk ⟨81, w, fun _ => False⟩ (nc newA nilv nilv) 74)] [] rfl rfl (by kernel_rfl) (by kernel_rfl) (by kernel_rfl) ?_
  refine SM.uu (ru_move rfl rfl) ?_
  refine SM.uu (ru_move rfl rfl) ?_
  refine SM.mkcall (s := Mk.blk ⟨81, w, fun _ => False⟩ (nc newA nilv nilv) 74) rfl rfl rfl rfl (w_all rfl) rfl (lt_b rfl) rfl rfl rfl co26 rfl rfl (fun l' w hI => (p_new _).mono fun e w2 ⟨g, k1, k2, k3, k4⟩ => ⟨_, k2, ⟨g, Nat.le_trans hI.2.size k1, rfl⟩, hI.add (r := rBlk g (nc newA nilv nilv) 74) k4 k3 (fun b hb => hb ▸ k1)⟩) ?_
  rintro _ ⟨p1, hp1, rfl⟩
  refine SM.uu (ru_nilCheck rfl rfl) ?_
  refine SM.uu (ru_fieldAddr (o2 := 0) fd41_0 rfl rfl rfl) ?_
  refine SM.nilL (l' := [rBlk g [Value.pointer none, Value.pointer none, Value.pointer none, Value.pointer none, Value.pointer none, Value.pointer none, iw 0, iw 0, iw 0, iw 0] 41, rBlk p1 (nc newA nilv nilv) 74]) rfl ?_
  refine SL.ia 0 ar34 ?_
  refine SL.store (i := 0) (c' := [pt p1 0, Value.pointer none, Value.pointer none, Value.pointer none, Value.pointer none, Value.pointer none, iw 0, iw 0, iw 0, iw 0]) rfl rfl ts33 rfl rfl rfl rfl rfl (lt_b rfl) (.inr hg) rfl ?_
  refine SL.nl ?_
  refine SC.seq ?_
  refine SC.region_mk_tail 5 [(2, Mk.blk ⟨81, w, fun _ => False⟩ (nc newA nilv nilv) 100)] [] rfl rfl (by kernel_rfl) (by kernel_rfl) (by kernel_rfl) ?_
  refine SM.uu (ru_move rfl rfl) ?_
  refine SM.uu (ru_move rfl rfl) ?_
  refine SM.mkcall (s := Mk.blk ⟨81, w, fun _ => False⟩ (nc newA nilv nilv) 100) rfl rfl rfl rfl (w_all rfl) rfl (lt_b rfl) rfl rfl rfl co27 rfl rfl (fun l' w hI => (q_new _).mono fun e w2 ⟨g, k1, k2, k3, k4⟩ => ⟨_, k2, ⟨g, Nat.le_trans hI.2.size k1, rfl⟩, hI.add (r := rBlk g (nc newA nilv nilv) 100) k4 k3 (fun b hb => hb ▸ k1)⟩) ?_
  rintro _ ⟨q2, hq2, rfl⟩
  refine SM.uu (ru_nilCheck rfl rfl) ?_
  refine SM.uu (ru_fieldAddr (o2 := 3) fd41_2 rfl rfl rfl) ?_
  refine SM.nilL (l' := [rBlk g [pt p1 0, Value.pointer none, Value.pointer none, Value.pointer none, Value.pointer none, Value.pointer none, iw 0, iw 0, iw 0, iw 0] 41, rBlk p1 (nc newA nilv nilv) 74, rBlk q2 (nc newA nilv nilv) 100]) rfl ?_
  refine SL.ia 3 ar37 ?_
  refine SL.store (i := 0) (c' := [pt p1 0, Value.pointer none, Value.pointer none, pt q2 0, Value.pointer none, Value.pointer none, iw 0, iw 0, iw 0, iw 0]) rfl rfl ts36 rfl rfl rfl rfl rfl (lt_b rfl) (.inr hg) rfl ?_
  refine SL.nl ?_
  refine SC.seq ?_
  refine SC.sr ?_
  refine SL.mv ?_
  refine SL.mv ?_
  refine SL.nk ?_
  refine SL.fa 0 fd41_0 ?_
  refine SL.ia 0 ar34 ?_
  refine SL.ld 0 ts33 ?_
  refine SL.uu (ru_eqnil Try.underlying33 rfl rfl rfl rfl) ?_
  refine SL.nl ?_
  refine SC.no rfl ?_
  refine SC.skip ?_
  refine SC.of_SE ?_
  refine SC.sr ?_
  refine SL.mv ?_
  refine SL.mv ?_
  refine SL.nk ?_
  refine SL.fa 0 fd41_0 ?_
  refine SL.ia 0 ar34 ?_
  refine SL.ld 0 ts33 ?_
  refine SL.call (ζ := Unit) (fun _z => iw ((writeF newA 0 1).1)) (fun _z => [rBlk g [pt p1 0, Value.pointer none, Value.pointer none, pt q2 0, Value.pointer none, Value.pointer none, iw 0, iw 0, iw 0, iw 0] 41, rNic 74 p1 (fun _ => False) onA, rBlk q2 (nc newA nilv nilv) 100]) (fun _z => True) rfl rfl co11 rfl rfl rfl (lt_b rfl) (fun w hI => (p_write newA_ok (newAt (hI.1.get (i := 1) rfl)) 0 1).mono fun e w2 ⟨h1, h2, h3⟩ => ⟨(), h1, hI.upd (i := 1) rfl h3 (fun b hb => .inr (by cases hb; exact hp1)) h2 (fun b hb => .inl (hb.elim id False.elim)), trivial⟩) ?_
  rintro ⟨⟩ _
  refine SL.as ?_
  refine SL.nr [rBlk g [pt p1 0, Value.pointer none, Value.pointer none, pt q2 0, Value.pointer none, Value.pointer none, iw 0, iw 0, iw 0, iw 0] 41, rNic 74 p1 (fun _ => False) onA, rBlk q2 (nc newA nilv nilv) 100] ?_
  refine SC.sr ?_
  refine SL.mv ?_
  refine SL.mv ?_
  refine SL.nk ?_
  refine SL.fa 3 fd41_2 ?_
  refine SL.ia 3 ar37 ?_
  refine SL.ld 0 ts36 ?_
  refine SL.call (ζ := Unit) (fun _z => iw ((writeF newA 0 1).1)) (fun _z => [rBlk g [pt p1 0, Value.pointer none, Value.pointer none, pt q2 0, Value.pointer none, Value.pointer none, iw 0, iw 0, iw 0, iw 0] 41, rNic 74 p1 (fun _ => False) onA, rNic 100 q2 (fun _ => False) onA]) (fun _z => True) rfl rfl co28 rfl rfl rfl (lt_b rfl) (fun w hI => (q_write newA_ok (newAt (hI.1.get (i := 2) rfl)) 0 1).mono fun e w2 ⟨h1, h2, h3⟩ => ⟨(), h1, hI.upd (i := 2) rfl h3 (fun b hb => .inr (by cases hb; exact hq2)) h2 (fun b hb => .inl (hb.elim id False.elim)), trivial⟩) ?_
  rintro ⟨⟩ _
  refine SL.as ?_
  refine SL.nl ?_
  refine SC.sr ?_
  refine SL.mv ?_
  refine SL.mv ?_
  refine SL.uu (ru_ne (b := false) rfl rfl rfl ((by decide +kernel))) ?_
  refine SL.nl ?_
  refine SC.no rfl ?_
  refine SC.skip ?_
  refine SE.blkn ?_
  refine SC.of_SE ?_
  refine SC.region ?_
  refine SL.mv ?_
  refine SL.uu (ru_add (r := 1) rfl rfl rfl rfl) ?_
  refine SL.as ?_
  refine SL.nil ?_
  refine SE.round ?_
  refine SR.norm [(0, Value.pointer none), (1, pt g 0), (2, iw 1)] _ ⟨rfl, rfl, rfl, trivial⟩ rfl ?_
  refine SR.next ?_
  refine SC.seq ?_
  refine SC.sr ?_
  refine SL.mv ?_
  refine SL.uu (ru_lt (b := true) rfl rfl rfl rfl) ?_
  refine SL.nn [(0, Value.pointer none), (1, pt g 0), (2, iw 1), (8, bo true)] _ ⟨rfl, rfl, rfl, rfl, trivial⟩ ?_
  refine SC.yes rfl ?_
  refine SC.skip ?_
  refine SC.of_SE ?_
  refine SC.seq ?_
  refine SC.block ?_
  refine SC.seq ?_
  refine SC.region_mk_tail 5 [(2, Mk.blk ⟨81, w, fun _ => False⟩ (nc newA nilv nilv) 74)] [] rfl rfl (by kernel_rfl) (by kernel_rfl) (by kernel_rfl) ?_
  refine SM.uu (ru_move rfl rfl) ?_
  refine SM.uu (ru_move rfl rfl) ?_
  refine SM.mkcall (s := Mk.blk ⟨81, w, fun _ => False⟩ (nc newA nilv nilv) 74) rfl rfl rfl rfl (w_all rfl) rfl (lt_b rfl) rfl rfl rfl co26 rfl rfl (fun l' w hI => (p_new _).mono fun e w2 ⟨g, k1, k2, k3, k4⟩ => ⟨_, k2, ⟨g, Nat.le_trans hI.2.size k1, rfl⟩, hI.add (r := rBlk g (nc newA nilv nilv) 74) k4 k3 (fun b hb => hb ▸ k1)⟩) ?_
  rintro _ ⟨p3, hp3, rfl⟩
  refine SM.uu (ru_nilCheck rfl rfl) ?_
  refine SM.uu (ru_fieldAddr (o2 := 0) fd41_0 rfl rfl rfl) ?_
  refine SM.nilL (l' := [rBlk g [pt p1 0, Value.pointer none, Value.pointer none, pt q2 0, Value.pointer none, Value.pointer none, iw 0, iw 0, iw 0, iw 0] 41, rNic 74 p1 (fun _ => False) onA, rNic 100 q2 (fun _ => False) onA, rBlk p3 (nc newA nilv nilv) 74]) rfl ?_
  refine SL.ia 1 ar34 ?_
  refine SL.store (i := 0) (c' := [pt p1 0, pt p3 0, Value.pointer none, pt q2 0, Value.pointer none, Value.pointer none, iw 0, iw 0, iw 0, iw 0]) rfl rfl ts33 rfl rfl rfl rfl rfl (lt_b rfl) (.inr hg) rfl ?_
  refine SL.nl ?_
  refine SC.seq ?_
  refine SC.region_mk_tail 5 [(2, Mk.blk ⟨81, w, fun _ => False⟩ (nc newA nilv nilv) 100)] [] rfl rfl (by kernel_rfl) (by kernel_rfl) (by kernel_rfl) ?_
  refine SM.uu (ru_move rfl rfl) ?_
  refine SM.uu (ru_move rfl rfl) ?_
  refine SM.mkcall (s := Mk.blk ⟨81, w, fun _ => False⟩ (nc newA nilv nilv) 100) rfl rfl rfl rfl (w_all rfl) rfl (lt_b rfl) rfl rfl rfl co27 rfl rfl (fun l' w hI => (q_new _).mono fun e w2 ⟨g, k1, k2, k3, k4⟩ => ⟨_, k2, ⟨g, Nat.le_trans hI.2.size k1, rfl⟩, hI.add (r := rBlk g (nc newA nilv nilv) 100) k4 k3 (fun b hb => hb ▸ k1)⟩) ?_
  rintro _ ⟨q4, hq4, rfl⟩
  refine SM.uu (ru_nilCheck rfl rfl) ?_
  refine SM.uu (ru_fieldAddr (o2 := 3) fd41_2 rfl rfl rfl) ?_
  refine SM.nilL (l' := [rBlk g [pt p1 0, pt p3 0, Value.pointer none, pt q2 0, Value.pointer none, Value.pointer none, iw 0, iw 0, iw 0, iw 0] 41, rNic 74 p1 (fun _ => False) onA, rNic 100 q2 (fun _ => False) onA, rBlk p3 (nc newA nilv nilv) 74, rBlk q4 (nc newA nilv nilv) 100]) rfl ?_
  refine SL.ia 4 ar37 ?_
  refine SL.store (i := 0) (c' := [pt p1 0, pt p3 0, Value.pointer none, pt q2 0, pt q4 0, Value.pointer none, iw 0, iw 0, iw 0, iw 0]) rfl rfl ts36 rfl rfl rfl rfl rfl (lt_b rfl) (.inr hg) rfl ?_
  refine SL.nr [rBlk g [pt p1 0, pt p3 0, Value.pointer none, pt q2 0, pt q4 0, Value.pointer none, iw 0, iw 0, iw 0, iw 0] 41, rNic 74 p1 (fun _ => False) onA, rNic 100 q2 (fun _ => False) onA, rBlk p3 (nc newA nilv nilv) 74, rBlk q4 (nc newA nilv nilv) 100] ?_
  refine SC.seq ?_
  refine SC.sr ?_
  refine SL.mv ?_
  refine SL.mv ?_
  refine SL.nk ?_
  refine SL.fa 0 fd41_0 ?_
  refine SL.ia 1 ar34 ?_
  refine SL.ld 0 ts33 ?_
  refine SL.uu (ru_eqnil Try.underlying33 rfl rfl rfl rfl) ?_
  refine SL.nl ?_
  refine SC.no rfl ?_
  refine SC.skip ?_
  refine SC.of_SE ?_
  refine SC.sr ?_
  refine SL.mv ?_
  refine SL.mv ?_
  refine SL.nk ?_
  refine SL.fa 0 fd41_0 ?_
  refine SL.ia 1 ar34 ?_
  refine SL.ld 0 ts33 ?_
  refine SL.call (ζ := Unit) (fun _z => iw ((writeF newA 0 1).1)) (fun _z => [rBlk g [pt p1 0, pt p3 0, Value.pointer none, pt q2 0, pt q4 0, Value.pointer none, iw 0, iw 0, iw 0, iw 0] 41, rNic 74 p1 (fun _ => False) onA, rNic 100 q2 (fun _ => False) onA, rNic 74 p3 (fun _ => False) onA, rBlk q4 (nc newA nilv nilv) 100]) (fun _z => True) rfl rfl co11 rfl rfl rfl (lt_b rfl) (fun w hI => (p_write newA_ok (newAt (hI.1.get (i := 3) rfl)) 0 1).mono fun e w2 ⟨h1, h2, h3⟩ => ⟨(), h1, hI.upd (i := 3) rfl h3 (fun b hb => .inr (by cases hb; exact hp3)) h2 (fun b hb => .inl (hb.elim id False.elim)), trivial⟩) ?_
  rintro ⟨⟩ _
  refine SL.as ?_
  refine SL.nl ?_
  refine SC.sr ?_
  refine SL.mv ?_
  refine SL.mv ?_
  refine SL.nk ?_
  refine SL.fa 3 fd41_2 ?_
  refine SL.ia 4 ar37 ?_
  refine SL.ld 0 ts36 ?_
  refine SL.call (ζ := Unit) (fun _z => iw ((writeF newA 0 1).1)) (fun _z => [rBlk g [pt p1 0, pt p3 0, Value.pointer none, pt q2 0, pt q4 0, Value.pointer none, iw 0, iw 0, iw 0, iw 0] 41, rNic 74 p1 (fun _ => False) onA, rNic 100 q2 (fun _ => False) onA, rNic 74 p3 (fun _ => False) onA, rNic 100 q4 (fun _ => False) onA]) (fun _z => True) rfl rfl co28 rfl rfl rfl (lt_b rfl) (fun w hI => (q_write newA_ok (newAt (hI.1.get (i := 4) rfl)) 0 1).mono fun e w2 ⟨h1, h2, h3⟩ => ⟨(), h1, hI.upd (i := 4) rfl h3 (fun b hb => .inr (by cases hb; exact hq4)) h2 (fun b hb => .inl (hb.elim id False.elim)), trivial⟩) ?_
  rintro ⟨⟩ _
  refine SL.as ?_
  refine SL.nl ?_
  refine SC.sr ?_
  refine SL.mv ?_
  refine SL.mv ?_
  refine SL.uu (ru_ne (b := false) rfl rfl rfl ((by decide +kernel))) ?_
  refine SL.nl ?_
  refine SC.no rfl ?_
  refine SC.skip ?_
  refine SE.blkn ?_
  refine SC.of_SE ?_
  refine SC.region ?_
  refine SL.mv ?_
  refine SL.uu (ru_add (r := 2) rfl rfl rfl rfl) ?_
  refine SL.as ?_
  refine SL.nil ?_
  refine SE.round ?_
  refine SR.norm [(0, Value.pointer none), (1, pt g 0), (2, iw 2)] _ ⟨rfl, rfl, rfl, trivial⟩ rfl ?_
  refine SR.next ?_
  refine SC.seq ?_
  refine SC.sr ?_
  refine SL.mv ?_
  refine SL.uu (ru_lt (b := false) rfl rfl rfl rfl) ?_
  refine SL.nn [(0, Value.pointer none), (1, pt g 0), (2, iw 2), (8, bo false)] _ ⟨rfl, rfl, rfl, rfl, trivial⟩ ?_
  refine SC.no rfl ?_
  refine SC.exit ?_
  refine SE.passe ?_
  refine SE.passe ?_
  refine SE.blke ?_
  refine SC.of_SE ?_
  refine SC.seq ?_
  refine SC.region_mk_tail 12 [(11, Mk.blk ⟨81, w, fun _ => False⟩ [pt p1 0, pt p3 0, Value.slice none 0 0, Value.slice none 0 0, iw 0] 77)] [] rfl rfl (by kernel_rfl) (by kernel_rfl) (by kernel_rfl) ?_
  refine SM.uu (ru_move rfl rfl) ?_
  refine SM.uu (ru_move rfl rfl) ?_
  refine SM.uu (ru_nilCheck rfl rfl) ?_
  refine SM.uu (ru_fieldAddr (o2 := 0) fd41_0 rfl rfl rfl) ?_
  refine SM.uu (ru_indexA (o2 := 0) ar34 rfl rfl rfl (by decide) (by decide) rfl) ?_
  refine SM.uu (ru_load (i := 0) ts33 rfl rfl rfl rfl) ?_
  refine SM.uu (ru_move rfl rfl) ?_
  refine SM.uu (ru_nilCheck rfl rfl) ?_
  refine SM.uu (ru_fieldAddr (o2 := 0) fd41_0 rfl rfl rfl) ?_
  refine SM.uu (ru_indexA (o2 := 1) ar34 rfl rfl rfl (by decide) (by decide) rfl) ?_
  refine SM.uu (ru_load (i := 0) ts33 rfl rfl rfl rfl) ?_
  refine SM.mkcall (s := Mk.blk ⟨81, w, fun _ => False⟩ [pt p1 0, pt p3 0, Value.slice none 0 0, Value.slice none 0 0, iw 0] 77) rfl rfl rfl rfl (w_all rfl) rfl (lt_b rfl) rfl rfl rfl co29 rfl rfl (fun l' w hI => pwnew_any.mono fun e w2 ⟨g, k1, k2, k3, k4⟩ => ⟨_, k1, ⟨g, Nat.le_trans hI.2.size k2, rfl⟩, hI.add (r := rBlk g [pt p1 0, pt p3 0, Value.slice none 0 0, Value.slice none 0 0, iw 0] 77) k4 k3 (fun b hb => hb ▸ k2)⟩) ?_
  rintro _ ⟨wd5, hwd5, rfl⟩
  refine SM.nilL (l' := [rBlk g [pt p1 0, pt p3 0, Value.pointer none, pt q2 0, pt q4 0, Value.pointer none, iw 0, iw 0, iw 0, iw 0] 41, rNic 74 p1 (fun _ => False) onA, rNic 100 q2 (fun _ => False) onA, rNic 74 p3 (fun _ => False) onA, rNic 100 q4 (fun _ => False) onA, rBlk wd5 [pt p1 0, pt p3 0, Value.slice none 0 0, Value.slice none 0 0, iw 0] 77]) rfl ?_
  refine SL.nk ?_
  refine SL.fa 2 fd41_1 ?_
  refine SL.store (i := 0) (c' := [pt p1 0, pt p3 0, pt wd5 0, pt q2 0, pt q4 0, Value.pointer none, iw 0, iw 0, iw 0, iw 0]) rfl rfl ts35 rfl rfl rfl rfl rfl (lt_b rfl) (.inr hg) rfl ?_
  refine SL.nl ?_
  refine SC.seq ?_
  refine SC.region_mk_tail 12 [(11, Mk.blk ⟨81, w, fun _ => False⟩ [pt q2 0, pt q4 0, Value.slice none 0 0, Value.slice none 0 0, iw 0] 92)] [] rfl rfl (by kernel_rfl) (by kernel_rfl) (by kernel_rfl) ?_
  refine SM.uu (ru_move rfl rfl) ?_
  refine SM.uu (ru_move rfl rfl) ?_
  refine SM.uu (ru_nilCheck rfl rfl) ?_
  refine SM.uu (ru_fieldAddr (o2 := 3) fd41_2 rfl rfl rfl) ?_
  refine SM.uu (ru_indexA (o2 := 3) ar37 rfl rfl rfl (by decide) (by decide) rfl) ?_
  refine SM.uu (ru_load (i := 0) ts36 rfl rfl rfl rfl) ?_
  refine SM.uu (ru_move rfl rfl) ?_
  refine SM.uu (ru_nilCheck rfl rfl) ?_
  refine SM.uu (ru_fieldAddr (o2 := 3) fd41_2 rfl rfl rfl) ?_
  refine SM.uu (ru_indexA (o2 := 4) ar37 rfl rfl rfl (by decide) (by decide) rfl) ?_
  refine SM.uu (ru_load (i := 0) ts36 rfl rfl rfl rfl) ?_
  refine SM.mkcall (s := Mk.blk ⟨81, w, fun _ => False⟩ [pt q2 0, pt q4 0, Value.slice none 0 0, Value.slice none 0 0, iw 0] 92) rfl rfl rfl rfl (w_all rfl) rfl (lt_b rfl) rfl rfl rfl co30 rfl rfl (fun l' w hI => qwnew_any.mono fun e w2 ⟨g, k1, k2, k3, k4⟩ => ⟨_, k1, ⟨g, Nat.le_trans hI.2.size k2, rfl⟩, hI.add (r := rBlk g [pt q2 0, pt q4 0, Value.slice none 0 0, Value.slice none 0 0, iw 0] 92) k4 k3 (fun b hb => hb ▸ k2)⟩) ?_
  rintro _ ⟨wd6, hwd6, rfl⟩
  refine SM.nilL (l' := [rBlk g [pt p1 0, pt p3 0, pt wd5 0, pt q2 0, pt q4 0, Value.pointer none, iw 0, iw 0, iw 0, iw 0] 41, rNic 74 p1 (fun _ => False) onA, rNic 100 q2 (fun _ => False) onA, rNic 74 p3 (fun _ => False) onA, rNic 100 q4 (fun _ => False) onA, rBlk wd5 [pt p1 0, pt p3 0, Value.slice none 0 0, Value.slice none 0 0, iw 0] 77, rBlk wd6 [pt q2 0, pt q4 0, Value.slice none 0 0, Value.slice none 0 0, iw 0] 92]) rfl ?_
  refine SL.nk ?_
  refine SL.fa 5 fd41_3 ?_
  refine SL.store (i := 0) (c' := [pt p1 0, pt p3 0, pt wd5 0, pt q2 0, pt q4 0, pt wd6 0, iw 0, iw 0, iw 0, iw 0]) rfl rfl ts38 rfl rfl rfl rfl rfl (lt_b rfl) (.inr hg) rfl ?_
  refine SL.nr [rBlk g [pt p1 0, pt p3 0, pt wd5 0, pt q2 0, pt q4 0, pt wd6 0, iw 0, iw 0, iw 0, iw 0] 41, rNic 74 p1 (fun _ => False) onA, rNic 100 q2 (fun _ => False) onA, rNic 74 p3 (fun _ => False) onA, rNic 100 q4 (fun _ => False) onA, rBlk wd5 [pt p1 0, pt p3 0, Value.slice none 0 0, Value.slice none 0 0, iw 0] 77, rBlk wd6 [pt q2 0, pt q4 0, Value.slice none 0 0, Value.slice none 0 0, iw 0] 92] ?_
  refine SC.seq ?_
  refine SC.sr ?_
  refine SL.mv ?_
  refine SL.nk ?_
  refine SL.fa 2 fd41_1 ?_
  refine SL.ld 0 ts35 ?_
  refine SL.uu (ru_eqnil Try.underlying35 rfl rfl rfl rfl) ?_
  refine SL.nl ?_
  refine SC.no rfl ?_
  refine SC.skip ?_
  refine SC.of_SE ?_
  refine SC.sr ?_
  refine SL.mv ?_
  refine SL.as ?_
  refine SL.nl ?_
  refine SC.ret ?_
  refine SE.res (.inl rfl) (res1 Try.results8 rfl) fun w1 hI => ?_
  have h0 : Inv ⟨81, w, fun _ => False⟩ w1 [rBlk wd5 [pt p1 0, pt p3 0, Value.slice none 0 0, Value.slice none 0 0, iw 0] 77, rNic 74 p1 (fun _ => False) onA, rNic 74 p3 (fun _ => False) onA, rBlk g [pt p1 0, pt p3 0, pt wd5 0, pt q2 0, pt q4 0, pt wd6 0, iw 0, iw 0, iw 0, iw 0] 41, rNic 100 q2 (fun _ => False) onA, rNic 100 q4 (fun _ => False) onA, rBlk wd6 [pt q2 0, pt q4 0, Value.slice none 0 0, Value.slice none 0 0, iw 0] 92] := hI.reo [5, 1, 3, 0, 2, 4, 6] (by decide)
  have h1 : Inv ⟨81, w, fun _ => False⟩ w1 [rWp wd5 p1 p3 (fun b => b = wd5 ∨ (b = p1 ∨ False) ∨ b = p3 ∨ False) wi0, rBlk g [pt p1 0, pt p3 0, pt wd5 0, pt q2 0, pt q4 0, pt wd6 0, iw 0, iw 0, iw 0, iw 0] 41, rNic 100 q2 (fun _ => False) onA, rNic 100 q4 (fun _ => False) onA, rBlk wd6 [pt q2 0, pt q4 0, Value.slice none 0 0, Value.slice none 0 0, iw 0] 92] := rwi_new (l := [rBlk g [pt p1 0, pt p3 0, pt wd5 0, pt q2 0, pt q4 0, pt wd6 0, iw 0, iw 0, iw 0, iw 0] 41, rNic 100 q2 (fun _ => False) onA, rNic 100 q4 (fun _ => False) onA, rBlk wd6 [pt q2 0, pt q4 0, Value.slice none 0 0, Value.slice none 0 0, iw 0] 92]) h0
  have h1b : Inv ⟨81, w, fun _ => False⟩ w1 [rBlk wd6 [pt q2 0, pt q4 0, Value.slice none 0 0, Value.slice none 0 0, iw 0] 92, rNic 100 q2 (fun _ => False) onA, rNic 100 q4 (fun _ => False) onA, rWp wd5 p1 p3 (fun b => b = wd5 ∨ (b = p1 ∨ False) ∨ b = p3 ∨ False) wi0, rBlk g [pt p1 0, pt p3 0, pt wd5 0, pt q2 0, pt q4 0, pt wd6 0, iw 0, iw 0, iw 0, iw 0] 41] := h1.reo [4, 2, 3, 0, 1] (by decide)
  have h2 : Inv ⟨81, w, fun _ => False⟩ w1 [rWq wd6 q2 q4 (fun b => b = wd6 ∨ (b = q2 ∨ False) ∨ b = q4 ∨ False) wi0, rWp wd5 p1 p3 (fun b => b = wd5 ∨ (b = p1 ∨ False) ∨ b = p3 ∨ False) wi0, rBlk g [pt p1 0, pt p3 0, pt wd5 0, pt q2 0, pt q4 0, pt wd6 0, iw 0, iw 0, iw 0, iw 0] 41] := rwi_new (l := [rWp wd5 p1 p3 (fun b => b = wd5 ∨ (b = p1 ∨ False) ∨ b = p3 ∨ False) wi0, rBlk g [pt p1 0, pt p3 0, pt wd5 0, pt q2 0, pt q4 0, pt wd6 0, iw 0, iw 0, iw 0, iw 0] 41]) h1b
  have h3 : Inv ⟨81, w, fun _ => False⟩ w1 [rBlk g [pt p1 0, pt p3 0, pt wd5 0, pt q2 0, pt q4 0, pt wd6 0, iw 0, iw 0, iw 0, iw 0] 41, rWp wd5 p1 p3 (fun b => b = wd5 ∨ (b = p1 ∨ False) ∨ b = p3 ∨ False) wi0, rWq wd6 q2 q4 (fun b => b = wd6 ∨ (b = q2 ∨ False) ∨ b = q4 ∨ False) wi0] := h2.reo [2, 1, 0] (by decide)
  refine ⟨g, wd5, p1, p3, wd6, q2, q4, _, _, rfl, h3.1, hg, fun b hb => ?_, fun b hb => ?_, hI.2⟩
  · rcases hb with e | (e | e) | e | e <;> first | (rw [e]; assumption) | exact e.elim
  · rcases hb with e | (e | e) | e | e <;> first | (rw [e]; assumption) | exact e.elim

end Go.Proofs.Ytcilikkljkdceaa

/-
  post.
-/
namespace Go.Proofs.Ytcilikkljkdceaa
open Go.RowKit
set_option maxRecDepth 100000
set_option maxHeartbeats 4000000
def postF (S : Wi) (b : Bool) (t : Int) (f : List UInt8) : Wi × Int :=
  if ((setTxF (S.A b) t f).1 != 0) = true then (S.setA b (setTxF (S.A b) t f).2, t) else (S.setA b (writeF (setTxF (S.A b) t f).2 5 (nx t)).2, nx t)
theorem Wb.post {n : Nat} {S : Wi} (h : Wb n S) (b : Bool) (t : Int) (f : List UInt8) : Wb n (postF S b t f).1 := by
  unfold postF
  have h1 := h.setA b ((h.d b).setTx t f)
  split
  · exact h1
  · refine h.setA b ?_
    have := ((h.d b).setTx t f).write h.now.1 5 (nx t)
    exact this
theorem post0_any {n : Nat} {w : World} {g wd d0 d1 vd e0 e1 : Nat} {G1 G2 : Nat → Prop} {S : Wi} {t0 t1 f0 f1 : Int} (hB : Wb n S) (ht : 0 ≤ t0 ∧ t0 < 16) {v : Value} {f : List UInt8} (hb : BytesAt w v f) (hv : sliceIn v (fun b => ¬ RgZ g G1 G2 b ∧ b < w.heap.size)) (h : Sep w (RgL g wd d0 d1 vd e0 e1 G1 G2 ⟨S, S, t0, t1, f0, f1⟩)) : Calls Try.prog 25 #[pt g 0, iw 0, v] w fun e w' => e = .returned (bo true) ∧ RgTo w g wd d0 d1 vd e0 e1 G1 G2 ⟨(postF S false t0 f).1, (postF S false t0 f).1, (postF S false t0 f).2, t1, f0, f1⟩ w' := by
  have hG1 : ∀ b, G1 b → RgZ g G1 G2 b ∨ w.heap.size ≤ b := fun b hb => .inl (.inr (.inl hb))
  have hG2 : ∀ b, G2 b → RgZ g G1 G2 b ∨ w.heap.size ≤ b := fun b hb => .inl (.inr (.inr hb))
  refine calls_sc (l0 := (RgL g wd d0 d1 vd e0 e1 G1 G2 ⟨S, S, t0, t1, f0, f1⟩)) (args := [pt g 0, iw 0, v]) (RgZ g G1 G2) Try.func25 rfl 82 Try.ntmps25 (le_b rfl) ⟨h, Only.refl _ _⟩ ?_
  show SC _ _ _ _ [(0, pt g 0), (1, iw 0), (2, v)] (RgL g wd d0 d1 vd e0 e1 G1 G2 ⟨S, S, t0, t1, f0, f1⟩)
  refine SC.sr ?_
  refine SL.as ?_
  refine SL.nl ?_
  refine SC.seq ?_
  refine SC.region_tail 13 (by kernel_rfl) (by kernel_rfl) ?_
  refine SQ.mv ?_
  refine SQ.mv ?_
  refine SQ.nk ?_
  refine SQ.fa 0 fd41_0 ?_
  refine SQ.ia 0 ar34 ?_
  refine SQ.ld 0 ts33 ?_
  refine SQ.mv ?_
  refine SQ.mv ?_
  refine SQ.nk ?_
  refine SQ.fa 6 fd41_4 ?_
  refine SQ.ia 6 ar39 ?_
  refine SQ.ld 0 ts3 ?_
  refine SQ.mv ?_
  refine SQ.nilL ?_
  have hB2 := hB.setA false ((hB.d0).setTx t0 f)
  refine SL.call (ζ := Nat → Prop) (fun Gw1 => iw ((setTxF S.A0 t0 f).1)) (fun Gw1 => [rG g d0 d1 wd e0 e1 vd t0 t1 f0 f1 41, rWp wd d0 d1 Gw1 (S.setA false (setTxF S.A0 t0 f).2), rWq vd e0 e1 G2 S]) (fun Gw1 => ∀ b, Gw1 b → RgZ g G1 G2 b ∨ w.heap.size ≤ b) rfl rfl co10 rfl rfl rfl (lt_b rfl) (fun w5 hI => (rw_settx0 (hI.1.get (i := 1) rfl) hB.d0.ok (hb.only hI.2 (fun b o n c e hn => (hv b o n c e hn).1)) (fun b o n c e hn hg => (hG1 b hg).elim (hv b o n c e hn).1 (fun e9 => by have := (hv b o n c e hn).2; omega)) t0).mono fun e w2 ⟨h1, kz⟩ => by obtain ⟨G9, k1, k2⟩ := hI.rto (i := 1) rfl hG1 kz; exact ⟨G9, h1, k1, k2⟩) ?_
  intro Gw1 hGw1
  refine SL.as ?_
  refine SL.nl ?_
  refine SC.seq ?_
  refine SC.region_tail 13 (by kernel_rfl) (by kernel_rfl) ?_
  refine SQ.mv ?_
  refine SQ.mv ?_
  refine SQ.nk ?_
  refine SQ.fa 3 fd41_2 ?_
  refine SQ.ia 3 ar37 ?_
  refine SQ.ld 0 ts36 ?_
  refine SQ.mv ?_
  refine SQ.mv ?_
  refine SQ.nk ?_
  refine SQ.fa 6 fd41_4 ?_
  refine SQ.ia 6 ar39 ?_
  refine SQ.ld 0 ts3 ?_
  refine SQ.mv ?_
  refine SQ.nilL ?_
  have hB4 := hB.setA false ((hB.d0).setTx t0 f)
  refine SL.call (ζ := Nat → Prop) (fun Gw3 => iw ((setTxF S.A0 t0 f).1)) (fun Gw3 => [rG g d0 d1 wd e0 e1 vd t0 t1 f0 f1 41, rWp wd d0 d1 Gw1 (S.setA false (setTxF S.A0 t0 f).2), rWq vd e0 e1 Gw3 (S.setA false (setTxF S.A0 t0 f).2)]) (fun Gw3 => ∀ b, Gw3 b → RgZ g G1 G2 b ∨ w.heap.size ≤ b) rfl rfl co57 rfl rfl rfl (lt_b rfl) (fun w5 hI => (rv_settx0 (hI.1.get (i := 2) rfl) hB.d0.ok (hb.only hI.2 (fun b o n c e hn => (hv b o n c e hn).1)) (fun b o n c e hn hg => (hG2 b hg).elim (hv b o n c e hn).1 (fun e9 => by have := (hv b o n c e hn).2; omega)) t0).mono fun e w2 ⟨h1, kz⟩ => by obtain ⟨G9, k1, k2⟩ := hI.rto (i := 2) rfl hG2 kz; exact ⟨G9, h1, k1, k2⟩) ?_
  intro Gw3 hGw3
  refine SL.as ?_
  refine SL.nl ?_
  refine SC.seq ?_
  refine SC.sr ?_
  refine SL.mv ?_
  refine SL.mv ?_
  refine SL.uu (ru_ne (b := false) rfl rfl rfl (by simp)) ?_
  refine SL.nl ?_
  refine SC.no rfl ?_
  refine SC.skip ?_
  refine SC.of_SE ?_
  refine SC.seq ?_
  refine SC.sr ?_
  refine SL.mv ?_
  refine SL.uu (ru_ne (b := ((((setTxF S.A0 t0 f).1) : Int) != 0)) rfl rfl rfl rfl) ?_
  refine SL.nl ?_
  refine SC.both ((((setTxF S.A0 t0 f).1) : Int) != 0) rfl (fun h5 => ?_) (fun h5 => ?_)
  · skip
    refine SC.sr ?_
    refine SL.as ?_
    refine SL.nl ?_
    refine SC.ret ?_
    refine SE.passr ?_
    refine SE.res (.inl rfl) (res1 Try.results25 rfl) fun w1 hI => ⟨rfl, ?_⟩
    have ew : postF S false t0 f = (S.setA false (setTxF S.A0 t0 f).2, t0) := by unfold postF; exact if_pos h5
    rw [ew]
    exact RgTo.of (l := []) hI hGw1 hGw3
  refine SC.skip ?_
  refine SC.of_SE ?_
  refine SC.seq ?_
  refine SC.region_tail 13 (by kernel_rfl) (by kernel_rfl) ?_
  refine SQ.mv ?_
  refine SQ.mv ?_
  refine SQ.mv ?_
  refine SQ.mv ?_
  refine SQ.nk ?_
  refine SQ.fa 6 fd41_4 ?_
  refine SQ.ia 6 ar39 ?_
  refine SQ.ld 0 ts3 ?_
  refine SQ.uu (ru_add (r := (t0 + 1)) rfl rfl rfl ((by rw [IntKind.wrap_i64]; omega))) ?_
  refine SQ.uu (ru_rem (r := (nx t0)) rfl rfl rfl (by decide) ((by rw [Int.tmod_eq_emod_of_nonneg (by omega)]; rfl))) ?_
  refine SQ.nk ?_
  refine SQ.fa 6 fd41_4 ?_
  refine SQ.ia 6 ar39 ?_
  refine SQ.nilL ?_
  refine SL.store (i := 0) (c' := [pt d0 0, pt d1 0, pt wd 0, pt e0 0, pt e1 0, pt vd 0, iw (nx t0), iw t1, iw f0, iw f1]) rfl rfl ts3 rfl rfl rfl rfl rfl (lt_b rfl) (.inl (.inl rfl)) rfl ?_
  refine SL.nn [(0, pt g 0), (1, iw 0), (6, bo false)] _ ⟨rfl, rfl, rfl, trivial⟩ ?_
  refine SC.seq ?_
  have hB7 := hB2.setA false ((hB2.d0).write hB2.now.1 5 (nx t0))
  have hcb8 := CU.base (X := ⟨82, w, RgZ g G1 G2⟩) (l := [rBlk g [pt d0 0, pt d1 0, pt wd 0, pt e0 0, pt e1 0, pt vd 0, iw (nx t0), iw t1, iw f0, iw f1] 41, rWp wd d0 d1 Gw1 (S.setA false (setTxF S.A0 t0 f).2), rWq vd e0 e1 Gw3 (S.setA false (setTxF S.A0 t0 f).2)]) (l2 := fun (Gw6 : Nat → Prop) => [rBlk g [pt d0 0, pt d1 0, pt wd 0, pt e0 0, pt e1 0, pt vd 0, iw (nx t0), iw t1, iw f0, iw f1] 41, rWp wd d0 d1 Gw6 ((S.setA false (setTxF S.A0 t0 f).2).setA false (writeF (S.setA false (setTxF S.A0 t0 f).2).A0 5 (nx t0)).2), rWq vd e0 e1 Gw3 (S.setA false (setTxF S.A0 t0 f).2)]) (p := fun (Gw6 : Nat → Prop) => ∀ b, Gw6 b → RgZ g G1 G2 b ∨ w.heap.size ≤ b) (k := 12) (lb := [rBlk g [pt d0 0, pt d1 0, pt wd 0, pt e0 0, pt e1 0, pt vd 0, iw (nx t0), iw t1, iw f0, iw f1] 41, rNone, rWq vd e0 e1 Gw3 (S.setA false (setTxF S.A0 t0 f).2)]) (fun w hI => hI.weak (i := 1) (r' := rNone) rfl (fun _ => trivial) (fun b hb => hb.elim)) (fun z w hI => hI.weak (i := 1) (r' := rNone) rfl (fun _ => trivial) (fun b hb => hb.elim))
  refine SC.region_turn (ζ := Nat → Prop) 25 12 (fun Gw6 => [rG g d0 d1 wd e0 e1 vd (nx t0) t1 f0 f1 41, rWp wd d0 d1 Gw6 ((S.setA false (setTxF S.A0 t0 f).2).setA false (writeF (S.setA false (setTxF S.A0 t0 f).2).A0 5 (nx t0)).2), rWq vd e0 e1 Gw3 (S.setA false (setTxF S.A0 t0 f).2)]) (fun Gw6 => ∀ b, Gw6 b → RgZ g G1 G2 b ∨ w.heap.size ≤ b) (by kernel_rfl) (by kernel_rfl) rfl ?_
  refine SS.uu hcb8 (ru_move rfl rfl) ?_
  refine SS.uu hcb8 (ru_move rfl rfl) ?_
  refine SS.uu hcb8 (ru_nilCheck rfl rfl) ?_
  refine SS.uu hcb8 (ru_fieldAddr (o2 := 0) fd41_0 rfl rfl rfl) ?_
  refine SS.uu hcb8 (ru_indexA (o2 := 0) ar34 rfl rfl rfl (by decide) (by decide) rfl) ?_
  refine SS.uu hcb8 (ru_load (i := 0) ts33 rfl rfl rfl rfl) ?_
  refine SS.uu hcb8 (ru_move rfl rfl) ?_
  refine SS.uu hcb8 (ru_move rfl rfl) ?_
  refine SS.uu hcb8 (ru_nilCheck rfl rfl) ?_
  refine SS.uu hcb8 (ru_fieldAddr (o2 := 6) fd41_4 rfl rfl rfl) ?_
  refine SS.uu hcb8 (ru_indexA (o2 := 6) ar39 rfl rfl rfl (by decide) (by decide) rfl) ?_
  refine SS.uu hcb8 (ru_load (i := 0) ts3 rfl rfl rfl rfl) ?_
  refine SS.turnc (iw ((writeF (S.setA false (setTxF S.A0 t0 f).2).A0 5 (nx t0)).1)) rfl rfl co11 rfl rfl rfl (lt_b rfl) (fun w5 hI => (rw_write0 (hI.1.get (i := 1) rfl) hB2.d0.ok 5 (nx t0)).mono fun e w2 ⟨h1, kz⟩ => by obtain ⟨G9, k1, k2⟩ := hI.rto (i := 1) rfl hGw1 kz; exact ⟨G9, h1, k1, k2⟩) ?_
  refine SS.uu hcb8 (ru_move rfl rfl) ?_
  refine SS.uu hcb8 (ru_move rfl rfl) ?_
  refine SS.uu hcb8 (ru_nilCheck rfl rfl) ?_
  refine SS.uu hcb8 (ru_fieldAddr (o2 := 3) fd41_2 rfl rfl rfl) ?_
  refine SS.uu hcb8 (ru_indexA (o2 := 3) ar37 rfl rfl rfl (by decide) (by decide) rfl) ?_
  refine SS.uu hcb8 (ru_load (i := 0) ts36 rfl rfl rfl rfl) ?_
  refine SS.uu hcb8 (ru_move rfl rfl) ?_
  refine SS.uu hcb8 (ru_move rfl rfl) ?_
  refine SS.uu hcb8 (ru_nilCheck rfl rfl) ?_
  refine SS.uu hcb8 (ru_fieldAddr (o2 := 6) fd41_4 rfl rfl rfl) ?_
  refine SS.uu hcb8 (ru_indexA (o2 := 6) ar39 rfl rfl rfl (by decide) (by decide) rfl) ?_
  refine SS.uu hcb8 (ru_load (i := 0) ts3 rfl rfl rfl rfl) ?_
  refine SS.nilU ?_
  intro Gw6 hGw6
  have hB10 := hB4.setA false ((hB4.d0).write hB4.now.1 5 (nx t0))
  refine SL.call (ζ := Nat → Prop) (fun Gw9 => iw ((writeF (S.setA false (setTxF S.A0 t0 f).2).A0 5 (nx t0)).1)) (fun Gw9 => [rG g d0 d1 wd e0 e1 vd (nx t0) t1 f0 f1 41, rWp wd d0 d1 Gw6 ((S.setA false (setTxF S.A0 t0 f).2).setA false (writeF (S.setA false (setTxF S.A0 t0 f).2).A0 5 (nx t0)).2), rWq vd e0 e1 Gw9 ((S.setA false (setTxF S.A0 t0 f).2).setA false (writeF (S.setA false (setTxF S.A0 t0 f).2).A0 5 (nx t0)).2)]) (fun Gw9 => ∀ b, Gw9 b → RgZ g G1 G2 b ∨ w.heap.size ≤ b) rfl rfl co28 rfl rfl rfl (lt_b rfl) (fun w5 hI => (rv_write0 (hI.1.get (i := 2) rfl) hB4.d0.ok 5 (nx t0)).mono fun e w2 ⟨h1, kz⟩ => by obtain ⟨G9, k1, k2⟩ := hI.rto (i := 2) rfl hGw3 kz; exact ⟨G9, h1, k1, k2⟩) ?_
  intro Gw9 hGw9
  refine SL.uu (ru_eq (b := true) rfl rfl rfl (by simp)) ?_
  refine SL.as ?_
  refine SL.nr [rG g d0 d1 wd e0 e1 vd (nx t0) t1 f0 f1 41, rWp wd d0 d1 Gw6 ((S.setA false (setTxF S.A0 t0 f).2).setA false (writeF (S.setA false (setTxF S.A0 t0 f).2).A0 5 (nx t0)).2), rWq vd e0 e1 Gw9 ((S.setA false (setTxF S.A0 t0 f).2).setA false (writeF (S.setA false (setTxF S.A0 t0 f).2).A0 5 (nx t0)).2)] ?_
  refine SC.ret ?_
  refine SE.res (.inl rfl) (res1 Try.results25 rfl) fun w1 hI => ⟨rfl, ?_⟩
  have ew : postF S false t0 f = (S.setA false (writeF (setTxF S.A0 t0 f).2 5 (nx t0)).2, nx t0) := by unfold postF; exact if_neg (not_t h5)
  rw [ew]
  exact RgTo.of (l := []) hI hGw6 hGw9
end Go.Proofs.Ytcilikkljkdceaa

/-
  Is a frame there.
-/
namespace Go.Proofs.Ytcilikkljkdceaa
open Go.RowKit
set_option maxRecDepth 100000
set_option maxHeartbeats 4000000
end Go.Proofs.Ytcilikkljkdceaa

/-
  A row of frames without one.
-/
namespace Go.Proofs.Ytcilikkljkdceaa
open Go.RowKit
set_option maxRecDepth 100000
set_option maxHeartbeats 4000000
end Go.Proofs.Ytcilikkljkdceaa

/-
  The light machine: append of several structs to a row of one's own. No program is named here.
-/
namespace Go.Proofs.Ytcilikkljkdceaa
open Go.RowKit
def RowsAt (w : World) (x : Value) (rs : List (List Value)) (size : Nat) : Prop :=
  (∃ a c, x = .slice a 0 c ∧ rs = []) ∨ ∃ (b o cap : Nat), x = .slice (some ⟨b, o, none⟩) rs.length cap ∧ (∀ r ∈ rs, r.length = size) ∧ ∀ j u, rs.flatten[j]? = some u → w.cell? ⟨b, o + j, none⟩ = some u
section
variable {P : Program} {X : Cx} {ops : Array Oper} {Q : Exit → Act → World → Prop} {rest : List Oper} {o : Oper} {m : List (Nat × Value)} {l : List Res} {v : Value} {d k : Nat} {x y : Operand} {t t' : TypeId}
theorem SE.reo {ex : Exit} (js : List Nat) (l' : List Res) (hn : js.Nodup) (he : js.filterMap (l[·]?) = l') (h : SE X Q ex m l') : SE X Q ex m l := fun a w hf hI => h a w hf (he ▸ hI.reo js hn)
end
section
variable {P : Program} {X : Cx} {ops : Array Oper} {Q : Exit → Act → World → Prop} {rest : List Oper} {o : Oper} {m : List (Nat × Value)} {l : List Res} {x y : Operand} {t : TypeId}
end
def Mk.rowN (X : Cx) (n : Nat) (rs : List (List Value)) (e size : Nat) : Mk := ⟨fun u => ∃ q c, (∀ b, (Value.slice q n c).ownBlock = some b → X.w0.heap.size ≤ b) ∧ u = .slice q n c, fun u _ => [rRowN u rs e size], ⟨_, none, 0, fun b hb => by simp [Value.ownBlock] at hb, rfl⟩, [], fun _ _ _ _ => rfl⟩
end Go.Proofs.Ytcilikkljkdceaa

/-
  The document's Pull.
-/
namespace Go.Proofs.Ytcilikkljkdceaa
open Go.RowKit
set_option maxRecDepth 100000
set_option maxHeartbeats 4000000
end Go.Proofs.Ytcilikkljkdceaa

/-
  The document's Tick: plain facts.
-/
namespace Go.Proofs.Ytcilikkljkdceaa
open Go.RowKit
structure TB (S : Wi) : Prop where
  a0 : NicOk S.A0
  a1 : NicOk S.A1
  l0 : S.L0.length ≤ 3000000000000
  l1 : S.L1.length ≤ 3000000000000
  now : 0 ≤ S.now ∧ S.now ≤ 3000000000000
  p0 : ∀ i, 0 ≤ S.A0.tp i ∧ S.A0.tp i ≤ S.now
  p1 : ∀ i, 0 ≤ S.A1.tp i ∧ S.A1.tp i ≤ S.now
  t0 : ∀ x ∈ S.L0, 0 ≤ x.tick ∧ x.tick ≤ S.now
  t1 : ∀ x ∈ S.L1, 0 ≤ x.tick ∧ x.tick ≤ S.now
structure TqP (w : World) (wd d0 d1 : Nat) (M : WM) (S : Wi) (n : Nat) (g : WM × Wi) : Prop where
  le : n ≤ 2
  ok : g.1.Ok g.2
  st : g.2 = tkS S n
  tb : TB g.2
  fs : ∀ v f, M.fs v f → g.1.fs v f
  K : ∀ b, g.1.K b → (b = wd ∨ b = d0 ∨ b = d1 ∨ M.K b) ∨ w.heap.size ≤ b
section
variable {w : World} {wd d0 d1 : Nat} {M M1 M2 : WM} {S S1 S2 : Wi}
end
section
variable {P : Program} {X : Cx} {ops : Array Oper} {Q : Exit → Act → World → Prop} {rest : List Oper} {m : List (Nat × Value)} {l : List Res}
end
end Go.Proofs.Ytcilikkljkdceaa

/-
  The document's Tick.
-/
namespace Go.Proofs.Ytcilikkljkdceaa
open Go.RowKit
set_option maxRecDepth 100000
set_option maxHeartbeats 4000000
end Go.Proofs.Ytcilikkljkdceaa

/-
  The document's Damage.
-/
namespace Go.Proofs.Ytcilikkljkdceaa
open Go.RowKit
set_option maxRecDepth 100000
set_option maxHeartbeats 4000000
end Go.Proofs.Ytcilikkljkdceaa

/-
  The document's Move.
-/
namespace Go.Proofs.Ytcilikkljkdceaa
open Go.RowKit
set_option maxRecDepth 100000
set_option maxHeartbeats 4000000
end Go.Proofs.Ytcilikkljkdceaa

/-
  The document's Deliver.
-/
namespace Go.Proofs.Ytcilikkljkdceaa
open Go.RowKit
set_option maxRecDepth 100000
set_option maxHeartbeats 4000000
end Go.Proofs.Ytcilikkljkdceaa

/-
  The document's Drop.
-/
namespace Go.Proofs.Ytcilikkljkdceaa
open Go.RowKit
set_option maxRecDepth 100000
set_option maxHeartbeats 4000000
end Go.Proofs.Ytcilikkljkdceaa

/-
  The document's Double.
-/
namespace Go.Proofs.Ytcilikkljkdceaa
open Go.RowKit
set_option maxRecDepth 100000
set_option maxHeartbeats 4000000
end Go.Proofs.Ytcilikkljkdceaa

/-
  The document's wire, as one thing.
-/
namespace Go.Proofs.Ytcilikkljkdceaa
open Go.RowKit
set_option maxRecDepth 100000
set_option maxHeartbeats 4000000
end Go.Proofs.Ytcilikkljkdceaa

/-
  What the law's calls keep of two wires that say the same: plain.
-/
namespace Go.Proofs.Ytcilikkljkdceaa
open Go.RowKit
def onA' (A : NicA) : Prop := A.r 0 = 1 ∧ A.r 1 = 1
def onW (S : Wi) : Prop := onA' S.A0 ∧ onA' S.A1
structure Rn (n : Nat) (S : Wi) (t0 t1 f0 f1 : Int) : Prop where
  wb : Wb n S
  t0 : 0 ≤ t0 ∧ t0 < 16
  t1 : 0 ≤ t1 ∧ t1 < 16
  f0 : 0 ≤ f0 ∧ f0 < 16
  f1 : 0 ≤ f1 ∧ f1 < 16
def DoTo (w : World) (g wd d0 d1 vd e0 e1 : Nat) (G1 G2 : Nat → Prop) (n : Nat) (S : Wi) (kind : Int) (w' : World) : Prop :=
  ∃ S' t0' t1' f0' f1', RgTo w g wd d0 d1 vd e0 e1 G1 G2 ⟨S', S', t0', t1', f0', f1'⟩ w' ∧ Rn (n + 1) S' t0' t1' f0' f1' ∧ (kind ≠ 9 → kind ≠ 10 → onW S → onW S')
theorem on_set {S : Wi} {A : NicA} (b : Bool) (h : onW S) (hA : onA' (S.A b) → onA' A) : onW (S.setA b A) := by
  cases b
  · exact ⟨hA h.1, h.2⟩
  · exact ⟨h.1, hA h.2⟩
theorem on_setL {S : Wi} {l : List Fm} (b : Bool) (h : onW S) : onW (S.setL b l) := by cases b <;> exact h
theorem on_write {A : NicA} {reg v : Int} (hr : reg = 3 ∨ reg = 5) (h : onA' A) : onA' (writeF A reg v).2 := by
  unfold writeF
  rw [if_neg (by omega), if_neg (by omega)]
  split
  · exact h
  · rcases hr with rfl | rfl
    · rw [if_neg (by decide), if_pos rfl]; exact ⟨by simpa [up] using h.1, by simpa [up] using h.2⟩
    · rw [if_pos rfl]; exact ⟨by simpa [up] using h.1, by simpa [up] using h.2⟩
theorem on_tx {A : NicA} {i : Int} {f : List UInt8} (h : onA' A) : onA' (setTxF A i f).2 := by unfold onA'; rw [(setTx_same A i f).2.2]; exact h
theorem on_rx {A : NicA} {i r : Int} (h : onA' A) : onA' (setRxF A i r).2 := by unfold onA'; rw [(setRx_same A i r).2.2.1]; exact h
theorem on_take {A : NicA} (h : onA' A) : onA' (takeR A).2 := ⟨(takeR_same A).2.2.2.1.trans h.1, (takeR_same A).2.2.2.2.1.trans h.2⟩
theorem on_give {A : NicA} {f : List UInt8} {b : Bool} (h : onA' A) : onA' (giveF A f b).2 := ⟨(give_same A f b).2.2.2.1.trans h.1, (give_same A f b).2.2.2.2.1.trans h.2⟩
theorem on_drain {now : Int} : ∀ (m : Nat) {A : NicA}, onA' A → onA' (drainF now m A)
  | 0, _, h => h
  | m + 1, A, h => by
    unfold drainF
    split
    · split
      · exact on_take h
      · exact on_drain m (on_take h)
    · exact h
theorem on_tick {S : Wi} (h : onW S) : onW (tickW S) :=
  ⟨show onA' (drainF (inc S.now) 16 (tickF S.A0)) from on_drain 16 h.1, show onA' (drainF (inc S.now) 16 (tickF S.A1)) from on_drain 16 h.2⟩
theorem on_dir {S : Wi} {f : Bool → Int × Wi} (h : onW S) (hf : ∀ b, onW (f b).2) (dir : Int) : onW (dirF dir f (1, S)).2 := by
  unfold dirF
  split
  · exact hf _
  · split
    · exact hf _
    · exact h
theorem on_at {S : Wi} (h : onW S) (b : Bool) : onA' (S.A b) := by cases b; exact h.1; exact h.2
theorem on_pull {S : Wi} (h : onW S) (dir : Int) : onW (pullD S dir).2 := on_dir h (fun b => by
  unfold pullF
  simp only
  split
  · exact on_setL b (on_set b h on_take)
  · exact on_set b h on_take) dir
theorem on_drop {S : Wi} (h : onW S) (dir k : Int) : onW (dropD S dir k).2 := on_dir h (fun b => by unfold dropF; split; exact on_setL b h; exact h) dir
theorem on_double {S : Wi} (h : onW S) (dir k : Int) : onW (doubleD S dir k).2 := on_dir h (fun b => by unfold doubleF; split; exact on_setL b h; exact h) dir
theorem on_move {S : Wi} (h : onW S) (dir k to : Int) : onW (moveD S dir k to).2 := on_dir h (fun b => by
  unfold moveF
  split
  · exact h
  · split
    · exact h
    · exact on_setL b h) dir
theorem on_damage {S : Wi} (h : onW S) (dir k bit : Int) : onW (damageD S dir k bit).2 := on_dir h (fun b => by
  unfold damageF
  split
  · exact h
  · split
    · exact h
    · exact on_setL b h) dir
theorem on_deliver {S : Wi} (h : onW S) (dir k : Int) : onW (deliverD S dir k).2 := on_dir h (fun b => by
  unfold deliverF
  split
  · exact h
  · exact on_set (!b) (on_setL b h) (fun _ => on_give (on_at h _))) dir
def roomF' (S : Wi) (b : Bool) (t r : Int) : Wi × Int :=
  if ((setRxF (S.A b) t r).1 != 0) = true then (S.setA b (setRxF (S.A b) t r).2, t) else (S.setA b (writeF (setRxF (S.A b) t r).2 3 (nx t)).2, nx t)
end Go.Proofs.Ytcilikkljkdceaa

/-
  What eight ticks leave of a wire between two devices that are on: plain.
-/
namespace Go.Proofs.Ytcilikkljkdceaa
open Go.RowKit
theorem on_off {A : NicA} (h : onA' A) : offB A = false := by unfold offB; rw [h.1, h.2]; rfl
structure AgB (nw : Int) (n k : Nat) (T : Wi) : Prop where
  wb : Wb (n + k) T
  now : T.now = nw + k
  on : onW T
  p0 : ∀ j, T.A0.tp j ≤ nw
  p1 : ∀ j, T.A1.tp j ≤ nw
  l0 : ∀ x ∈ T.L0, x.tick ≤ nw
  l1 : ∀ x ∈ T.L1, x.tick ≤ nw
structure Gone (T : Wi) : Prop where
  l0 : T.L0 = []
  l1 : T.L1 = []
  a0 : T.A0.r 4 = T.A0.r 5
  a1 : T.A1.r 4 = T.A1.r 5
  on : onW T
end Go.Proofs.Ytcilikkljkdceaa

/-
  Moving a frame, and damaging one twice: plain; bytes that no longer change, beside anything.
-/
namespace Go.Proofs.Ytcilikkljkdceaa
open Go.RowKit
section
variable {S T : Wi} {k to bit : Int} {x : Fm}
theorem there_is (l : List Fm) (k : Int) : thereF l k = if 0 ≤ k ∧ k < l.length then 0 else 7 := by
  unfold thereF
  by_cases h : 0 ≤ k ∧ k < l.length
  · rw [if_pos h, if_neg (by simp; omega)]
  · rw [if_neg h, if_pos (by simp; omega)]
end
section
variable {X : Cx} {P : Program} {Q : Exit → Act → World → Prop} {ex : Exit} {m : List (Nat × Value)} {w : World} {l : List Res} {F : Nat → Prop} {fs : Value → List UInt8 → Prop} {v : Value} {f : List UInt8} {U : TypeId}
theorem Inv.frz (h : Inv X w (l ++ [rZ F fs, rMine v f U])) (hf : f.length ≤ 1000000) : Inv X w (l ++ [rZ (fun b => F b ∨ v.ownBlock = some b) (fun v' f' => fs v' f' ∨ v' = v ∧ f' = f)]) := by
  have hp := List.pairwise_append.1 h.1.2
  have hm : OwnBytes w 0 U v f := h.1.1 (rMine v f U) (by simp)
  have hz : (rZ F fs).ok w := h.1.1 (rZ F fs) (by simp)
  refine ⟨⟨fun s hs => ?_, List.pairwise_append.2 ⟨hp.1, List.pairwise_singleton _ _, fun a ha b hb => ?_⟩⟩, h.2⟩
  · rcases List.mem_append.1 hs with hs | hs
    · exact h.1.1 s (List.mem_append_left _ hs)
    · obtain rfl := List.mem_singleton.1 hs
      refine ⟨fun b hb => hb.elim (hz.1 b) (fun e => (World.ownsRow.lt hm b e).2), fun v' f' hv => ?_⟩
      rcases hv with hv | ⟨rfl, rfl⟩
      · exact ⟨(hz.2 v' f' hv).1, fun b o n c e hn => .inl ((hz.2 v' f' hv).2 b o n c e hn)⟩
      · exact ⟨OwnBytes.bytes hm (by omega), fun b o n c e hn => .inr (by rw [e]; rfl)⟩
  · obtain rfl := List.mem_singleton.1 hb
    intro c hc hcb
    rcases hcb with hcb | hcb
    · exact hp.2.2 a ha (rZ F fs) (by simp) c hc hcb
    · exact hp.2.2 a ha (rMine v f U) (by simp) c hc hcb
theorem SE.imp {l' : List Res} (hi : ∀ w, Inv X w l → Inv X w l') (h : SE X Q ex m l') : SE X Q ex m l := fun a w hf hI => h a w hf (hi w hI)
end
end Go.Proofs.Ytcilikkljkdceaa

/-
  Which frames of a wire may come yet: plain.
-/
namespace Go.Proofs.Ytcilikkljkdceaa
open Go.RowKit
def pend (A : NicA) : List Fm := (List.range ((A.r 5 - A.r 4) % 16).toNat).map fun (i : Nat) => ⟨A.tb ((A.r 4 + i) % 16).toNat, false, A.tp ((A.r 4 + i) % 16).toNat⟩
def numF (f : List UInt8) : Nat := 256 * (f.getD 0 0).toNat + (f.getD 1 0).toNat
def isN (j : Nat) (x : Fm) : Bool := !x.bad && (numF x.f == j)
def cN (j : Nat) (l : List Fm) : Nat := l.countP (isN j)
def Wi.T (S : Wi) (b : Bool) : List Fm := S.L b ++ pend (S.A b)
def Sub (T T' : List Fm) : Prop := (∀ x ∈ T', x.bad = false → x ∈ T) ∧ ∀ j, cN j T' ≤ cN j T
theorem Sub.refl (T : List Fm) : Sub T T := ⟨fun _ h _ => h, fun _ => Nat.le_refl _⟩
theorem Sub.sl {T T' : List Fm} (h : T'.Sublist T) : Sub T T' := ⟨fun _ hx _ => h.subset hx, fun _ => h.countP_le⟩
theorem Sub.app {T T' U U' : List Fm} (h : Sub T T') (k : Sub U U') : Sub (T ++ U) (T' ++ U') := by
  refine ⟨fun x hx hb => ?_, fun j => ?_⟩
  · rcases List.mem_append.1 hx with hx | hx
    · exact List.mem_append_left _ (h.1 x hx hb)
    · exact List.mem_append_right _ (k.1 x hx hb)
  · have h1 := h.2 j
    have h2 := k.2 j
    unfold cN at h1 h2 ⊢
    rw [List.countP_append, List.countP_append]
    omega
theorem Sub.perm {T T' : List Fm} (h : T'.Perm T) : Sub T T' := ⟨fun _ hx _ => h.mem_iff.1 hx, fun _ => Nat.le_of_eq (h.countP_eq _)⟩
theorem pend_same {A A' : NicA} (h4 : A'.r 4 = A.r 4) (h5 : A'.r 5 = A.r 5) (hb : A'.tb = A.tb) (hp : A'.tp = A.tp) : pend A' = pend A := by unfold pend; rw [h4, h5, hb, hp]
theorem pend_nil {A : NicA} (h : A.r 4 = A.r 5) : pend A = [] := by unfold pend; rw [h, show (A.r 5 - A.r 5) % 16 = 0 by omega]; rfl
theorem pend_take {A : NicA} (hk : NicOk A) (hne : A.r 4 ≠ A.r 5) : pend A = ⟨A.tb (A.r 4).toNat, false, A.tp (A.r 4).toNat⟩ :: pend (takeF A) := by
  have h4 := hk.h4
  have h5 := hk.h5
  have e4 : (takeF A).r 4 = nx (A.r 4) := by simp [takeF, up]
  have e5 : (takeF A).r 5 = A.r 5 := by simp [takeF, up]
  unfold pend
  rw [e4, e5]
  obtain ⟨m, hm⟩ : ∃ m, ((A.r 5 - A.r 4) % 16).toNat = m + 1 := ⟨((A.r 5 - A.r 4) % 16).toNat - 1, by omega⟩
  have hm2 : ((A.r 5 - nx (A.r 4)) % 16).toNat = m := by unfold nx; omega
  rw [hm, hm2, List.range_succ_eq_map, List.map_cons, List.map_map]
  refine List.cons_eq_cons.2 ⟨?_, List.map_congr_left fun i _ => ?_⟩
  · rw [show ((A.r 4 + ((0 : Nat) : Int)) % 16).toNat = (A.r 4).toNat by omega]
  · show (⟨A.tb ((A.r 4 + ((i + 1 : Nat) : Int)) % 16).toNat, false, A.tp ((A.r 4 + ((i + 1 : Nat) : Int)) % 16).toNat⟩ : Fm) = ⟨A.tb ((nx (A.r 4) + (i : Int)) % 16).toNat, false, A.tp ((nx (A.r 4) + (i : Int)) % 16).toNat⟩
    rw [show (A.r 4 + ((i + 1 : Nat) : Int)) % 16 = (nx (A.r 4) + (i : Int)) % 16 by unfold nx; omega]
theorem take_r (A : NicA) : (takeR A).2.r 2 = A.r 2 ∧ (takeR A).2.r 3 = A.r 3 := by
  unfold takeR
  split
  · exact ⟨rfl, rfl⟩
  · split
    · exact ⟨rfl, rfl⟩
    · exact ⟨by simp [takeF, up], by simp [takeF, up]⟩
theorem take_sub {A : NicA} (hk : NicOk A) : (pend (takeR A).2).Sublist (pend A) := by
  unfold takeR
  split
  · exact List.Sublist.refl _
  · split
    · exact List.Sublist.refl _
    · rename_i h
      rw [pend_take hk h]
      exact List.sublist_cons_self _ _
theorem drain_sub {now : Int} : ∀ (m : Nat) {A : NicA}, NicOk A → (pend (drainF now m A)).Sublist (pend A)
  | 0, _, _ => List.Sublist.refl _
  | m + 1, A, hk => by
    unfold drainF
    split
    · split
      · exact take_sub hk
      · exact (drain_sub m (takeR_okw hk)).trans (take_sub hk)
    · exact List.Sublist.refl _
theorem drain_r {now : Int} : ∀ (m : Nat) (A : NicA), (drainF now m A).r 2 = A.r 2 ∧ (drainF now m A).r 3 = A.r 3 ∧ (drainF now m A).r 5 = A.r 5
  | 0, _ => ⟨rfl, rfl, rfl⟩
  | m + 1, A => by
    have ht := take_r A
    have h5 := (takeR_same A).2.2.2.2.2
    unfold drainF
    split
    · split
      · exact ⟨ht.1, ht.2, h5⟩
      · have := drain_r (now := now) m (takeR A).2
        exact ⟨this.1.trans ht.1, this.2.1.trans ht.2, this.2.2.trans h5⟩
    · exact ⟨rfl, rfl, rfl⟩
structure Shr (S S' : Wi) : Prop where
  sub : ∀ b, Sub (S.T b) (S'.T b)
  yg : (∀ b, ∀ x ∈ S.L b, S.now - x.tick < 8) → ∀ b, ∀ x ∈ S'.L b, S'.now - x.tick < 8
  r : ∀ b, (S'.A b).r 2 = (S.A b).r 2 ∧ (S'.A b).r 3 = (S.A b).r 3 ∧ (S'.A b).r 5 = (S.A b).r 5
theorem Shr.refl (S : Wi) : Shr S S := ⟨fun _ => Sub.refl _, fun h => h, fun _ => ⟨rfl, rfl, rfl⟩⟩
section
variable {n : Nat} {S S' : Wi} {b : Bool} {A : NicA} {l : List Fm} {k to bit : Int}
theorem sA_self (S : Wi) (b : Bool) (A : NicA) : (S.setA b A).A b = A := by cases b <;> rfl
theorem sA_oth (S : Wi) (b : Bool) (A : NicA) : (S.setA b A).A (!b) = S.A (!b) := by cases b <;> rfl
theorem sA_L (S : Wi) (b c : Bool) (A : NicA) : (S.setA b A).L c = S.L c := by cases b <;> cases c <;> rfl
theorem sA_now (S : Wi) (b : Bool) (A : NicA) : (S.setA b A).now = S.now := by cases b <;> rfl
theorem sL_self (S : Wi) (b : Bool) (l : List Fm) : (S.setL b l).L b = l := by cases b <;> rfl
theorem sL_oth (S : Wi) (b : Bool) (l : List Fm) : (S.setL b l).L (!b) = S.L (!b) := by cases b <;> rfl
theorem sL_A (S : Wi) (b c : Bool) (l : List Fm) : (S.setL b l).A c = S.A c := by cases b <;> cases c <;> rfl
theorem sL_now (S : Wi) (b : Bool) (l : List Fm) : (S.setL b l).now = S.now := by cases b <;> rfl
theorem both {p : Bool → Prop} (b : Bool) (h1 : p b) (h2 : p (!b)) (c : Bool) : p c := by
  cases b <;> cases c <;> first | exact h1 | exact h2
theorem Shr.list (hs : Sub (S.L b) l) (hy : (∀ x ∈ S.L b, S.now - x.tick < 8) → ∀ x ∈ l, S.now - x.tick < 8) : Shr S (S.setL b l) := by
  refine ⟨both b ?_ ?_, fun h => both b ?_ ?_, fun c => ?_⟩
  · unfold Wi.T; rw [sL_self, sL_A]; exact hs.app (Sub.refl _)
  · unfold Wi.T; rw [sL_oth, sL_A]; exact Sub.refl _
  · rw [sL_self, sL_now]; exact hy (h b)
  · rw [sL_oth, sL_now]; exact h _
  · rw [sL_A]; exact ⟨rfl, rfl, rfl⟩
theorem out_sl (l : List Fm) (k : Int) : (outF l k).Sublist l := by
  have e : l.take k.toNat ++ l.drop k.toNat = l := List.take_append_drop _ _
  have h : (l.drop (k.toNat + 1)).Sublist (l.drop k.toNat) := by rw [← List.drop_drop]; exact List.drop_sublist _ _
  unfold outF
  exact (List.Sublist.append_left h _).trans (by rw [e]; exact List.Sublist.refl _)
theorem cut_at {l : List Fm} {i : Nat} {x : Fm} (h : l[i]? = some x) : l = l.take i ++ x :: l.drop (i + 1) := by
  obtain ⟨hi, rfl⟩ := List.getElem?_eq_some_iff.1 h
  rw [← List.drop_eq_getElem_cons hi, List.take_append_drop]
theorem shr_drop (S : Wi) (b : Bool) (k : Int) : Shr S (dropF S b k).2 := by
  unfold dropF
  split
  · exact Shr.list (Sub.sl (out_sl _ _)) fun h x hx => h x (mem_out hx)
  · exact Shr.refl S
theorem shr_move (S : Wi) (b : Bool) (k to : Int) : Shr S (moveF S b k to).2 := by
  unfold moveF
  split
  · exact Shr.refl S
  · split
    · exact Shr.refl S
    · rename_i e1 e2
      obtain ⟨h0, h1, x, hx⟩ := there_get (Classical.byContradiction fun hc => e1 (by simpa using hc))
      have eg : (S.L b).getD k.toNat fm0 = x := by rw [List.getD_eq_getElem?_getD, hx]; rfl
      rw [eg]
      have hp : (insF (outF (S.L b) k) to x).Perm (S.L b) := by
        have h2 : (insF (outF (S.L b) k) to x).Perm (x :: outF (S.L b) k) := by
          unfold insF
          refine List.perm_middle.trans ?_
          rw [List.take_append_drop]
        refine h2.trans ?_
        have e := cut_at hx
        rw [show outF (S.L b) k = (S.L b).take k.toNat ++ (S.L b).drop (k.toNat + 1) from rfl]
        exact (List.perm_middle.symm).trans (by rw [← e])
      exact Shr.list (Sub.perm hp) fun h y hy => h y (hp.mem_iff.1 hy)
theorem shr_damage (S : Wi) (b : Bool) (k bit : Int) : Shr S (damageF S b k bit).2 := by
  unfold damageF
  split
  · exact Shr.refl S
  · split
    · exact Shr.refl S
    · rename_i e1 e2
      obtain ⟨h0, h1, x, hx⟩ := there_get (Classical.byContradiction fun hc => e1 (by simpa using hc))
      have eg : (S.L b).getD k.toNat fm0 = x := by rw [List.getD_eq_getElem?_getD, hx]; rfl
      rw [eg]
      refine Shr.list ⟨fun y hy hb => ?_, fun j => ?_⟩ fun h y hy => ?_
      · rcases List.mem_or_eq_of_mem_set hy with hy | rfl
        · exact hy
        · cases hb
      · have e := cut_at hx
        have hk : k.toNat < (S.L b).length := (List.getElem?_eq_some_iff.1 hx).1
        unfold cN
        conv => rhs; rw [e]
        rw [List.set_eq_take_append_cons_drop, if_pos hk, List.countP_append, List.countP_append, List.countP_cons, List.countP_cons]
        simp [isN]
      · rcases List.mem_or_eq_of_mem_set hy with hy | rfl
        · exact h y hy
        · exact h x (List.mem_of_getElem? hx)
theorem young {now tick : Int} (h0 : 0 ≤ tick ∧ tick ≤ now) (hn : now < 4000000000000000000) (h : oldB now tick = false) : now - tick < 8 := by
  have h := of_decide_eq_false h
  rw [IntKind.wrap_i64] at h
  omega
theorem shr_pull (hw : Wb n S) (hn : n < 3000000000000) (b : Bool) : Shr S (pullF S b).2 := by
  have hk := (hw.d b).ok
  have hnow := hw.now
  unfold pullF
  simp only
  have hr : ∀ c, ((S.setA b (takeR (S.A b)).2).A c).r 2 = (S.A c).r 2 ∧ ((S.setA b (takeR (S.A b)).2).A c).r 3 = (S.A c).r 3 ∧ ((S.setA b (takeR (S.A b)).2).A c).r 5 = (S.A c).r 5 := both b (by rw [sA_self]; exact ⟨(take_r _).1, (take_r _).2, (takeR_same _).2.2.2.2.2⟩) (by rw [sA_oth]; exact ⟨rfl, rfl, rfl⟩)
  split
  · rename_i h
    simp only [Bool.and_eq_true, beq_iff_eq, Bool.not_eq_true'] at h
    obtain ⟨h1, h2⟩ := h
    have e : pend (S.A b) = ⟨(takeR (S.A b)).1.1.1, false, (takeR (S.A b)).1.1.2⟩ :: pend (takeR (S.A b)).2 := by
      unfold takeR at h1 ⊢
      split
      · rename_i ho; rw [if_pos ho] at h1; cases h1
      · rename_i ho
        split
        · rename_i h4; rw [if_neg ho, if_pos h4] at h1; cases h1
        · rename_i h4; exact pend_take hk h4
    refine ⟨both b ?_ ?_, fun h => both b ?_ ?_, fun c => by rw [sL_A]; exact hr c⟩
    · unfold Wi.T
      rw [sL_self, sL_A, sA_self, e, List.append_assoc]
      exact Sub.refl _
    · unfold Wi.T
      rw [sL_oth, sL_A, sA_oth, sA_L]; exact Sub.refl _
    · rw [sL_self, sL_now, sA_now]
      intro x hx
      rcases List.mem_append.1 hx with hx | hx
      · exact h b x hx
      · obtain rfl := List.mem_singleton.1 hx
        exact young (takeR_fr (hw.d b) hnow.1).2 (by omega) h2
    · rw [sL_oth, sL_now, sA_now, sA_L]; exact h _
  · refine ⟨both b ?_ ?_, fun h => both b ?_ ?_, hr⟩
    · unfold Wi.T; rw [sA_self, sA_L]; exact (Sub.refl _).app (Sub.sl (take_sub hk))
    · unfold Wi.T; rw [sA_oth, sA_L]; exact Sub.refl _
    · rw [sA_L, sA_now]; exact h b
    · rw [sA_L, sA_now]; exact h _
theorem shr_tick (hw : Wb n S) (hn : n < 3000000000000) : Shr S (tickW S) := by
  have e := (hw.tick (by omega)).2
  have hnow := hw.now
  have hb : ∀ b, (tickW S).L b = ageF (inc S.now) (S.L b) ∧ (tickW S).A b = drainF (inc S.now) 16 (tickF (S.A b)) := fun b => by cases b <;> exact ⟨rfl, rfl⟩
  refine ⟨fun b => ?_, fun _ b x hx => ?_, fun b => ?_⟩
  · unfold Wi.T
    rw [(hb b).1, (hb b).2]
    have hk : NicOk (tickF (S.A b)) := tick_ok (hw.d b).ok
    exact (Sub.sl (List.filter_sublist)).app (Sub.sl ((drain_sub 16 hk).trans (by rw [pend_same (A := S.A b) (A' := tickF (S.A b)) rfl rfl rfl rfl]; exact List.Sublist.refl _)))
  · rw [(hb b).1] at hx
    obtain ⟨h1, h2⟩ := List.mem_filter.1 hx
    have h3 := (hw.l b).2 x h1
    have ei : (tickW S).now = inc S.now := rfl
    rw [← ei] at h2
    exact young ⟨h3.2.1, by omega⟩ (by omega) (by simpa using h2)
  · rw [(hb b).2]
    exact drain_r 16 _
theorem Shr.dir {f : Bool → Int × Wi} (h : ∀ b, Shr S (f b).2) (dir : Int) : Shr S (dirF dir f (1, S)).2 := by
  unfold dirF
  split
  · exact h _
  · split
    · exact h _
    · exact Shr.refl S
end
end Go.Proofs.Ytcilikkljkdceaa

/-
  Beside the law's rig: what is apart from it; bytes.
-/
namespace Go.Proofs.Ytcilikkljkdceaa
open Go.RowKit
theorem fz_bytesw {w : World} {g : Nat} {l : List UInt8} {T : TypeId} (h : Fz w g (l.map bv) T) (hl : l.length ≤ 1000) : BytesAt w (sl g 0 l.length l.length) l := by
  refine .inr ⟨g, 0, l.length, rfl, Nat.le_refl _, by omega, fun j hj => ?_⟩
  rw [h.cell, Nat.zero_add, List.getElem?_map, List.getElem?_eq_getElem hj]; rfl
section
variable {X : Cx} {w w' : World} {g wd d0 d1 vd e0 e1 : Nat} {G1 G2 : Nat → Prop} {R R' : Rg} {l : List Res}
theorem mine_bytesw {j : Nat} {v : Value} {f : List UInt8} {U : TypeId} (h : Inv X w l) (hj : l[j]? = some (rMine v f U)) (hl : f.length ≤ 140737488351232) : BytesAt w v f := OwnBytes.bytes (h.1.get hj) hl
theorem rg_apart {r : Res} {b : Nat} (h : Inv X w (RgL g wd d0 d1 vd e0 e1 G1 G2 R ++ l)) (hr : r ∈ l) (hb : r.fp b) : ¬ RgZ g G1 G2 b ∧ b < w.heap.size := by
  refine ⟨fun hz => ?_, r.lt w (h.1.1 r (List.mem_append_right _ hr)) b hb⟩
  obtain ⟨s, hs, hsb⟩ := (rgl_fp (wd := wd) (d0 := d0) (d1 := d1) (vd := vd) (e0 := e0) (e1 := e1) (R := R)).2 hz
  exact (List.pairwise_append.1 h.1.2).2.2 s hs r hr b hsb hb
end
end Go.Proofs.Ytcilikkljkdceaa

/-
  awake.
-/
namespace Go.Proofs.Ytcilikkljkdceaa
open Go.RowKit
set_option maxRecDepth 100000
set_option maxHeartbeats 4000000
theorem wb0 : Wb 0 wi0 := by
  have h : Db 0 onA := by
    refine Db.write ⟨newA_ok, rfl, fun i => ⟨Int.le_refl _, Int.le_refl _⟩⟩ (Int.le_refl _) 0 1
  exact ⟨⟨Int.le_refl _, Int.le_refl _⟩, h, h, ⟨Nat.le_refl _, by simp [wi0]⟩, ⟨Nat.le_refl _, by simp [wi0]⟩⟩
theorem seeD_len {n : Nat} {S : Wi} (h : Wb n S) (dir k : Int) : (seeD S dir k).1.f.length ≤ 140737488351232 := by
  have h1 : ∀ b, (seeW S b k).f.length ≤ 274 := fun b => by
    unfold seeW
    split
    · rename_i e; exact ((h.l b).get e).2.1
    · simp [fm0]
  unfold seeD dirF
  split
  · have := h1 false; simp only; omega
  · split
    · have := h1 true; simp only; omega
    · simp [fm0]
def aw0 : Wi := (postF wi0 false 0 [120]).1
def aw1 : Wi := (pullD aw0 0).2
def aw2 : Wi := (doubleD aw1 0 0).2
def aw3 : Wi := (damageD aw2 0 1 0).2
def aw4 : Wi := tickW aw3
def aw5 : Wi := tickW aw4
def aw6 : Wi := tickW aw5
def aw7 : Wi := tickW aw6
def aw8 : Wi := tickW aw7
def aw9 : Wi := tickW aw8
def aw10 : Wi := tickW aw9
def aw11 : Wi := tickW aw10
def aw12 : Wi := (pullD aw11 2).2
theorem awake_any (w : World) : Calls Try.prog 7 #[] w fun e w' => e = .returned (bo true) ∧ Only (fun _ => False) w w' := by
  refine calls_sc (l0 := []) (args := []) (fun _ => False) Try.func7 rfl 99 Try.ntmps7 (le_b rfl) ⟨⟨by simp, List.Pairwise.nil⟩, Only.refl _ _⟩ ?_
  show SC _ _ _ _ [] []
  refine SC.sr ?_
  refine SL.as ?_
  refine SL.nl ?_
  refine SC.sr ?_
  refine SL.call (ζ := Nat × Nat × Nat × Nat × Nat × Nat × Nat × (Nat → Prop) × (Nat → Prop)) (fun z => pt z.1 0) (fun z => RgL z.1 z.2.1 z.2.2.1 z.2.2.2.1 z.2.2.2.2.1 z.2.2.2.2.2.1 z.2.2.2.2.2.2.1 z.2.2.2.2.2.2.2.1 z.2.2.2.2.2.2.2.2 rg0) (fun z => w.heap.size ≤ z.1 ∧ (∀ b, z.2.2.2.2.2.2.2.1 b → w.heap.size ≤ b) ∧ ∀ b, z.2.2.2.2.2.2.2.2 b → w.heap.size ≤ b) rfl rfl co8 rfl rfl rfl (lt_b rfl) (fun w9 hI => (begun_any w9).mono fun e w2 ⟨g, wd, d0, d1, vd, e0, e1, G1, G2, h1, h2, h3, h4, h5, h6⟩ => ⟨(g, wd, d0, d1, vd, e0, e1, G1, G2), h1, ⟨h2, hI.2.trans' h6 (fun b hb => hb.elim)⟩, Nat.le_trans hI.2.size h3, fun b hb => Nat.le_trans hI.2.size (h4 b hb), fun b hb => Nat.le_trans hI.2.size (h5 b hb)⟩) ?_
  rintro ⟨g, wd, d0, d1, vd, e0, e1, G1, G2⟩ ⟨hgn, hn1, hn2⟩
  dsimp only at hgn hn1 hn2
  have hG1 : ∀ b, G1 b → False ∨ w.heap.size ≤ b := fun b hb => .inr (hn1 b hb)
  have hG2 : ∀ b, G2 b → False ∨ w.heap.size ≤ b := fun b hb => .inr (hn2 b hb)
  refine SL.as ?_
  refine SL.nl ?_
  refine SC.seq ?_
  refine SC.sr ?_
  refine SL.mv ?_
  refine SL.uu (ru_eqnil Try.underlying24 rfl rfl rfl rfl) ?_
  refine SL.nl ?_
  refine SC.no rfl ?_
  refine SC.skip ?_
  refine SC.of_SE ?_
  refine SC.sr ?_
  refine SL.mv ?_
  refine SL.buildSlice (size := 1) (vals := [(0, Value.int .u8 120)]) (z := [Value.int .u8 0]) (cs := [Value.int .u8 120]) rfl rfl (lt_b rfl) rfl Try.underlying28 (by kernel_rfl) rfl rfl (by kernel_rfl) fun b1 hb1 => ?_
  refine SL.mark (i := 3) rfl rfl (lt_b rfl) rfl Try.underlying28 Try.underlying5 rfl rfl (.inr hb1) ?_
  have hB4 := wb0.post false 0 [120]
  refine SL.call (ζ := (Nat → Prop) × (Nat → Prop)) (fun z => bo true) (fun z => [rG g d0 d1 wd e0 e1 vd ((postF wi0 false 0 [120]).2) 0 0 0 41, rWp wd d0 d1 z.1 aw0, rWq vd e0 e1 z.2 aw0, rFz b1 [Value.int .u8 120] 5]) (fun z => (∀ b, z.1 b → False ∨ w.heap.size ≤ b) ∧ ∀ b, z.2 b → False ∨ w.heap.size ≤ b) rfl rfl co25 rfl rfl rfl (lt_b rfl) (fun w5 hI => (post0_any (f := [120]) wb0 (by decide) (fz_bytesw (l := [120]) (hI.1.get (i := 3) rfl) (by decide)) (mine_in fun b hb => rg_apart (X := ⟨99, w, fun _ => False⟩) (g := g) (wd := wd) (d0 := d0) (d1 := d1) (vd := vd) (e0 := e0) (e1 := e1) (R := ⟨wi0, wi0, 0, 0, 0, 0⟩) (G1 := G1) (G2 := G2) (l := [rFz b1 [Value.int .u8 120] 5]) (r := rFz b1 [Value.int .u8 120] 5) hI (by simp) (by cases hb; rfl)) ((hI.keep 3).1)).mono fun e w2 ⟨h1, kz⟩ => by obtain ⟨I1, I2, k1, k2, k3⟩ := Inv.rgto (X := ⟨99, w, fun _ => False⟩) (g := g) (wd := wd) (d0 := d0) (d1 := d1) (vd := vd) (e0 := e0) (e1 := e1) (R := ⟨wi0, wi0, 0, 0, 0, 0⟩) (G1 := G1) (G2 := G2) (l := [rFz b1 [Value.int .u8 120] 5]) hI (fun b hb => hb.elim (fun e => by rw [e]; exact .inr hgn) (fun e => e.elim (hG1 b) (hG2 b))) kz; exact ⟨(I1, I2), h1, k1, k2, k3⟩) ?_
  rintro ⟨Gp2, Gq3⟩ ⟨hGp2, hGq3⟩
  refine SL.as ?_
  refine SL.nl ?_
  refine SC.sr ?_
  refine SL.mv ?_
  refine SL.nk ?_
  refine SL.fa 2 fd41_1 ?_
  refine SL.ld 0 ts35 ?_
  have hB6 := hB4.pullD 0
  refine SL.call (ζ := Nat → Prop) (fun Gw5 => iw ((pullD aw0 0).1)) (fun Gw5 => [rG g d0 d1 wd e0 e1 vd ((postF wi0 false 0 [120]).2) 0 0 0 41, rWp wd d0 d1 Gw5 aw1, rWq vd e0 e1 Gq3 aw0, rFz b1 [Value.int .u8 120] 5]) (fun Gw5 => ∀ b, Gw5 b → False ∨ w.heap.size ≤ b) rfl rfl co21 rfl rfl rfl (lt_b rfl) (fun w5 hI => (rw_pull hB4 (by omega) (hI.1.get (i := 1) rfl) 0).mono fun e w2 ⟨h1, kz⟩ => by obtain ⟨G9, k1, k2⟩ := hI.rto (i := 1) rfl hGp2 kz; exact ⟨G9, h1, k1, k2⟩) ?_
  intro Gw5 hGw5
  refine SL.as ?_
  refine SL.nl ?_
  refine SC.sr ?_
  refine SL.mv ?_
  refine SL.nk ?_
  refine SL.fa 2 fd41_1 ?_
  refine SL.ld 0 ts35 ?_
  have hB8 := hB6.doubleD 0 0
  refine SL.call (ζ := Nat → Prop) (fun Gw7 => iw ((doubleD aw1 0 0).1)) (fun Gw7 => [rG g d0 d1 wd e0 e1 vd ((postF wi0 false 0 [120]).2) 0 0 0 41, rWp wd d0 d1 Gw7 aw2, rWq vd e0 e1 Gq3 aw0, rFz b1 [Value.int .u8 120] 5]) (fun Gw7 => ∀ b, Gw7 b → False ∨ w.heap.size ≤ b) rfl rfl co14 rfl rfl rfl (lt_b rfl) (fun w5 hI => (rw_double hB6 (by omega) (hI.1.get (i := 1) rfl) 0 0).mono fun e w2 ⟨h1, kz⟩ => by obtain ⟨G9, k1, k2⟩ := hI.rto (i := 1) rfl hGw5 kz; exact ⟨G9, h1, k1, k2⟩) ?_
  intro Gw7 hGw7
  refine SL.as ?_
  refine SL.nl ?_
  refine SC.sr ?_
  refine SL.mv ?_
  refine SL.nk ?_
  refine SL.fa 2 fd41_1 ?_
  refine SL.ld 0 ts35 ?_
  have hB10 := hB8.damageD 0 1 0
  refine SL.call (ζ := Nat → Prop) (fun Gw9 => iw ((damageD aw2 0 1 0).1)) (fun Gw9 => [rG g d0 d1 wd e0 e1 vd ((postF wi0 false 0 [120]).2) 0 0 0 41, rWp wd d0 d1 Gw9 aw3, rWq vd e0 e1 Gq3 aw0, rFz b1 [Value.int .u8 120] 5]) (fun Gw9 => ∀ b, Gw9 b → False ∨ w.heap.size ≤ b) rfl rfl co23 rfl rfl rfl (lt_b rfl) (fun w5 hI => (rw_damage hB8 (by omega) (hI.1.get (i := 1) rfl) 0 1 0 (by decide) ).mono fun e w2 ⟨h1, kz⟩ => by obtain ⟨G9, k1, k2⟩ := hI.rto (i := 1) rfl hGw7 kz; exact ⟨G9, h1, k1, k2⟩) ?_
  intro Gw9 hGw9
  refine SL.as ?_
  refine SL.nl ?_
  refine SC.sr ?_
  refine SL.mv ?_
  refine SL.nk ?_
  refine SL.fa 2 fd41_1 ?_
  refine SL.ld 0 ts35 ?_
  refine SL.mk (Mk.take ⟨99, w, fun _ => False⟩ ((seeD aw3 0 1).1.f) (seeD aw3 0 1).1.bad (seeD aw3 0 1).1.tick (seeD aw3 0 1).2 5) (w_all rfl) rfl co13 rfl rfl rfl (lt_b rfl) (fun l' w hI => (rw_see hB10 (hI.1.get (i := 1) rfl) 0 1).mono fun e w2 ⟨q, c, h1, h2, h3, h4⟩ => ⟨_, h1, ⟨q, c, fun b hb => Nat.le_trans hI.2.size (h3 b hb), rfl⟩, hI.add (r := rMine (.slice q _ c) _ 5) h4 h2 h3⟩) ?_
  rintro _ ⟨q11, c12, hoq11, rfl⟩
  refine SL.mv ?_
  refine SL.uu (ru_extract rfl rfl rfl) ?_
  refine SL.uu (ru_extract rfl rfl rfl) ?_
  refine SL.alloca rfl rfl (lt_b rfl) ta46 rfl fun b13 hb13 => ?_
  refine SL.storea (i := 5) (vs := [Value.slice q11 (((seeD aw3 0 1).1.f).length) c12, bo ((seeD aw3 0 1).1.bad), iw ((seeD aw3 0 1).1.tick)]) (c' := [Value.slice q11 (((seeD aw3 0 1).1.f).length) c12, bo ((seeD aw3 0 1).1.bad), iw ((seeD aw3 0 1).1.tick)]) rfl rfl ta46 rfl rfl rfl rfl rfl rfl (le_b rfl) (.inr hb13) rfl ?_
  refine SL.as ?_
  refine SL.nr [rG g d0 d1 wd e0 e1 vd ((postF wi0 false 0 [120]).2) 0 0 0 41, rWp wd d0 d1 Gw9 aw3, rWq vd e0 e1 Gq3 aw0, rFz b1 [Value.int .u8 120] 5, rMine (.slice q11 ((seeD aw3 0 1).1.f).length c12) ((seeD aw3 0 1).1.f) 5, rBlk b13 [Value.slice q11 (((seeD aw3 0 1).1.f).length) c12, bo ((seeD aw3 0 1).1.bad), iw ((seeD aw3 0 1).1.tick)] 46] ?_
  refine SC.seq ?_
  refine SC.sr ?_
  refine SL.as ?_
  refine SL.nl ?_
  refine SC.block ?_
  refine SC.rounds 9 ?_
  refine SR.norm [(0, bo false), (1, pt g 0), (2, bo true), (3, iw ((pullD aw0 0).1)), (4, iw ((doubleD aw1 0 0).1)), (5, iw ((damageD aw2 0 1 0).1)), (6, pt b13 0), (7, iw ((seeD aw3 0 1).2)), (8, iw 0)] _ ⟨rfl, rfl, rfl, rfl, rfl, rfl, rfl, rfl, rfl, trivial⟩ rfl ?_
  refine SR.next ?_
  refine SC.seq ?_
  refine SC.sr ?_
  refine SL.mv ?_
  refine SL.uu (ru_lt (b := true) rfl rfl rfl rfl) ?_
  refine SL.nl ?_
  refine SC.yes rfl ?_
  refine SC.skip ?_
  refine SC.of_SE ?_
  refine SC.seq ?_
  refine SC.block ?_
  refine SC.region ?_
  refine SL.mv ?_
  refine SL.nk ?_
  refine SL.fa 2 fd41_1 ?_
  refine SL.ld 0 ts35 ?_
  have hB15 := (hB10.tick (by omega)).1
  refine SL.call (ζ := Nat → Prop) (fun Gw14 => Value.tuple #[]) (fun Gw14 => [rG g d0 d1 wd e0 e1 vd ((postF wi0 false 0 [120]).2) 0 0 0 41, rWp wd d0 d1 Gw14 aw4, rWq vd e0 e1 Gq3 aw0, rFz b1 [Value.int .u8 120] 5, rMine (.slice q11 ((seeD aw3 0 1).1.f).length c12) ((seeD aw3 0 1).1.f) 5, rBlk b13 [Value.slice q11 (((seeD aw3 0 1).1.f).length) c12, bo ((seeD aw3 0 1).1.bad), iw ((seeD aw3 0 1).1.tick)] 46]) (fun Gw14 => ∀ b, Gw14 b → False ∨ w.heap.size ≤ b) rfl rfl co18 rfl rfl rfl (lt_b rfl) (fun w5 hI => (rw_tick hB10 (by omega) (hI.1.get (i := 1) rfl)).mono fun e w2 ⟨h1, kz⟩ => by obtain ⟨G9, k1, k2⟩ := hI.rto (i := 1) rfl hGw9 kz; exact ⟨G9, h1, k1, k2⟩) ?_
  intro Gw14 hGw14
  refine SL.nil ?_
  refine SE.blkn ?_
  refine SC.of_SE ?_
  refine SC.region ?_
  refine SL.mv ?_
  refine SL.uu (ru_add (r := 1) rfl rfl rfl rfl) ?_
  refine SL.as ?_
  refine SL.nil ?_
  refine SE.round ?_
  refine SR.norm [(0, bo false), (1, pt g 0), (2, bo true), (3, iw ((pullD aw0 0).1)), (4, iw ((doubleD aw1 0 0).1)), (5, iw ((damageD aw2 0 1 0).1)), (6, pt b13 0), (7, iw ((seeD aw3 0 1).2)), (8, iw 1)] _ ⟨rfl, rfl, rfl, rfl, rfl, rfl, rfl, rfl, rfl, trivial⟩ rfl ?_
  refine SR.next ?_
  refine SC.seq ?_
  refine SC.sr ?_
  refine SL.mv ?_
  refine SL.uu (ru_lt (b := true) rfl rfl rfl rfl) ?_
  refine SL.nl ?_
  refine SC.yes rfl ?_
  refine SC.skip ?_
  refine SC.of_SE ?_
  refine SC.seq ?_
  refine SC.block ?_
  refine SC.region ?_
  refine SL.mv ?_
  refine SL.nk ?_
  refine SL.fa 2 fd41_1 ?_
  refine SL.ld 0 ts35 ?_
  have hB17 := (hB15.tick (by omega)).1
  refine SL.call (ζ := Nat → Prop) (fun Gw16 => Value.tuple #[]) (fun Gw16 => [rG g d0 d1 wd e0 e1 vd ((postF wi0 false 0 [120]).2) 0 0 0 41, rWp wd d0 d1 Gw16 aw5, rWq vd e0 e1 Gq3 aw0, rFz b1 [Value.int .u8 120] 5, rMine (.slice q11 ((seeD aw3 0 1).1.f).length c12) ((seeD aw3 0 1).1.f) 5, rBlk b13 [Value.slice q11 (((seeD aw3 0 1).1.f).length) c12, bo ((seeD aw3 0 1).1.bad), iw ((seeD aw3 0 1).1.tick)] 46]) (fun Gw16 => ∀ b, Gw16 b → False ∨ w.heap.size ≤ b) rfl rfl co18 rfl rfl rfl (lt_b rfl) (fun w5 hI => (rw_tick hB15 (by omega) (hI.1.get (i := 1) rfl)).mono fun e w2 ⟨h1, kz⟩ => by obtain ⟨G9, k1, k2⟩ := hI.rto (i := 1) rfl hGw14 kz; exact ⟨G9, h1, k1, k2⟩) ?_
  intro Gw16 hGw16
  refine SL.nil ?_
  refine SE.blkn ?_
  refine SC.of_SE ?_
  refine SC.region ?_
  refine SL.mv ?_
  refine SL.uu (ru_add (r := 2) rfl rfl rfl rfl) ?_
  refine SL.as ?_
  refine SL.nil ?_
  refine SE.round ?_
  refine SR.norm [(0, bo false), (1, pt g 0), (2, bo true), (3, iw ((pullD aw0 0).1)), (4, iw ((doubleD aw1 0 0).1)), (5, iw ((damageD aw2 0 1 0).1)), (6, pt b13 0), (7, iw ((seeD aw3 0 1).2)), (8, iw 2)] _ ⟨rfl, rfl, rfl, rfl, rfl, rfl, rfl, rfl, rfl, trivial⟩ rfl ?_
  refine SR.next ?_
  refine SC.seq ?_
  refine SC.sr ?_
  refine SL.mv ?_
  refine SL.uu (ru_lt (b := true) rfl rfl rfl rfl) ?_
  refine SL.nl ?_
  refine SC.yes rfl ?_
  refine SC.skip ?_
  refine SC.of_SE ?_
  refine SC.seq ?_
  refine SC.block ?_
  refine SC.region ?_
  refine SL.mv ?_
  refine SL.nk ?_
  refine SL.fa 2 fd41_1 ?_
  refine SL.ld 0 ts35 ?_
  have hB19 := (hB17.tick (by omega)).1
  refine SL.call (ζ := Nat → Prop) (fun Gw18 => Value.tuple #[]) (fun Gw18 => [rG g d0 d1 wd e0 e1 vd ((postF wi0 false 0 [120]).2) 0 0 0 41, rWp wd d0 d1 Gw18 aw6, rWq vd e0 e1 Gq3 aw0, rFz b1 [Value.int .u8 120] 5, rMine (.slice q11 ((seeD aw3 0 1).1.f).length c12) ((seeD aw3 0 1).1.f) 5, rBlk b13 [Value.slice q11 (((seeD aw3 0 1).1.f).length) c12, bo ((seeD aw3 0 1).1.bad), iw ((seeD aw3 0 1).1.tick)] 46]) (fun Gw18 => ∀ b, Gw18 b → False ∨ w.heap.size ≤ b) rfl rfl co18 rfl rfl rfl (lt_b rfl) (fun w5 hI => (rw_tick hB17 (by omega) (hI.1.get (i := 1) rfl)).mono fun e w2 ⟨h1, kz⟩ => by obtain ⟨G9, k1, k2⟩ := hI.rto (i := 1) rfl hGw16 kz; exact ⟨G9, h1, k1, k2⟩) ?_
  intro Gw18 hGw18
  refine SL.nil ?_
  refine SE.blkn ?_
  refine SC.of_SE ?_
  refine SC.region ?_
  refine SL.mv ?_
  refine SL.uu (ru_add (r := 3) rfl rfl rfl rfl) ?_
  refine SL.as ?_
  refine SL.nil ?_
  refine SE.round ?_
  refine SR.norm [(0, bo false), (1, pt g 0), (2, bo true), (3, iw ((pullD aw0 0).1)), (4, iw ((doubleD aw1 0 0).1)), (5, iw ((damageD aw2 0 1 0).1)), (6, pt b13 0), (7, iw ((seeD aw3 0 1).2)), (8, iw 3)] _ ⟨rfl, rfl, rfl, rfl, rfl, rfl, rfl, rfl, rfl, trivial⟩ rfl ?_
  refine SR.next ?_
  refine SC.seq ?_
  refine SC.sr ?_
  refine SL.mv ?_
  refine SL.uu (ru_lt (b := true) rfl rfl rfl rfl) ?_
  refine SL.nl ?_
  refine SC.yes rfl ?_
  refine SC.skip ?_
  refine SC.of_SE ?_
  refine SC.seq ?_
  refine SC.block ?_
  refine SC.region ?_
  refine SL.mv ?_
  refine SL.nk ?_
  refine SL.fa 2 fd41_1 ?_
  refine SL.ld 0 ts35 ?_
  have hB21 := (hB19.tick (by omega)).1
  refine SL.call (ζ := Nat → Prop) (fun Gw20 => Value.tuple #[]) (fun Gw20 => [rG g d0 d1 wd e0 e1 vd ((postF wi0 false 0 [120]).2) 0 0 0 41, rWp wd d0 d1 Gw20 aw7, rWq vd e0 e1 Gq3 aw0, rFz b1 [Value.int .u8 120] 5, rMine (.slice q11 ((seeD aw3 0 1).1.f).length c12) ((seeD aw3 0 1).1.f) 5, rBlk b13 [Value.slice q11 (((seeD aw3 0 1).1.f).length) c12, bo ((seeD aw3 0 1).1.bad), iw ((seeD aw3 0 1).1.tick)] 46]) (fun Gw20 => ∀ b, Gw20 b → False ∨ w.heap.size ≤ b) rfl rfl co18 rfl rfl rfl (lt_b rfl) (fun w5 hI => (rw_tick hB19 (by omega) (hI.1.get (i := 1) rfl)).mono fun e w2 ⟨h1, kz⟩ => by obtain ⟨G9, k1, k2⟩ := hI.rto (i := 1) rfl hGw18 kz; exact ⟨G9, h1, k1, k2⟩) ?_
  intro Gw20 hGw20
  refine SL.nil ?_
  refine SE.blkn ?_
  refine SC.of_SE ?_
  refine SC.region ?_
  refine SL.mv ?_
  refine SL.uu (ru_add (r := 4) rfl rfl rfl rfl) ?_
  refine SL.as ?_
  refine SL.nil ?_
  refine SE.round ?_
  refine SR.norm [(0, bo false), (1, pt g 0), (2, bo true), (3, iw ((pullD aw0 0).1)), (4, iw ((doubleD aw1 0 0).1)), (5, iw ((damageD aw2 0 1 0).1)), (6, pt b13 0), (7, iw ((seeD aw3 0 1).2)), (8, iw 4)] _ ⟨rfl, rfl, rfl, rfl, rfl, rfl, rfl, rfl, rfl, trivial⟩ rfl ?_
  refine SR.next ?_
  refine SC.seq ?_
  refine SC.sr ?_
  refine SL.mv ?_
  refine SL.uu (ru_lt (b := true) rfl rfl rfl rfl) ?_
  refine SL.nl ?_
  refine SC.yes rfl ?_
  refine SC.skip ?_
  refine SC.of_SE ?_
  refine SC.seq ?_
  refine SC.block ?_
  refine SC.region ?_
  refine SL.mv ?_
  refine SL.nk ?_
  refine SL.fa 2 fd41_1 ?_
  refine SL.ld 0 ts35 ?_
  have hB23 := (hB21.tick (by omega)).1
  refine SL.call (ζ := Nat → Prop) (fun Gw22 => Value.tuple #[]) (fun Gw22 => [rG g d0 d1 wd e0 e1 vd ((postF wi0 false 0 [120]).2) 0 0 0 41, rWp wd d0 d1 Gw22 aw8, rWq vd e0 e1 Gq3 aw0, rFz b1 [Value.int .u8 120] 5, rMine (.slice q11 ((seeD aw3 0 1).1.f).length c12) ((seeD aw3 0 1).1.f) 5, rBlk b13 [Value.slice q11 (((seeD aw3 0 1).1.f).length) c12, bo ((seeD aw3 0 1).1.bad), iw ((seeD aw3 0 1).1.tick)] 46]) (fun Gw22 => ∀ b, Gw22 b → False ∨ w.heap.size ≤ b) rfl rfl co18 rfl rfl rfl (lt_b rfl) (fun w5 hI => (rw_tick hB21 (by omega) (hI.1.get (i := 1) rfl)).mono fun e w2 ⟨h1, kz⟩ => by obtain ⟨G9, k1, k2⟩ := hI.rto (i := 1) rfl hGw20 kz; exact ⟨G9, h1, k1, k2⟩) ?_
  intro Gw22 hGw22
  refine SL.nil ?_
  refine SE.blkn ?_
  refine SC.of_SE ?_
  refine SC.norm [(0, bo false), (1, pt g 0), (2, bo true), (3, iw ((pullD aw0 0).1)), (4, iw ((doubleD aw1 0 0).1)), (5, iw ((damageD aw2 0 1 0).1)), (6, pt b13 0), (7, iw ((seeD aw3 0 1).2)), (8, iw 4)] _ ⟨rfl, rfl, rfl, rfl, rfl, rfl, rfl, rfl, rfl, trivial⟩ rfl ?_
  refine SC.region ?_
  refine SL.mv ?_
  refine SL.uu (ru_add (r := 5) rfl rfl rfl rfl) ?_
  refine SL.as ?_
  refine SL.nil ?_
  refine SE.round ?_
  refine SR.norm [(0, bo false), (1, pt g 0), (2, bo true), (3, iw ((pullD aw0 0).1)), (4, iw ((doubleD aw1 0 0).1)), (5, iw ((damageD aw2 0 1 0).1)), (6, pt b13 0), (7, iw ((seeD aw3 0 1).2)), (8, iw 5)] _ ⟨rfl, rfl, rfl, rfl, rfl, rfl, rfl, rfl, rfl, trivial⟩ rfl ?_
  refine SR.next ?_
  refine SC.seq ?_
  refine SC.sr ?_
  refine SL.mv ?_
  refine SL.uu (ru_lt (b := true) rfl rfl rfl rfl) ?_
  refine SL.nl ?_
  refine SC.yes rfl ?_
  refine SC.skip ?_
  refine SC.of_SE ?_
  refine SC.seq ?_
  refine SC.block ?_
  refine SC.region ?_
  refine SL.mv ?_
  refine SL.nk ?_
  refine SL.fa 2 fd41_1 ?_
  refine SL.ld 0 ts35 ?_
  have hB25 := (hB23.tick (by omega)).1
  refine SL.call (ζ := Nat → Prop) (fun Gw24 => Value.tuple #[]) (fun Gw24 => [rG g d0 d1 wd e0 e1 vd ((postF wi0 false 0 [120]).2) 0 0 0 41, rWp wd d0 d1 Gw24 aw9, rWq vd e0 e1 Gq3 aw0, rFz b1 [Value.int .u8 120] 5, rMine (.slice q11 ((seeD aw3 0 1).1.f).length c12) ((seeD aw3 0 1).1.f) 5, rBlk b13 [Value.slice q11 (((seeD aw3 0 1).1.f).length) c12, bo ((seeD aw3 0 1).1.bad), iw ((seeD aw3 0 1).1.tick)] 46]) (fun Gw24 => ∀ b, Gw24 b → False ∨ w.heap.size ≤ b) rfl rfl co18 rfl rfl rfl (lt_b rfl) (fun w5 hI => (rw_tick hB23 (by omega) (hI.1.get (i := 1) rfl)).mono fun e w2 ⟨h1, kz⟩ => by obtain ⟨G9, k1, k2⟩ := hI.rto (i := 1) rfl hGw22 kz; exact ⟨G9, h1, k1, k2⟩) ?_
  intro Gw24 hGw24
  refine SL.nil ?_
  refine SE.blkn ?_
  refine SC.of_SE ?_
  refine SC.region ?_
  refine SL.mv ?_
  refine SL.uu (ru_add (r := 6) rfl rfl rfl rfl) ?_
  refine SL.as ?_
  refine SL.nil ?_
  refine SE.round ?_
  refine SR.norm [(0, bo false), (1, pt g 0), (2, bo true), (3, iw ((pullD aw0 0).1)), (4, iw ((doubleD aw1 0 0).1)), (5, iw ((damageD aw2 0 1 0).1)), (6, pt b13 0), (7, iw ((seeD aw3 0 1).2)), (8, iw 6)] _ ⟨rfl, rfl, rfl, rfl, rfl, rfl, rfl, rfl, rfl, trivial⟩ rfl ?_
  refine SR.next ?_
  refine SC.seq ?_
  refine SC.sr ?_
  refine SL.mv ?_
  refine SL.uu (ru_lt (b := true) rfl rfl rfl rfl) ?_
  refine SL.nl ?_
  refine SC.yes rfl ?_
  refine SC.skip ?_
  refine SC.of_SE ?_
  refine SC.seq ?_
  refine SC.block ?_
  refine SC.region ?_
  refine SL.mv ?_
  refine SL.nk ?_
  refine SL.fa 2 fd41_1 ?_
  refine SL.ld 0 ts35 ?_
  have hB27 := (hB25.tick (by omega)).1
  refine SL.call (ζ := Nat → Prop) (fun Gw26 => Value.tuple #[]) (fun Gw26 => [rG g d0 d1 wd e0 e1 vd ((postF wi0 false 0 [120]).2) 0 0 0 41, rWp wd d0 d1 Gw26 aw10, rWq vd e0 e1 Gq3 aw0, rFz b1 [Value.int .u8 120] 5, rMine (.slice q11 ((seeD aw3 0 1).1.f).length c12) ((seeD aw3 0 1).1.f) 5, rBlk b13 [Value.slice q11 (((seeD aw3 0 1).1.f).length) c12, bo ((seeD aw3 0 1).1.bad), iw ((seeD aw3 0 1).1.tick)] 46]) (fun Gw26 => ∀ b, Gw26 b → False ∨ w.heap.size ≤ b) rfl rfl co18 rfl rfl rfl (lt_b rfl) (fun w5 hI => (rw_tick hB25 (by omega) (hI.1.get (i := 1) rfl)).mono fun e w2 ⟨h1, kz⟩ => by obtain ⟨G9, k1, k2⟩ := hI.rto (i := 1) rfl hGw24 kz; exact ⟨G9, h1, k1, k2⟩) ?_
  intro Gw26 hGw26
  refine SL.nil ?_
  refine SE.blkn ?_
  refine SC.of_SE ?_
  refine SC.nr [rG g d0 d1 wd e0 e1 vd ((postF wi0 false 0 [120]).2) 0 0 0 41, rWp wd d0 d1 Gw26 aw10, rWq vd e0 e1 Gq3 aw0, rFz b1 [Value.int .u8 120] 5, rMine (.slice q11 ((seeD aw3 0 1).1.f).length c12) ((seeD aw3 0 1).1.f) 5, rBlk b13 [Value.slice q11 (((seeD aw3 0 1).1.f).length) c12, bo ((seeD aw3 0 1).1.bad), iw ((seeD aw3 0 1).1.tick)] 46] ?_
  refine SC.region ?_
  refine SL.mv ?_
  refine SL.uu (ru_add (r := 7) rfl rfl rfl rfl) ?_
  refine SL.as ?_
  refine SL.nil ?_
  refine SE.round ?_
  refine SR.norm [(0, bo false), (1, pt g 0), (2, bo true), (3, iw ((pullD aw0 0).1)), (4, iw ((doubleD aw1 0 0).1)), (5, iw ((damageD aw2 0 1 0).1)), (6, pt b13 0), (7, iw ((seeD aw3 0 1).2)), (8, iw 7)] _ ⟨rfl, rfl, rfl, rfl, rfl, rfl, rfl, rfl, rfl, trivial⟩ rfl ?_
  refine SR.next ?_
  refine SC.seq ?_
  refine SC.sr ?_
  refine SL.mv ?_
  refine SL.uu (ru_lt (b := true) rfl rfl rfl rfl) ?_
  refine SL.nl ?_
  refine SC.yes rfl ?_
  refine SC.skip ?_
  refine SC.of_SE ?_
  refine SC.seq ?_
  refine SC.block ?_
  refine SC.region ?_
  refine SL.mv ?_
  refine SL.nk ?_
  refine SL.fa 2 fd41_1 ?_
  refine SL.ld 0 ts35 ?_
  have hB29 := (hB27.tick (by omega)).1
  refine SL.call (ζ := Nat → Prop) (fun Gw28 => Value.tuple #[]) (fun Gw28 => [rG g d0 d1 wd e0 e1 vd ((postF wi0 false 0 [120]).2) 0 0 0 41, rWp wd d0 d1 Gw28 aw11, rWq vd e0 e1 Gq3 aw0, rFz b1 [Value.int .u8 120] 5, rMine (.slice q11 ((seeD aw3 0 1).1.f).length c12) ((seeD aw3 0 1).1.f) 5, rBlk b13 [Value.slice q11 (((seeD aw3 0 1).1.f).length) c12, bo ((seeD aw3 0 1).1.bad), iw ((seeD aw3 0 1).1.tick)] 46]) (fun Gw28 => ∀ b, Gw28 b → False ∨ w.heap.size ≤ b) rfl rfl co18 rfl rfl rfl (lt_b rfl) (fun w5 hI => (rw_tick hB27 (by omega) (hI.1.get (i := 1) rfl)).mono fun e w2 ⟨h1, kz⟩ => by obtain ⟨G9, k1, k2⟩ := hI.rto (i := 1) rfl hGw26 kz; exact ⟨G9, h1, k1, k2⟩) ?_
  intro Gw28 hGw28
  refine SL.nil ?_
  refine SE.blkn ?_
  refine SC.of_SE ?_
  refine SC.region ?_
  refine SL.mv ?_
  refine SL.uu (ru_add (r := 8) rfl rfl rfl rfl) ?_
  refine SL.as ?_
  refine SL.nil ?_
  refine SE.round ?_
  refine SR.norm [(0, bo false), (1, pt g 0), (2, bo true), (3, iw ((pullD aw0 0).1)), (4, iw ((doubleD aw1 0 0).1)), (5, iw ((damageD aw2 0 1 0).1)), (6, pt b13 0), (7, iw ((seeD aw3 0 1).2)), (8, iw 8)] _ ⟨rfl, rfl, rfl, rfl, rfl, rfl, rfl, rfl, rfl, trivial⟩ rfl ?_
  refine SR.next ?_
  refine SC.seq ?_
  refine SC.sr ?_
  refine SL.mv ?_
  refine SL.uu (ru_lt (b := false) rfl rfl rfl rfl) ?_
  refine SL.nl ?_
  refine SC.no rfl ?_
  refine SC.exit ?_
  refine SE.passe ?_
  refine SE.passe ?_
  refine SE.blke ?_
  refine SC.of_SE ?_
  refine SC.sr ?_
  refine SL.mv ?_
  refine SL.mv ?_
  refine SL.gg (ru_move rfl rfl) ?_
  refine SL.gg (ru_eq (b := true) rfl rfl rfl (by decide +kernel)) ?_
  refine SL.pk (bo true) (bo false) ?_
  refine SL.mv ?_
  refine SL.gg (ru_move rfl rfl) ?_
  refine SL.gg (ru_eq (b := true) rfl rfl rfl (by decide +kernel)) ?_
  refine SL.pk (bo true) (bo false) ?_
  refine SL.mv ?_
  refine SL.gg (ru_move rfl rfl) ?_
  refine SL.gg (ru_eq (b := true) rfl rfl rfl (by decide +kernel)) ?_
  refine SL.pk (bo true) (bo false) ?_
  refine SL.mv ?_
  refine SL.gg (ru_move rfl rfl) ?_
  refine SL.gg (ru_eq (b := true) rfl rfl rfl (by decide +kernel)) ?_
  refine SL.pk (bo true) (bo false) ?_
  refine SL.mv ?_
  refine SL.gg (ru_fieldAddr (o2 := 0) fd46_0 rfl rfl rfl) ?_
  refine SL.gg (ru_load (i := 5) ts28 rfl rfl rfl rfl) ?_
  refine SL.gg (ru_str (f := ((seeD aw3 0 1).1.f)) Try.underlying28 Try.underlying5 Try.underlying9 rfl rfl (fun w hI => mine_bytesw hI (j := 4) rfl (seeD_len hB10 _ _))) ?_
  refine SL.gg (ru_streq (f := (seeD aw3 0 1).1.f) (h := [121]) (b := true) Try.underlying9 rfl rfl rfl (by decide +kernel)) ?_
  refine SL.pk (bo true) (bo false) ?_
  refine SL.mv ?_
  refine SL.gg (ru_fieldAddr (o2 := 1) fd46_1 rfl rfl rfl) ?_
  refine SL.gg (ru_load (i := 5) ts4 rfl rfl rfl rfl) ?_
  refine SL.pk (bo ((seeD aw3 0 1).1.bad)) (bo false) ?_
  refine SL.mv ?_
  refine SL.norm [(0, bo false), (1, pt g 0), (2, bo true), (3, iw ((pullD aw0 0).1)), (4, iw ((doubleD aw1 0 0).1)), (5, iw ((damageD aw2 0 1 0).1)), (6, pt b13 0), (7, iw ((seeD aw3 0 1).2)), (48, bo true), (49, bo true), (50, iw ((pullD aw0 0).1)), (51, bo true), (52, bo true), (53, bo true), (54, iw ((doubleD aw1 0 0).1)), (55, bo true), (56, bo true), (57, bo true), (58, iw ((damageD aw2 0 1 0).1)), (59, bo true), (60, bo true), (61, bo true), (62, iw ((seeD aw3 0 1).2)), (63, bo true), (64, bo true), (65, bo true), (66, pt b13 0), (67, Value.slice q11 (((seeD aw3 0 1).1.f).length) c12), (68, Value.string ⟨((seeD aw3 0 1).1.f).toArray⟩), (69, bo true), (70, bo true), (71, bo true), (72, pt b13 1), (73, bo true), (74, bo true), (75, bo true)] _ ⟨rfl, rfl, rfl, rfl, rfl, rfl, rfl, rfl, rfl, rfl, rfl, rfl, rfl, rfl, rfl, rfl, rfl, rfl, rfl, rfl, rfl, rfl, rfl, rfl, rfl, rfl, rfl, rfl, rfl, rfl, rfl, rfl, rfl, (congrArg (fun bx => some (Value.bool bx)) (show ((seeD aw3 0 1).1.bad) = true from (by decide +kernel))), (congrArg (fun bx => some (Value.bool bx)) (show ((seeD aw3 0 1).1.bad) = true from (by decide +kernel))), (congrArg (fun bx => some (Value.bool bx)) (show ((seeD aw3 0 1).1.bad) = true from (by decide +kernel))), trivial⟩ rfl ?_
  refine SL.gg (ru_move rfl rfl) ?_
  refine SL.gg (ru_nilCheck rfl rfl) ?_
  refine SL.gg (ru_fieldAddr (o2 := 2) fd41_1 rfl rfl rfl) ?_
  refine SL.gg (ru_load (i := 0) ts35 rfl rfl rfl rfl) ?_
  refine SL.callvg (iw (lenD aw11 0)) rfl rfl rfl rfl co20 rfl rfl rfl (lt_b rfl) (fun w hI => H_only hI (rw_len (hI.1.get (i := 1) rfl) 0)) ?_
  refine SL.gg (ru_eq (b := true) rfl rfl rfl (by decide +kernel)) ?_
  refine SL.pk (bo true) (bo false) ?_
  refine SL.mv ?_
  refine SL.gg (ru_move rfl rfl) ?_
  refine SL.gg (ru_nilCheck rfl rfl) ?_
  refine SL.gg (ru_fieldAddr (o2 := 2) fd41_1 rfl rfl rfl) ?_
  refine SL.gg (ru_load (i := 0) ts35 rfl rfl rfl rfl) ?_
  refine SL.callvg (iw aw11.now) rfl rfl rfl rfl co12 rfl rfl rfl (lt_b rfl) (fun w hI => H_only hI (rw_now (hI.1.get (i := 1) rfl))) ?_
  refine SL.gg (ru_eq (b := true) rfl rfl rfl (by decide +kernel)) ?_
  refine SL.pk (bo true) (bo false) ?_
  refine SL.mv ?_
  refine SL.gg (ru_move rfl rfl) ?_
  refine SL.gg (ru_nilCheck rfl rfl) ?_
  refine SL.gg (ru_fieldAddr (o2 := 2) fd41_1 rfl rfl rfl) ?_
  refine SL.gg (ru_load (i := 0) ts35 rfl rfl rfl rfl) ?_
  have hB31 := hB29.pullD 2
  refine SL.callg (ζ := Nat → Prop) (fun Gw30 => iw ((pullD aw11 2).1)) (fun Gw30 => [rG g d0 d1 wd e0 e1 vd ((postF wi0 false 0 [120]).2) 0 0 0 41, rWp wd d0 d1 Gw30 aw12, rWq vd e0 e1 Gq3 aw0, rFz b1 [Value.int .u8 120] 5, rMine (.slice q11 ((seeD aw3 0 1).1.f).length c12) ((seeD aw3 0 1).1.f) 5, rBlk b13 [Value.slice q11 (((seeD aw3 0 1).1.f).length) c12, bo ((seeD aw3 0 1).1.bad), iw ((seeD aw3 0 1).1.tick)] 46]) (fun Gw30 => ∀ b, Gw30 b → False ∨ w.heap.size ≤ b) rfl rfl rfl rfl co21 rfl rfl rfl (lt_b rfl) (fun w5 hI => (rw_pull hB29 (by omega) (hI.1.get (i := 1) rfl) 2).mono fun e w2 ⟨h1, kz⟩ => by obtain ⟨G9, k1, k2⟩ := hI.rto (i := 1) rfl hGw28 kz; exact ⟨G9, h1, k1, k2⟩) ?_
  intro Gw30 hGw30
  refine SL.gg (ru_eq (b := true) rfl rfl rfl (by decide +kernel)) ?_
  refine SL.pk (bo true) (bo false) ?_
  refine SL.as ?_
  refine SL.nl ?_
  refine SC.ret ?_
  refine SE.res (.inl rfl) (res1 Try.results7 rfl) fun w1 hI => ⟨rfl, hI.2⟩

end Go.Proofs.Ytcilikkljkdceaa

/-
  What WireBrings keeps: plain.
-/
namespace Go.Proofs.Ytcilikkljkdceaa
open Go.RowKit
structure Br where
  S : Wi
  t0 : Int
  t1 : Int
  f0 : Int
  f1 : Int
  po : List Int
  bs : List (List UInt8)
  le : List Int
def Br.t (Z : Br) (b : Bool) : Int := if b then Z.t1 else Z.t0
def Br.f (Z : Br) (b : Bool) : Int := if b then Z.f1 else Z.f0
def Br.setT (Z : Br) (b : Bool) (v : Int) : Br := if b then { Z with t1 := v } else { Z with t0 := v }
def Br.setF (Z : Br) (b : Bool) (v : Int) : Br := if b then { Z with f1 := v } else { Z with f0 := v }
def sd8 (b : Bool) : UInt8 := if b then 1 else 0
structure BI (n : Nat) (Z : Br) : Prop where
  wb : Wb n Z.S
  on : onW Z.S
  t : ∀ b, Z.t b = (Z.S.A b).r 5
  f2 : ∀ b, Z.f b = (Z.S.A b).r 2
  f3 : ∀ b, Z.f b = (Z.S.A b).r 3
  pl : Z.po.length = Z.bs.length
  ll : Z.le.length = Z.bs.length
  lm : Z.bs.length ≤ 60000
  nm : ∀ (j : Nat) f, Z.bs[j]? = some f → numF f = j ∧ 3 ≤ f.length
  lo : ∀ v ∈ Z.le, 0 ≤ v ∧ v ≤ (n : Int) + 1
  g : ∀ b, ∀ x ∈ Z.S.T b, x.bad = false → ∃ j : Nat, Z.bs[j]? = some x.f ∧ Z.po[j]? = some x.tick ∧ x.f[2]? = some (sd8 b)
  y : ∀ b, ∀ x ∈ Z.S.L b, Z.S.now - x.tick < 8
  c : ∀ (j : Nat) v, Z.le[j]? = some v → ((cN j (Z.S.T false) + cN j (Z.S.T true) : Nat) : Int) ≤ v
def br0 : Br := ⟨wi0, 0, 0, 0, 0, [], [], []⟩
theorem bi0 : BI 0 br0 := by
  refine ⟨wb0, ⟨⟨rfl, rfl⟩, ⟨rfl, rfl⟩⟩, fun b => by cases b <;> rfl, fun b => by cases b <;> rfl, fun b => by cases b <;> rfl, rfl, rfl, by decide, fun j f h => by simp [br0] at h, fun v h => by simp [br0] at h, fun b x hx => ?_, fun b x hx => ?_, fun j v h => by simp [br0] at h⟩
  · have e : br0.S.T b = [] := by cases b <;> exact congrArg (fun z => [] ++ z) (pend_nil rfl)
    rw [e] at hx; simp at hx
  · cases b <;> simp [br0, wi0, Wi.L] at hx
section
variable {n m : Nat} {Z : Br} {S' : Wi} {b : Bool} {k dir : Int} {f : List UInt8}
theorem BI.shr (h : BI n Z) (s : Shr Z.S S') (hw : Wb m S') (ho : onW S') (hm : n ≤ m) : BI m { Z with S := S' } := by
  refine ⟨hw, ho, fun b => ?_, fun b => ?_, fun b => ?_, h.pl, h.ll, h.lm, h.nm, fun v hv => ?_, fun b x hx hb => h.g b x ((s.sub b).1 x hx hb) hb, s.yg h.y, fun j v hv => ?_⟩
  · show Z.t b = _; rw [(s.r b).2.2]; exact h.t b
  · show Z.f b = _; rw [(s.r b).1]; exact h.f2 b
  · show Z.f b = _; rw [(s.r b).2.1]; exact h.f3 b
  · have := h.lo v hv; omega
  · have h1 := h.c j v hv
    have h2 := (s.sub false).2 j
    have h3 := (s.sub true).2 j
    show ((cN j (S'.T false) + cN j (S'.T true) : Nat) : Int) ≤ v
    omega
theorem BI.le' (h : BI n Z) (hm : n ≤ m) : BI m Z := h.shr (Shr.refl Z.S) (h.wb.le hm) h.on hm
theorem num_of (h : BI n Z) {x : Fm} (hx : x ∈ Z.S.T b) (hb : x.bad = false) : ∃ v, Z.bs[numF x.f]? = some x.f ∧ Z.po[numF x.f]? = some x.tick ∧ x.f[2]? = some (sd8 b) ∧ 3 ≤ x.f.length ∧ Z.le[numF x.f]? = some v ∧ 1 ≤ v := by
  obtain ⟨j, h1, h2, h3⟩ := h.g b x hx hb
  obtain ⟨h4, h5⟩ := h.nm j _ h1
  subst h4
  have hj : numF x.f < Z.le.length := by rw [h.ll]; exact (List.getElem?_eq_some_iff.1 h1).1
  refine ⟨Z.le[numF x.f], h1, h2, h3, h5, List.getElem?_eq_getElem hj, ?_⟩
  have hc := h.c _ _ (List.getElem?_eq_getElem hj)
  have hp : 0 < cN (numF x.f) (Z.S.T b) := List.countP_pos_iff.2 ⟨x, hx, by simp [isN, hb]⟩
  cases b <;> omega
theorem BI.left (h : BI n Z) (s : ∀ b, ∀ x ∈ S'.T b, x.bad = false → x ∈ Z.S.T b) (hy : ∀ b, ∀ x ∈ S'.L b, S'.now - x.tick < 8) (hr : ∀ b, (S'.A b).r 5 = (Z.S.A b).r 5) (j : Nat) (v d : Int) (hv : Z.le[j]? = some v) (hd : 0 ≤ v + d ∧ v + d ≤ (m : Int) + 1)
    (hc : ∀ i, ((cN i (S'.T false) + cN i (S'.T true) : Nat) : Int) ≤ ((cN i (Z.S.T false) + cN i (Z.S.T true) : Nat) : Int) + (if i = j then d else 0)) (hw : Wb m S') (ho : onW S') (hm : n ≤ m) {Z' : Br}
    (e : Z' = { Z with S := S', le := Z.le.set j (v + d), f0 := Z'.f0, f1 := Z'.f1 }) (hf2 : ∀ b, Z'.f b = (S'.A b).r 2) (hf3 : ∀ b, Z'.f b = (S'.A b).r 3) : BI m Z' := by
  have e1 : Z'.S = S' := by rw [e]
  have e2 : Z'.bs = Z.bs := by rw [e]
  have e3 : Z'.po = Z.po := by rw [e]
  have e4 : Z'.le = Z.le.set j (v + d) := by rw [e]
  have e5 : ∀ b, Z'.t b = Z.t b := fun b => by rw [e]; cases b <;> rfl
  have hj : j < Z.le.length := (List.getElem?_eq_some_iff.1 hv).1
  refine ⟨by rw [e1]; exact hw, by rw [e1]; exact ho, fun b => by rw [e5, e1, hr]; exact h.t b, fun b => by rw [e1]; exact hf2 b, fun b => by rw [e1]; exact hf3 b, by rw [e3, e2]; exact h.pl, by rw [e4, e2, List.length_set]; exact h.ll, by rw [e2]; exact h.lm, by rw [e2]; exact h.nm, fun u hu => ?_, fun b x hx hb => ?_, by rw [e1]; exact hy, fun i u hu => ?_⟩
  · rw [e4] at hu
    rcases List.mem_or_eq_of_mem_set hu with hu | rfl
    · have := h.lo u hu; omega
    · exact hd
  · rw [e1] at hx
    rw [e2, e3]
    exact h.g b x (s b x hx hb) hb
  · rw [e1]
    rw [e4] at hu
    have h1 := hc i
    by_cases hij : i = j
    · subst hij
      rw [List.getElem?_set_self hj] at hu
      have hu := Option.some.inj hu
      have h2 := h.c i v hv
      rw [if_pos rfl] at h1
      omega
    · rw [List.getElem?_set_ne (Ne.symm hij)] at hu
      have h2 := h.c i u hu
      rw [if_neg hij] at h1
      omega
theorem BI.frees (h : BI n Z) (s : ∀ b, ∀ x ∈ S'.T b, x.bad = false → x ∈ Z.S.T b) (hy : ∀ b, ∀ x ∈ S'.L b, S'.now - x.tick < 8) (hr : ∀ b, (S'.A b).r 5 = (Z.S.A b).r 5)
    (hc : ∀ i, cN i (S'.T false) + cN i (S'.T true) ≤ cN i (Z.S.T false) + cN i (Z.S.T true)) (hw : Wb m S') (ho : onW S') (hm : n ≤ m) {Z' : Br}
    (e : Z' = { Z with S := S', f0 := Z'.f0, f1 := Z'.f1 }) (hf2 : ∀ b, Z'.f b = (S'.A b).r 2) (hf3 : ∀ b, Z'.f b = (S'.A b).r 3) : BI m Z' := by
  have e1 : Z'.S = S' := by rw [e]
  have e2 : Z'.bs = Z.bs := by rw [e]
  have e3 : Z'.po = Z.po := by rw [e]
  have e4 : Z'.le = Z.le := by rw [e]
  have e5 : ∀ b, Z'.t b = Z.t b := fun b => by rw [e]; cases b <;> rfl
  refine ⟨by rw [e1]; exact hw, by rw [e1]; exact ho, fun b => by rw [e5, e1, hr]; exact h.t b, fun b => by rw [e1]; exact hf2 b, fun b => by rw [e1]; exact hf3 b, by rw [e3, e2]; exact h.pl, by rw [e4, e2]; exact h.ll, by rw [e2]; exact h.lm, by rw [e2]; exact h.nm, fun u hu => ?_, fun b x hx hb => ?_, by rw [e1]; exact hy, fun i u hu => ?_⟩
  · rw [e4] at hu
    have := h.lo u hu; omega
  · rw [e1] at hx
    rw [e2, e3]
    exact h.g b x (s b x hx hb) hb
  · rw [e1]
    rw [e4] at hu
    have h1 := hc i
    have h2 := h.c i u hu
    omega
theorem setA_id (S : Wi) (b : Bool) : S.setA b (S.A b) = S := by cases b <;> rfl
theorem post_err (h : BI n Z) (he : (setTxF (Z.S.A b) (Z.t b) f).1 ≠ 0) : BI (n + 1) { Z with S := Z.S.setA b (setTxF (Z.S.A b) (Z.t b) f).2 } := by
  have e : (setTxF (Z.S.A b) (Z.t b) f).2 = Z.S.A b := by
    unfold setTxF at he ⊢
    split
    · rfl
    · split
      · rfl
      · split
        · rfl
        · rename_i h1 h2 h3; rw [if_neg h1, if_neg h2, if_neg h3] at he; exact absurd rfl he
  rw [e, setA_id]
  exact h.le' (Nat.le_succ n)
theorem pend_post {A : NicA} (hk : NicOk A) (he : (setTxF A (A.r 5) f).1 = 0) :
    (pend (writeF (setTxF A (A.r 5) f).2 5 (nx (A.r 5))).2 = [] ∨ pend (writeF (setTxF A (A.r 5) f).2 5 (nx (A.r 5))).2 = pend A ++ [⟨f, false, A.clk⟩]) ∧
    (writeF (setTxF A (A.r 5) f).2 5 (nx (A.r 5))).2.r 2 = A.r 2 ∧ (writeF (setTxF A (A.r 5) f).2 5 (nx (A.r 5))).2.r 3 = A.r 3 ∧ (writeF (setTxF A (A.r 5) f).2 5 (nx (A.r 5))).2.r 5 = nx (A.r 5) := by
  have h4 := hk.h4
  have h5 := hk.h5
  have e : (setTxF A (A.r 5) f).2 = { A with tb := up A.tb (A.r 5).toNat f } := by
    unfold setTxF at he ⊢
    split
    · rename_i h1; rw [if_pos h1] at he; cases he
    · split
      · rename_i h1 h2; rw [if_neg h1, if_pos h2] at he; cases he
      · split
        · rename_i h1 h2 h3; rw [if_neg h1, if_neg h2, if_pos h3] at he; cases he
        · rfl
  have hnx := @nx_bd (A.r 5)
  have ew : (writeF (setTxF A (A.r 5) f).2 5 (nx (A.r 5))).2 = { A with tb := up A.tb (A.r 5).toNat f, tp := posts A.tp (A.r 5) (nx (A.r 5)) A.clk, r := up A.r 5 (nx (A.r 5)) } := by
    rw [e]
    unfold writeF
    rw [if_neg (by omega), if_neg (by omega), if_neg (by omega), if_pos rfl]
    rfl
  rw [ew]
  refine ⟨?_, by simp [up], by simp [up], by simp [up]⟩
  by_cases hw : nx (A.r 5) = A.r 4
  · exact .inl (pend_nil (by simp [up, hw]))
  · refine .inr ?_
    unfold pend
    show (List.range ((up A.r 5 (nx (A.r 5)) 5 - up A.r 5 (nx (A.r 5)) 4) % 16).toNat).map (fun (i : Nat) => (⟨up A.tb (A.r 5).toNat f ((up A.r 5 (nx (A.r 5)) 4 + i) % 16).toNat, false, posts A.tp (A.r 5) (nx (A.r 5)) A.clk ((up A.r 5 (nx (A.r 5)) 4 + i) % 16).toNat⟩ : Fm)) = _
    rw [show up A.r 5 (nx (A.r 5)) 5 = nx (A.r 5) by simp [up], show up A.r 5 (nx (A.r 5)) 4 = A.r 4 by simp [up]]
    obtain ⟨q, hq⟩ : ∃ q, ((A.r 5 - A.r 4) % 16).toNat = q := ⟨_, rfl⟩
    have hq2 : ((nx (A.r 5) - A.r 4) % 16).toNat = q + 1 := by unfold nx at hw ⊢; omega
    rw [hq2, hq, List.range_succ, List.map_append]
    congr 1
    · refine List.map_congr_left fun i hi => ?_
      have hi := List.mem_range.1 hi
      have hne : ((A.r 4 + (i : Int)) % 16).toNat ≠ (A.r 5).toNat := by omega
      rw [up_ne _ _ hne]
      congr 1
      unfold posts
      rw [if_neg]
      unfold nx
      omega
    · have hs : ((A.r 4 + (q : Int)) % 16).toNat = (A.r 5).toNat := by omega
      rw [List.map_singleton, hs, up_same]
      congr 2
      unfold posts
      rw [if_pos]
      unfold nx
      omega
theorem post_ok (h : BI n Z) (hl : Z.bs.length < 60000) (he : (setTxF (Z.S.A b) (Z.t b) f).1 = 0) (hn : numF f = Z.bs.length) (h3 : 3 ≤ f.length) (hs : f[2]? = some (sd8 b)) :
    BI (n + 1) (Br.setT { Z with S := Z.S.setA b (writeF (setTxF (Z.S.A b) (Z.t b) f).2 5 (nx (Z.t b))).2, po := Z.po ++ [Z.S.now], bs := Z.bs ++ [f], le := Z.le ++ [1] } b (nx (Z.t b))) := by
  have hk := (h.wb.d b).ok
  have ht := h.t b
  rw [ht] at he ⊢
  obtain ⟨hp, r2, r3, r5⟩ := pend_post hk he
  obtain ⟨B, hB⟩ : ∃ B, (writeF (setTxF (Z.S.A b) ((Z.S.A b).r 5) f).2 5 (nx ((Z.S.A b).r 5))).2 = B := ⟨_, rfl⟩
  rw [hB] at hp r2 r3 r5 ⊢
  rw [(h.wb.d b).clk] at hp
  have hwb : Wb (n + 1) (Z.S.setA b B) := by
    rw [← hB]
    exact (h.wb.setA b (((h.wb.d b).setTx _ _).write h.wb.now.1 5 _)).le (Nat.le_succ n)
  have hob : onW (Z.S.setA b B) := on_set b h.on (fun ho => by rw [← hB]; exact on_write (.inr rfl) (on_tx ho))
  generalize hZ : (Br.setT { Z with S := Z.S.setA b B, po := Z.po ++ [Z.S.now], bs := Z.bs ++ [f], le := Z.le ++ [1] } b (nx ((Z.S.A b).r 5))) = Z'
  have eS : Z'.S = Z.S.setA b B := by rw [← hZ]; cases b <;> rfl
  have ep : Z'.po = Z.po ++ [Z.S.now] := by rw [← hZ]; cases b <;> rfl
  have eb : Z'.bs = Z.bs ++ [f] := by rw [← hZ]; cases b <;> rfl
  have el : Z'.le = Z.le ++ [1] := by rw [← hZ]; cases b <;> rfl
  have ef : ∀ c, Z'.f c = Z.f c := fun c => by rw [← hZ]; cases b <;> cases c <;> rfl
  have et1 : Z'.t b = nx ((Z.S.A b).r 5) := by rw [← hZ]; cases b <;> rfl
  have et2 : Z'.t (!b) = Z.t (!b) := by rw [← hZ]; cases b <;> rfl
  have eL : ∀ c, Z'.S.L c = Z.S.L c := fun c => by rw [eS, sA_L]
  have eAb : Z'.S.A b = B := by rw [eS, sA_self]
  have eAo : Z'.S.A (!b) = Z.S.A (!b) := by rw [eS, sA_oth]
  have eN : Z'.S.now = Z.S.now := by rw [eS, sA_now]
  have hT : ∀ x ∈ Z'.S.T b, x ∈ Z.S.T b ∨ x = ⟨f, false, Z.S.now⟩ := fun x hx => by
    unfold Wi.T at hx ⊢
    rw [eL, eAb] at hx
    rcases List.mem_append.1 hx with hx | hx
    · exact .inl (List.mem_append_left _ hx)
    · rcases hp with hp | hp
      · rw [hp] at hx; simp at hx
      · rw [hp] at hx
        rcases List.mem_append.1 hx with hx | hx
        · exact .inl (List.mem_append_right _ hx)
        · exact .inr (List.mem_singleton.1 hx)
  have hTo : Z'.S.T (!b) = Z.S.T (!b) := by unfold Wi.T; rw [eL, eAo]
  have hcb : ∀ j, cN j (Z'.S.T b) ≤ cN j (Z.S.T b) + (if j = Z.bs.length then 1 else 0) := fun j => by
    unfold Wi.T cN
    rw [eL, eAb, List.countP_append, List.countP_append]
    rcases hp with hp | hp
    · rw [hp, List.countP_nil]; omega
    · rw [hp, List.countP_append, List.countP_singleton]
      have : isN j (⟨f, false, Z.S.now⟩ : Fm) = decide (j = Z.bs.length) := by
        unfold isN
        simp only [Bool.not_false, Bool.true_and]
        rw [hn]
        by_cases e : j = Z.bs.length
        · subst e; simp
        · rw [decide_eq_false e, beq_eq_false_iff_ne]; exact fun h => e h.symm
      rw [this]
      by_cases e : j = Z.bs.length
      · simp [e]; omega
      · simp [e]
  have hz : ∀ c, cN Z.bs.length (Z.S.T c) = 0 := fun c => by
    unfold cN
    refine List.countP_eq_zero.2 fun x hx hc => ?_
    unfold isN at hc
    simp only [Bool.and_eq_true, Bool.not_eq_true', beq_iff_eq] at hc
    obtain ⟨j, h1, _, _⟩ := h.g c x hx hc.1
    have h2 := (h.nm j _ h1).1
    have h4 := (List.getElem?_eq_some_iff.1 h1).1
    omega
  refine ⟨by rw [eS]; exact hwb, by rw [eS]; exact hob, both b ?_ ?_, both b ?_ ?_, both b ?_ ?_, ?_, ?_, ?_, fun j g hg => ?_, fun v hv => ?_, both b ?_ ?_, fun c x hx => ?_, fun j v hv => ?_⟩
  · rw [et1, eAb, r5]
  · rw [et2, eAo]; exact h.t _
  · rw [ef, eAb, r2]; exact h.f2 b
  · rw [ef, eAo]; exact h.f2 _
  · rw [ef, eAb, r3]; exact h.f3 b
  · rw [ef, eAo]; exact h.f3 _
  · rw [ep, eb, List.length_append, List.length_append, h.pl]; rfl
  · rw [el, eb, List.length_append, List.length_append, h.ll]; rfl
  · rw [eb, List.length_append]; show _ + 1 ≤ _; omega
  · rw [eb] at hg
    by_cases e : j < Z.bs.length
    · rw [List.getElem?_append_left e] at hg; exact h.nm j g hg
    · rw [List.getElem?_append_right (by omega)] at hg
      have h6 := (List.getElem?_eq_some_iff.1 hg).1
      have h7 : j = Z.bs.length := by have : j - Z.bs.length < 1 := h6; omega
      subst h7
      rw [Nat.sub_self] at hg
      obtain rfl : f = g := Option.some.inj hg
      exact ⟨hn, h3⟩
  · rw [el] at hv
    rcases List.mem_append.1 hv with hv | hv
    · have := h.lo v hv; omega
    · obtain rfl := List.mem_singleton.1 hv; omega
  · intro x hx hb
    rcases hT x hx with h1 | rfl
    · obtain ⟨j, h6, h7, h8⟩ := h.g b x h1 hb
      have hj := (List.getElem?_eq_some_iff.1 h6).1
      exact ⟨j, by rw [eb, List.getElem?_append_left hj]; exact h6, by rw [ep, List.getElem?_append_left (by rw [h.pl]; exact hj)]; exact h7, h8⟩
    · exact ⟨Z.bs.length, by rw [eb, List.getElem?_append_right (Nat.le_refl _), Nat.sub_self]; rfl, by rw [ep, ← h.pl, List.getElem?_append_right (Nat.le_refl _), Nat.sub_self]; rfl, hs⟩
  · intro x hx hb
    rw [hTo] at hx
    obtain ⟨j, h6, h7, h8⟩ := h.g (!b) x hx hb
    have hj := (List.getElem?_eq_some_iff.1 h6).1
    exact ⟨j, by rw [eb, List.getElem?_append_left hj]; exact h6, by rw [ep, List.getElem?_append_left (by rw [h.pl]; exact hj)]; exact h7, h8⟩
  · rw [eL] at hx; rw [eN]; exact h.y c x hx
  · have h1 := hcb j
    have h2 : cN j (Z'.S.T (!b)) = cN j (Z.S.T (!b)) := by rw [hTo]
    have hsum : cN j (Z'.S.T false) + cN j (Z'.S.T true) = cN j (Z'.S.T b) + cN j (Z'.S.T (!b)) := by cases b; rfl; exact Nat.add_comm _ _
    have hsum2 : cN j (Z.S.T false) + cN j (Z.S.T true) = cN j (Z.S.T b) + cN j (Z.S.T (!b)) := by cases b; rfl; exact Nat.add_comm _ _
    rw [el] at hv
    by_cases e : j < Z.le.length
    · rw [List.getElem?_append_left e] at hv
      have h6 := h.c j v hv
      rw [if_neg (by rw [← h.ll]; omega)] at h1
      omega
    · rw [List.getElem?_append_right (by omega)] at hv
      have h6 := (List.getElem?_eq_some_iff.1 hv).1
      have h7 : j = Z.le.length := by have : j - Z.le.length < 1 := h6; omega
      rw [h7, Nat.sub_self] at hv
      obtain rfl : (1 : Int) = v := Option.some.inj hv
      rw [h.ll] at h7
      subst h7
      rw [if_pos rfl] at h1
      have h8 := hz b
      have h9 := hz (!b)
      omega
end
end Go.Proofs.Ytcilikkljkdceaa

/-
  The rig, with the document's wire opened.
-/
namespace Go.Proofs.Ytcilikkljkdceaa
open Go.RowKit
section
variable {w : World} {g wd d0 d1 vd e0 e1 : Nat} {G1 G2 : Nat → Prop} {R : Rg}
abbrev RgO (g wd d0 d1 vd e0 e1 : Nat) (G1 : Nat → Prop) (M : WM) (R : Rg) : List Res := [rBlk g [pt d0 0, pt d1 0, pt wd 0, pt e0 0, pt e1 0, pt vd 0, iw R.t0, iw R.t1, iw R.f0, iw R.f1] 41, rWp wd d0 d1 G1 R.S] ++ WLm 100 92 46 vd e0 e1 M R.V.A0 R.V.A1 R.V.now
end
theorem see_in {S : Wi} {b : Bool} {k : Int} {x : Fm} (h0 : 0 ≤ k) (hx : (S.L b)[k.toNat]? = some x) : (seeW S b k, thereF (S.L b) k) = (x, 0) := by
  have hl : k.toNat < (S.L b).length := (List.getElem?_eq_some_iff.1 hx).1
  have e : thereF (S.L b) k = 0 := by unfold thereF; rw [if_neg (by simp; omega)]
  unfold seeW
  rw [e, if_pos rfl, List.getD_eq_getElem?_getD, hx]; rfl
section
variable {P : Program} {X : Cx} {Q : Exit → Act → World → Prop} {m : List (Nat × Value)} {l : List Res}
theorem SC.weakN {c : Code} {r : Res} (i : Nat) (r' : Res) (hi : l[i]? = some r) (hr : ∀ w, r.ok w → r'.ok w) (hf : ∀ b, r'.fp b → r.fp b) (h : SC P X c Q m (l.set i r')) : SC P X c Q m l := fun a w hf' hI => h a w hf' (hI.weak hi (hr w) hf)
end
end Go.Proofs.Ytcilikkljkdceaa

/-
  A frame doubled, a frame delivered: what WireBrings keeps: plain.
-/
namespace Go.Proofs.Ytcilikkljkdceaa
open Go.RowKit
section
variable {n : Nat} {Z : Br} {b : Bool} {k dir : Int} {x : Fm}
theorem dbl_cases (S : Wi) (dir k : Int) : ((seeD S dir k).2 ≠ 0 ∧ (doubleD S dir k).2 = S) ∨ ∃ b x, (S.L b)[k.toNat]? = some x ∧ 0 ≤ k ∧ seeD S dir k = (x, 0) ∧ doubleD S dir k = (0, S.setL b (S.L b ++ [x])) := by
  have one : ∀ b, (thereF (S.L b) k ≠ 0 ∧ (doubleF S b k).2 = S) ∨ ∃ x, (S.L b)[k.toNat]? = some x ∧ 0 ≤ k ∧ (seeW S b k, thereF (S.L b) k) = (x, 0) ∧ doubleF S b k = (0, S.setL b (S.L b ++ [x])) := fun b => by
    by_cases h : thereF (S.L b) k = 0
    · obtain ⟨h0, h1, x, hx⟩ := there_get h
      refine .inr ⟨x, hx, h0, see_in h0 hx, ?_⟩
      unfold doubleF
      rw [h, if_pos (by decide), List.getD_eq_getElem?_getD, hx]; rfl
    · refine .inl ⟨h, ?_⟩
      unfold doubleF
      rw [if_neg (by simpa using h)]
  rcases dirC dir with rfl | rfl | hd
  · rcases one false with ⟨h1, h2⟩ | ⟨x, h⟩
    · exact .inl ⟨h1, h2⟩
    · exact .inr ⟨false, x, h⟩
  · rcases one true with ⟨h1, h2⟩ | ⟨x, h⟩
    · exact .inl ⟨h1, h2⟩
    · exact .inr ⟨true, x, h⟩
  · refine .inl ⟨?_, ?_⟩
    · rw [show seeD S dir k = (fm0, 1) from dirX hd _ _]; exact show (1 : Int) ≠ 0 by decide
    · rw [show doubleD S dir k = (1, S) from dirX hd _ _]
theorem sub_snoc {l : List Fm} (h : x ∈ l ∨ x.bad = true) : (∀ y ∈ l ++ [x], y.bad = false → y ∈ l) := fun y hy hb => by
  rcases List.mem_append.1 hy with hy | hy
  · exact hy
  · obtain rfl := List.mem_singleton.1 hy
    rcases h with h | h
    · exact h
    · rw [h] at hb; cases hb
theorem dbl_no (h : BI n Z) (hx : ¬ ((seeD Z.S dir k).2 = 0 ∧ (doubleD Z.S dir k).1 = 0 ∧ (seeD Z.S dir k).1.bad = false)) : BI (n + 1) { Z with S := (doubleD Z.S dir k).2 } := by
  have hw := h.wb.doubleD dir k
  have ho := on_double h.on dir k
  refine h.shr ?_ hw ho (Nat.le_succ n)
  rcases dbl_cases Z.S dir k with ⟨_, e⟩ | ⟨b, x, h1, _, h2, h3⟩
  · rw [e]; exact Shr.refl _
  · rw [h2, h3] at hx
    rw [h3]
    have hb : x.bad = true := by
      cases hb : x.bad
      · exact absurd ⟨rfl, rfl, hb⟩ hx
      · rfl
    refine Shr.list ⟨sub_snoc (.inr hb), fun j => ?_⟩ fun hy y hm => ?_
    · unfold cN; rw [List.countP_append, List.countP_singleton]; simp [isN, hb]
    · rcases List.mem_append.1 hm with hm | hm
      · exact hy y hm
      · obtain rfl := List.mem_singleton.1 hm; exact hy _ (List.mem_of_getElem? h1)
theorem dbl_yes (h : BI n Z) (h1 : (seeD Z.S dir k).2 = 0) (h2 : (seeD Z.S dir k).1.bad = false) : ∃ v, Z.le[numF (seeD Z.S dir k).1.f]? = some v ∧ 3 ≤ (seeD Z.S dir k).1.f.length ∧ 1 ≤ v ∧ v ≤ (n : Int) + 1 ∧
    BI (n + 1) { Z with S := (doubleD Z.S dir k).2, le := Z.le.set (numF (seeD Z.S dir k).1.f) (v + 1) } := by
  have hw := h.wb.doubleD dir k
  have ho := on_double h.on dir k
  rcases dbl_cases Z.S dir k with ⟨e, _⟩ | ⟨b, x, hx, _, e2, e3⟩
  · exact absurd h1 e
  · rw [e2] at h2 ⊢
    rw [e3] at hw ho ⊢
    simp only at h2 hw ho ⊢
    have hL : x ∈ Z.S.L b := List.mem_of_getElem? hx
    have hm : x ∈ Z.S.T b := List.mem_append_left _ hL
    obtain ⟨v, g1, g2, g3, g4, g5, g6⟩ := num_of h hm h2
    have hlo := h.lo v (List.mem_of_getElem? g5)
    refine ⟨v, g5, g4, g6, hlo.2, ?_⟩
    have hTb : (Z.S.setL b (Z.S.L b ++ [x])).T b = Z.S.L b ++ [x] ++ pend (Z.S.A b) := by unfold Wi.T; rw [sL_self, sL_A]
    have hTo : (Z.S.setL b (Z.S.L b ++ [x])).T (!b) = Z.S.T (!b) := by unfold Wi.T; rw [sL_oth, sL_A]
    refine h.left (S' := Z.S.setL b (Z.S.L b ++ [x])) (both b ?_ ?_) (both b ?_ ?_) (fun c => by rw [sL_A]) (numF x.f) v 1 g5 (by omega) (fun i => ?_) hw ho (Nat.le_succ n) rfl (fun c => ?_) (fun c => ?_)
    · rw [hTb]
      intro y hy hb
      rcases List.mem_append.1 hy with hy | hy
      · exact List.mem_append_left _ (sub_snoc (.inl hL) y hy hb)
      · exact List.mem_append_right _ hy
    · rw [hTo]; exact fun y hy _ => hy
    · rw [sL_self, sL_now]
      intro y hy
      rcases List.mem_append.1 hy with hy | hy
      · exact h.y b y hy
      · obtain rfl := List.mem_singleton.1 hy; exact h.y b _ hL
    · rw [sL_oth, sL_now]; exact h.y _
    · have e1 : cN i ((Z.S.setL b (Z.S.L b ++ [x])).T b) = cN i (Z.S.T b) + (if i = numF x.f then 1 else 0) := by
        rw [hTb]
        unfold Wi.T cN
        rw [List.countP_append, List.countP_append, List.countP_append, List.countP_singleton]
        have : isN i x = decide (i = numF x.f) := by
          unfold isN; rw [h2]; simp only [Bool.not_false, Bool.true_and]
          by_cases e : i = numF x.f
          · subst e; simp
          · rw [decide_eq_false e, beq_eq_false_iff_ne]; exact fun h => e h.symm
        rw [this]
        by_cases e : i = numF x.f
        · simp [e]; omega
        · simp [e]
      have e2 : cN i ((Z.S.setL b (Z.S.L b ++ [x])).T (!b)) = cN i (Z.S.T (!b)) := by rw [hTo]
      have s1 : ∀ S : Wi, cN i (S.T false) + cN i (S.T true) = cN i (S.T b) + cN i (S.T (!b)) := fun S => by cases b; rfl; exact Nat.add_comm _ _
      rw [s1, s1 Z.S, e1, e2]
      by_cases e : i = numF x.f <;> simp [e]; omega
    · rw [sL_A]; exact h.f2 c
    · rw [sL_A]; exact h.f3 c
def offerA (A : NicA) (f : Int) : NicA := (writeF (setRxF A f 274).2 3 (nx f)).2
theorem offer_is {A : NicA} (hk : NicOk A) (h2 : A.r 2 = A.r 3) : offerA A (A.r 2) = { A with room := up A.room (A.r 2).toNat 274, has := up A.has (A.r 2).toNat false, cb := up A.cb (A.r 2).toNat [], bad := up A.bad (A.r 2).toNat false, r := up A.r 3 (nx (A.r 2)) } := by
  have e : (setRxF A (A.r 2) 274).2 = { A with room := up A.room (A.r 2).toNat 274, has := up A.has (A.r 2).toNat false, cb := up A.cb (A.r 2).toNat [], bad := up A.bad (A.r 2).toNat false } := by
    have h3 := hk.h2
    unfold setRxF
    rw [if_neg]
    unfold hostB
    rw [← h2]
    simp
    omega
  have hnx := @nx_bd (A.r 2)
  unfold offerA
  rw [e]
  unfold writeF
  rw [if_neg (by omega), if_neg (by omega), if_neg (by omega), if_neg (by decide), if_pos rfl]
  rfl
theorem nx_ne {i : Int} (h : 0 ≤ i ∧ i < 16) : i ≠ nx i := by unfold nx; omega
section
variable {A : NicA} {f : List UInt8} {bad : Bool}
theorem offer_back (hk : NicOk A) (h2 : A.r 2 = A.r 3) : (writeF (offerA A (A.r 2)) 3 (A.r 2)).2.r = A.r ∧ (writeF (offerA A (A.r 2)) 3 (A.r 2)).2.tb = A.tb ∧ (writeF (offerA A (A.r 2)) 3 (A.r 2)).2.tp = A.tp := by
  have h3 := hk.h2
  rw [offer_is hk h2]
  unfold writeF
  rw [if_neg (by omega), if_neg (by omega), if_neg (by omega), if_neg (by decide), if_pos rfl]
  refine ⟨?_, rfl, rfl⟩
  funext j
  show up (up A.r 3 (nx (A.r 2))) 3 (A.r 2) j = A.r j
  unfold up
  split
  · rename_i e; rw [e]; exact h2
  · rfl
theorem offer_give (hk : NicOk A) (ho : onA' A) (h2 : A.r 2 = A.r 3) (hf : f.length ≤ 274) : (giveF (offerA A (A.r 2)) f bad).1 = 0 ∧ rxR (giveF (offerA A (A.r 2)) f bad).2 (A.r 2) = ((f, bad), 0) ∧
    (giveF (offerA A (A.r 2)) f bad).2.r 2 = nx (A.r 2) ∧ (giveF (offerA A (A.r 2)) f bad).2.r 3 = nx (A.r 2) ∧ (giveF (offerA A (A.r 2)) f bad).2.r 5 = A.r 5 ∧ pend (giveF (offerA A (A.r 2)) f bad).2 = pend A := by
  have h3 := hk.h2
  have e : giveF (offerA A (A.r 2)) f bad = (0, comeA (offerA A (A.r 2)) f bad) := by
    rw [offer_is hk h2]
    unfold giveF
    rw [if_neg, if_neg, if_neg]
    · show ¬ (up A.room (A.r 2).toNat 274 ((up A.r 3 (nx (A.r 2)) 2)).toNat < (f.length : Int))
      rw [show up A.r 3 (nx (A.r 2)) 2 = A.r 2 from rfl, up_same]
      omega
    · show ¬ (up A.r 3 (nx (A.r 2)) 2 = up A.r 3 (nx (A.r 2)) 3)
      rw [show up A.r 3 (nx (A.r 2)) 2 = A.r 2 from rfl, up_same]
      exact nx_ne h3
    · have : offB { A with room := up A.room (A.r 2).toNat 274, has := up A.has (A.r 2).toNat false, cb := up A.cb (A.r 2).toNat [], bad := up A.bad (A.r 2).toNat false, r := up A.r 3 (nx (A.r 2)) } = false := on_off ho
      rw [this]; decide
  rw [e, offer_is hk h2]
  refine ⟨rfl, ?_, ?_, ?_, ?_, pend_same rfl rfl rfl rfl⟩
  · unfold rxR
    rw [if_neg (by omega), if_neg]
    · show ((up (up A.cb (A.r 2).toNat []) (A.r 2).toNat f (A.r 2).toNat, up (up A.bad (A.r 2).toNat false) (A.r 2).toNat bad (A.r 2).toNat), (0 : Int)) = _
      rw [up_same, up_same]
    · show ¬ (up (up A.has (A.r 2).toNat false) (A.r 2).toNat true (A.r 2).toNat = false)
      rw [up_same]; decide
  · rfl
  · rfl
  · rfl
end
theorem dlv_wb (h : BI n Z) (b : Bool) : Wb n (Z.S.setA b (offerA (Z.S.A b) (Z.f b))) := h.wb.setA b (((h.wb.d b).setRx _ _).write h.wb.now.1 3 _)
theorem dlv_no (h : BI n Z) (hx : (deliverF (Z.S.setA (!b) (offerA (Z.S.A (!b)) (Z.f (!b)))) b k).1 ≠ 0) : (deliverF (Z.S.setA (!b) (offerA (Z.S.A (!b)) (Z.f (!b)))) b k).1 = 7 ∧
    BI n { Z with S := ((deliverF (Z.S.setA (!b) (offerA (Z.S.A (!b)) (Z.f (!b)))) b k).2).setA (!b) (writeF ((deliverF (Z.S.setA (!b) (offerA (Z.S.A (!b)) (Z.f (!b)))) b k).2.A (!b)) 3 (Z.f (!b))).2 } := by
  have hk := (h.wb.d (!b)).ok
  have e23 : (Z.S.A (!b)).r 2 = (Z.S.A (!b)).r 3 := by rw [← h.f2, h.f3]
  have hw := dlv_wb h (!b)
  rw [h.f2] at hx hw ⊢
  obtain ⟨S2, hS2⟩ : ∃ S2, Z.S.setA (!b) (offerA (Z.S.A (!b)) ((Z.S.A (!b)).r 2)) = S2 := ⟨_, rfl⟩
  have hL : ∀ c, S2.L c = Z.S.L c := fun c => by rw [← hS2, sA_L]
  have hA : S2.A (!b) = offerA (Z.S.A (!b)) ((Z.S.A (!b)).r 2) := by rw [← hS2, sA_self]
  have hAo : S2.A b = Z.S.A b := by rw [← hS2]; have := sA_oth Z.S (!b) (offerA (Z.S.A (!b)) ((Z.S.A (!b)).r 2)); rwa [Bool.not_not] at this
  rw [hS2] at hx hw ⊢
  have he : deliverF S2 b k = (7, S2) := by
    by_cases ht : thereF (S2.L b) k = 0
    · obtain ⟨h0, h1, x, hx2⟩ := there_get ht
      have eg : (S2.L b).getD k.toNat fm0 = x := by rw [List.getD_eq_getElem?_getD, hx2]; rfl
      exfalso
      unfold deliverF at hx
      rw [ht, if_neg (by decide), eg, hA] at hx
      exact hx (offer_give hk (on_at h.on _) e23 ((hw.l b).2 x (List.mem_of_getElem? hx2)).1).1
    · have e7 : thereF (S2.L b) k = 7 := by rw [there_is] at ht ⊢; split at ht; exact absurd rfl ht; rename_i h9; rw [if_neg h9]
      unfold deliverF
      rw [if_pos (by rw [e7]; decide), e7]
  rw [he]
  refine ⟨rfl, h.shr (S' := S2.setA (!b) (writeF (S2.A (!b)) 3 ((Z.S.A (!b)).r 2)).2) ?_ (hw.setA (!b) ((hw.d (!b)).write hw.now.1 3 _)) (on_set (!b) (by rw [← hS2]; exact on_set (!b) h.on fun ho => on_write (.inl rfl) (on_rx ho)) fun ho => on_write (.inl rfl) ho) (Nat.le_refl n)⟩
  have hb := offer_back hk e23
  have hAf : (S2.setA (!b) (writeF (S2.A (!b)) 3 ((Z.S.A (!b)).r 2)).2).A (!b) = (writeF (offerA (Z.S.A (!b)) ((Z.S.A (!b)).r 2)) 3 ((Z.S.A (!b)).r 2)).2 := by rw [sA_self, hA]
  have hAg : (S2.setA (!b) (writeF (S2.A (!b)) 3 ((Z.S.A (!b)).r 2)).2).A b = Z.S.A b := by have := sA_oth S2 (!b) (writeF (S2.A (!b)) 3 ((Z.S.A (!b)).r 2)).2; rw [Bool.not_not] at this; rw [this, hAo]
  have hN : S2.now = Z.S.now := by rw [← hS2, sA_now]
  refine ⟨both b ?_ ?_, fun hy c => ?_, both b ?_ ?_⟩
  · unfold Wi.T; rw [sA_L, hL, hAg]; exact Sub.refl _
  · unfold Wi.T; rw [sA_L, hL, hAf, pend_same (by rw [hb.1]) (by rw [hb.1]) hb.2.1 hb.2.2]; exact Sub.refl _
  · rw [sA_L, hL, sA_now, hN]; exact hy c
  · rw [hAg]; exact ⟨rfl, rfl, rfl⟩
  · rw [hAf, hb.1]; exact ⟨rfl, rfl, rfl⟩
theorem dlv_ok (h : BI n Z) (hx : (deliverF (Z.S.setA (!b) (offerA (Z.S.A (!b)) (Z.f (!b)))) b k).1 = 0) : ∃ x : Fm, rxR ((deliverF (Z.S.setA (!b) (offerA (Z.S.A (!b)) (Z.f (!b)))) b k).2.A (!b)) (Z.f (!b)) = ((x.f, x.bad), 0) ∧
    (x.bad = true → BI n (Br.setF { Z with S := (deliverF (Z.S.setA (!b) (offerA (Z.S.A (!b)) (Z.f (!b)))) b k).2 } (!b) (nx (Z.f (!b))))) ∧
    (x.bad = false → ∃ v, Z.bs[numF x.f]? = some x.f ∧ Z.po[numF x.f]? = some x.tick ∧ x.f[2]? = some (sd8 b) ∧ 3 ≤ x.f.length ∧ Z.le[numF x.f]? = some v ∧ 1 ≤ v ∧ v ≤ (n : Int) + 1 ∧ (Z.S.now - x.tick < 8 ∧ 0 ≤ x.tick) ∧
      BI n (Br.setF { Z with S := (deliverF (Z.S.setA (!b) (offerA (Z.S.A (!b)) (Z.f (!b)))) b k).2, le := Z.le.set (numF x.f) (v - 1) } (!b) (nx (Z.f (!b))))) := by
  have hk := (h.wb.d (!b)).ok
  have e23 : (Z.S.A (!b)).r 2 = (Z.S.A (!b)).r 3 := by rw [← h.f2, h.f3]
  have hw := dlv_wb h (!b)
  have hf2 := h.f2 (!b)
  rw [hf2] at hx hw ⊢
  obtain ⟨S2, hS2⟩ : ∃ S2, Z.S.setA (!b) (offerA (Z.S.A (!b)) ((Z.S.A (!b)).r 2)) = S2 := ⟨_, rfl⟩
  have hL : ∀ c, S2.L c = Z.S.L c := fun c => by rw [← hS2, sA_L]
  have hA : S2.A (!b) = offerA (Z.S.A (!b)) ((Z.S.A (!b)).r 2) := by rw [← hS2, sA_self]
  have hAo : S2.A b = Z.S.A b := by rw [← hS2]; have := sA_oth Z.S (!b) (offerA (Z.S.A (!b)) ((Z.S.A (!b)).r 2)); rwa [Bool.not_not] at this
  have hN : S2.now = Z.S.now := by rw [← hS2, sA_now]
  have hon2 : onW S2 := by rw [← hS2]; exact on_set (!b) h.on fun ho => on_write (.inl rfl) (on_rx ho)
  have hwd : Wb n (deliverF S2 b k).2 := (hS2 ▸ hw).deliver b k
  have hond : onW (deliverF S2 b k).2 := by
    have : deliverD S2 (if b then 1 else 0) k = deliverF S2 b k := by cases b <;> rfl
    rw [← this]; exact on_deliver hon2 _ _
  rw [hS2] at hx hw ⊢
  have ht : thereF (S2.L b) k = 0 := Classical.byContradiction fun ht => by
    unfold deliverF at hx
    rw [if_pos (by simpa using ht)] at hx
    exact ht hx
  obtain ⟨h0, h1, x, hx2⟩ := there_get ht
  have eg : (S2.L b).getD k.toNat fm0 = x := by rw [List.getD_eq_getElem?_getD, hx2]; rfl
  have hxl := ((hw.l b).2 x (List.mem_of_getElem? hx2)).1
  obtain ⟨o1, o2, o3, o4, o5, o6⟩ := offer_give (bad := x.bad) hk (on_at h.on _) e23 hxl
  have he : (deliverF S2 b k).2 = (S2.setL b (outF (S2.L b) k)).setA (!b) (giveF (offerA (Z.S.A (!b)) ((Z.S.A (!b)).r 2)) x.f x.bad).2 := by
    unfold deliverF
    rw [ht, if_neg (by decide), eg, hA]
  rw [he] at hwd hond ⊢
  obtain ⟨B, hB⟩ : ∃ B, (giveF (offerA (Z.S.A (!b)) ((Z.S.A (!b)).r 2)) x.f x.bad).2 = B := ⟨_, rfl⟩
  rw [hB] at o2 o3 o4 o5 o6 hwd hond ⊢
  obtain ⟨S3, hS3⟩ : ∃ S3, (S2.setL b (outF (S2.L b) k)).setA (!b) B = S3 := ⟨_, rfl⟩
  have hA3 : S3.A (!b) = B := by rw [← hS3, sA_self]
  have hA3o : S3.A b = Z.S.A b := by rw [← hS3]; have := sA_oth (S2.setL b (outF (S2.L b) k)) (!b) B; rw [Bool.not_not] at this; rw [this, sL_A, hAo]
  have hL3 : S3.L b = outF (Z.S.L b) k := by rw [← hS3, sA_L, sL_self, hL]
  have hL3o : S3.L (!b) = Z.S.L (!b) := by rw [← hS3, sA_L, sL_oth, hL]
  have hN3 : S3.now = Z.S.now := by rw [← hS3, sA_now, sL_now, hN]
  have hT3 : S3.T b = outF (Z.S.L b) k ++ pend (Z.S.A b) := by unfold Wi.T; rw [hL3, hA3o]
  have hT3o : S3.T (!b) = Z.S.T (!b) := by unfold Wi.T; rw [hL3o, hA3, o6]
  rw [hL] at hx2
  rw [hS3] at hwd hond ⊢
  have hsl := out_sl (Z.S.L b) k
  have hmem : ∀ c, ∀ y ∈ S3.T c, y.bad = false → y ∈ Z.S.T c := both b (by
    rw [hT3]
    intro y hy _
    rcases List.mem_append.1 hy with hy | hy
    · exact List.mem_append_left _ (hsl.subset hy)
    · exact List.mem_append_right _ hy) (by rw [hT3o]; exact fun y hy _ => hy)
  have hyg : ∀ c, ∀ y ∈ S3.L c, S3.now - y.tick < 8 := both b (by rw [hL3, hN3]; exact fun y hy => h.y b y (hsl.subset hy)) (by rw [hL3o, hN3]; exact h.y _)
  have hr5 : ∀ c, (S3.A c).r 5 = (Z.S.A c).r 5 := both b (by rw [hA3o]) (by rw [hA3, o5])
  have hcut := cut_at hx2
  have hcb : ∀ i, cN i (Z.S.T b) = cN i (S3.T b) + (if isN i x = true then 1 else 0) := fun i => by
    rw [hT3]
    unfold Wi.T cN
    rw [List.countP_append, List.countP_append]
    have : List.countP (isN i) (Z.S.L b) = List.countP (isN i) (outF (Z.S.L b) k) + (if isN i x = true then 1 else 0) := by
      conv => lhs; rw [hcut]
      unfold outF
      rw [List.countP_append, List.countP_append, List.countP_cons]
      omega
    omega
  have s1 : ∀ (i : Nat) (S : Wi), cN i (S.T false) + cN i (S.T true) = cN i (S.T b) + cN i (S.T (!b)) := fun i S => by cases b; rfl; exact Nat.add_comm _ _
  have hf : ∀ (Z1 : Br), Z1.f0 = Z.f0 → Z1.f1 = Z.f1 → ∀ c, (Br.setF Z1 (!b) (nx ((Z.S.A (!b)).r 2))).f c = (S3.A c).r 2 ∧ (Br.setF Z1 (!b) (nx ((Z.S.A (!b)).r 2))).f c = (S3.A c).r 3 := fun Z1 q0 q1 => both b (by
      rw [hA3o, ← h.f2 b, ← h.f3 b]
      cases b
      · exact ⟨q0, q0⟩
      · exact ⟨q1, q1⟩) (by
      rw [hA3, o3, o4]
      cases b <;> exact ⟨rfl, rfl⟩)
  have hTx : x ∈ Z.S.T b := List.mem_append_left _ (List.mem_of_getElem? hx2)
  refine ⟨x, by rw [hA3]; exact o2, fun hbad => ?_, fun hbad => ?_⟩
  · refine h.frees (S' := S3) hmem hyg hr5 (fun i => ?_) hwd hond (Nat.le_refl n) ?_ (fun c => (hf { Z with S := S3 } rfl rfl c).1) (fun c => (hf { Z with S := S3 } rfl rfl c).2)
    · rw [s1, s1 i Z.S, hcb, hT3o]; omega
    · cases b <;> rfl
  · obtain ⟨v, g1, g2, g3, g4, g5, g6⟩ := num_of h hTx hbad
    have hlo := h.lo v (List.mem_of_getElem? g5)
    have hxw := (h.wb.l b).2 x (List.mem_of_getElem? hx2)
    refine ⟨v, g1, g2, g3, g4, g5, g6, hlo.2, ⟨h.y b x (List.mem_of_getElem? hx2), hxw.2.1⟩, ?_⟩
    refine h.left (S' := S3) hmem hyg hr5 (numF x.f) v (-1) g5 (by omega) (fun i => ?_) hwd hond (Nat.le_refl n) ?_ (fun c => (hf { Z with S := S3, le := Z.le.set (numF x.f) (v - 1) } rfl rfl c).1) (fun c => (hf { Z with S := S3, le := Z.le.set (numF x.f) (v - 1) } rfl rfl c).2)
    · rw [s1, s1 i Z.S, hcb i, hT3o]
      have : isN i x = decide (i = numF x.f) := by
        unfold isN; rw [hbad]; simp only [Bool.not_false, Bool.true_and]
        by_cases e : i = numF x.f
        · subst e; simp
        · rw [decide_eq_false e, beq_eq_false_iff_ne]; exact fun h => e h.symm
      rw [this]
      by_cases e : i = numF x.f
      · simp [e]; omega
      · simp [e]
    · cases b <;> rfl
end
end Go.Proofs.Ytcilikkljkdceaa

/-
  What WireBrings has in memory.
-/
namespace Go.Proofs.Ytcilikkljkdceaa
open Go.RowKit
abbrev iRw (l : List Int) : List (List Value) := l.map fun v => [iw v]
abbrev vRw (l : List (Value × List UInt8)) : List (List Value) := l.map fun p => [p.1]
theorem iRw_set (l : List Int) (i : Nat) (v : Int) : (iRw l).set i [iw v] = iRw (l.set i v) := List.map_set.symm
structure BrM where
  S : Wi
  t0 : Int
  t1 : Int
  f0 : Int
  f1 : Int
  po : List Int
  qp : Option Addr
  cp : Nat
  ps : List (Value × List UInt8)
  qb : Option Addr
  cb : Nat
  le : List Int
  ql : Option Addr
  cl : Nat
  F : Nat → Prop
  fs : Value → List UInt8 → Prop
def BrM.br (B : BrM) : Br := ⟨B.S, B.t0, B.t1, B.f0, B.f1, B.po, B.ps.map (·.2), B.le⟩
abbrev BrL (g wd d0 d1 vd e0 e1 : Nat) (G1 G2 : Nat → Prop) (V : Wi) (B : BrM) : List Res := [rBlk g [pt d0 0, pt d1 0, pt wd 0, pt e0 0, pt e1 0, pt vd 0, iw B.t0, iw B.t1, iw B.f0, iw B.f1] 41, rWp wd d0 d1 G1 B.S, rWq vd e0 e1 G2 V, rRowN (.slice B.qp B.po.length B.cp) (iRw B.po) 3 1, rRowN (.slice B.qb B.ps.length B.cb) (vRw B.ps) 28 1, rRowN (.slice B.ql B.le.length B.cl) (iRw B.le) 3 1, rZ B.F B.fs]
def GD (g : Nat) (G1 G2 : Nat → Prop) (ql : Option Addr) (n cl : Nat) (b : Nat) : Prop := RgZ g G1 G2 b ∨ (Value.slice ql n cl).ownBlock = some b
def DlTo (w : World) (g wd d0 d1 vd e0 e1 : Nat) (G1 G2 : Nat → Prop) (n : Nat) (V : Wi) (B : BrM) (w' : World) : Prop :=
  ∃ S' f0' f1' le' H1 H2, BI n ⟨S', B.t0, B.t1, f0', f1', B.po, B.ps.map (·.2), le'⟩ ∧ le'.length = B.le.length ∧ Sep w' (BrL g wd d0 d1 vd e0 e1 H1 H2 V { B with S := S', f0 := f0', f1 := f1', le := le' }) ∧
    (∀ b, H1 b → GD g G1 G2 B.ql B.le.length B.cl b ∨ w.heap.size ≤ b) ∧ (∀ b, H2 b → GD g G1 G2 B.ql B.le.length B.cl b ∨ w.heap.size ≤ b) ∧ Only (GD g G1 G2 B.ql B.le.length B.cl) w w'
section
variable {w w' : World} {g wd d0 d1 vd e0 e1 n : Nat} {G1 G2 H1 H2 : Nat → Prop} {V : Wi} {B : BrM} {X : Cx} {l : List Res}
theorem brl_fp {b : Nat} (h : GD g G1 G2 B.ql B.le.length B.cl b) : ∃ r ∈ BrL g wd d0 d1 vd e0 e1 G1 G2 V B, r.fp b := by
  rcases h with (h | h | h) | h
  · exact ⟨_, List.mem_cons_self, h⟩
  · exact ⟨rWp wd d0 d1 G1 B.S, by simp [BrL], h⟩
  · exact ⟨rWq vd e0 e1 G2 V, by simp [BrL], h⟩
  · exact ⟨rRowN (.slice B.ql B.le.length B.cl) (iRw B.le) 3 1, by simp [BrL], h⟩
theorem own_len (q : Option Addr) (n m c : Nat) : (Value.slice q n c).ownBlock = (Value.slice q m c).ownBlock := by cases q <;> rfl
theorem Inv.dlto (h : Inv X w (BrL g wd d0 d1 vd e0 e1 G1 G2 V B ++ l)) (hS : ∀ b, GD g G1 G2 B.ql B.le.length B.cl b → X.S b ∨ X.w0.heap.size ≤ b) (k : DlTo w g wd d0 d1 vd e0 e1 G1 G2 n V B w') :
    ∃ S' f0' f1' le' H1 H2, BI n ⟨S', B.t0, B.t1, f0', f1', B.po, B.ps.map (·.2), le'⟩ ∧ le'.length = B.le.length ∧ Inv X w' (BrL g wd d0 d1 vd e0 e1 H1 H2 V { B with S := S', f0 := f0', f1 := f1', le := le' } ++ l) ∧
      (∀ b, H1 b → X.S b ∨ X.w0.heap.size ≤ b) ∧ ∀ b, H2 b → X.S b ∨ X.w0.heap.size ≤ b := by
  obtain ⟨S', f0', f1', le', H1, H2, k1, k2, k3, k4, k5, k6⟩ := k
  have up : ∀ b, GD g G1 G2 B.ql B.le.length B.cl b ∨ w.heap.size ≤ b → X.S b ∨ X.w0.heap.size ≤ b := fun b hb => hb.elim (hS b) (fun e => .inr (Nat.le_trans h.2.size e))
  refine ⟨S', f0', f1', le', H1, H2, k1, k2, h.turned (Z := GD g G1 G2 B.ql B.le.length B.cl) ⟨k3, k6, fun r hr b hb => ?_⟩ (fun b hb => brl_fp hb) hS, fun b hb => up b (k4 b hb), fun b hb => up b (k5 b hb)⟩
  simp only [BrL, List.mem_cons, List.not_mem_nil, or_false] at hr
  rcases hr with rfl | rfl | rfl | rfl | rfl | rfl | rfl
  · exact .inl ⟨_, List.mem_cons_self, hb⟩
  · exact (k4 b hb).imp (fun e => brl_fp e) id
  · exact (k5 b hb).imp (fun e => brl_fp e) id
  · exact .inl ⟨rRowN (.slice B.qp B.po.length B.cp) (iRw B.po) 3 1, by simp [BrL], hb⟩
  · exact .inl ⟨rRowN (.slice B.qb B.ps.length B.cb) (vRw B.ps) 28 1, by simp [BrL], hb⟩
  · refine .inl (brl_fp (.inr ?_))
    rw [own_len B.ql B.le.length le'.length B.cl]; exact hb
  · exact .inl ⟨rZ B.F B.fs, by simp [BrL], hb⟩
theorem rx_lenb {A : NicA} (h : NicOk A) (i : Int) : (rxR A i).1.1.length ≤ 65535 := by
  unfold rxR
  split
  · simp
  · split
    · simp
    · exact h.cl i.toNat
theorem Inv.rxedb {U : TypeId} {v : Value} {f : List UInt8} (h : Inv X w l) (hl : f.length ≤ 140737488351232) (h3 : Only (fun _ => False) w w') (h4 : Out U w w' v f) : ∃ qa qc, v = .slice qa f.length qc ∧ Inv X w' (l ++ [rMine (.slice qa f.length qc) f U]) := by
  have k : OwnBytes w' 0 U v f ∧ ∀ b, v.ownBlock = some b → w.heap.size ≤ b := by
    rcases h4 with ⟨rfl, rfl⟩ | ⟨g, h1, rfl, h2⟩
    · exact ⟨ownb_nil w' U, fun b hb => by simp [Value.ownBlock] at hb⟩
    · exact ⟨ownb_new h2 hl, fun b hb => by simp [Value.ownBlock] at hb; omega⟩
  obtain ⟨qa, qc, rfl, _⟩ := k.1.form
  exact ⟨qa, qc, rfl, h.add h3 k.1 k.2⟩
theorem dlv_now (S : Wi) (b : Bool) (k : Int) : (deliverF S b k).2.now = S.now := by
  unfold deliverF
  split
  · rfl
  · cases b <;> rfl
theorem map_get {α β : Type} {f : α → β} {l : List α} {i : Nat} {y : β} (h : (l.map f)[i]? = some y) : ∃ x, l[i]? = some x ∧ f x = y := by
  rw [List.getElem?_map] at h
  cases hl : l[i]? with
  | none => rw [hl] at h; cases h
  | some x => rw [hl] at h; exact ⟨x, rfl, Option.some.inj h⟩
theorem get_lt {α : Type} {l : List α} {i : Nat} {x : α} (h : l[i]? = some x) : i < l.length := (List.getElem?_eq_some_iff.1 h).1
theorem three {f : List UInt8} (h : 3 ≤ f.length) : ∃ y0 y1 y2, f[0]? = some y0 ∧ f[1]? = some y1 ∧ f[2]? = some y2 ∧ 256 * (y0.toNat : Int) + (y1.toNat : Int) = (numF f : Int) := by
  match f, h with
  | y0 :: y1 :: y2 :: r, _ => exact ⟨y0, y1, y2, rfl, rfl, rfl, by unfold numF; simp⟩
end
end Go.Proofs.Ytcilikkljkdceaa

/-
  room, side.
-/
namespace Go.Proofs.Ytcilikkljkdceaa
open Go.RowKit
set_option maxRecDepth 100000
set_option maxHeartbeats 4000000
theorem side_r (n : Int) : -1 ≤ Int.tmod n 2 ∧ Int.tmod n 2 ≤ 1 ∧ (Int.tmod n 2 + 2) % 2 = n % 2 := by
  have h := Int.tmod_add_mul_tdiv n 2
  have h1 : Int.tmod n 2 < 2 := Int.tmod_lt_of_pos n (by decide)
  have h2 : -2 < Int.tmod n 2 := by
    have h3 := Int.tmod_lt_of_pos (-n) (b := 2) (by decide)
    rw [Int.neg_tmod] at h3
    omega
  omega
theorem side_w (n : Int) : IntKind.i64.wrap (Int.tmod n 2 + 2) = Int.tmod n 2 + 2 := by have := side_r n; rw [IntKind.wrap_i64]; omega
theorem side_m (n : Int) : Int.tmod (Int.tmod n 2 + 2) 2 = n % 2 := by have := side_r n; rw [Int.tmod_eq_emod_of_nonneg (by omega)]; exact this.2.2
theorem side_any {w : World} (n : Int) : Calls Try.prog 9 #[iw n] w fun e w' => e = .returned (iw (n % 2)) ∧ Only (fun _ => False) w w' := by
  refine calls_sc (l0 := []) (args := [iw n]) (fun _ => False) Try.func9 rfl 7 Try.ntmps9 (le_b rfl) ⟨⟨by simp, List.Pairwise.nil⟩, Only.refl _ _⟩ ?_
  show SC _ _ _ _ [(0, iw n)] []
  refine SC.sr ?_
  refine SL.as ?_
  refine SL.nl ?_
  refine SC.sr ?_
  refine SL.mv ?_
  refine SL.uu (ru_rem (r := (Int.tmod n 2)) rfl rfl rfl (by decide) rfl) ?_
  refine SL.uu (ru_add (r := (Int.tmod n 2 + 2)) rfl rfl rfl ((side_w n))) ?_
  refine SL.uu (ru_rem (r := (n % 2)) rfl rfl rfl (by decide) ((side_m n))) ?_
  refine SL.as ?_
  refine SL.nl ?_
  refine SC.ret ?_
  refine SE.res (.inl rfl) (res1 Try.results9 rfl) fun w1 hI => ⟨rfl, hI.2⟩

end Go.Proofs.Ytcilikkljkdceaa

/-
  delivered.
-/
namespace Go.Proofs.Ytcilikkljkdceaa
open Go.RowKit
set_option maxRecDepth 100000
set_option maxHeartbeats 4000000
theorem dlv0_any {n : Nat} {w : World} {g wd d0 d1 vd e0 e1 : Nat} {G1 G2 : Nat → Prop} {S V : Wi} {t0 t1 f0 f1 : Int} {po : List Int} {qp : Option Addr} {cp : Nat} {ps : List (Value × List UInt8)} {qb : Option Addr} {cb : Nat} {le : List Int} {ql : Option Addr} {cl : Nat} {F : Nat → Prop} {fs : Value → List UInt8 → Prop} {k kk to : Int} {va : Option Addr} {vn vc : Nat} (hn : n < 2900000000000) (hB : BI n (⟨S, t0, t1, f0, f1, po, ps.map (·.2), le⟩ : Br)) (hps : ∀ p ∈ ps, fs p.1 p.2) (h : Sep w (BrL g wd d0 d1 vd e0 e1 G1 G2 V (⟨S, t0, t1, f0, f1, po, qp, cp, ps, qb, cb, le, ql, cl, F, fs⟩ : BrM))) : Calls Try.prog 15 #[pt g 0, Value.agg #[iw k, iw 0, iw kk, iw to, Value.slice va vn vc], Value.slice qp po.length cp, Value.slice qb ps.length cb, Value.slice ql le.length cl] w fun e w' => e = .returned (bo true) ∧ DlTo w g wd d0 d1 vd e0 e1 G1 G2 n V (⟨S, t0, t1, f0, f1, po, qp, cp, ps, qb, cb, le, ql, cl, F, fs⟩ : BrM) w' := by
  have hG1 : ∀ b, G1 b → GD g G1 G2 ql le.length cl b ∨ w.heap.size ≤ b := fun b hb => .inl (.inl (.inr (.inl hb)))
  have hG2 : ∀ b, G2 b → GD g G1 G2 ql le.length cl b ∨ w.heap.size ≤ b := fun b hb => .inl (.inl (.inr (.inr hb)))
  have hfb : 0 ≤ f1 ∧ f1 < 16 := by have h1 : f1 = _ := hB.f2 true; rw [h1]; exact (hB.wb.d true).ok.h2
  refine calls_sc (l0 := (BrL g wd d0 d1 vd e0 e1 G1 G2 V (⟨S, t0, t1, f0, f1, po, qp, cp, ps, qb, cb, le, ql, cl, F, fs⟩ : BrM))) (args := [pt g 0, Value.agg #[iw k, iw 0, iw kk, iw to, Value.slice va vn vc], Value.slice qp po.length cp, Value.slice qb ps.length cb, Value.slice ql le.length cl]) (GD g G1 G2 ql le.length cl) Try.func15 rfl 155 Try.ntmps15 (le_b rfl) ⟨h, Only.refl _ _⟩ ?_
  show SC _ _ _ _ [(0, pt g 0), (1, Value.agg #[iw k, iw 0, iw kk, iw to, Value.slice va vn vc]), (2, Value.slice qp po.length cp), (3, Value.slice qb ps.length cb), (4, Value.slice ql le.length cl)] (BrL g wd d0 d1 vd e0 e1 G1 G2 V (⟨S, t0, t1, f0, f1, po, qp, cp, ps, qb, cb, le, ql, cl, F, fs⟩ : BrM))
  refine SC.sr ?_
  refine SL.box (c := [iw k, iw 0, iw kk, iw to, Value.slice va vn vc]) rfl rfl (lt_b rfl) rfl rfl rfl fun b1 hb1 => ?_
  refine SL.as ?_
  refine SL.nn [(0, pt g 0), (2, Value.slice qp po.length cp), (3, Value.slice qb ps.length cb), (4, Value.slice ql le.length cl), (6, pt b1 0), (10, bo false)] [rG g d0 d1 wd e0 e1 vd t0 t1 f0 f1 41, rWp wd d0 d1 G1 S, rWq vd e0 e1 G2 V, rRowN (.slice qp po.length cp) (iRw po) 3 1, rRowN (.slice qb ps.length cb) (vRw ps) 28 1, rRowN (.slice ql le.length cl) (iRw le) 3 1, rZ F fs, rBlk b1 [iw k, iw 0, iw kk, iw to, Value.slice va vn vc] 30] ⟨rfl, rfl, rfl, rfl, rfl, rfl, trivial⟩ ?_
  refine SC.seq ?_
  refine SC.sr ?_
  refine SL.fa 1 fd30_1 ?_
  refine SL.ld 7 ts3 ?_
  refine SL.uu (ru_ne (b := false) rfl rfl rfl rfl) ?_
  refine SL.mv ?_
  refine SL.oo ?_
  refine SL.oo ?_
  refine SL.oo ?_
  refine SL.pk (undef) (bo false) ?_
  refine SL.nn [(0, pt g 0), (2, Value.slice qp po.length cp), (3, Value.slice qb ps.length cb), (4, Value.slice ql le.length cl), (6, pt b1 0), (10, bo false), (25, bo false)] _ ⟨rfl, rfl, rfl, rfl, rfl, rfl, rfl, trivial⟩ ?_
  refine SC.no rfl ?_
  refine SC.skip ?_
  refine SC.of_SE ?_
  refine SC.norm [(0, pt g 0), (2, Value.slice qp po.length cp), (3, Value.slice qb ps.length cb), (4, Value.slice ql le.length cl), (6, pt b1 0), (10, bo false)] _ ⟨rfl, rfl, rfl, rfl, rfl, rfl, trivial⟩ rfl ?_
  refine SC.seq ?_
  refine SC.region_quiet (by kernel_rfl) (by kernel_rfl) ?_
  refine SQ.mv ?_
  refine SQ.fa 1 fd30_1 ?_
  refine SQ.ld 7 ts3 ?_
  refine SQ.uu (ru_sub (r := 1) rfl rfl rfl rfl) ?_
  refine SQ.nk ?_
  refine SQ.fa 0 fd41_0 ?_
  refine SQ.ia 1 ar34 ?_
  refine SQ.ld 0 ts33 ?_
  refine SQ.uu (ru_assign rfl rfl) ?_
  refine SQ.nilE ?_
  refine SC.of_SE ?_
  refine SC.norm [(0, pt g 0), (2, Value.slice qp po.length cp), (3, Value.slice qb ps.length cb), (4, Value.slice ql le.length cl), (6, pt b1 0), (10, bo false), (11, pt d1 0)] _ ⟨rfl, rfl, rfl, rfl, rfl, rfl, rfl, trivial⟩ rfl ?_
  refine SC.seq ?_
  refine SC.region_quiet (by kernel_rfl) (by kernel_rfl) ?_
  refine SQ.mv ?_
  refine SQ.fa 1 fd30_1 ?_
  refine SQ.ld 7 ts3 ?_
  refine SQ.uu (ru_sub (r := 1) rfl rfl rfl rfl) ?_
  refine SQ.nk ?_
  refine SQ.fa 8 fd41_5 ?_
  refine SQ.ia 9 ar39 ?_
  refine SQ.ld 0 ts3 ?_
  refine SQ.uu (ru_assign rfl rfl) ?_
  refine SQ.nilE ?_
  refine SC.of_SE ?_
  refine SC.norm [(0, pt g 0), (2, Value.slice qp po.length cp), (3, Value.slice qb ps.length cb), (4, Value.slice ql le.length cl), (6, pt b1 0), (10, bo false), (11, pt d1 0), (12, iw f1)] _ ⟨rfl, rfl, rfl, rfl, rfl, rfl, rfl, rfl, trivial⟩ rfl ?_
  refine SC.sr ?_
  refine SL.mv ?_
  refine SL.mv ?_
  have hB3 := hB.wb.setA true ((hB.wb.d1).setRx f1 274)
  refine SL.call (ζ := Nat → Prop) (fun Gw2 => iw ((setRxF S.A1 f1 274).1)) (fun Gw2 => [rG g d0 d1 wd e0 e1 vd t0 t1 f0 f1 41, rWp wd d0 d1 Gw2 (S.setA true (setRxF S.A1 f1 274).2), rWq vd e0 e1 G2 V, rRowN (.slice qp po.length cp) (iRw po) 3 1, rRowN (.slice qb ps.length cb) (vRw ps) 28 1, rRowN (.slice ql le.length cl) (iRw le) 3 1, rZ F fs, rBlk b1 [iw k, iw 0, iw kk, iw to, Value.slice va vn vc] 30]) (fun Gw2 => ∀ b, Gw2 b → GD g G1 G2 ql le.length cl b ∨ w.heap.size ≤ b) rfl rfl co37 rfl rfl rfl (lt_b rfl) (fun w5 hI => (rw_setrx1 (hI.1.get (i := 1) rfl) hB.wb.d1.ok f1 274).mono fun e w2 ⟨h1, kz⟩ => by obtain ⟨G9, k1, k2⟩ := hI.rto (i := 1) rfl hG1 kz; exact ⟨G9, h1, k1, k2⟩) ?_
  intro Gw2 hGw2
  refine SL.nn [(0, pt g 0), (2, Value.slice qp po.length cp), (3, Value.slice qb ps.length cb), (4, Value.slice ql le.length cl), (6, pt b1 0), (10, bo false), (11, pt d1 0), (12, iw f1)] [rG g d0 d1 wd e0 e1 vd t0 t1 f0 f1 41, rWp wd d0 d1 Gw2 (S.setA true (setRxF S.A1 f1 274).2), rWq vd e0 e1 G2 V, rRowN (.slice qp po.length cp) (iRw po) 3 1, rRowN (.slice qb ps.length cb) (vRw ps) 28 1, rRowN (.slice ql le.length cl) (iRw le) 3 1, rZ F fs, rBlk b1 [iw k, iw 0, iw kk, iw to, Value.slice va vn vc] 30] ⟨rfl, rfl, rfl, rfl, rfl, rfl, rfl, rfl, trivial⟩ ?_
  refine SC.sr ?_
  refine SL.mv ?_
  refine SL.mv ?_
  refine SL.uu (ru_add (r := (f1 + 1)) rfl rfl rfl ((by rw [IntKind.wrap_i64]; omega))) ?_
  refine SL.uu (ru_rem (r := (nx f1)) rfl rfl rfl (by decide) ((by rw [Int.tmod_eq_emod_of_nonneg (by omega)]; rfl))) ?_
  have hB5 := hB3.setA true ((hB3.d1).write hB3.now.1 3 (nx f1))
  refine SL.call (ζ := Nat → Prop) (fun Gw4 => iw ((writeF (S.setA true (setRxF S.A1 f1 274).2).A1 3 (nx f1)).1)) (fun Gw4 => [rG g d0 d1 wd e0 e1 vd t0 t1 f0 f1 41, rWp wd d0 d1 Gw4 (S.setA true (offerA S.A1 f1)), rWq vd e0 e1 G2 V, rRowN (.slice qp po.length cp) (iRw po) 3 1, rRowN (.slice qb ps.length cb) (vRw ps) 28 1, rRowN (.slice ql le.length cl) (iRw le) 3 1, rZ F fs, rBlk b1 [iw k, iw 0, iw kk, iw to, Value.slice va vn vc] 30]) (fun Gw4 => ∀ b, Gw4 b → GD g G1 G2 ql le.length cl b ∨ w.heap.size ≤ b) rfl rfl co11 rfl rfl rfl (lt_b rfl) (fun w5 hI => (rw_write1 (hI.1.get (i := 1) rfl) hB3.d1.ok 3 (nx f1)).mono fun e w2 ⟨h1, kz⟩ => by obtain ⟨G9, k1, k2⟩ := hI.rto (i := 1) rfl hGw2 kz; exact ⟨G9, h1, k1, k2⟩) ?_
  intro Gw4 hGw4
  refine SL.nn [(0, pt g 0), (2, Value.slice qp po.length cp), (3, Value.slice qb ps.length cb), (4, Value.slice ql le.length cl), (6, pt b1 0), (10, bo false), (11, pt d1 0), (12, iw f1)] [rG g d0 d1 wd e0 e1 vd t0 t1 f0 f1 41, rWp wd d0 d1 Gw4 (S.setA true (offerA S.A1 f1)), rWq vd e0 e1 G2 V, rRowN (.slice qp po.length cp) (iRw po) 3 1, rRowN (.slice qb ps.length cb) (vRw ps) 28 1, rRowN (.slice ql le.length cl) (iRw le) 3 1, rZ F fs, rBlk b1 [iw k, iw 0, iw kk, iw to, Value.slice va vn vc] 30] ⟨rfl, rfl, rfl, rfl, rfl, rfl, rfl, rfl, trivial⟩ ?_
  refine SC.seq ?_
  refine SC.region_tail 8 (by kernel_rfl) (by kernel_rfl) ?_
  refine SQ.mv ?_
  refine SQ.nk ?_
  refine SQ.fa 2 fd41_1 ?_
  refine SQ.ld 0 ts35 ?_
  refine SQ.fa 1 fd30_1 ?_
  refine SQ.ld 7 ts3 ?_
  refine SQ.fa 2 fd30_2 ?_
  refine SQ.ld 7 ts3 ?_
  refine SQ.nilL ?_
  have hB7 := (hB5).deliverD 0 kk
  refine SL.call (ζ := Nat → Prop) (fun Gw6 => iw ((deliverD (S.setA true (offerA S.A1 f1)) 0 kk).1)) (fun Gw6 => [rG g d0 d1 wd e0 e1 vd t0 t1 f0 f1 41, rWp wd d0 d1 Gw6 ((deliverD (S.setA true (offerA S.A1 f1)) 0 kk).2), rWq vd e0 e1 G2 V, rRowN (.slice qp po.length cp) (iRw po) 3 1, rRowN (.slice qb ps.length cb) (vRw ps) 28 1, rRowN (.slice ql le.length cl) (iRw le) 3 1, rZ F fs, rBlk b1 [iw k, iw 0, iw kk, iw to, Value.slice va vn vc] 30]) (fun Gw6 => ∀ b, Gw6 b → GD g G1 G2 ql le.length cl b ∨ w.heap.size ≤ b) rfl rfl co36 rfl rfl rfl (lt_b rfl) (fun w5 hI => (rw_deliver hB5 (by omega) (hI.1.get (i := 1) rfl) 0 kk).mono fun e w2 ⟨h1, kz⟩ => by obtain ⟨G9, k1, k2⟩ := hI.rto (i := 1) rfl hGw4 kz; exact ⟨G9, h1, k1, k2⟩) ?_
  intro Gw6 hGw6
  refine SL.as ?_
  refine SL.nn [(0, pt g 0), (2, Value.slice qp po.length cp), (3, Value.slice qb ps.length cb), (4, Value.slice ql le.length cl), (6, pt b1 0), (10, bo false), (11, pt d1 0), (12, iw f1), (13, iw ((deliverD (S.setA true (offerA S.A1 f1)) 0 kk).1))] [rG g d0 d1 wd e0 e1 vd t0 t1 f0 f1 41, rWp wd d0 d1 Gw6 ((deliverD (S.setA true (offerA S.A1 f1)) 0 kk).2), rWq vd e0 e1 G2 V, rRowN (.slice qp po.length cp) (iRw po) 3 1, rRowN (.slice qb ps.length cb) (vRw ps) 28 1, rRowN (.slice ql le.length cl) (iRw le) 3 1, rZ F fs, rBlk b1 [iw k, iw 0, iw kk, iw to, Value.slice va vn vc] 30] ⟨rfl, rfl, rfl, rfl, rfl, rfl, rfl, rfl, rfl, trivial⟩ ?_
  refine SC.seq ?_
  refine SC.sr ?_
  refine SL.mv ?_
  refine SL.uu (ru_ne (b := ((((deliverD (S.setA true (offerA S.A1 f1)) 0 kk).1) : Int) != 0)) rfl rfl rfl rfl) ?_
  refine SL.nn [(0, pt g 0), (2, Value.slice qp po.length cp), (3, Value.slice qb ps.length cb), (4, Value.slice ql le.length cl), (6, pt b1 0), (10, bo false), (11, pt d1 0), (12, iw f1), (13, iw ((deliverD (S.setA true (offerA S.A1 f1)) 0 kk).1)), (70, bo ((((deliverD (S.setA true (offerA S.A1 f1)) 0 kk).1) : Int) != 0))] _ ⟨rfl, rfl, rfl, rfl, rfl, rfl, rfl, rfl, rfl, rfl, trivial⟩ ?_
  refine SC.both ((((deliverD (S.setA true (offerA S.A1 f1)) 0 kk).1) : Int) != 0) rfl (fun h8 => ?_) (fun h8 => ?_)
  · skip
    refine SC.seq ?_
    obtain ⟨h7, hB4⟩ := dlv_no (Z := (⟨S, t0, t1, f0, f1, po, ps.map (·.2), le⟩ : Br)) (b := false) (k := kk) hB (ne_t h8)
    have h7 : (deliverD (S.setA true (offerA S.A1 f1)) 0 kk).1 = 7 := h7
    refine SC.region ?_
    refine SL.mv ?_
    refine SL.mv ?_
    have hB10 := hB7.setA true ((hB7.d1).write hB7.now.1 3 f1)
    refine SL.call (ζ := Nat → Prop) (fun Gw9 => iw ((writeF ((deliverD (S.setA true (offerA S.A1 f1)) 0 kk).2).A1 3 f1).1)) (fun Gw9 => [rG g d0 d1 wd e0 e1 vd t0 t1 f0 f1 41, rWp wd d0 d1 Gw9 (((deliverD (S.setA true (offerA S.A1 f1)) 0 kk).2).setA true (writeF ((deliverD (S.setA true (offerA S.A1 f1)) 0 kk).2).A1 3 f1).2), rWq vd e0 e1 G2 V, rRowN (.slice qp po.length cp) (iRw po) 3 1, rRowN (.slice qb ps.length cb) (vRw ps) 28 1, rRowN (.slice ql le.length cl) (iRw le) 3 1, rZ F fs, rBlk b1 [iw k, iw 0, iw kk, iw to, Value.slice va vn vc] 30]) (fun Gw9 => ∀ b, Gw9 b → GD g G1 G2 ql le.length cl b ∨ w.heap.size ≤ b) rfl rfl co11 rfl rfl rfl (lt_b rfl) (fun w5 hI => (rw_write1 (hI.1.get (i := 1) rfl) hB7.d1.ok 3 f1).mono fun e w2 ⟨h1, kz⟩ => by obtain ⟨G9, k1, k2⟩ := hI.rto (i := 1) rfl hGw6 kz; exact ⟨G9, h1, k1, k2⟩) ?_
    intro Gw9 hGw9
    refine SL.nn [(0, pt g 0), (2, Value.slice qp po.length cp), (3, Value.slice qb ps.length cb), (4, Value.slice ql le.length cl), (6, pt b1 0), (10, bo false), (11, pt d1 0), (12, iw f1), (13, iw ((deliverD (S.setA true (offerA S.A1 f1)) 0 kk).1))] [rG g d0 d1 wd e0 e1 vd t0 t1 f0 f1 41, rWp wd d0 d1 Gw9 (((deliverD (S.setA true (offerA S.A1 f1)) 0 kk).2).setA true (writeF ((deliverD (S.setA true (offerA S.A1 f1)) 0 kk).2).A1 3 f1).2), rWq vd e0 e1 G2 V, rRowN (.slice qp po.length cp) (iRw po) 3 1, rRowN (.slice qb ps.length cb) (vRw ps) 28 1, rRowN (.slice ql le.length cl) (iRw le) 3 1, rZ F fs, rBlk b1 [iw k, iw 0, iw kk, iw to, Value.slice va vn vc] 30] ⟨rfl, rfl, rfl, rfl, rfl, rfl, rfl, rfl, rfl, trivial⟩ ?_
    refine SC.sr ?_
    refine SL.mv ?_
    refine SL.uu (ru_eq (b := true) rfl rfl rfl ((by rw [h7]; rfl))) ?_
    refine SL.as ?_
    refine SL.nn [(0, pt g 0), (2, Value.slice qp po.length cp), (3, Value.slice qb ps.length cb), (4, Value.slice ql le.length cl), (6, pt b1 0), (10, bo true), (11, pt d1 0), (12, iw f1)] _ ⟨rfl, rfl, rfl, rfl, rfl, rfl, rfl, rfl, trivial⟩ ?_
    refine SC.ret ?_
    refine SE.passr ?_
    refine SE.res (.inl rfl) (res1 Try.results15 rfl) fun w1 hI => ?_
    have hO := hI.2
    exact ⟨rfl, (((deliverD (S.setA true (offerA S.A1 f1)) 0 kk).2).setA true (writeF ((deliverD (S.setA true (offerA S.A1 f1)) 0 kk).2).A1 3 f1).2), f0, f1, le, Gw9, G2, hB4, rfl, (hI.keep 7).1, hGw9, hG2, hO⟩
  refine SC.skip ?_
  refine SC.of_SE ?_
  refine SC.norm [(0, pt g 0), (2, Value.slice qp po.length cp), (3, Value.slice qb ps.length cb), (4, Value.slice ql le.length cl), (6, pt b1 0), (10, bo false), (11, pt d1 0), (12, iw f1)] _ ⟨rfl, rfl, rfl, rfl, rfl, rfl, rfl, rfl, trivial⟩ rfl ?_
  refine SC.seq ?_
  obtain ⟨x, hrx, hbad, hgood⟩ := dlv_ok (Z := (⟨S, t0, t1, f0, f1, po, ps.map (·.2), le⟩ : Br)) (b := false) (k := kk) hB (Classical.byContradiction fun hc => ne_f h8 hc)
  have hrx : rxR (((deliverD (S.setA true (offerA S.A1 f1)) 0 kk).2).A1) f1 = ((x.f, x.bad), 0) := hrx
  have hxl : x.f.length ≤ 65535 := by have h8 : (rxR (((deliverD (S.setA true (offerA S.A1 f1)) 0 kk).2).A1) f1).1.1.length ≤ 65535 := rx_lenb hB7.d1.ok f1; rw [hrx] at h8; exact h8
  refine SC.region_tail 10 (by kernel_rfl) (by kernel_rfl) ?_
  refine SQ.mv ?_
  refine SQ.fa 1 fd30_1 ?_
  refine SQ.ld 7 ts3 ?_
  refine SQ.uu (ru_sub (r := 1) rfl rfl rfl rfl) ?_
  refine SQ.mv ?_
  refine SQ.uu (ru_add (r := (f1 + 1)) rfl rfl rfl ((by rw [IntKind.wrap_i64]; omega))) ?_
  refine SQ.uu (ru_rem (r := (nx f1)) rfl rfl rfl (by decide) ((by rw [Int.tmod_eq_emod_of_nonneg (by omega)]; rfl))) ?_
  refine SQ.nk ?_
  refine SQ.fa 8 fd41_5 ?_
  refine SQ.ia 9 ar39 ?_
  refine SQ.nilL ?_
  refine SL.store (i := 0) (c' := [pt d0 0, pt d1 0, pt wd 0, pt e0 0, pt e1 0, pt vd 0, iw t0, iw t1, iw f0, iw (nx f1)]) rfl rfl ts3 rfl rfl rfl rfl rfl (lt_b rfl) (.inl (.inl (.inl rfl))) rfl ?_
  refine SL.nn [(0, pt g 0), (2, Value.slice qp po.length cp), (3, Value.slice qb ps.length cb), (4, Value.slice ql le.length cl), (6, pt b1 0), (10, bo false), (11, pt d1 0), (12, iw f1)] [rG g d0 d1 wd e0 e1 vd t0 t1 f0 (nx f1) 41, rWp wd d0 d1 Gw6 ((deliverD (S.setA true (offerA S.A1 f1)) 0 kk).2), rWq vd e0 e1 G2 V, rRowN (.slice qp po.length cp) (iRw po) 3 1, rRowN (.slice qb ps.length cb) (vRw ps) 28 1, rRowN (.slice ql le.length cl) (iRw le) 3 1, rZ F fs, rBlk b1 [iw k, iw 0, iw kk, iw to, Value.slice va vn vc] 30] ⟨rfl, rfl, rfl, rfl, rfl, rfl, rfl, rfl, trivial⟩ ?_
  refine SC.sr ?_
  refine SL.mv ?_
  refine SL.mv ?_
  refine SL.call (ζ := Option Addr × Nat) (fun z => Value.tuple #[Value.slice z.1 x.f.length z.2, bo x.bad, iw 0]) (fun z => [rG g d0 d1 wd e0 e1 vd t0 t1 f0 (nx f1) 41, rWp wd d0 d1 Gw6 ((deliverD (S.setA true (offerA S.A1 f1)) 0 kk).2), rWq vd e0 e1 G2 V, rRowN (.slice qp po.length cp) (iRw po) 3 1, rRowN (.slice qb ps.length cb) (vRw ps) 28 1, rRowN (.slice ql le.length cl) (iRw le) 3 1, rZ F fs, rBlk b1 [iw k, iw 0, iw kk, iw to, Value.slice va vn vc] 30] ++ [rMine (.slice z.1 x.f.length z.2) x.f 5]) (fun z => True) rfl rfl co38 rfl rfl rfl (lt_b rfl) (fun w5 hI => (rw_rx1 (hI.1.get (i := 1) rfl) hB7.d1.ok f1).mono fun e w2 ⟨v, h1, h2, h3⟩ => by rw [hrx] at h1 h3; obtain ⟨qa, qc, rfl, k2⟩ := Inv.rxedb hI (by show x.f.length ≤ _; omega) h2 h3; exact ⟨(qa, qc), h1, k2, trivial⟩) ?_
  rintro ⟨q11, c12⟩ _
  refine SL.mv ?_
  refine SL.uu (ru_extract rfl rfl rfl) ?_
  refine SL.uu (ru_extract rfl rfl rfl) ?_
  refine SL.uu (ru_extract rfl rfl rfl) ?_
  refine SL.as ?_
  refine SL.as ?_
  refine SL.as ?_
  refine SL.nn [(0, pt g 0), (2, Value.slice qp po.length cp), (3, Value.slice qb ps.length cb), (4, Value.slice ql le.length cl), (6, pt b1 0), (10, bo false), (14, Value.slice q11 x.f.length c12), (15, bo x.bad), (16, iw 0)] [rG g d0 d1 wd e0 e1 vd t0 t1 f0 (nx f1) 41, rWp wd d0 d1 Gw6 ((deliverD (S.setA true (offerA S.A1 f1)) 0 kk).2), rWq vd e0 e1 G2 V, rRowN (.slice qp po.length cp) (iRw po) 3 1, rRowN (.slice qb ps.length cb) (vRw ps) 28 1, rRowN (.slice ql le.length cl) (iRw le) 3 1, rZ F fs, rBlk b1 [iw k, iw 0, iw kk, iw to, Value.slice va vn vc] 30, rMine (.slice q11 x.f.length c12) x.f 5] ⟨rfl, rfl, rfl, rfl, rfl, rfl, rfl, rfl, rfl, trivial⟩ ?_
  refine SC.seq ?_
  refine SC.sr ?_
  refine SL.mv ?_
  refine SL.uu (ru_ne (b := false) rfl rfl rfl rfl) ?_
  refine SL.nn [(0, pt g 0), (2, Value.slice qp po.length cp), (3, Value.slice qb ps.length cb), (4, Value.slice ql le.length cl), (6, pt b1 0), (10, bo false), (14, Value.slice q11 x.f.length c12), (15, bo x.bad), (94, bo false)] _ ⟨rfl, rfl, rfl, rfl, rfl, rfl, rfl, rfl, rfl, trivial⟩ ?_
  refine SC.no rfl ?_
  refine SC.skip ?_
  refine SC.of_SE ?_
  refine SC.norm [(0, pt g 0), (2, Value.slice qp po.length cp), (3, Value.slice qb ps.length cb), (4, Value.slice ql le.length cl), (6, pt b1 0), (10, bo false), (14, Value.slice q11 x.f.length c12), (15, bo x.bad)] _ ⟨rfl, rfl, rfl, rfl, rfl, rfl, rfl, rfl, trivial⟩ rfl ?_
  refine SC.seq ?_
  refine SC.sr ?_
  refine SL.mv ?_
  refine SL.nn [(0, pt g 0), (2, Value.slice qp po.length cp), (3, Value.slice qb ps.length cb), (4, Value.slice ql le.length cl), (6, pt b1 0), (10, bo false), (14, Value.slice q11 x.f.length c12), (95, bo x.bad)] _ ⟨rfl, rfl, rfl, rfl, rfl, rfl, rfl, rfl, trivial⟩ ?_
  refine SC.both x.bad rfl (fun h13 => ?_) (fun h13 => ?_)
  · skip
    refine SC.sr ?_
    refine SL.as ?_
    refine SL.nn [(0, pt g 0), (2, Value.slice qp po.length cp), (3, Value.slice qb ps.length cb), (4, Value.slice ql le.length cl), (6, pt b1 0), (10, bo true), (14, Value.slice q11 x.f.length c12)] _ ⟨rfl, rfl, rfl, rfl, rfl, rfl, rfl, trivial⟩ ?_
    refine SC.ret ?_
    refine SE.passr ?_
    refine SE.res (.inl rfl) (res1 Try.results15 rfl) fun w1 hI => ?_
    have hO := hI.2
    exact ⟨rfl, ((deliverD (S.setA true (offerA S.A1 f1)) 0 kk).2), f0, nx f1, le, Gw6, G2, hbad h13, rfl, (hI.keep 7).1, hGw6, hG2, hO⟩
  refine SC.skip ?_
  refine SC.of_SE ?_
  refine SC.norm [(0, pt g 0), (2, Value.slice qp po.length cp), (3, Value.slice qb ps.length cb), (4, Value.slice ql le.length cl), (6, pt b1 0), (10, bo false), (14, Value.slice q11 x.f.length c12)] _ ⟨rfl, rfl, rfl, rfl, rfl, rfl, rfl, trivial⟩ rfl ?_
  refine SC.seq ?_
  obtain ⟨v, hbs, hpo, hsd, hx3, hle, hv1, hvn, hyt, hB9⟩ := hgood h13
  obtain ⟨y0, y1, y2, hy0, hy1, hy2, hnum⟩ := three hx3
  have hb90 := y0.toNat_lt
  have hb91 := y1.toNat_lt
  have hb92 := y2.toNat_lt
  obtain ⟨⟨xv, x9⟩, hxp, e9⟩ := map_get hbs
  dsimp only at e9
  subst e9
  have hxf := hps _ (List.mem_of_getElem? hxp)
  obtain ⟨xa, xc, exv⟩ := ((h.get (i := 6) rfl).2 _ _ hxf).1.form
  dsimp only at exv hxf
  subst exv
  have hnlt : numF x.f < ps.length := get_lt hxp
  have hnlp : numF x.f < po.length := get_lt hpo
  have hnll : numF x.f < le.length := get_lt hle
  have hnow : ((deliverD (S.setA true (offerA S.A1 f1)) 0 kk).2).now = S.now := dlv_now (S.setA true (offerA S.A1 f1)) false kk
  have hw9 := hB.wb.now
  simp only at hpo hsd hle hv1 hvn hyt hw9
  have hy2n : y2 = 0 := by have h8 : some y2 = some (sd8 false) := hy2.symm.trans hsd; exact Option.some.inj h8
  refine SC.weakN 8 (rRowN (.slice q11 x.f.length c12) (bRows x.f) 5 1) rfl (fun w h => mine_rows.1 h) (fun b hb => hb) ?_
  refine SC.region_quiet (by kernel_rfl) (by kernel_rfl) ?_
  refine SQ.mv ?_
  refine SQ.uu (ru_index_rowN (ri := 8) si28 rfl rfl rfl rfl (by omega) (by omega)) ?_
  refine SQ.uu (ru_load_rowN (size := 1) (ri := 8) (i := (0 : Int).toNat) (k := 0) (r := [Value.int .u8 (y0.toNat : Int)]) ts5 rfl rfl rfl (by unfold bRows; rw [List.getElem?_map, show x.f[(0 : Int).toNat]? = some y0 from hy0]; rfl) (by decide) rfl) ?_
  refine SQ.uu (ru_conv (r := (y0.toNat : Int)) ⟨_, Try.underlying5⟩ Try.underlying3 rfl rfl (by rw [IntKind.wrap_i64]; omega)) ?_
  refine SQ.uu (ru_mul (r := (256 * (y0.toNat : Int))) rfl rfl rfl ((by rw [IntKind.wrap_i64]; omega))) ?_
  refine SQ.mv ?_
  refine SQ.uu (ru_index_rowN (ri := 8) si28 rfl rfl rfl rfl (by omega) (by omega)) ?_
  refine SQ.uu (ru_load_rowN (size := 1) (ri := 8) (i := (1 : Int).toNat) (k := 0) (r := [Value.int .u8 (y1.toNat : Int)]) ts5 rfl rfl rfl (by unfold bRows; rw [List.getElem?_map, show x.f[(1 : Int).toNat]? = some y1 from hy1]; rfl) (by decide) rfl) ?_
  refine SQ.uu (ru_conv (r := (y1.toNat : Int)) ⟨_, Try.underlying5⟩ Try.underlying3 rfl rfl (by rw [IntKind.wrap_i64]; omega)) ?_
  refine SQ.uu (ru_add (r := (numF x.f : Int)) rfl rfl rfl ((by rw [IntKind.wrap_i64]; omega))) ?_
  refine SQ.uu (ru_assign rfl rfl) ?_
  refine SQ.nilE ?_
  refine SC.of_SE ?_
  refine SC.norm [(0, pt g 0), (2, Value.slice qp po.length cp), (3, Value.slice qb ps.length cb), (4, Value.slice ql le.length cl), (6, pt b1 0), (10, bo false), (14, Value.slice q11 x.f.length c12), (17, iw (numF x.f : Int))] [rG g d0 d1 wd e0 e1 vd t0 t1 f0 (nx f1) 41, rWp wd d0 d1 Gw6 ((deliverD (S.setA true (offerA S.A1 f1)) 0 kk).2), rWq vd e0 e1 G2 V, rRowN (.slice qp po.length cp) (iRw po) 3 1, rRowN (.slice qb ps.length cb) (vRw ps) 28 1, rRowN (.slice ql le.length cl) (iRw le) 3 1, rZ F fs, rBlk b1 [iw k, iw 0, iw kk, iw to, Value.slice va vn vc] 30, rRowN (.slice q11 x.f.length c12) (bRows x.f) 5 1] ⟨rfl, rfl, rfl, rfl, rfl, rfl, rfl, rfl, trivial⟩ rfl ?_
  refine SC.seq ?_
  refine SC.seq ?_
  refine SC.region_mk_tail 39 [(32, Mk.val (iw (((deliverD (S.setA true (offerA S.A1 f1)) 0 kk).2).now)))] [(33, [32]), (34, [32]), (35, [32]), (36, [32]), (37, [32]), (38, [32])] rfl rfl (by kernel_rfl) (by kernel_rfl) (by kernel_rfl) ?_
  refine SM.uu (ru_move rfl rfl) ?_
  refine SM.uu (ru_move rfl rfl) ?_
  refine SM.uu (ru_len Try.underlying27 rfl rfl) ?_
  refine SM.uu (ru_ge (b := false) rfl rfl rfl ((decide_eq_false (by omega)))) ?_
  refine SM.uu (ru_move rfl rfl) ?_
  refine SM.ru rfl rfl rfl (w_yes rfl rfl rfl) rfl (lt_b rfl) (ru_move rfl rfl) ?_
  refine SM.ru rfl rfl rfl (w_yes rfl rfl rfl) rfl (lt_b rfl) (ru_str (f := x.f) Try.underlying28 Try.underlying5 Try.underlying9 rfl rfl (fun w hI => OwnBytes.bytes (mine_rows (f := x.f).2 (hI.1.get (i := 8) rfl)) (by omega))) ?_
  refine SM.ru rfl rfl rfl (w_yes rfl rfl rfl) rfl (lt_b rfl) (ru_move rfl rfl) ?_
  refine SM.ru rfl rfl rfl (w_yes rfl rfl rfl) rfl (lt_b rfl) (ru_move rfl rfl) ?_
  refine SM.ru rfl rfl rfl (w_yes rfl rfl rfl) rfl (lt_b rfl) (ru_index_rowN (ri := 4) si27 rfl rfl rfl rfl (by omega) (by omega)) ?_
  refine SM.ru rfl rfl rfl (w_yes rfl rfl rfl) rfl (lt_b rfl) (ru_load_rowN (size := 1) (ri := 4) (i := (numF x.f : Int).toNat) (k := 0) (r := [Value.slice xa x.f.length xc]) ts28 rfl rfl rfl (by rw [Int.toNat_natCast]; show (List.map _ ps)[_]? = _; rw [List.getElem?_map, hxp]; rfl) (by decide) rfl) ?_
  refine SM.ru rfl rfl rfl (w_yes rfl rfl rfl) rfl (lt_b rfl) (ru_str (f := x.f) Try.underlying28 Try.underlying5 Try.underlying9 rfl rfl (fun w hI => ((hI.1.get (i := 6) rfl).2 _ _ hxf).1)) ?_
  refine SM.ru rfl rfl rfl (w_yes rfl rfl rfl) rfl (lt_b rfl) (ru_strne (f := x.f) (h := x.f) (b := false) Try.underlying9 rfl rfl rfl (by simp)) ?_
  refine SM.uu (ru_pick (u := bo true) (v := bo false) rfl rfl rfl rfl) ?_
  refine SM.uu (ru_move rfl rfl) ?_
  refine SM.ru rfl rfl rfl (w_yes rfl rfl rfl) rfl (lt_b rfl) (ru_move rfl rfl) ?_
  refine SM.ru rfl rfl rfl (w_yes rfl rfl rfl) rfl (lt_b rfl) (ru_index_rowN (ri := 8) si28 rfl rfl rfl rfl (by omega) (by omega)) ?_
  refine SM.ru rfl rfl rfl (w_yes rfl rfl rfl) rfl (lt_b rfl) (ru_load_rowN (size := 1) (ri := 8) (i := (2 : Int).toNat) (k := 0) (r := [Value.int .u8 (y2.toNat : Int)]) ts5 rfl rfl rfl (by unfold bRows; rw [List.getElem?_map, show x.f[(2 : Int).toNat]? = some y2 from hy2]; rfl) (by decide) rfl) ?_
  refine SM.ru rfl rfl rfl (w_yes rfl rfl rfl) rfl (lt_b rfl) (ru_conv (r := (y2.toNat : Int)) ⟨_, Try.underlying5⟩ Try.underlying3 rfl rfl (by rw [IntKind.wrap_i64]; omega)) ?_
  refine SM.ru rfl rfl rfl (w_yes rfl rfl rfl) rfl (lt_b rfl) (ru_fieldAddr (o2 := 1) fd30_1 rfl rfl rfl) ?_
  refine SM.ru rfl rfl rfl (w_yes rfl rfl rfl) rfl (lt_b rfl) (ru_load (i := 7) ts3 rfl rfl rfl rfl) ?_
  refine SM.ru rfl rfl rfl (w_yes rfl rfl rfl) rfl (lt_b rfl) (ru_ne (b := false) rfl rfl rfl ((by rw [hy2n]; decide))) ?_
  refine SM.uu (ru_pick (u := bo true) (v := bo false) rfl rfl rfl rfl) ?_
  refine SM.uu (ru_move rfl rfl) ?_
  refine SM.ru rfl rfl rfl (w_yes rfl rfl rfl) rfl (lt_b rfl) (ru_move rfl rfl) ?_
  refine SM.ru rfl rfl rfl (w_yes rfl rfl rfl) rfl (lt_b rfl) (ru_move rfl rfl) ?_
  refine SM.ru rfl rfl rfl (w_yes rfl rfl rfl) rfl (lt_b rfl) (ru_index_rowN (ri := 3) si26 rfl rfl rfl rfl (by omega) (by omega)) ?_
  refine SM.ru rfl rfl rfl (w_yes rfl rfl rfl) rfl (lt_b rfl) (ru_load_rowN (size := 1) (ri := 3) (i := (numF x.f : Int).toNat) (k := 0) (r := [iw x.tick]) ts3 rfl rfl rfl (by rw [Int.toNat_natCast]; show (List.map _ po)[_]? = _; rw [List.getElem?_map, hpo]; rfl) (by decide) rfl) ?_
  refine SM.ru rfl rfl rfl (w_yes rfl rfl rfl) rfl (lt_b rfl) (ru_move rfl rfl) ?_
  refine SM.ru rfl rfl rfl (w_yes rfl rfl rfl) rfl (lt_b rfl) (ru_nilCheck rfl rfl) ?_
  refine SM.ru rfl rfl rfl (w_yes rfl rfl rfl) rfl (lt_b rfl) (ru_fieldAddr (o2 := 2) fd41_1 rfl rfl rfl) ?_
  refine SM.ru rfl rfl rfl (w_yes rfl rfl rfl) rfl (lt_b rfl) (ru_load (i := 0) ts35 rfl rfl rfl rfl) ?_
  refine SM.call rfl rfl rfl rfl (w_yes rfl rfl rfl) rfl (lt_b rfl) (iw (((deliverD (S.setA true (offerA S.A1 f1)) 0 kk).2).now)) rfl rfl co12 rfl rfl (fun l' w hI => H_only hI (rw_now (hI.1.get (i := 1) rfl))) ?_
  refine SM.ru rfl rfl rfl (w_yes rfl rfl rfl) rfl (lt_b rfl) (ru_sub (r := (S.now - 8)) rfl rfl rfl ((by rw [hnow, IntKind.wrap_i64]; omega))) ?_
  refine SM.ru rfl rfl rfl (w_yes rfl rfl rfl) rfl (lt_b rfl) (ru_le (b := false) rfl rfl rfl ((decide_eq_false (by omega)))) ?_
  refine SM.uu (ru_pick (u := bo true) (v := bo false) rfl rfl rfl rfl) ?_
  refine SM.uu (ru_move rfl rfl) ?_
  refine SM.ru rfl rfl rfl (w_yes rfl rfl rfl) rfl (lt_b rfl) (ru_move rfl rfl) ?_
  refine SM.ru rfl rfl rfl (w_yes rfl rfl rfl) rfl (lt_b rfl) (ru_move rfl rfl) ?_
  refine SM.nilL (l' := [rG g d0 d1 wd e0 e1 vd t0 t1 f0 (nx f1) 41, rWp wd d0 d1 Gw6 ((deliverD (S.setA true (offerA S.A1 f1)) 0 kk).2), rWq vd e0 e1 G2 V, rRowN (.slice qp po.length cp) (iRw po) 3 1, rRowN (.slice qb ps.length cb) (vRw ps) 28 1, rRowN (.slice ql le.length cl) (iRw le) 3 1, rZ F fs, rBlk b1 [iw k, iw 0, iw kk, iw to, Value.slice va vn vc] 30, rRowN (.slice q11 x.f.length c12) (bRows x.f) 5 1]) rfl ?_
  refine SL.gg (ru_index_rowN (ri := 5) si26 rfl rfl rfl rfl (by omega) (by omega)) ?_
  refine SL.gg (ru_load_rowN (size := 1) (ri := 5) (i := (numF x.f : Int).toNat) (k := 0) (r := [iw v]) ts3 rfl rfl rfl (by rw [Int.toNat_natCast]; show (List.map _ le)[_]? = _; rw [List.getElem?_map, hle]; rfl) (by decide) rfl) ?_
  refine SL.gg (ru_eq (b := false) rfl rfl rfl ((by simp; omega))) ?_
  refine SL.pk (bo true) (bo false) ?_
  refine SL.nn [(4, Value.slice ql le.length cl), (10, bo false), (17, iw (numF x.f : Int)), (148, bo false)] _ ⟨rfl, rfl, rfl, rfl, trivial⟩ ?_
  refine SC.no rfl ?_
  refine SC.skip ?_
  refine SC.of_SE ?_
  refine SC.norm [(4, Value.slice ql le.length cl), (10, bo false), (17, iw (numF x.f : Int))] _ ⟨rfl, rfl, rfl, trivial⟩ rfl ?_
  refine SC.sr ?_
  refine SL.mv ?_
  refine SL.mv ?_
  refine SL.uu (ru_index_rowN (ri := 5) si26 rfl rfl rfl rfl (by omega) (by omega)) ?_
  refine SL.uu (ru_load_rowN (size := 1) (ri := 5) (i := (numF x.f : Int).toNat) (k := 0) (r := [iw v]) ts3 rfl rfl rfl (by rw [Int.toNat_natCast]; show (List.map _ le)[_]? = _; rw [List.getElem?_map, hle]; rfl) (by decide) rfl) ?_
  refine SL.uu (ru_sub (r := (v - 1)) rfl rfl rfl ((by rw [IntKind.wrap_i64]; omega))) ?_
  refine SL.uu (ru_index_rowN (ri := 5) si26 rfl rfl rfl rfl (by omega) (by omega)) ?_
  refine SL.store_rowN (ri := 5) (i := (numF x.f : Int).toNat) (k := 0) (r := [iw v]) rfl rfl ts3 rfl rfl rfl rfl rfl (by rw [Int.toNat_natCast]; show (List.map _ le)[_]? = _; rw [List.getElem?_map, hle]; rfl) (by decide) (fun b hb => .inl (.inr hb)) ?_
  refine SL.nn [(10, bo false)] [rG g d0 d1 wd e0 e1 vd t0 t1 f0 (nx f1) 41, rWp wd d0 d1 Gw6 ((deliverD (S.setA true (offerA S.A1 f1)) 0 kk).2), rWq vd e0 e1 G2 V, rRowN (.slice qp po.length cp) (iRw po) 3 1, rRowN (.slice qb ps.length cb) (vRw ps) 28 1, rRowN (.slice ql le.length cl) ((iRw le).set ((numF x.f : Int).toNat) ([iw v].set 0 (iw (v - 1)))) 3 1, rZ F fs, rBlk b1 [iw k, iw 0, iw kk, iw to, Value.slice va vn vc] 30, rRowN (.slice q11 x.f.length c12) (bRows x.f) 5 1] ⟨rfl, trivial⟩ ?_
  refine SC.sr ?_
  refine SL.as ?_
  refine SL.nn [(10, bo true)] _ ⟨rfl, trivial⟩ ?_
  refine SC.ret ?_
  refine SE.res (.inl rfl) (res1 Try.results15 rfl) fun w1 hI => ?_
  have hO := hI.2
  have er : (iRw le).set ((numF x.f : Int).toNat) ([iw v].set 0 (iw (v - 1))) = iRw (le.set (numF x.f) (v - 1)) := by rw [Int.toNat_natCast]; exact iRw_set _ _ _
  have el : (le.set (numF x.f) (v - 1)).length = le.length := List.length_set
  rw [er, ← el] at hI
  exact ⟨rfl, ((deliverD (S.setA true (offerA S.A1 f1)) 0 kk).2), f0, nx f1, le.set (numF x.f) (v - 1), Gw6, G2, hB9, el, (hI.keep 7).1, hGw6, hG2, hO⟩
theorem dlv1_any {n : Nat} {w : World} {g wd d0 d1 vd e0 e1 : Nat} {G1 G2 : Nat → Prop} {S V : Wi} {t0 t1 f0 f1 : Int} {po : List Int} {qp : Option Addr} {cp : Nat} {ps : List (Value × List UInt8)} {qb : Option Addr} {cb : Nat} {le : List Int} {ql : Option Addr} {cl : Nat} {F : Nat → Prop} {fs : Value → List UInt8 → Prop} {k kk to : Int} {va : Option Addr} {vn vc : Nat} (hn : n < 2900000000000) (hB : BI n (⟨S, t0, t1, f0, f1, po, ps.map (·.2), le⟩ : Br)) (hps : ∀ p ∈ ps, fs p.1 p.2) (h : Sep w (BrL g wd d0 d1 vd e0 e1 G1 G2 V (⟨S, t0, t1, f0, f1, po, qp, cp, ps, qb, cb, le, ql, cl, F, fs⟩ : BrM))) : Calls Try.prog 15 #[pt g 0, Value.agg #[iw k, iw 1, iw kk, iw to, Value.slice va vn vc], Value.slice qp po.length cp, Value.slice qb ps.length cb, Value.slice ql le.length cl] w fun e w' => e = .returned (bo true) ∧ DlTo w g wd d0 d1 vd e0 e1 G1 G2 n V (⟨S, t0, t1, f0, f1, po, qp, cp, ps, qb, cb, le, ql, cl, F, fs⟩ : BrM) w' := by
  have hG1 : ∀ b, G1 b → GD g G1 G2 ql le.length cl b ∨ w.heap.size ≤ b := fun b hb => .inl (.inl (.inr (.inl hb)))
  have hG2 : ∀ b, G2 b → GD g G1 G2 ql le.length cl b ∨ w.heap.size ≤ b := fun b hb => .inl (.inl (.inr (.inr hb)))
  have hfb : 0 ≤ f0 ∧ f0 < 16 := by have h1 : f0 = _ := hB.f2 false; rw [h1]; exact (hB.wb.d false).ok.h2
  refine calls_sc (l0 := (BrL g wd d0 d1 vd e0 e1 G1 G2 V (⟨S, t0, t1, f0, f1, po, qp, cp, ps, qb, cb, le, ql, cl, F, fs⟩ : BrM))) (args := [pt g 0, Value.agg #[iw k, iw 1, iw kk, iw to, Value.slice va vn vc], Value.slice qp po.length cp, Value.slice qb ps.length cb, Value.slice ql le.length cl]) (GD g G1 G2 ql le.length cl) Try.func15 rfl 155 Try.ntmps15 (le_b rfl) ⟨h, Only.refl _ _⟩ ?_
  show SC _ _ _ _ [(0, pt g 0), (1, Value.agg #[iw k, iw 1, iw kk, iw to, Value.slice va vn vc]), (2, Value.slice qp po.length cp), (3, Value.slice qb ps.length cb), (4, Value.slice ql le.length cl)] (BrL g wd d0 d1 vd e0 e1 G1 G2 V (⟨S, t0, t1, f0, f1, po, qp, cp, ps, qb, cb, le, ql, cl, F, fs⟩ : BrM))
  refine SC.sr ?_
  refine SL.box (c := [iw k, iw 1, iw kk, iw to, Value.slice va vn vc]) rfl rfl (lt_b rfl) rfl rfl rfl fun b1 hb1 => ?_
  refine SL.as ?_
  refine SL.nn [(0, pt g 0), (2, Value.slice qp po.length cp), (3, Value.slice qb ps.length cb), (4, Value.slice ql le.length cl), (6, pt b1 0), (10, bo false)] [rG g d0 d1 wd e0 e1 vd t0 t1 f0 f1 41, rWp wd d0 d1 G1 S, rWq vd e0 e1 G2 V, rRowN (.slice qp po.length cp) (iRw po) 3 1, rRowN (.slice qb ps.length cb) (vRw ps) 28 1, rRowN (.slice ql le.length cl) (iRw le) 3 1, rZ F fs, rBlk b1 [iw k, iw 1, iw kk, iw to, Value.slice va vn vc] 30] ⟨rfl, rfl, rfl, rfl, rfl, rfl, trivial⟩ ?_
  refine SC.seq ?_
  refine SC.sr ?_
  refine SL.fa 1 fd30_1 ?_
  refine SL.ld 7 ts3 ?_
  refine SL.uu (ru_ne (b := true) rfl rfl rfl rfl) ?_
  refine SL.mv ?_
  refine SL.gg (ru_fieldAddr (o2 := 1) fd30_1 rfl rfl rfl) ?_
  refine SL.gg (ru_load (i := 7) ts3 rfl rfl rfl rfl) ?_
  refine SL.gg (ru_ne (b := false) rfl rfl rfl rfl) ?_
  refine SL.pk (bo false) (bo false) ?_
  refine SL.nn [(0, pt g 0), (2, Value.slice qp po.length cp), (3, Value.slice qb ps.length cb), (4, Value.slice ql le.length cl), (6, pt b1 0), (10, bo false), (25, bo false)] _ ⟨rfl, rfl, rfl, rfl, rfl, rfl, rfl, trivial⟩ ?_
  refine SC.no rfl ?_
  refine SC.skip ?_
  refine SC.of_SE ?_
  refine SC.norm [(0, pt g 0), (2, Value.slice qp po.length cp), (3, Value.slice qb ps.length cb), (4, Value.slice ql le.length cl), (6, pt b1 0), (10, bo false)] _ ⟨rfl, rfl, rfl, rfl, rfl, rfl, trivial⟩ rfl ?_
  refine SC.seq ?_
  refine SC.region_quiet (by kernel_rfl) (by kernel_rfl) ?_
  refine SQ.mv ?_
  refine SQ.fa 1 fd30_1 ?_
  refine SQ.ld 7 ts3 ?_
  refine SQ.uu (ru_sub (r := 0) rfl rfl rfl rfl) ?_
  refine SQ.nk ?_
  refine SQ.fa 0 fd41_0 ?_
  refine SQ.ia 0 ar34 ?_
  refine SQ.ld 0 ts33 ?_
  refine SQ.uu (ru_assign rfl rfl) ?_
  refine SQ.nilE ?_
  refine SC.of_SE ?_
  refine SC.norm [(0, pt g 0), (2, Value.slice qp po.length cp), (3, Value.slice qb ps.length cb), (4, Value.slice ql le.length cl), (6, pt b1 0), (10, bo false), (11, pt d0 0)] _ ⟨rfl, rfl, rfl, rfl, rfl, rfl, rfl, trivial⟩ rfl ?_
  refine SC.seq ?_
  refine SC.region_quiet (by kernel_rfl) (by kernel_rfl) ?_
  refine SQ.mv ?_
  refine SQ.fa 1 fd30_1 ?_
  refine SQ.ld 7 ts3 ?_
  refine SQ.uu (ru_sub (r := 0) rfl rfl rfl rfl) ?_
  refine SQ.nk ?_
  refine SQ.fa 8 fd41_5 ?_
  refine SQ.ia 8 ar39 ?_
  refine SQ.ld 0 ts3 ?_
  refine SQ.uu (ru_assign rfl rfl) ?_
  refine SQ.nilE ?_
  refine SC.of_SE ?_
  refine SC.norm [(0, pt g 0), (2, Value.slice qp po.length cp), (3, Value.slice qb ps.length cb), (4, Value.slice ql le.length cl), (6, pt b1 0), (10, bo false), (11, pt d0 0), (12, iw f0)] _ ⟨rfl, rfl, rfl, rfl, rfl, rfl, rfl, rfl, trivial⟩ rfl ?_
  refine SC.sr ?_
  refine SL.mv ?_
  refine SL.mv ?_
  have hB3 := hB.wb.setA false ((hB.wb.d0).setRx f0 274)
  refine SL.call (ζ := Nat → Prop) (fun Gw2 => iw ((setRxF S.A0 f0 274).1)) (fun Gw2 => [rG g d0 d1 wd e0 e1 vd t0 t1 f0 f1 41, rWp wd d0 d1 Gw2 (S.setA false (setRxF S.A0 f0 274).2), rWq vd e0 e1 G2 V, rRowN (.slice qp po.length cp) (iRw po) 3 1, rRowN (.slice qb ps.length cb) (vRw ps) 28 1, rRowN (.slice ql le.length cl) (iRw le) 3 1, rZ F fs, rBlk b1 [iw k, iw 1, iw kk, iw to, Value.slice va vn vc] 30]) (fun Gw2 => ∀ b, Gw2 b → GD g G1 G2 ql le.length cl b ∨ w.heap.size ≤ b) rfl rfl co37 rfl rfl rfl (lt_b rfl) (fun w5 hI => (rw_setrx0 (hI.1.get (i := 1) rfl) hB.wb.d0.ok f0 274).mono fun e w2 ⟨h1, kz⟩ => by obtain ⟨G9, k1, k2⟩ := hI.rto (i := 1) rfl hG1 kz; exact ⟨G9, h1, k1, k2⟩) ?_
  intro Gw2 hGw2
  refine SL.nn [(0, pt g 0), (2, Value.slice qp po.length cp), (3, Value.slice qb ps.length cb), (4, Value.slice ql le.length cl), (6, pt b1 0), (10, bo false), (11, pt d0 0), (12, iw f0)] [rG g d0 d1 wd e0 e1 vd t0 t1 f0 f1 41, rWp wd d0 d1 Gw2 (S.setA false (setRxF S.A0 f0 274).2), rWq vd e0 e1 G2 V, rRowN (.slice qp po.length cp) (iRw po) 3 1, rRowN (.slice qb ps.length cb) (vRw ps) 28 1, rRowN (.slice ql le.length cl) (iRw le) 3 1, rZ F fs, rBlk b1 [iw k, iw 1, iw kk, iw to, Value.slice va vn vc] 30] ⟨rfl, rfl, rfl, rfl, rfl, rfl, rfl, rfl, trivial⟩ ?_
  refine SC.sr ?_
  refine SL.mv ?_
  refine SL.mv ?_
  refine SL.uu (ru_add (r := (f0 + 1)) rfl rfl rfl ((by rw [IntKind.wrap_i64]; omega))) ?_
  refine SL.uu (ru_rem (r := (nx f0)) rfl rfl rfl (by decide) ((by rw [Int.tmod_eq_emod_of_nonneg (by omega)]; rfl))) ?_
  have hB5 := hB3.setA false ((hB3.d0).write hB3.now.1 3 (nx f0))
  refine SL.call (ζ := Nat → Prop) (fun Gw4 => iw ((writeF (S.setA false (setRxF S.A0 f0 274).2).A0 3 (nx f0)).1)) (fun Gw4 => [rG g d0 d1 wd e0 e1 vd t0 t1 f0 f1 41, rWp wd d0 d1 Gw4 (S.setA false (offerA S.A0 f0)), rWq vd e0 e1 G2 V, rRowN (.slice qp po.length cp) (iRw po) 3 1, rRowN (.slice qb ps.length cb) (vRw ps) 28 1, rRowN (.slice ql le.length cl) (iRw le) 3 1, rZ F fs, rBlk b1 [iw k, iw 1, iw kk, iw to, Value.slice va vn vc] 30]) (fun Gw4 => ∀ b, Gw4 b → GD g G1 G2 ql le.length cl b ∨ w.heap.size ≤ b) rfl rfl co11 rfl rfl rfl (lt_b rfl) (fun w5 hI => (rw_write0 (hI.1.get (i := 1) rfl) hB3.d0.ok 3 (nx f0)).mono fun e w2 ⟨h1, kz⟩ => by obtain ⟨G9, k1, k2⟩ := hI.rto (i := 1) rfl hGw2 kz; exact ⟨G9, h1, k1, k2⟩) ?_
  intro Gw4 hGw4
  refine SL.nn [(0, pt g 0), (2, Value.slice qp po.length cp), (3, Value.slice qb ps.length cb), (4, Value.slice ql le.length cl), (6, pt b1 0), (10, bo false), (11, pt d0 0), (12, iw f0)] [rG g d0 d1 wd e0 e1 vd t0 t1 f0 f1 41, rWp wd d0 d1 Gw4 (S.setA false (offerA S.A0 f0)), rWq vd e0 e1 G2 V, rRowN (.slice qp po.length cp) (iRw po) 3 1, rRowN (.slice qb ps.length cb) (vRw ps) 28 1, rRowN (.slice ql le.length cl) (iRw le) 3 1, rZ F fs, rBlk b1 [iw k, iw 1, iw kk, iw to, Value.slice va vn vc] 30] ⟨rfl, rfl, rfl, rfl, rfl, rfl, rfl, rfl, trivial⟩ ?_
  refine SC.seq ?_
  refine SC.region_tail 8 (by kernel_rfl) (by kernel_rfl) ?_
  refine SQ.mv ?_
  refine SQ.nk ?_
  refine SQ.fa 2 fd41_1 ?_
  refine SQ.ld 0 ts35 ?_
  refine SQ.fa 1 fd30_1 ?_
  refine SQ.ld 7 ts3 ?_
  refine SQ.fa 2 fd30_2 ?_
  refine SQ.ld 7 ts3 ?_
  refine SQ.nilL ?_
  have hB7 := (hB5).deliverD 1 kk
  refine SL.call (ζ := Nat → Prop) (fun Gw6 => iw ((deliverD (S.setA false (offerA S.A0 f0)) 1 kk).1)) (fun Gw6 => [rG g d0 d1 wd e0 e1 vd t0 t1 f0 f1 41, rWp wd d0 d1 Gw6 ((deliverD (S.setA false (offerA S.A0 f0)) 1 kk).2), rWq vd e0 e1 G2 V, rRowN (.slice qp po.length cp) (iRw po) 3 1, rRowN (.slice qb ps.length cb) (vRw ps) 28 1, rRowN (.slice ql le.length cl) (iRw le) 3 1, rZ F fs, rBlk b1 [iw k, iw 1, iw kk, iw to, Value.slice va vn vc] 30]) (fun Gw6 => ∀ b, Gw6 b → GD g G1 G2 ql le.length cl b ∨ w.heap.size ≤ b) rfl rfl co36 rfl rfl rfl (lt_b rfl) (fun w5 hI => (rw_deliver hB5 (by omega) (hI.1.get (i := 1) rfl) 1 kk).mono fun e w2 ⟨h1, kz⟩ => by obtain ⟨G9, k1, k2⟩ := hI.rto (i := 1) rfl hGw4 kz; exact ⟨G9, h1, k1, k2⟩) ?_
  intro Gw6 hGw6
  refine SL.as ?_
  refine SL.nn [(0, pt g 0), (2, Value.slice qp po.length cp), (3, Value.slice qb ps.length cb), (4, Value.slice ql le.length cl), (6, pt b1 0), (10, bo false), (11, pt d0 0), (12, iw f0), (13, iw ((deliverD (S.setA false (offerA S.A0 f0)) 1 kk).1))] [rG g d0 d1 wd e0 e1 vd t0 t1 f0 f1 41, rWp wd d0 d1 Gw6 ((deliverD (S.setA false (offerA S.A0 f0)) 1 kk).2), rWq vd e0 e1 G2 V, rRowN (.slice qp po.length cp) (iRw po) 3 1, rRowN (.slice qb ps.length cb) (vRw ps) 28 1, rRowN (.slice ql le.length cl) (iRw le) 3 1, rZ F fs, rBlk b1 [iw k, iw 1, iw kk, iw to, Value.slice va vn vc] 30] ⟨rfl, rfl, rfl, rfl, rfl, rfl, rfl, rfl, rfl, trivial⟩ ?_
  refine SC.seq ?_
  refine SC.sr ?_
  refine SL.mv ?_
  refine SL.uu (ru_ne (b := ((((deliverD (S.setA false (offerA S.A0 f0)) 1 kk).1) : Int) != 0)) rfl rfl rfl rfl) ?_
  refine SL.nn [(0, pt g 0), (2, Value.slice qp po.length cp), (3, Value.slice qb ps.length cb), (4, Value.slice ql le.length cl), (6, pt b1 0), (10, bo false), (11, pt d0 0), (12, iw f0), (13, iw ((deliverD (S.setA false (offerA S.A0 f0)) 1 kk).1)), (70, bo ((((deliverD (S.setA false (offerA S.A0 f0)) 1 kk).1) : Int) != 0))] _ ⟨rfl, rfl, rfl, rfl, rfl, rfl, rfl, rfl, rfl, rfl, trivial⟩ ?_
  refine SC.both ((((deliverD (S.setA false (offerA S.A0 f0)) 1 kk).1) : Int) != 0) rfl (fun h8 => ?_) (fun h8 => ?_)
  · skip
    refine SC.seq ?_
    obtain ⟨h7, hB4⟩ := dlv_no (Z := (⟨S, t0, t1, f0, f1, po, ps.map (·.2), le⟩ : Br)) (b := true) (k := kk) hB (ne_t h8)
    have h7 : (deliverD (S.setA false (offerA S.A0 f0)) 1 kk).1 = 7 := h7
    refine SC.region ?_
    refine SL.mv ?_
    refine SL.mv ?_
    have hB10 := hB7.setA false ((hB7.d0).write hB7.now.1 3 f0)
    refine SL.call (ζ := Nat → Prop) (fun Gw9 => iw ((writeF ((deliverD (S.setA false (offerA S.A0 f0)) 1 kk).2).A0 3 f0).1)) (fun Gw9 => [rG g d0 d1 wd e0 e1 vd t0 t1 f0 f1 41, rWp wd d0 d1 Gw9 (((deliverD (S.setA false (offerA S.A0 f0)) 1 kk).2).setA false (writeF ((deliverD (S.setA false (offerA S.A0 f0)) 1 kk).2).A0 3 f0).2), rWq vd e0 e1 G2 V, rRowN (.slice qp po.length cp) (iRw po) 3 1, rRowN (.slice qb ps.length cb) (vRw ps) 28 1, rRowN (.slice ql le.length cl) (iRw le) 3 1, rZ F fs, rBlk b1 [iw k, iw 1, iw kk, iw to, Value.slice va vn vc] 30]) (fun Gw9 => ∀ b, Gw9 b → GD g G1 G2 ql le.length cl b ∨ w.heap.size ≤ b) rfl rfl co11 rfl rfl rfl (lt_b rfl) (fun w5 hI => (rw_write0 (hI.1.get (i := 1) rfl) hB7.d0.ok 3 f0).mono fun e w2 ⟨h1, kz⟩ => by obtain ⟨G9, k1, k2⟩ := hI.rto (i := 1) rfl hGw6 kz; exact ⟨G9, h1, k1, k2⟩) ?_
    intro Gw9 hGw9
    refine SL.nn [(0, pt g 0), (2, Value.slice qp po.length cp), (3, Value.slice qb ps.length cb), (4, Value.slice ql le.length cl), (6, pt b1 0), (10, bo false), (11, pt d0 0), (12, iw f0), (13, iw ((deliverD (S.setA false (offerA S.A0 f0)) 1 kk).1))] [rG g d0 d1 wd e0 e1 vd t0 t1 f0 f1 41, rWp wd d0 d1 Gw9 (((deliverD (S.setA false (offerA S.A0 f0)) 1 kk).2).setA false (writeF ((deliverD (S.setA false (offerA S.A0 f0)) 1 kk).2).A0 3 f0).2), rWq vd e0 e1 G2 V, rRowN (.slice qp po.length cp) (iRw po) 3 1, rRowN (.slice qb ps.length cb) (vRw ps) 28 1, rRowN (.slice ql le.length cl) (iRw le) 3 1, rZ F fs, rBlk b1 [iw k, iw 1, iw kk, iw to, Value.slice va vn vc] 30] ⟨rfl, rfl, rfl, rfl, rfl, rfl, rfl, rfl, rfl, trivial⟩ ?_
    refine SC.sr ?_
    refine SL.mv ?_
    refine SL.uu (ru_eq (b := true) rfl rfl rfl ((by rw [h7]; rfl))) ?_
    refine SL.as ?_
    refine SL.nn [(0, pt g 0), (2, Value.slice qp po.length cp), (3, Value.slice qb ps.length cb), (4, Value.slice ql le.length cl), (6, pt b1 0), (10, bo true), (11, pt d0 0), (12, iw f0)] _ ⟨rfl, rfl, rfl, rfl, rfl, rfl, rfl, rfl, trivial⟩ ?_
    refine SC.ret ?_
    refine SE.passr ?_
    refine SE.res (.inl rfl) (res1 Try.results15 rfl) fun w1 hI => ?_
    have hO := hI.2
    exact ⟨rfl, (((deliverD (S.setA false (offerA S.A0 f0)) 1 kk).2).setA false (writeF ((deliverD (S.setA false (offerA S.A0 f0)) 1 kk).2).A0 3 f0).2), f0, f1, le, Gw9, G2, hB4, rfl, (hI.keep 7).1, hGw9, hG2, hO⟩
  refine SC.skip ?_
  refine SC.of_SE ?_
  refine SC.norm [(0, pt g 0), (2, Value.slice qp po.length cp), (3, Value.slice qb ps.length cb), (4, Value.slice ql le.length cl), (6, pt b1 0), (10, bo false), (11, pt d0 0), (12, iw f0)] _ ⟨rfl, rfl, rfl, rfl, rfl, rfl, rfl, rfl, trivial⟩ rfl ?_
  refine SC.seq ?_
  obtain ⟨x, hrx, hbad, hgood⟩ := dlv_ok (Z := (⟨S, t0, t1, f0, f1, po, ps.map (·.2), le⟩ : Br)) (b := true) (k := kk) hB (Classical.byContradiction fun hc => ne_f h8 hc)
  have hrx : rxR (((deliverD (S.setA false (offerA S.A0 f0)) 1 kk).2).A0) f0 = ((x.f, x.bad), 0) := hrx
  have hxl : x.f.length ≤ 65535 := by have h8 : (rxR (((deliverD (S.setA false (offerA S.A0 f0)) 1 kk).2).A0) f0).1.1.length ≤ 65535 := rx_lenb hB7.d0.ok f0; rw [hrx] at h8; exact h8
  refine SC.region_tail 10 (by kernel_rfl) (by kernel_rfl) ?_
  refine SQ.mv ?_
  refine SQ.fa 1 fd30_1 ?_
  refine SQ.ld 7 ts3 ?_
  refine SQ.uu (ru_sub (r := 0) rfl rfl rfl rfl) ?_
  refine SQ.mv ?_
  refine SQ.uu (ru_add (r := (f0 + 1)) rfl rfl rfl ((by rw [IntKind.wrap_i64]; omega))) ?_
  refine SQ.uu (ru_rem (r := (nx f0)) rfl rfl rfl (by decide) ((by rw [Int.tmod_eq_emod_of_nonneg (by omega)]; rfl))) ?_
  refine SQ.nk ?_
  refine SQ.fa 8 fd41_5 ?_
  refine SQ.ia 8 ar39 ?_
  refine SQ.nilL ?_
  refine SL.store (i := 0) (c' := [pt d0 0, pt d1 0, pt wd 0, pt e0 0, pt e1 0, pt vd 0, iw t0, iw t1, iw (nx f0), iw f1]) rfl rfl ts3 rfl rfl rfl rfl rfl (lt_b rfl) (.inl (.inl (.inl rfl))) rfl ?_
  refine SL.nn [(0, pt g 0), (2, Value.slice qp po.length cp), (3, Value.slice qb ps.length cb), (4, Value.slice ql le.length cl), (6, pt b1 0), (10, bo false), (11, pt d0 0), (12, iw f0)] [rG g d0 d1 wd e0 e1 vd t0 t1 (nx f0) f1 41, rWp wd d0 d1 Gw6 ((deliverD (S.setA false (offerA S.A0 f0)) 1 kk).2), rWq vd e0 e1 G2 V, rRowN (.slice qp po.length cp) (iRw po) 3 1, rRowN (.slice qb ps.length cb) (vRw ps) 28 1, rRowN (.slice ql le.length cl) (iRw le) 3 1, rZ F fs, rBlk b1 [iw k, iw 1, iw kk, iw to, Value.slice va vn vc] 30] ⟨rfl, rfl, rfl, rfl, rfl, rfl, rfl, rfl, trivial⟩ ?_
  refine SC.sr ?_
  refine SL.mv ?_
  refine SL.mv ?_
  refine SL.call (ζ := Option Addr × Nat) (fun z => Value.tuple #[Value.slice z.1 x.f.length z.2, bo x.bad, iw 0]) (fun z => [rG g d0 d1 wd e0 e1 vd t0 t1 (nx f0) f1 41, rWp wd d0 d1 Gw6 ((deliverD (S.setA false (offerA S.A0 f0)) 1 kk).2), rWq vd e0 e1 G2 V, rRowN (.slice qp po.length cp) (iRw po) 3 1, rRowN (.slice qb ps.length cb) (vRw ps) 28 1, rRowN (.slice ql le.length cl) (iRw le) 3 1, rZ F fs, rBlk b1 [iw k, iw 1, iw kk, iw to, Value.slice va vn vc] 30] ++ [rMine (.slice z.1 x.f.length z.2) x.f 5]) (fun z => True) rfl rfl co38 rfl rfl rfl (lt_b rfl) (fun w5 hI => (rw_rx0 (hI.1.get (i := 1) rfl) hB7.d0.ok f0).mono fun e w2 ⟨v, h1, h2, h3⟩ => by rw [hrx] at h1 h3; obtain ⟨qa, qc, rfl, k2⟩ := Inv.rxedb hI (by show x.f.length ≤ _; omega) h2 h3; exact ⟨(qa, qc), h1, k2, trivial⟩) ?_
  rintro ⟨q11, c12⟩ _
  refine SL.mv ?_
  refine SL.uu (ru_extract rfl rfl rfl) ?_
  refine SL.uu (ru_extract rfl rfl rfl) ?_
  refine SL.uu (ru_extract rfl rfl rfl) ?_
  refine SL.as ?_
  refine SL.as ?_
  refine SL.as ?_
  refine SL.nn [(0, pt g 0), (2, Value.slice qp po.length cp), (3, Value.slice qb ps.length cb), (4, Value.slice ql le.length cl), (6, pt b1 0), (10, bo false), (14, Value.slice q11 x.f.length c12), (15, bo x.bad), (16, iw 0)] [rG g d0 d1 wd e0 e1 vd t0 t1 (nx f0) f1 41, rWp wd d0 d1 Gw6 ((deliverD (S.setA false (offerA S.A0 f0)) 1 kk).2), rWq vd e0 e1 G2 V, rRowN (.slice qp po.length cp) (iRw po) 3 1, rRowN (.slice qb ps.length cb) (vRw ps) 28 1, rRowN (.slice ql le.length cl) (iRw le) 3 1, rZ F fs, rBlk b1 [iw k, iw 1, iw kk, iw to, Value.slice va vn vc] 30, rMine (.slice q11 x.f.length c12) x.f 5] ⟨rfl, rfl, rfl, rfl, rfl, rfl, rfl, rfl, rfl, trivial⟩ ?_
  refine SC.seq ?_
  refine SC.sr ?_
  refine SL.mv ?_
  refine SL.uu (ru_ne (b := false) rfl rfl rfl rfl) ?_
  refine SL.nn [(0, pt g 0), (2, Value.slice qp po.length cp), (3, Value.slice qb ps.length cb), (4, Value.slice ql le.length cl), (6, pt b1 0), (10, bo false), (14, Value.slice q11 x.f.length c12), (15, bo x.bad), (94, bo false)] _ ⟨rfl, rfl, rfl, rfl, rfl, rfl, rfl, rfl, rfl, trivial⟩ ?_
  refine SC.no rfl ?_
  refine SC.skip ?_
  refine SC.of_SE ?_
  refine SC.norm [(0, pt g 0), (2, Value.slice qp po.length cp), (3, Value.slice qb ps.length cb), (4, Value.slice ql le.length cl), (6, pt b1 0), (10, bo false), (14, Value.slice q11 x.f.length c12), (15, bo x.bad)] _ ⟨rfl, rfl, rfl, rfl, rfl, rfl, rfl, rfl, trivial⟩ rfl ?_
  refine SC.seq ?_
  refine SC.sr ?_
  refine SL.mv ?_
  refine SL.nn [(0, pt g 0), (2, Value.slice qp po.length cp), (3, Value.slice qb ps.length cb), (4, Value.slice ql le.length cl), (6, pt b1 0), (10, bo false), (14, Value.slice q11 x.f.length c12), (95, bo x.bad)] _ ⟨rfl, rfl, rfl, rfl, rfl, rfl, rfl, rfl, trivial⟩ ?_
  refine SC.both x.bad rfl (fun h13 => ?_) (fun h13 => ?_)
  · skip
    refine SC.sr ?_
    refine SL.as ?_
    refine SL.nn [(0, pt g 0), (2, Value.slice qp po.length cp), (3, Value.slice qb ps.length cb), (4, Value.slice ql le.length cl), (6, pt b1 0), (10, bo true), (14, Value.slice q11 x.f.length c12)] _ ⟨rfl, rfl, rfl, rfl, rfl, rfl, rfl, trivial⟩ ?_
    refine SC.ret ?_
    refine SE.passr ?_
    refine SE.res (.inl rfl) (res1 Try.results15 rfl) fun w1 hI => ?_
    have hO := hI.2
    exact ⟨rfl, ((deliverD (S.setA false (offerA S.A0 f0)) 1 kk).2), nx f0, f1, le, Gw6, G2, hbad h13, rfl, (hI.keep 7).1, hGw6, hG2, hO⟩
  refine SC.skip ?_
  refine SC.of_SE ?_
  refine SC.norm [(0, pt g 0), (2, Value.slice qp po.length cp), (3, Value.slice qb ps.length cb), (4, Value.slice ql le.length cl), (6, pt b1 0), (10, bo false), (14, Value.slice q11 x.f.length c12)] _ ⟨rfl, rfl, rfl, rfl, rfl, rfl, rfl, trivial⟩ rfl ?_
  refine SC.seq ?_
  obtain ⟨v, hbs, hpo, hsd, hx3, hle, hv1, hvn, hyt, hB9⟩ := hgood h13
  obtain ⟨y0, y1, y2, hy0, hy1, hy2, hnum⟩ := three hx3
  have hb90 := y0.toNat_lt
  have hb91 := y1.toNat_lt
  have hb92 := y2.toNat_lt
  obtain ⟨⟨xv, x9⟩, hxp, e9⟩ := map_get hbs
  dsimp only at e9
  subst e9
  have hxf := hps _ (List.mem_of_getElem? hxp)
  obtain ⟨xa, xc, exv⟩ := ((h.get (i := 6) rfl).2 _ _ hxf).1.form
  dsimp only at exv hxf
  subst exv
  have hnlt : numF x.f < ps.length := get_lt hxp
  have hnlp : numF x.f < po.length := get_lt hpo
  have hnll : numF x.f < le.length := get_lt hle
  have hnow : ((deliverD (S.setA false (offerA S.A0 f0)) 1 kk).2).now = S.now := dlv_now (S.setA false (offerA S.A0 f0)) true kk
  have hw9 := hB.wb.now
  simp only at hpo hsd hle hv1 hvn hyt hw9
  have hy2n : y2 = 1 := by have h8 : some y2 = some (sd8 true) := hy2.symm.trans hsd; exact Option.some.inj h8
  refine SC.weakN 8 (rRowN (.slice q11 x.f.length c12) (bRows x.f) 5 1) rfl (fun w h => mine_rows.1 h) (fun b hb => hb) ?_
  refine SC.region_quiet (by kernel_rfl) (by kernel_rfl) ?_
  refine SQ.mv ?_
  refine SQ.uu (ru_index_rowN (ri := 8) si28 rfl rfl rfl rfl (by omega) (by omega)) ?_
  refine SQ.uu (ru_load_rowN (size := 1) (ri := 8) (i := (0 : Int).toNat) (k := 0) (r := [Value.int .u8 (y0.toNat : Int)]) ts5 rfl rfl rfl (by unfold bRows; rw [List.getElem?_map, show x.f[(0 : Int).toNat]? = some y0 from hy0]; rfl) (by decide) rfl) ?_
  refine SQ.uu (ru_conv (r := (y0.toNat : Int)) ⟨_, Try.underlying5⟩ Try.underlying3 rfl rfl (by rw [IntKind.wrap_i64]; omega)) ?_
  refine SQ.uu (ru_mul (r := (256 * (y0.toNat : Int))) rfl rfl rfl ((by rw [IntKind.wrap_i64]; omega))) ?_
  refine SQ.mv ?_
  refine SQ.uu (ru_index_rowN (ri := 8) si28 rfl rfl rfl rfl (by omega) (by omega)) ?_
  refine SQ.uu (ru_load_rowN (size := 1) (ri := 8) (i := (1 : Int).toNat) (k := 0) (r := [Value.int .u8 (y1.toNat : Int)]) ts5 rfl rfl rfl (by unfold bRows; rw [List.getElem?_map, show x.f[(1 : Int).toNat]? = some y1 from hy1]; rfl) (by decide) rfl) ?_
  refine SQ.uu (ru_conv (r := (y1.toNat : Int)) ⟨_, Try.underlying5⟩ Try.underlying3 rfl rfl (by rw [IntKind.wrap_i64]; omega)) ?_
  refine SQ.uu (ru_add (r := (numF x.f : Int)) rfl rfl rfl ((by rw [IntKind.wrap_i64]; omega))) ?_
  refine SQ.uu (ru_assign rfl rfl) ?_
  refine SQ.nilE ?_
  refine SC.of_SE ?_
  refine SC.norm [(0, pt g 0), (2, Value.slice qp po.length cp), (3, Value.slice qb ps.length cb), (4, Value.slice ql le.length cl), (6, pt b1 0), (10, bo false), (14, Value.slice q11 x.f.length c12), (17, iw (numF x.f : Int))] [rG g d0 d1 wd e0 e1 vd t0 t1 (nx f0) f1 41, rWp wd d0 d1 Gw6 ((deliverD (S.setA false (offerA S.A0 f0)) 1 kk).2), rWq vd e0 e1 G2 V, rRowN (.slice qp po.length cp) (iRw po) 3 1, rRowN (.slice qb ps.length cb) (vRw ps) 28 1, rRowN (.slice ql le.length cl) (iRw le) 3 1, rZ F fs, rBlk b1 [iw k, iw 1, iw kk, iw to, Value.slice va vn vc] 30, rRowN (.slice q11 x.f.length c12) (bRows x.f) 5 1] ⟨rfl, rfl, rfl, rfl, rfl, rfl, rfl, rfl, trivial⟩ rfl ?_
  refine SC.seq ?_
  refine SC.seq ?_
  refine SC.region_mk_tail 39 [(32, Mk.val (iw (((deliverD (S.setA false (offerA S.A0 f0)) 1 kk).2).now)))] [(33, [32]), (34, [32]), (35, [32]), (36, [32]), (37, [32]), (38, [32])] rfl rfl (by kernel_rfl) (by kernel_rfl) (by kernel_rfl) ?_
  refine SM.uu (ru_move rfl rfl) ?_
  refine SM.uu (ru_move rfl rfl) ?_
  refine SM.uu (ru_len Try.underlying27 rfl rfl) ?_
  refine SM.uu (ru_ge (b := false) rfl rfl rfl ((decide_eq_false (by omega)))) ?_
  refine SM.uu (ru_move rfl rfl) ?_
  refine SM.ru rfl rfl rfl (w_yes rfl rfl rfl) rfl (lt_b rfl) (ru_move rfl rfl) ?_
  refine SM.ru rfl rfl rfl (w_yes rfl rfl rfl) rfl (lt_b rfl) (ru_str (f := x.f) Try.underlying28 Try.underlying5 Try.underlying9 rfl rfl (fun w hI => OwnBytes.bytes (mine_rows (f := x.f).2 (hI.1.get (i := 8) rfl)) (by omega))) ?_
  refine SM.ru rfl rfl rfl (w_yes rfl rfl rfl) rfl (lt_b rfl) (ru_move rfl rfl) ?_
  refine SM.ru rfl rfl rfl (w_yes rfl rfl rfl) rfl (lt_b rfl) (ru_move rfl rfl) ?_
  refine SM.ru rfl rfl rfl (w_yes rfl rfl rfl) rfl (lt_b rfl) (ru_index_rowN (ri := 4) si27 rfl rfl rfl rfl (by omega) (by omega)) ?_
  refine SM.ru rfl rfl rfl (w_yes rfl rfl rfl) rfl (lt_b rfl) (ru_load_rowN (size := 1) (ri := 4) (i := (numF x.f : Int).toNat) (k := 0) (r := [Value.slice xa x.f.length xc]) ts28 rfl rfl rfl (by rw [Int.toNat_natCast]; show (List.map _ ps)[_]? = _; rw [List.getElem?_map, hxp]; rfl) (by decide) rfl) ?_
  refine SM.ru rfl rfl rfl (w_yes rfl rfl rfl) rfl (lt_b rfl) (ru_str (f := x.f) Try.underlying28 Try.underlying5 Try.underlying9 rfl rfl (fun w hI => ((hI.1.get (i := 6) rfl).2 _ _ hxf).1)) ?_
  refine SM.ru rfl rfl rfl (w_yes rfl rfl rfl) rfl (lt_b rfl) (ru_strne (f := x.f) (h := x.f) (b := false) Try.underlying9 rfl rfl rfl (by simp)) ?_
  refine SM.uu (ru_pick (u := bo true) (v := bo false) rfl rfl rfl rfl) ?_
  refine SM.uu (ru_move rfl rfl) ?_
  refine SM.ru rfl rfl rfl (w_yes rfl rfl rfl) rfl (lt_b rfl) (ru_move rfl rfl) ?_
  refine SM.ru rfl rfl rfl (w_yes rfl rfl rfl) rfl (lt_b rfl) (ru_index_rowN (ri := 8) si28 rfl rfl rfl rfl (by omega) (by omega)) ?_
  refine SM.ru rfl rfl rfl (w_yes rfl rfl rfl) rfl (lt_b rfl) (ru_load_rowN (size := 1) (ri := 8) (i := (2 : Int).toNat) (k := 0) (r := [Value.int .u8 (y2.toNat : Int)]) ts5 rfl rfl rfl (by unfold bRows; rw [List.getElem?_map, show x.f[(2 : Int).toNat]? = some y2 from hy2]; rfl) (by decide) rfl) ?_
  refine SM.ru rfl rfl rfl (w_yes rfl rfl rfl) rfl (lt_b rfl) (ru_conv (r := (y2.toNat : Int)) ⟨_, Try.underlying5⟩ Try.underlying3 rfl rfl (by rw [IntKind.wrap_i64]; omega)) ?_
  refine SM.ru rfl rfl rfl (w_yes rfl rfl rfl) rfl (lt_b rfl) (ru_fieldAddr (o2 := 1) fd30_1 rfl rfl rfl) ?_
  refine SM.ru rfl rfl rfl (w_yes rfl rfl rfl) rfl (lt_b rfl) (ru_load (i := 7) ts3 rfl rfl rfl rfl) ?_
  refine SM.ru rfl rfl rfl (w_yes rfl rfl rfl) rfl (lt_b rfl) (ru_ne (b := false) rfl rfl rfl ((by rw [hy2n]; decide))) ?_
  refine SM.uu (ru_pick (u := bo true) (v := bo false) rfl rfl rfl rfl) ?_
  refine SM.uu (ru_move rfl rfl) ?_
  refine SM.ru rfl rfl rfl (w_yes rfl rfl rfl) rfl (lt_b rfl) (ru_move rfl rfl) ?_
  refine SM.ru rfl rfl rfl (w_yes rfl rfl rfl) rfl (lt_b rfl) (ru_move rfl rfl) ?_
  refine SM.ru rfl rfl rfl (w_yes rfl rfl rfl) rfl (lt_b rfl) (ru_index_rowN (ri := 3) si26 rfl rfl rfl rfl (by omega) (by omega)) ?_
  refine SM.ru rfl rfl rfl (w_yes rfl rfl rfl) rfl (lt_b rfl) (ru_load_rowN (size := 1) (ri := 3) (i := (numF x.f : Int).toNat) (k := 0) (r := [iw x.tick]) ts3 rfl rfl rfl (by rw [Int.toNat_natCast]; show (List.map _ po)[_]? = _; rw [List.getElem?_map, hpo]; rfl) (by decide) rfl) ?_
  refine SM.ru rfl rfl rfl (w_yes rfl rfl rfl) rfl (lt_b rfl) (ru_move rfl rfl) ?_
  refine SM.ru rfl rfl rfl (w_yes rfl rfl rfl) rfl (lt_b rfl) (ru_nilCheck rfl rfl) ?_
  refine SM.ru rfl rfl rfl (w_yes rfl rfl rfl) rfl (lt_b rfl) (ru_fieldAddr (o2 := 2) fd41_1 rfl rfl rfl) ?_
  refine SM.ru rfl rfl rfl (w_yes rfl rfl rfl) rfl (lt_b rfl) (ru_load (i := 0) ts35 rfl rfl rfl rfl) ?_
  refine SM.call rfl rfl rfl rfl (w_yes rfl rfl rfl) rfl (lt_b rfl) (iw (((deliverD (S.setA false (offerA S.A0 f0)) 1 kk).2).now)) rfl rfl co12 rfl rfl (fun l' w hI => H_only hI (rw_now (hI.1.get (i := 1) rfl))) ?_
  refine SM.ru rfl rfl rfl (w_yes rfl rfl rfl) rfl (lt_b rfl) (ru_sub (r := (S.now - 8)) rfl rfl rfl ((by rw [hnow, IntKind.wrap_i64]; omega))) ?_
  refine SM.ru rfl rfl rfl (w_yes rfl rfl rfl) rfl (lt_b rfl) (ru_le (b := false) rfl rfl rfl ((decide_eq_false (by omega)))) ?_
  refine SM.uu (ru_pick (u := bo true) (v := bo false) rfl rfl rfl rfl) ?_
  refine SM.uu (ru_move rfl rfl) ?_
  refine SM.ru rfl rfl rfl (w_yes rfl rfl rfl) rfl (lt_b rfl) (ru_move rfl rfl) ?_
  refine SM.ru rfl rfl rfl (w_yes rfl rfl rfl) rfl (lt_b rfl) (ru_move rfl rfl) ?_
  refine SM.nilL (l' := [rG g d0 d1 wd e0 e1 vd t0 t1 (nx f0) f1 41, rWp wd d0 d1 Gw6 ((deliverD (S.setA false (offerA S.A0 f0)) 1 kk).2), rWq vd e0 e1 G2 V, rRowN (.slice qp po.length cp) (iRw po) 3 1, rRowN (.slice qb ps.length cb) (vRw ps) 28 1, rRowN (.slice ql le.length cl) (iRw le) 3 1, rZ F fs, rBlk b1 [iw k, iw 1, iw kk, iw to, Value.slice va vn vc] 30, rRowN (.slice q11 x.f.length c12) (bRows x.f) 5 1]) rfl ?_
  refine SL.gg (ru_index_rowN (ri := 5) si26 rfl rfl rfl rfl (by omega) (by omega)) ?_
  refine SL.gg (ru_load_rowN (size := 1) (ri := 5) (i := (numF x.f : Int).toNat) (k := 0) (r := [iw v]) ts3 rfl rfl rfl (by rw [Int.toNat_natCast]; show (List.map _ le)[_]? = _; rw [List.getElem?_map, hle]; rfl) (by decide) rfl) ?_
  refine SL.gg (ru_eq (b := false) rfl rfl rfl ((by simp; omega))) ?_
  refine SL.pk (bo true) (bo false) ?_
  refine SL.nn [(4, Value.slice ql le.length cl), (10, bo false), (17, iw (numF x.f : Int)), (148, bo false)] _ ⟨rfl, rfl, rfl, rfl, trivial⟩ ?_
  refine SC.no rfl ?_
  refine SC.skip ?_
  refine SC.of_SE ?_
  refine SC.norm [(4, Value.slice ql le.length cl), (10, bo false), (17, iw (numF x.f : Int))] _ ⟨rfl, rfl, rfl, trivial⟩ rfl ?_
  refine SC.sr ?_
  refine SL.mv ?_
  refine SL.mv ?_
  refine SL.uu (ru_index_rowN (ri := 5) si26 rfl rfl rfl rfl (by omega) (by omega)) ?_
  refine SL.uu (ru_load_rowN (size := 1) (ri := 5) (i := (numF x.f : Int).toNat) (k := 0) (r := [iw v]) ts3 rfl rfl rfl (by rw [Int.toNat_natCast]; show (List.map _ le)[_]? = _; rw [List.getElem?_map, hle]; rfl) (by decide) rfl) ?_
  refine SL.uu (ru_sub (r := (v - 1)) rfl rfl rfl ((by rw [IntKind.wrap_i64]; omega))) ?_
  refine SL.uu (ru_index_rowN (ri := 5) si26 rfl rfl rfl rfl (by omega) (by omega)) ?_
  refine SL.store_rowN (ri := 5) (i := (numF x.f : Int).toNat) (k := 0) (r := [iw v]) rfl rfl ts3 rfl rfl rfl rfl rfl (by rw [Int.toNat_natCast]; show (List.map _ le)[_]? = _; rw [List.getElem?_map, hle]; rfl) (by decide) (fun b hb => .inl (.inr hb)) ?_
  refine SL.nn [(10, bo false)] [rG g d0 d1 wd e0 e1 vd t0 t1 (nx f0) f1 41, rWp wd d0 d1 Gw6 ((deliverD (S.setA false (offerA S.A0 f0)) 1 kk).2), rWq vd e0 e1 G2 V, rRowN (.slice qp po.length cp) (iRw po) 3 1, rRowN (.slice qb ps.length cb) (vRw ps) 28 1, rRowN (.slice ql le.length cl) ((iRw le).set ((numF x.f : Int).toNat) ([iw v].set 0 (iw (v - 1)))) 3 1, rZ F fs, rBlk b1 [iw k, iw 1, iw kk, iw to, Value.slice va vn vc] 30, rRowN (.slice q11 x.f.length c12) (bRows x.f) 5 1] ⟨rfl, trivial⟩ ?_
  refine SC.sr ?_
  refine SL.as ?_
  refine SL.nn [(10, bo true)] _ ⟨rfl, trivial⟩ ?_
  refine SC.ret ?_
  refine SE.res (.inl rfl) (res1 Try.results15 rfl) fun w1 hI => ?_
  have hO := hI.2
  have er : (iRw le).set ((numF x.f : Int).toNat) ([iw v].set 0 (iw (v - 1))) = iRw (le.set (numF x.f) (v - 1)) := by rw [Int.toNat_natCast]; exact iRw_set _ _ _
  have el : (le.set (numF x.f) (v - 1)).length = le.length := List.length_set
  rw [er, ← el] at hI
  exact ⟨rfl, ((deliverD (S.setA false (offerA S.A0 f0)) 1 kk).2), nx f0, f1, le.set (numF x.f) (v - 1), Gw6, G2, hB9, el, (hI.keep 7).1, hGw6, hG2, hO⟩
theorem dlvX_any {n : Nat} {w : World} {g wd d0 d1 vd e0 e1 : Nat} {G1 G2 : Nat → Prop} {S V : Wi} {t0 t1 f0 f1 : Int} {po : List Int} {qp : Option Addr} {cp : Nat} {ps : List (Value × List UInt8)} {qb : Option Addr} {cb : Nat} {le : List Int} {ql : Option Addr} {cl : Nat} {F : Nat → Prop} {fs : Value → List UInt8 → Prop} {k dir kk to : Int} {va : Option Addr} {vn vc : Nat} (hn : n < 2900000000000) (hd : isD dir = false) (hB : BI n (⟨S, t0, t1, f0, f1, po, ps.map (·.2), le⟩ : Br)) (hps : ∀ p ∈ ps, fs p.1 p.2) (h : Sep w (BrL g wd d0 d1 vd e0 e1 G1 G2 V (⟨S, t0, t1, f0, f1, po, qp, cp, ps, qb, cb, le, ql, cl, F, fs⟩ : BrM))) : Calls Try.prog 15 #[pt g 0, Value.agg #[iw k, iw dir, iw kk, iw to, Value.slice va vn vc], Value.slice qp po.length cp, Value.slice qb ps.length cb, Value.slice ql le.length cl] w fun e w' => e = .returned (bo true) ∧ DlTo w g wd d0 d1 vd e0 e1 G1 G2 n V (⟨S, t0, t1, f0, f1, po, qp, cp, ps, qb, cb, le, ql, cl, F, fs⟩ : BrM) w' := by
  have hG1 : ∀ b, G1 b → GD g G1 G2 ql le.length cl b ∨ w.heap.size ≤ b := fun b hb => .inl (.inl (.inr (.inl hb)))
  have hG2 : ∀ b, G2 b → GD g G1 G2 ql le.length cl b ∨ w.heap.size ≤ b := fun b hb => .inl (.inl (.inr (.inr hb)))
  refine calls_sc (l0 := (BrL g wd d0 d1 vd e0 e1 G1 G2 V (⟨S, t0, t1, f0, f1, po, qp, cp, ps, qb, cb, le, ql, cl, F, fs⟩ : BrM))) (args := [pt g 0, Value.agg #[iw k, iw dir, iw kk, iw to, Value.slice va vn vc], Value.slice qp po.length cp, Value.slice qb ps.length cb, Value.slice ql le.length cl]) (GD g G1 G2 ql le.length cl) Try.func15 rfl 155 Try.ntmps15 (le_b rfl) ⟨h, Only.refl _ _⟩ ?_
  show SC _ _ _ _ [(0, pt g 0), (1, Value.agg #[iw k, iw dir, iw kk, iw to, Value.slice va vn vc]), (2, Value.slice qp po.length cp), (3, Value.slice qb ps.length cb), (4, Value.slice ql le.length cl)] (BrL g wd d0 d1 vd e0 e1 G1 G2 V (⟨S, t0, t1, f0, f1, po, qp, cp, ps, qb, cb, le, ql, cl, F, fs⟩ : BrM))
  refine SC.sr ?_
  refine SL.box (c := [iw k, iw dir, iw kk, iw to, Value.slice va vn vc]) rfl rfl (lt_b rfl) rfl rfl rfl fun b1 hb1 => ?_
  refine SL.as ?_
  refine SL.nn [(0, pt g 0), (2, Value.slice qp po.length cp), (3, Value.slice qb ps.length cb), (4, Value.slice ql le.length cl), (6, pt b1 0), (10, bo false)] [rG g d0 d1 wd e0 e1 vd t0 t1 f0 f1 41, rWp wd d0 d1 G1 S, rWq vd e0 e1 G2 V, rRowN (.slice qp po.length cp) (iRw po) 3 1, rRowN (.slice qb ps.length cb) (vRw ps) 28 1, rRowN (.slice ql le.length cl) (iRw le) 3 1, rZ F fs, rBlk b1 [iw k, iw dir, iw kk, iw to, Value.slice va vn vc] 30] ⟨rfl, rfl, rfl, rfl, rfl, rfl, trivial⟩ ?_
  refine SC.seq ?_
  refine SC.sr ?_
  refine SL.fa 1 fd30_1 ?_
  refine SL.ld 7 ts3 ?_
  refine SL.uu (ru_ne (b := ((dir : Int) != 0)) rfl rfl rfl rfl) ?_
  refine SL.mv ?_
  refine SL.join 4 [(0, pt g 0), (2, Value.slice qp po.length cp), (3, Value.slice qb ps.length cb), (4, Value.slice ql le.length cl), (6, pt b1 0), (10, bo false), (18, pt b1 1), (19, iw dir), (20, bo ((dir : Int) != 0)), (21, bo ((dir : Int) != 0)), (25, bo (((dir : Int) != 0) && ((dir : Int) != 1)))] [rG g d0 d1 wd e0 e1 vd t0 t1 f0 f1 41, rWp wd d0 d1 G1 S, rWq vd e0 e1 G2 V, rRowN (.slice qp po.length cp) (iRw po) 3 1, rRowN (.slice qb ps.length cb) (vRw ps) 28 1, rRowN (.slice ql le.length cl) (iRw le) 3 1, rZ F fs, rBlk b1 [iw k, iw dir, iw kk, iw to, Value.slice va vn vc] 30] ?_ ?_
  rotate_left
  · intro K hK
    rcases tf ((dir : Int) != 0) with h2 | h2
    · skip
      refine SL.norm [(0, pt g 0), (2, Value.slice qp po.length cp), (3, Value.slice qb ps.length cb), (4, Value.slice ql le.length cl), (6, pt b1 0), (10, bo false), (18, pt b1 1), (19, iw dir), (20, bo true), (21, bo true)] _ ⟨rfl, rfl, rfl, rfl, rfl, rfl, rfl, rfl, (congrArg (fun x => some (Value.bool x)) h2), (congrArg (fun x => some (Value.bool x)) h2), trivial⟩ rfl ?_
      refine SL.gg (ru_fieldAddr (o2 := 1) fd30_1 rfl rfl rfl) ?_
      refine SL.gg (ru_load (i := 7) ts3 rfl rfl rfl rfl) ?_
      refine SL.gg (ru_ne (b := ((dir : Int) != 1)) rfl rfl rfl rfl) ?_
      refine SL.pk (bo ((dir : Int) != 1)) (bo false) ?_
      exact SL.joined hK ⟨rfl, rfl, rfl, rfl, rfl, rfl, rfl, rfl, (congrArg (fun x => some (Value.bool x)) h2.symm), (congrArg (fun x => some (Value.bool x)) h2.symm), (congrArg (fun bx => some (Value.bool (bx && ((dir : Int) != 1)))) h2.symm), trivial⟩ rfl
    refine SL.norm [(0, pt g 0), (2, Value.slice qp po.length cp), (3, Value.slice qb ps.length cb), (4, Value.slice ql le.length cl), (6, pt b1 0), (10, bo false), (18, pt b1 1), (19, iw dir), (20, bo false), (21, bo false)] _ ⟨rfl, rfl, rfl, rfl, rfl, rfl, rfl, rfl, (congrArg (fun x => some (Value.bool x)) h2), (congrArg (fun x => some (Value.bool x)) h2), trivial⟩ rfl ?_
    refine SL.oo ?_
    refine SL.oo ?_
    refine SL.oo ?_
    refine SL.pk (undef) (bo false) ?_
    exact SL.joined hK ⟨rfl, rfl, rfl, rfl, rfl, rfl, rfl, rfl, (congrArg (fun x => some (Value.bool x)) h2.symm), (congrArg (fun x => some (Value.bool x)) h2.symm), (congrArg (fun bx => some (Value.bool (bx && ((dir : Int) != 1)))) h2.symm), trivial⟩ rfl
  skip
  refine SL.nn [(0, pt g 0), (2, Value.slice qp po.length cp), (3, Value.slice qb ps.length cb), (4, Value.slice ql le.length cl), (6, pt b1 0), (10, bo false), (25, bo (((dir : Int) != 0) && ((dir : Int) != 1)))] _ ⟨rfl, rfl, rfl, rfl, rfl, rfl, rfl, trivial⟩ ?_
  refine SC.yes (show some (Value.bool (((dir : Int) != 0) && ((dir : Int) != 1))) = some (Value.bool true) from congrArg (fun x => some (Value.bool x)) (by have h8 := hd; unfold isD at h8; simp only [Bool.or_eq_false_iff, beq_eq_false_iff_ne] at h8; simp [h8.1, h8.2])) ?_
  refine SC.seq ?_
  refine SC.region_tail 8 (by kernel_rfl) (by kernel_rfl) ?_
  refine SQ.mv ?_
  refine SQ.nk ?_
  refine SQ.fa 2 fd41_1 ?_
  refine SQ.ld 0 ts35 ?_
  refine SQ.fa 1 fd30_1 ?_
  refine SQ.ld 7 ts3 ?_
  refine SQ.fa 2 fd30_2 ?_
  refine SQ.ld 7 ts3 ?_
  refine SQ.nilL ?_
  have hB4 := hB.wb.deliverD dir kk
  refine SL.call (ζ := Nat → Prop) (fun Gw3 => iw ((deliverD S dir kk).1)) (fun Gw3 => [rG g d0 d1 wd e0 e1 vd t0 t1 f0 f1 41, rWp wd d0 d1 Gw3 ((deliverD S dir kk).2), rWq vd e0 e1 G2 V, rRowN (.slice qp po.length cp) (iRw po) 3 1, rRowN (.slice qb ps.length cb) (vRw ps) 28 1, rRowN (.slice ql le.length cl) (iRw le) 3 1, rZ F fs, rBlk b1 [iw k, iw dir, iw kk, iw to, Value.slice va vn vc] 30]) (fun Gw3 => ∀ b, Gw3 b → GD g G1 G2 ql le.length cl b ∨ w.heap.size ≤ b) rfl rfl co36 rfl rfl rfl (lt_b rfl) (fun w5 hI => (rw_deliver hB.wb (by omega) (hI.1.get (i := 1) rfl) dir kk).mono fun e w2 ⟨h1, kz⟩ => by obtain ⟨G9, k1, k2⟩ := hI.rto (i := 1) rfl hG1 kz; exact ⟨G9, h1, k1, k2⟩) ?_
  intro Gw3 hGw3
  refine SL.uu (ru_eq (b := true) rfl rfl rfl ((by rw [show deliverD S dir kk = (1, S) from dirX hd _ _]; rfl))) ?_
  refine SL.as ?_
  refine SL.nn [(0, pt g 0), (2, Value.slice qp po.length cp), (3, Value.slice qb ps.length cb), (4, Value.slice ql le.length cl), (6, pt b1 0), (10, bo true)] [rG g d0 d1 wd e0 e1 vd t0 t1 f0 f1 41, rWp wd d0 d1 Gw3 ((deliverD S dir kk).2), rWq vd e0 e1 G2 V, rRowN (.slice qp po.length cp) (iRw po) 3 1, rRowN (.slice qb ps.length cb) (vRw ps) 28 1, rRowN (.slice ql le.length cl) (iRw le) 3 1, rZ F fs, rBlk b1 [iw k, iw dir, iw kk, iw to, Value.slice va vn vc] 30] ⟨rfl, rfl, rfl, rfl, rfl, rfl, trivial⟩ ?_
  refine SC.ret ?_
  refine SE.passr ?_
  refine SE.res (.inl rfl) (res1 Try.results15 rfl) fun w1 hI => ?_
  rw [show (deliverD S dir kk).2 = S from congrArg Prod.snd (show deliverD S dir kk = (1, S) from dirX hd _ _)] at hI
  exact ⟨rfl, S, f0, f1, le, Gw3, G2, hB, rfl, (hI.keep 7).1, hGw3, hG2, hI.2⟩
theorem dlv_any {n : Nat} {w : World} {g wd d0 d1 vd e0 e1 : Nat} {G1 G2 : Nat → Prop} {S V : Wi} {t0 t1 f0 f1 : Int} {po : List Int} {qp : Option Addr} {cp : Nat} {ps : List (Value × List UInt8)} {qb : Option Addr} {cb : Nat} {le : List Int} {ql : Option Addr} {cl : Nat} {F : Nat → Prop} {fs : Value → List UInt8 → Prop} {k dir kk to : Int} {va : Option Addr} {vn vc : Nat} (hn : n < 2900000000000) (hB : BI n (⟨S, t0, t1, f0, f1, po, ps.map (·.2), le⟩ : Br)) (hps : ∀ p ∈ ps, fs p.1 p.2) (h : Sep w (BrL g wd d0 d1 vd e0 e1 G1 G2 V (⟨S, t0, t1, f0, f1, po, qp, cp, ps, qb, cb, le, ql, cl, F, fs⟩ : BrM))) : Calls Try.prog 15 #[pt g 0, Value.agg #[iw k, iw dir, iw kk, iw to, Value.slice va vn vc], Value.slice qp po.length cp, Value.slice qb ps.length cb, Value.slice ql le.length cl] w fun e w' => e = .returned (bo true) ∧ DlTo w g wd d0 d1 vd e0 e1 G1 G2 n V (⟨S, t0, t1, f0, f1, po, qp, cp, ps, qb, cb, le, ql, cl, F, fs⟩ : BrM) w' := by
  rcases dirC dir with rfl | rfl | hd
  · exact dlv0_any hn hB hps h
  · exact dlv1_any hn hB hps h
  · exact dlvX_any hn hd hB hps h

end Go.Proofs.Ytcilikkljkdceaa

/-
  other.
-/
namespace Go.Proofs.Ytcilikkljkdceaa
open Go.RowKit
set_option maxRecDepth 100000
set_option maxHeartbeats 4000000
theorem other_any {n : Nat} {w : World} {g wd d0 d1 vd e0 e1 : Nat} {G1 G2 : Nat → Prop} {S V : Wi} {t0 t1 f0 f1 : Int} {k dir kk to : Int} {va : Option Addr} {vc : Nat} {f : List UInt8} (hn : n < 2900000000000) (hto : to ≤ 9223372036854775807) (hW : Wb n S) (h : Sep w (RgL g wd d0 d1 vd e0 e1 G1 G2 ⟨S, V, t0, t1, f0, f1⟩)) : Calls Try.prog 16 #[pt g 0, Value.agg #[iw k, iw dir, iw kk, iw to, Value.slice va f.length vc]] w fun e w' => e = .returned (.tuple #[]) ∧ ∃ S', RgTo w g wd d0 d1 vd e0 e1 G1 G2 ⟨S', V, t0, t1, f0, f1⟩ w' ∧ Wb (n + 1) S' ∧ Shr S S' ∧ (onW S → onW S') := by
  have hG1 : ∀ b, G1 b → RgZ g G1 G2 b ∨ w.heap.size ≤ b := fun b hb => .inl (.inr (.inl hb))
  have hG2 : ∀ b, G2 b → RgZ g G1 G2 b ∨ w.heap.size ≤ b := fun b hb => .inl (.inr (.inr hb))
  refine calls_sc (l0 := (RgL g wd d0 d1 vd e0 e1 G1 G2 ⟨S, V, t0, t1, f0, f1⟩)) (args := [pt g 0, Value.agg #[iw k, iw dir, iw kk, iw to, Value.slice va f.length vc]]) (RgZ g G1 G2) Try.func16 rfl 59 Try.ntmps16 (le_b rfl) ⟨h, Only.refl _ _⟩ ?_
  show SC _ _ _ _ [(0, pt g 0), (1, Value.agg #[iw k, iw dir, iw kk, iw to, Value.slice va f.length vc])] (RgL g wd d0 d1 vd e0 e1 G1 G2 ⟨S, V, t0, t1, f0, f1⟩)
  refine SC.sr ?_
  refine SL.box (c := [iw k, iw dir, iw kk, iw to, Value.slice va f.length vc]) rfl rfl (lt_b rfl) rfl rfl rfl fun b1 hb1 => ?_
  refine SL.nl ?_
  refine SC.sr ?_
  refine SL.fa 0 fd30_0 ?_
  refine SL.ld 3 ts3 ?_
  refine SL.nl ?_
  refine SC.block ?_
  refine SC.sr ?_
  refine SL.uu (ru_eq (b := ((k : Int) == 1)) rfl rfl rfl rfl) ?_
  refine SL.as ?_
  refine SL.nl ?_
  refine SC.both ((k : Int) == 1) rfl (fun h2 => ?_) (fun h2 => ?_)
  · skip
    refine SC.region_tail 6 (by kernel_rfl) (by kernel_rfl) ?_
    refine SQ.mv ?_
    refine SQ.nk ?_
    refine SQ.fa 2 fd41_1 ?_
    refine SQ.ld 0 ts35 ?_
    refine SQ.fa 1 fd30_1 ?_
    refine SQ.ld 3 ts3 ?_
    refine SQ.nilL ?_
    have hB4 := hW.pullD dir
    refine SL.call (ζ := Nat → Prop) (fun Gw3 => iw ((pullD S dir).1)) (fun Gw3 => [rG g d0 d1 wd e0 e1 vd t0 t1 f0 f1 41, rWp wd d0 d1 Gw3 ((pullD S dir).2), rWq vd e0 e1 G2 V, rBlk b1 [iw k, iw dir, iw kk, iw to, Value.slice va f.length vc] 30]) (fun Gw3 => ∀ b, Gw3 b → RgZ g G1 G2 b ∨ w.heap.size ≤ b) rfl rfl co21 rfl rfl rfl (lt_b rfl) (fun w5 hI => (rw_pull hW (by omega) (hI.1.get (i := 1) rfl) dir).mono fun e w2 ⟨h1, kz⟩ => by obtain ⟨G9, k1, k2⟩ := hI.rto (i := 1) rfl hG1 kz; exact ⟨G9, h1, k1, k2⟩) ?_
    intro Gw3 hGw3
    refine SL.nil ?_
    refine SE.blkn ?_
    refine SE.res (.inr rfl) (res0 Try.results16) fun w1 hI => ⟨rfl, ((pullD S dir).2), RgTo.of (l := [rBlk b1 [iw k, iw dir, iw kk, iw to, Value.slice va f.length vc] 30]) hI hGw3 hG2, hB4.le (by omega), Shr.dir (fun b => shr_pull hW (by omega) b) dir, fun h => on_pull h dir⟩
  refine SC.sr ?_
  refine SL.uu (ru_eq (b := ((k : Int) == 3)) rfl rfl rfl rfl) ?_
  refine SL.as ?_
  refine SL.nl ?_
  refine SC.both ((k : Int) == 3) rfl (fun h5 => ?_) (fun h5 => ?_)
  · skip
    refine SC.region_tail 8 (by kernel_rfl) (by kernel_rfl) ?_
    refine SQ.mv ?_
    refine SQ.nk ?_
    refine SQ.fa 2 fd41_1 ?_
    refine SQ.ld 0 ts35 ?_
    refine SQ.fa 1 fd30_1 ?_
    refine SQ.ld 3 ts3 ?_
    refine SQ.fa 2 fd30_2 ?_
    refine SQ.ld 3 ts3 ?_
    refine SQ.nilL ?_
    have hB7 := hW.dropD dir kk
    refine SL.call (ζ := Nat → Prop) (fun Gw6 => iw ((dropD S dir kk).1)) (fun Gw6 => [rG g d0 d1 wd e0 e1 vd t0 t1 f0 f1 41, rWp wd d0 d1 Gw6 ((dropD S dir kk).2), rWq vd e0 e1 G2 V, rBlk b1 [iw k, iw dir, iw kk, iw to, Value.slice va f.length vc] 30]) (fun Gw6 => ∀ b, Gw6 b → RgZ g G1 G2 b ∨ w.heap.size ≤ b) rfl rfl co39 rfl rfl rfl (lt_b rfl) (fun w5 hI => (rw_drop hW (by omega) (hI.1.get (i := 1) rfl) dir kk).mono fun e w2 ⟨h1, kz⟩ => by obtain ⟨G9, k1, k2⟩ := hI.rto (i := 1) rfl hG1 kz; exact ⟨G9, h1, k1, k2⟩) ?_
    intro Gw6 hGw6
    refine SL.nil ?_
    refine SE.blkn ?_
    refine SE.res (.inr rfl) (res0 Try.results16) fun w1 hI => ⟨rfl, ((dropD S dir kk).2), RgTo.of (l := [rBlk b1 [iw k, iw dir, iw kk, iw to, Value.slice va f.length vc] 30]) hI hGw6 hG2, hB7.le (by omega), Shr.dir (fun b => shr_drop S b kk) dir, fun h => on_drop h dir kk⟩
  refine SC.sr ?_
  refine SL.uu (ru_eq (b := ((k : Int) == 5)) rfl rfl rfl rfl) ?_
  refine SL.as ?_
  refine SL.nl ?_
  refine SC.both ((k : Int) == 5) rfl (fun h8 => ?_) (fun h8 => ?_)
  · skip
    refine SC.region_tail 10 (by kernel_rfl) (by kernel_rfl) ?_
    refine SQ.mv ?_
    refine SQ.nk ?_
    refine SQ.fa 2 fd41_1 ?_
    refine SQ.ld 0 ts35 ?_
    refine SQ.fa 1 fd30_1 ?_
    refine SQ.ld 3 ts3 ?_
    refine SQ.fa 2 fd30_2 ?_
    refine SQ.ld 3 ts3 ?_
    refine SQ.fa 3 fd30_3 ?_
    refine SQ.ld 3 ts3 ?_
    refine SQ.nilL ?_
    have hB10 := hW.moveD dir kk to
    refine SL.call (ζ := Nat → Prop) (fun Gw9 => iw ((moveD S dir kk to).1)) (fun Gw9 => [rG g d0 d1 wd e0 e1 vd t0 t1 f0 f1 41, rWp wd d0 d1 Gw9 ((moveD S dir kk to).2), rWq vd e0 e1 G2 V, rBlk b1 [iw k, iw dir, iw kk, iw to, Value.slice va f.length vc] 30]) (fun Gw9 => ∀ b, Gw9 b → RgZ g G1 G2 b ∨ w.heap.size ≤ b) rfl rfl co22 rfl rfl rfl (lt_b rfl) (fun w5 hI => (rw_move hW (by omega) (hI.1.get (i := 1) rfl) dir kk to).mono fun e w2 ⟨h1, kz⟩ => by obtain ⟨G9, k1, k2⟩ := hI.rto (i := 1) rfl hG1 kz; exact ⟨G9, h1, k1, k2⟩) ?_
    intro Gw9 hGw9
    refine SL.nil ?_
    refine SE.blkn ?_
    refine SE.res (.inr rfl) (res0 Try.results16) fun w1 hI => ⟨rfl, ((moveD S dir kk to).2), RgTo.of (l := [rBlk b1 [iw k, iw dir, iw kk, iw to, Value.slice va f.length vc] 30]) hI hGw9 hG2, hB10.le (by omega), Shr.dir (fun b => shr_move S b kk to) dir, fun h => on_move h dir kk to⟩
  refine SC.sr ?_
  refine SL.uu (ru_eq (b := ((k : Int) == 6)) rfl rfl rfl rfl) ?_
  refine SL.as ?_
  refine SL.nl ?_
  refine SC.both ((k : Int) == 6) rfl (fun h11 => ?_) (fun h11 => ?_)
  · skip
    refine SC.region_tail 10 (by kernel_rfl) (by kernel_rfl) ?_
    refine SQ.mv ?_
    refine SQ.nk ?_
    refine SQ.fa 2 fd41_1 ?_
    refine SQ.ld 0 ts35 ?_
    refine SQ.fa 1 fd30_1 ?_
    refine SQ.ld 3 ts3 ?_
    refine SQ.fa 2 fd30_2 ?_
    refine SQ.ld 3 ts3 ?_
    refine SQ.fa 3 fd30_3 ?_
    refine SQ.ld 3 ts3 ?_
    refine SQ.nilL ?_
    have hB13 := hW.damageD dir kk to
    refine SL.call (ζ := Nat → Prop) (fun Gw12 => iw ((damageD S dir kk to).1)) (fun Gw12 => [rG g d0 d1 wd e0 e1 vd t0 t1 f0 f1 41, rWp wd d0 d1 Gw12 ((damageD S dir kk to).2), rWq vd e0 e1 G2 V, rBlk b1 [iw k, iw dir, iw kk, iw to, Value.slice va f.length vc] 30]) (fun Gw12 => ∀ b, Gw12 b → RgZ g G1 G2 b ∨ w.heap.size ≤ b) rfl rfl co23 rfl rfl rfl (lt_b rfl) (fun w5 hI => (rw_damage hW (by omega) (hI.1.get (i := 1) rfl) dir kk to hto ).mono fun e w2 ⟨h1, kz⟩ => by obtain ⟨G9, k1, k2⟩ := hI.rto (i := 1) rfl hG1 kz; exact ⟨G9, h1, k1, k2⟩) ?_
    intro Gw12 hGw12
    refine SL.nil ?_
    refine SE.blkn ?_
    refine SE.res (.inr rfl) (res0 Try.results16) fun w1 hI => ⟨rfl, ((damageD S dir kk to).2), RgTo.of (l := [rBlk b1 [iw k, iw dir, iw kk, iw to, Value.slice va f.length vc] 30]) hI hGw12 hG2, hB13.le (by omega), Shr.dir (fun b => shr_damage S b kk to) dir, fun h => on_damage h dir kk to⟩
  refine SC.sr ?_
  refine SL.uu (ru_eq (b := ((k : Int) == 8)) rfl rfl rfl rfl) ?_
  refine SL.as ?_
  refine SL.nn [(0, pt g 0), (52, bo ((k : Int) == 8))] _ ⟨rfl, rfl, trivial⟩ ?_
  refine SC.both ((k : Int) == 8) rfl (fun h14 => ?_) (fun h14 => ?_)
  · skip
    refine SC.region ?_
    refine SL.mv ?_
    refine SL.nk ?_
    refine SL.fa 2 fd41_1 ?_
    refine SL.ld 0 ts35 ?_
    have hB16 := (hW.tick (by omega)).1
    refine SL.call (ζ := Nat → Prop) (fun Gw15 => Value.tuple #[]) (fun Gw15 => [rG g d0 d1 wd e0 e1 vd t0 t1 f0 f1 41, rWp wd d0 d1 Gw15 (tickW S), rWq vd e0 e1 G2 V, rBlk b1 [iw k, iw dir, iw kk, iw to, Value.slice va f.length vc] 30]) (fun Gw15 => ∀ b, Gw15 b → RgZ g G1 G2 b ∨ w.heap.size ≤ b) rfl rfl co18 rfl rfl rfl (lt_b rfl) (fun w5 hI => (rw_tick hW (by omega) (hI.1.get (i := 1) rfl)).mono fun e w2 ⟨h1, kz⟩ => by obtain ⟨G9, k1, k2⟩ := hI.rto (i := 1) rfl hG1 kz; exact ⟨G9, h1, k1, k2⟩) ?_
    intro Gw15 hGw15
    refine SL.nil ?_
    refine SE.blkn ?_
    refine SE.res (.inr rfl) (res0 Try.results16) fun w1 hI => ⟨rfl, (tickW S), RgTo.of (l := [rBlk b1 [iw k, iw dir, iw kk, iw to, Value.slice va f.length vc] 30]) hI hGw15 hG2, hB16.le (by omega), shr_tick hW (by omega), fun h => on_tick h⟩
  refine SC.skip ?_
  refine SE.blkn ?_
  refine SE.res (.inr rfl) (res0 Try.results16) fun w1 hI => ⟨rfl, S, RgTo.of (l := [rBlk b1 [iw k, iw dir, iw kk, iw to, Value.slice va f.length vc] 30]) hI hG1 hG2, hW.le (by omega), Shr.refl S, fun h => h⟩

end Go.Proofs.Ytcilikkljkdceaa

/-
  A frame that is too long.
-/
namespace Go.Proofs.Ytcilikkljkdceaa
open Go.RowKit
set_option maxRecDepth 100000
set_option maxHeartbeats 4000000
def bigE (A : NicA) (i : Int) : Int := if hostB i (A.r 4) (A.r 5) = true then 2 else 1
theorem bigE_ne (A : NicA) (i : Int) : bigE A i ≠ 0 := by unfold bigE; split <;> decide
theorem p_settxb {w : World} {d : Nat} {F : Nat → Prop} {A : NicA} (hk : NicOk A) (h : NicAt 74 w d F A) {a : Option Addr} {m c : Nat} (hm : 274 < m) (i : Int) : Calls Try.prog 10 #[pt d 0, iw i, .slice a m c] w fun e w' => e = .returned (iw (bigE A i)) ∧ Only (fun _ => False) w w' := by
  refine calls_sc (l0 := [rNic 74 d F A]) (args := [pt d 0, iw i, Value.slice a m c]) (fun _ => False) Try.func10 rfl 28 Try.ntmps10 (le_b rfl) ⟨⟨fun r hr => by simp at hr; subst hr; exact h, List.pairwise_singleton _ _⟩, Only.refl _ _⟩ ?_
  show SC _ _ _ _ [(0, pt d 0), (1, iw i), (2, Value.slice a m c)] [rNic 74 d F A]
  refine SC.sr ?_
  refine SL.as ?_
  refine SL.nl ?_
  refine SC.seq ?_
  refine SC.block ?_
  refine SC.sr ?_
  refine SL.mv ?_
  refine SL.mv ?_
  refine SL.callv (bo (hostB i (A.r 4) (A.r 5))) rfl rfl co31 rfl rfl rfl (lt_b rfl) (fun w hI => H_only hI (p_hosttx hk (hI.1.get (i := 0) rfl) i)) ?_
  refine SL.uu (ru_not (c := (!(hostB i (A.r 4) (A.r 5)))) rfl rfl rfl) ?_
  refine SL.as ?_
  refine SL.nl ?_
  refine SC.both (!(hostB i (A.r 4) (A.r 5))) rfl (fun h1 => ?_) (fun h1 => ?_)
  · skip
    refine SC.sr ?_
    refine SL.as ?_
    refine SL.nl ?_
    refine SC.ret ?_
    refine SE.blkr ?_
    refine SE.passr ?_
    refine SE.res (.inl rfl) (res1 Try.results10 rfl) fun w1 hI => ?_
    have e9 : bigE A i = 1 := by unfold bigE; rw [if_neg (by simpa using h1)]
    rw [e9]
    exact ⟨rfl, hI.2⟩
  refine SC.sr ?_
  refine SL.mv ?_
  refine SL.uu (ru_len Try.underlying28 rfl rfl) ?_
  refine SL.uu (ru_eq (b := false) rfl rfl rfl ((by simp; omega))) ?_
  refine SL.as ?_
  refine SL.nl ?_
  refine SC.no rfl ?_
  refine SC.sr ?_
  refine SL.mv ?_
  refine SL.uu (ru_len Try.underlying28 rfl rfl) ?_
  refine SL.uu (ru_gt (b := true) rfl rfl rfl ((decide_eq_true (by omega)))) ?_
  refine SL.as ?_
  refine SL.nl ?_
  refine SC.yes rfl ?_
  refine SC.sr ?_
  refine SL.as ?_
  refine SL.nl ?_
  refine SC.ret ?_
  refine SE.blkr ?_
  refine SE.passr ?_
  refine SE.res (.inl rfl) (res1 Try.results10 rfl) fun w1 hI => ?_
  have e9 : bigE A i = 2 := by unfold bigE; rw [if_pos (by simpa using h1)]
  rw [e9]
  exact ⟨rfl, hI.2⟩
theorem rw_settxb0 {w : World} {wd d0 d1 : Nat} {G : Nat → Prop} {S : Wi} (h : (rWp wd d0 d1 G S).ok w) (hk : NicOk S.A0) {a : Option Addr} {m c : Nat} (hm : 274 < m) (i : Int) : Calls Try.prog 10 #[pt d0 0, iw i, .slice a m c] w fun e w' => e = .returned (iw (bigE S.A0 i)) ∧ Only (fun _ => False) w w' := by
  obtain ⟨F, k1, k2, k3, k4⟩ := rwi_dev0 h
  exact p_settxb hk k1 hm i
theorem rw_settxb1 {w : World} {wd d0 d1 : Nat} {G : Nat → Prop} {S : Wi} (h : (rWp wd d0 d1 G S).ok w) (hk : NicOk S.A1) {a : Option Addr} {m c : Nat} (hm : 274 < m) (i : Int) : Calls Try.prog 10 #[pt d1 0, iw i, .slice a m c] w fun e w' => e = .returned (iw (bigE S.A1 i)) ∧ Only (fun _ => False) w w' := by
  obtain ⟨F, k1, k2, k3, k4⟩ := rwi_dev1 h
  exact p_settxb hk k1 hm i

end Go.Proofs.Ytcilikkljkdceaa

/-
  What the walk of WireBrings asks for beside.
-/
namespace Go.Proofs.Ytcilikkljkdceaa
open Go.RowKit
theorem u8_of (n : Nat) : IntKind.u8.wrap (n : Int) = ((UInt8.ofNat n).toNat : Int) := by
  have e : IntKind.u8.wrap (n : Int) = (n : Int) % 256 := by simp [IntKind.wrap, IntKind.bits, IntKind.signed]
  rw [e, UInt8.toNat_ofNat']
  show _ = ((n % 256 : Nat) : Int)
  omega
theorem num_new {n : Nat} (h : n < 65536) (s : UInt8) (f : List UInt8) : numF ([UInt8.ofNat (n / 256), UInt8.ofNat n, s] ++ f) = n := by
  unfold numF
  simp only [List.cons_append, List.nil_append, List.getD_cons_zero, List.getD_cons_succ, UInt8.toNat_ofNat']
  omega
section
variable {X : Cx} {w : World} {l : List Res} {r : Res} {i j : Nat} {v : Value} {f : List UInt8} {U : TypeId}
theorem mine_away (h : Inv X w l) (hi : l[i]? = some r) (hj : l[j]? = some (rMine v f U)) (hij : i ≠ j) : sliceIn v (fun b => ¬ r.fp b) := fun b o n c e _ hb => by
  have hm : (rMine v f U).fp b := by show v.ownBlock = some b; rw [e]; rfl
  obtain ⟨hi', rfl⟩ := List.getElem?_eq_some_iff.1 hi
  obtain ⟨hj', ej⟩ := List.getElem?_eq_some_iff.1 hj
  rcases Nat.lt_or_gt_of_ne hij with h1 | h1
  · exact List.pairwise_iff_getElem.1 h.1.2 i j hi' hj' h1 b hb (by rw [ej]; exact hm)
  · exact List.pairwise_iff_getElem.1 h.1.2 j i hj' hi' h1 b (by rw [ej]; exact hm) hb
variable {P : Program} {Q : Exit → Act → World → Prop} {m : List (Nat × Value)} {ops : Array Oper} {rest : List Oper} {o : Oper} {d : Nat} {t : TypeId}
theorem SL.append_mineL {e ri : Nat} {a1 a2 : Operand} {vx : Value} {f h : List UInt8} {q : Option Addr} {n c : Nat} (hg : o.guard = none) (hd : o.dst = some d) (hn : d < X.n) (ho : o.op = .call { callee := .builtin .append, args := #[a1, a2], argTypes := #[t, t] })
    (ht : P.underlying t = some (.slice e)) (hz : (P.info? e).map (fun i => (i.zero, i.size, i.bytes)) = some (some (.int .u8 0), 1, 1)) (h1 : evM m a1 = some (.slice q n c)) (h2 : evM m a2 = some vx) (hi : l[ri]? = some (rMine (.slice q n c) f e)) (hx : ∀ w, Inv X w l → BytesAt w vx h)
    (hl : f.length + h.length ≤ 140737488355328) (hS : ∀ b, (Value.slice q n c).ownBlock = some b → X.S b ∨ X.w0.heap.size ≤ b)
    (k : ∀ (q' : Option Addr) (c' : Nat), (∀ b, (Value.slice q' (f ++ h).length c').ownBlock = some b → (Value.slice q n c).ownBlock = some b ∨ X.w0.heap.size ≤ b) → SL P X ops Q rest ((d, .slice q' (f ++ h).length c') :: m) (l.set ri (rMine (.slice q' (f ++ h).length c') (f ++ h) e))) : SL P X ops Q (o :: rest) m l := fun a w hf hI =>
  wpList_plain hg fun K' hK => by
    have hM : OwnBytes w 0 e (.slice q n c) f := hI.1.get hi
    have hM' : w.ownsRow 0 e 1 (.slice q n c) (f.map bv).length (f.map bv) := by unfold OwnBytes at hM; simpa using hM
    obtain ⟨v', w', hr, hO, hU, hN⟩ := run_appOwn (P := P) (ty := o.type) ht hz rfl (ys := h.map bv) (fun u hu => by obtain ⟨x, _, rfl⟩ := List.mem_map.1 hu; rfl) hM' (hx w hI).cells (by simp; omega) (by unfold maxLen; simp; omega)
    unfold Oper.wp
    rw [run_call_app ho (hf.ev h1) (hf.ev h2) hr]
    simp only [Oper.upon_value, hd]
    have hO' : OwnBytes w' 0 e v' (f ++ h) := by unfold OwnBytes; simpa using hO
    obtain ⟨q', c', rfl⟩ : ∃ q' c', v' = .slice q' (f ++ h).length c' := by
      obtain ⟨a', c', e1, _⟩ := hO'.form
      exact ⟨a', c', e1⟩
    refine hK _ _ (k q' c' (fun b hb => ?_) _ _ (hf.put hn _) (hI.upd hi hU hS hO' (fun b hb => hN b hb)))
    rcases hN b hb with h | h
    · exact .inl h
    · exact .inr (Nat.le_trans hI.2.size h)
end
theorem mb0 : BI 0 (BrM.br ⟨wi0, 0, 0, 0, 0, [], none, 0, [], none, 0, [], none, 0, fun _ => False, fun _ _ => False⟩) := bi0
end Go.Proofs.Ytcilikkljkdceaa

/-
  From a row's reading of the arguments to what the walks ask of memory; no statement is named here.
-/
namespace Go.Proofs.Ytcilikkljkdceaa
open Go.ChangeShapes Go.WideShapes Go.ChangeAt Go.RowKit Go.Deep

def I64 (n : Int) : Prop := -9223372036854775808 ≤ n ∧ n ≤ 9223372036854775807
theorem sliceIn_nil {S : Nat → Prop} {n c : Nat} : sliceIn (.slice none n c) S := fun b o n c e _ => by simp at e

section
variable {H : Type} {enc : TypeId × Value → H} {P : Program} {w : World} {base : Nat} {spare : Nat → Bool} {held : Bool}

theorem open_slice_fields {t e : TypeId} {fs : Array Field} {fuel : Nat} {cs : List Value} {x : DataW H × List MemPlace} (ht : P.underlying t = some (.slice e)) (he : P.underlying e = some (.struct fs))
    (hone : oneCellFields P fs = true) (hC : P.cellsOf e = fs.size) (h : DataW.trod enc P w base spare held fuel t cs = some x) :
    (cs = [.slice none 0 0] ∧ x = (.nil, [])) ∨
    ∃ (a : Addr) (len cap m : Nat) (D : Nat → DataW H) (Pl : Nat → List MemPlace), cs = [.slice (some a) len cap] ∧ base ≤ a.block ∧ len ≤ cap ∧ cap ≤ maxLen ∧ m = (if spare a.block then cap else len) ∧
      x = (.slice ((List.range len).map D) ((List.range (m - len)).map fun j => D (len + j)), MemPlace.row a (m * fs.size) ++ (List.range m).flatMap Pl) ∧
      ∀ i, i < m → ∃ (ys : List (DataW H × List MemPlace)) (n : Nat), D i = .agg (ys.map (·.1)) ∧ Pl i = ys.flatMap (·.2) ∧ ys.length = fs.size ∧
        ∀ (j : Nat) (f : Field), fs[j]? = some f → ∃ (v : Value) (y : DataW H × List MemPlace), w.cell? (a.add (i * fs.size + j)) = some v ∧ ys[j]? = some y ∧ DataW.trod enc P w base spare held n f.type [v] = some y := by
  rcases open_slice ht h with h0 | ⟨a, len, cap, m, n, D, Pl, hcs, hb, hl, hm, hmm, hx, hi⟩
  · exact .inl h0
  · refine .inr ⟨a, len, cap, m, D, Pl, hcs, hb, hl, hm, hmm, by rw [hC] at hx; exact hx, fun i him => ?_⟩
    obtain ⟨cs', hc, ht'⟩ := hi i him
    rw [hC] at hc
    obtain ⟨ys, n', hn', hy, hlen, hyl, hf⟩ := DataW.trod_struct he ht'
    obtain ⟨_, hcl, hat⟩ := World.cells?_some hc
    simp only [Prod.mk.injEq] at hy
    refine ⟨ys, n', hy.1, hy.2, hyl, fun j f hj => ?_⟩
    obtain ⟨ho, hk⟩ := hone_of hone j f hj
    have hjl : j < fs.size := (Array.getElem?_eq_some_iff.1 hj).1
    have hcell := hat j hjl
    have hv : cs'[j]? = some (cs'[j]'(by omega)) := List.getElem?_eq_getElem (by omega)
    have h1 := hf j f hj
    rw [ho, hk] at h1
    have hone' : (cs'.drop j).take 1 = [cs'[j]'(by omega)] := by
      rw [List.drop_eq_getElem_cons (by omega)]
      rfl
    rw [hone'] at h1
    have hys : ys[j]? = some (ys[j]'(by omega)) := List.getElem?_eq_getElem (by omega)
    refine ⟨_, _, ?_, hys, h1.trans hys⟩
    rw [← Go.Deep.add_add, hcell, hv]

theorem plain_of_cell {a : Addr} {v : Value} (h : w.cell? (a.add 0) = some v) : a.spot = none := by
  cases hsp : a.spot with
  | none => rfl
  | some s =>
    unfold World.cell? Addr.add at h
    simp only [if_true, hsp, Option.isSome_some] at h
    split at h <;> simp at h
theorem plain_add {a : Addr} (hs : a.spot = none) (i : Nat) : a.add i = ⟨a.block, a.off + i, none⟩ := by
  cases a; simp only at hs; subst hs
  unfold Addr.add; split <;> simp_all

theorem wf_i64 {n : Int} (h : (Lit.int .i64 n).wf = true) : I64 n := by
  simp only [Lit.wf, Bool.and_eq_true, decide_eq_true_eq] at h
  unfold I64
  exact ⟨Int.le_trans (by decide) h.1, Int.le_trans h.2 (by decide)⟩
theorem wf_u8 {n : Int} (h : (Lit.int .u8 n).wf = true) : 0 ≤ n ∧ n < 256 := by
  simp only [Lit.wf, Bool.and_eq_true, decide_eq_true_eq] at h
  exact ⟨Int.le_trans (by decide) h.1, Int.lt_of_le_of_lt h.2 (by decide)⟩

theorem open_bytes {t e : TypeId} {fuel : Nat} {v : Value} {x : DataW H × List MemPlace} (ht : P.underlying t = some (.slice e)) (he : P.underlying e = some (.int .u8)) (hc : P.cellsOf e = 1) (hB : P.bytesOf e = 1)
    (h : DataW.trod enc P w base (fun _ => true) held fuel t [v] = some x) (hw : ∀ n ∈ x.1.weights P t, n ≤ reachBytes) :
    ∃ a n c l, v = .slice a n c ∧ BytesAt w (.slice a n c) l ∧ sliceIn (.slice a n c) (fun b => b < w.heap.size) := by
  rcases open_ints ht he hc h with ⟨hcs, _⟩ | ⟨a, len, cap, zs, hcs, _, hl, hm, hz, hx, hcell, hwf⟩
  · simp at hcs; subst hcs
    exact ⟨none, 0, 0, [], rfl, .nil _, sliceIn_nil⟩
  · simp at hcs; subst hcs
    simp only [if_true] at hz
    have hcap : cap ≤ 140737488351232 := by
      have := hw ((zs.take len).length * 1 + (zs.drop len).length * 1) (by
        rw [hx]
        simp only [DataW.weights, ht, hB, List.mem_cons]
        left
        simp [lits])
      simp only [reachBytes] at this
      have e1 : (zs.take len).length + (zs.drop len).length = zs.length := by rw [List.length_take, List.length_drop]; omega
      omega
    refine ⟨some a, len, cap, (zs.take len).map fun z => UInt8.ofNat z.toNat, rfl, ?_, ?_⟩
    · by_cases h0 : len = 0
      · subst h0
        exact .inl ⟨_, _, rfl, (fun h => by cases h), by simp⟩
      · have hs : a.spot = none := plain_of_cell (hcell 0 (by omega))
        have hll : ((zs.take len).map fun z => UInt8.ofNat z.toNat).length = len := by simp; omega
        refine .inr ⟨a.block, a.off, cap, ?_, by omega, by omega, fun j hj => ?_⟩
        · rw [hll]; cases a; simp only at hs; subst hs; rfl
        · rw [hll] at hj
          have hcj := hcell j (by omega)
          rw [plain_add hs] at hcj
          rw [hcj]
          have hzj : zs.getD j 0 = zs[j] := by simp [List.getElem?_eq_getElem (show j < zs.length by omega)]
          have hr := wf_u8 (hwf zs[j] (List.getElem_mem _))
          have e2 : ((UInt8.ofNat zs[j].toNat).toNat : Int) = zs[j] := by
            rw [UInt8.toNat_ofNat']; omega
          simp only [List.getElem_map, List.getElem_take, hzj, bv, e2]
    · intro b o n c e hn
      simp at e
      obtain ⟨rfl, rfl, rfl⟩ := e
      have := block_lt_of_cell (hcell 0 (by omega))
      exact this

theorem weights_agg {fs : Array Field} {t : TypeId} (hu : P.underlying t = some (.struct fs)) {ys : List (DataW H × List MemPlace)} (hl : ys.length = fs.size) {B : Nat} (hw : ∀ n ∈ (DataW.agg (ys.map (·.1))).weights P t, n ≤ B)
    {j : Nat} {f : Field} {y : DataW H × List MemPlace} (hf : fs[j]? = some f) (hy : ys[j]? = some y) : ∀ n ∈ y.1.weights P f.type, n ≤ B := by
  intro n hn
  refine hw n ?_
  simp only [DataW.weights, hu]
  exact DataW.weights_mem_each (j := j) (t := f.type) (d := y.1) (by simp [hf]) (by simp [hy]) n hn

theorem weights_all {t : TypeId} {l : List (DataW H)} {n : Nat} {d : DataW H} (hd : d ∈ l) (hn : n ∈ d.weights P t) : n ∈ DataW.weightsAll P t l := by
  induction l with
  | nil => cases hd
  | cons x l ih =>
    simp only [DataW.weightsAll, List.mem_append]
    rcases List.mem_cons.1 hd with rfl | h
    · exact .inl hn
    · exact .inr (ih h)
end
end Go.Proofs.Ytcilikkljkdceaa

/-
  The calls that lie in an argument of the laws of the wire.
-/
namespace Go.Proofs.Ytcilikkljkdceaa
open Go.RowKit
structure OpW where
  k : Int
  dir : Int
  kk : Int
  to : Int
  ov : Value
  f : List UInt8
def OpWAt (w : World) (b o : Nat) (r : OpW) : Prop := (∀ j u, [iw r.k, iw r.dir, iw r.kk, iw r.to, r.ov][j]? = some u → w.cell? ⟨b, o + j, none⟩ = some u) ∧ BytesAt w r.ov r.f ∧ sliceIn r.ov (fun b => b < w.heap.size) ∧ I64 r.to
def OpsW (w : World) (v : Value) (l : List OpW) : Prop := ∃ a c, v = .slice a l.length c ∧ l.length * 56 ≤ 140737488351232 ∧ ∀ i (hi : i < l.length), ∃ b o, a = some ⟨b, o, none⟩ ∧ OpWAt w b (o + i * 5) l[i]
end Go.Proofs.Ytcilikkljkdceaa

/-
  Loads of memory that was there at the start, and has not been turned.
-/
namespace Go.Proofs.Ytcilikkljkdceaa
open Go.RowKit
section
variable {X : Cx} {P : Program} {o : Oper} {m : List (Nat × Value)} {l : List Res}
theorem ru_loada_old {t : TypeId} {z : List Value} {x : Operand} {b o' : Nat} {vs : List Value} (hS : ∀ b, ¬ X.S b) (ht : TyAg P t z) (ho : o.op = .load t x) (hx : evM m x = some (.pointer (some ⟨b, o', none⟩))) (hv : vs.length = z.length)
    (hc : ∀ j u, vs[j]? = some u → X.w0.cell? ⟨b, o' + j, none⟩ = some u) : Ru P X o m l (.agg vs.toArray) := fun a w hf hI => by
  obtain ⟨⟨d, hd, hdb⟩, hsz, _⟩ := ht
  obtain ⟨inf, hinf, hz⟩ := map_some hsz
  simp only [Prod.mk.injEq] at hz
  have hcell : ∀ j (hj : j < vs.length), w.cell? ⟨b, o' + j, none⟩ = some vs[j] := fun j hj => by
    have h1 := hc j vs[j] (List.getElem?_eq_getElem hj)
    rw [← h1]
    exact hI.2.cell (a := ⟨b, o' + j, none⟩) (block_lt_of_cell h1) (hS b)
  unfold execOp; rw [ho]
  simp only [hf.ev hx, Instr.loadAt, Instr.sureAddr, Sem.run_bind, Sem.run_pure, Result.andThen_ok]
  have := run_loadVar_at (P := P) w b o' t vs d (fun j hj => by rw [hcell j hj, List.getElem?_eq_getElem hj]) hd (by cases d <;> simp_all [isAggD]) (by rw [hinf]; simp [hz.1, hv])
  rw [this]; rfl
end
end Go.Proofs.Ytcilikkljkdceaa
