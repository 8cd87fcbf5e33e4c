/-
  A device's ends where a frame was laid down in bytes of one's own; its events.
-/
import Derived.Test.YtloejpkefoagfaaNicHost
import Derived.Test.YtloejpkefoagfaaSyApp
namespace Go.Proofs.Ytloejpkefoagfaa
open Go.RowKit

theorem appV_new {t : World} {e : TypeId} {n k : Nat} (h : k ≤ t.heap.size) : ∀ b, (appV t e n).ownBlock = some b → k ≤ b := fun b hb => by have := appV_own hb; omega
theorem nil_in {S : Nat → Prop} {n c : Nat} : sliceIn (.slice none n c) S := fun b o n c e _ => by simp at e
theorem mine_in {v : Value} {S : Nat → Prop} (h : ∀ b, v.ownBlock = some b → S b) : sliceIn v S := fun b o n c e _ => h b (by rw [e]; rfl)
theorem NicAt.fin_txM {T U : TypeId} {w w' : World} {d n i : Nat} {F : Nat → Prop} {A : NicA} {tv cv : Nat → Value} {f : List UInt8} {v : Value} (hf : f.length ≤ 140737488351232) (hg : ∀ b, v.ownBlock = some b → w.heap.size ≤ b)
    (h : Inv ⟨n, w, fun b => b = d⟩ w' [rBlk d (nc A (up tv i v) cv) T, rFrs F tv cv A.tb A.cb, rMine v f U]) : NicTo T w d F { A with tb := up A.tb i f } w' := by
  have hd := h.1.2
  simp only [List.pairwise_cons] at hd
  have h1 : Blk w' d (nc A (up tv i v) cv) T := h.1.1 (rBlk d (nc A (up tv i v) cv) T) (by simp)
  have h2 : FrsAt w' F tv cv A.tb A.cb := h.1.1 (rFrs F tv cv A.tb A.cb) (by simp)
  have h3 : OwnBytes w' 0 U v f := h.1.1 (rMine v f U) (by simp)
  refine ⟨fun b => F b ∨ v.ownBlock = some b, ⟨up tv i v, cv, h1, ?_, ?_, ?_, ?_⟩, fun b hb => hb.imp id (fun e => hg b e), h.2⟩
  · rintro (hF | e)
    · exact hd.1 (rFrs F tv cv A.tb A.cb) (by simp) d rfl hF
    · exact hd.1 (rMine v f U) (by simp) d rfl e
  · rintro b (hF | e)
    · exact h2.1 b hF
    · exact (World.ownsRow.lt h3 b e).2
  · intro j hj
    by_cases e : j = i
    · subst e
      show BytesAt w' (up tv j _ j) (up A.tb j f j) ∧ sliceIn (up tv j _ j) _
      rw [up_same, up_same]
      exact ⟨h3.bytes hf, mine_in fun b hb => .inr hb⟩
    · show BytesAt w' (up tv i _ j) (up A.tb i f j) ∧ sliceIn (up tv i _ j) _
      rw [up_ne _ _ e, up_ne _ _ e]
      exact ⟨(h2.2.1 j hj).1, fun b o n c hv hn => .inl ((h2.2.1 j hj).2 b o n c hv hn)⟩
  · intro j hj
    exact ⟨(h2.2.2 j hj).1, fun b o n c hv hn => .inl ((h2.2.2 j hj).2 b o n c hv hn)⟩
theorem NicAt.fin_rxM {T U : TypeId} {w w' : World} {d n i : Nat} {F : Nat → Prop} {A : NicA} {tv cv : Nat → Value} {f : List UInt8} {v : Value} (hf : f.length ≤ 140737488351232) (hg : ∀ b, v.ownBlock = some b → w.heap.size ≤ b)
    (h : Inv ⟨n, w, fun b => b = d⟩ w' [rBlk d (nc A tv (up cv i v)) T, rFrs F tv cv A.tb A.cb, rMine v f U]) : NicTo T w d F { A with cb := up A.cb i f } w' := by
  have hd := h.1.2
  simp only [List.pairwise_cons] at hd
  have h1 : Blk w' d (nc A tv (up cv i v)) T := h.1.1 (rBlk d (nc A tv (up cv i v)) T) (by simp)
  have h2 : FrsAt w' F tv cv A.tb A.cb := h.1.1 (rFrs F tv cv A.tb A.cb) (by simp)
  have h3 : OwnBytes w' 0 U v f := h.1.1 (rMine v f U) (by simp)
  refine ⟨fun b => F b ∨ v.ownBlock = some b, ⟨tv, up cv i v, h1, ?_, ?_, ?_, ?_⟩, fun b hb => hb.imp id (fun e => hg b e), h.2⟩
  · rintro (hF | e)
    · exact hd.1 (rFrs F tv cv A.tb A.cb) (by simp) d rfl hF
    · exact hd.1 (rMine v f U) (by simp) d rfl e
  · rintro b (hF | e)
    · exact h2.1 b hF
    · exact (World.ownsRow.lt h3 b e).2
  · intro j hj
    exact ⟨(h2.2.1 j hj).1, fun b o n c hv hn => .inl ((h2.2.1 j hj).2 b o n c hv hn)⟩
  · intro j hj
    by_cases e : j = i
    · subst e
      show BytesAt w' (up cv j _ j) (up A.cb j f j) ∧ sliceIn (up cv j _ j) _
      rw [up_same, up_same]
      exact ⟨h3.bytes hf, mine_in fun b hb => .inr hb⟩
    · show BytesAt w' (up cv i _ j) (up A.cb i f j) ∧ sliceIn (up cv i _ j) _
      rw [up_ne _ _ e, up_ne _ _ e]
      exact ⟨(h2.2.2 j hj).1, fun b o n c hv hn => .inl ((h2.2.2 j hj).2 b o n c hv hn)⟩
theorem nx_q {x : Int} (h : 0 ≤ x ∧ x < 16) : Int.tmod (IntKind.i64.wrap (x + 1)) 16 = nx x := by
  rw [IntKind.wrap_i64, Int.tmod_eq_emod_of_nonneg (by omega)]; unfold nx; omega
theorem host_in3 {i : Int} {x y : Bool} (e : (((decide ((i : Int) < 0) || decide ((16 : Int) ≤ i)) || x) || y) = false) : 0 ≤ i ∧ i < 16 := by
  simp only [Bool.or_eq_false_iff, decide_eq_false_iff_not] at e; omega
section
variable {x : Int} (h : 0 ≤ x ∧ x < 8)
include h
theorem ev_t1 (e : ((Int.tmod (IntKind.i64.wrap (Int.tdiv x 1)) 2 : Int) == 0) = true) : IntKind.i64.wrap (x + 1) = ev x 1 := by
  obtain ⟨n, hn, rfl⟩ : ∃ n : Nat, n < 8 ∧ x = (n : Int) := ⟨x.toNat, by omega, by omega⟩
  have k : ∀ k : Fin 8, ((Int.tmod (IntKind.i64.wrap (Int.tdiv (k.val : Int) 1)) 2 : Int) == 0) = true → IntKind.i64.wrap ((k.val : Int) + 1) = ev (k.val : Int) 1 := by decide +kernel
  exact k ⟨n, hn⟩ e
theorem ev_f1 (e : ((Int.tmod (IntKind.i64.wrap (Int.tdiv x 1)) 2 : Int) == 0) = false) : ev x 1 = x := by
  obtain ⟨n, hn, rfl⟩ : ∃ n : Nat, n < 8 ∧ x = (n : Int) := ⟨x.toNat, by omega, by omega⟩
  have k : ∀ k : Fin 8, ((Int.tmod (IntKind.i64.wrap (Int.tdiv (k.val : Int) 1)) 2 : Int) == 0) = false → ev (k.val : Int) 1 = (k.val : Int) := by decide +kernel
  exact k ⟨n, hn⟩ e
theorem ev_t2 (e : ((Int.tmod (IntKind.i64.wrap (Int.tdiv x 2)) 2 : Int) == 0) = true) : IntKind.i64.wrap (x + 2) = ev x 2 := by
  obtain ⟨n, hn, rfl⟩ : ∃ n : Nat, n < 8 ∧ x = (n : Int) := ⟨x.toNat, by omega, by omega⟩
  have k : ∀ k : Fin 8, ((Int.tmod (IntKind.i64.wrap (Int.tdiv (k.val : Int) 2)) 2 : Int) == 0) = true → IntKind.i64.wrap ((k.val : Int) + 2) = ev (k.val : Int) 2 := by decide +kernel
  exact k ⟨n, hn⟩ e
theorem ev_f2 (e : ((Int.tmod (IntKind.i64.wrap (Int.tdiv x 2)) 2 : Int) == 0) = false) : ev x 2 = x := by
  obtain ⟨n, hn, rfl⟩ : ∃ n : Nat, n < 8 ∧ x = (n : Int) := ⟨x.toNat, by omega, by omega⟩
  have k : ∀ k : Fin 8, ((Int.tmod (IntKind.i64.wrap (Int.tdiv (k.val : Int) 2)) 2 : Int) == 0) = false → ev (k.val : Int) 2 = (k.val : Int) := by decide +kernel
  exact k ⟨n, hn⟩ e
theorem ev_t4 (e : ((Int.tmod (IntKind.i64.wrap (Int.tdiv x 4)) 2 : Int) == 0) = true) : IntKind.i64.wrap (x + 4) = ev x 4 := by
  obtain ⟨n, hn, rfl⟩ : ∃ n : Nat, n < 8 ∧ x = (n : Int) := ⟨x.toNat, by omega, by omega⟩
  have k : ∀ k : Fin 8, ((Int.tmod (IntKind.i64.wrap (Int.tdiv (k.val : Int) 4)) 2 : Int) == 0) = true → IntKind.i64.wrap ((k.val : Int) + 4) = ev (k.val : Int) 4 := by decide +kernel
  exact k ⟨n, hn⟩ e
theorem ev_f4 (e : ((Int.tmod (IntKind.i64.wrap (Int.tdiv x 4)) 2 : Int) == 0) = false) : ev x 4 = x := by
  obtain ⟨n, hn, rfl⟩ : ∃ n : Nat, n < 8 ∧ x = (n : Int) := ⟨x.toNat, by omega, by omega⟩
  have k : ∀ k : Fin 8, ((Int.tmod (IntKind.i64.wrap (Int.tdiv (k.val : Int) 4)) 2 : Int) == 0) = false → ev (k.val : Int) 4 = (k.val : Int) := by decide +kernel
  exact k ⟨n, hn⟩ e
end
end Go.Proofs.Ytloejpkefoagfaa
