/-
  How a pool lies in memory, and what its calls do to the buffers: each call's answer, for every input.
-/
import Derived.Test.YthofjobcjkeomaaHeap
import Derived.Test.YthofjobcjkeomaaProg
import Derived.Lib.Hide
import Derived.StillTailTactics
import Derived.Deep.QuietTactic
import Derived.BigQuiet
import Derived.BigRegion
namespace Go.Proofs.Ythofjobcjkeomaa
open Go.RowKit

/-- A buffer, as the document has it. -/
structure Bf where
  refs : Nat
  head : List UInt8
  data : List UInt8

/-- A buffer's 396 cells, from o on. -/
def BufAt (c : List Value) (o : Nat) (b : Bf) : Prop :=
  ∃ (mem : List UInt8) (fr : Nat), mem.length = 392 ∧ c[o]? = some (.int .i64 (b.refs : Int)) ∧ (∀ j (hj : j < mem.length), c[o + 1 + j]? = some (bv mem[j])) ∧
    c[o + 393]? = some (.int .i64 (b.head.length : Int)) ∧ c[o + 394]? = some (.int .i64 (b.data.length : Int)) ∧ c[o + 395]? = some (.int .i64 (fr : Int)) ∧
    b.head = mem.take b.head.length ∧ b.data = (mem.drop (104 + fr)).take b.data.length ∧ b.head.length ≤ 104 ∧ fr + b.data.length ≤ 288

theorem BufAt.frame {c c' : List Value} {o : Nat} {b : Bf} (h : BufAt c o b) (hc : ∀ j, j < 396 → c'[o + j]? = c[o + j]?) : BufAt c' o b := by
  obtain ⟨mem, fr, hm, h0, h1, h2, h3, h4, h5⟩ := h
  refine ⟨mem, fr, hm, ?_, ?_, ?_, ?_, ?_, h5⟩
  · have := hc 0 (by omega); simp only [Nat.add_zero] at this; rw [this]; exact h0
  · intro j hj; have := hc (1 + j) (by omega); rw [← Nat.add_assoc] at this; rw [this]; exact h1 j hj
  · rw [hc 393 (by omega)]; exact h2
  · rw [hc 394 (by omega)]; exact h3
  · rw [hc 395 (by omega)]; exact h4

def nfree (L : List Bf) : Nat := L.countP (fun b => b.refs == 0)

/-- The pool at p, its buffers in the block ab. -/
def PoolAt (w : World) (p ab : Nat) (L : List Bf) : Prop :=
  Blk w p [.slice (some ⟨ab, 0, none⟩) L.length L.length, .int .i64 (nfree L : Int)] 53 ∧ p ≠ ab ∧ 1 ≤ L.length ∧ L.length ≤ 4096 ∧
  ∃ c, Blk w ab c 56 ∧ c.length = L.length * 396 ∧ ∀ k b, L[k]? = some b → BufAt c (k * 396) b

theorem PoolAt.frame {w w' : World} {p ab : Nat} {L : List Bf} (h : PoolAt w p ab L) {S : Nat → Prop} (k : Only S w w') (h1 : ¬ S p) (h2 : ¬ S ab) : PoolAt w' p ab L := by
  obtain ⟨hp, hne, a1, a2, c, hc, hr⟩ := h
  exact ⟨k.blk hp h1, hne, a1, a2, c, k.blk hc h2, hr⟩

theorem PoolAt.alloc {w : World} {p ab : Nat} {L : List Bf} (h : PoolAt w p ab L) (o : Obj) : PoolAt (w.alloc o) p ab L := by
  obtain ⟨hp, hne, a1, a2, c, hc, hr⟩ := h
  exact ⟨hp.alloc o, hne, a1, a2, c, hc.alloc o, hr⟩

theorem PoolAt.drew {w : World} {p ab : Nat} {L : List Bf} (h : PoolAt w p ab L) : PoolAt w.drew p ab L := h
theorem PoolAt.lt {w : World} {p ab : Nat} {L : List Bf} (h : PoolAt w p ab L) : p < w.heap.size ∧ ab < w.heap.size := by
  obtain ⟨hp, hne, a1, a2, c, hc, hr⟩ := h
  exact ⟨hp.lt, hc.lt⟩

/-- The buffer k is turned. -/
theorem bufs_set {L : List Bf} {c c' : List Value} {k : Nat} {b1 : Bf} (hb : ∀ k b, L[k]? = some b → BufAt c (k * 396) b)
    (hout : ∀ o, (o < k * 396 ∨ k * 396 + 396 ≤ o) → c'[o]? = c[o]?) (hin : BufAt c' (k * 396) b1) :
    ∀ j b, (L.set k b1)[j]? = some b → BufAt c' (j * 396) b := by
  intro j b hj
  by_cases e : k = j
  · subst e
    rw [List.getElem?_set] at hj
    simp at hj
    obtain ⟨_, rfl⟩ := hj
    exact hin
  · rw [List.getElem?_set_ne e] at hj
    exact (hb j b hj).frame (fun i hi => hout _ (by omega))

theorem nfree_set {L : List Bf} {k : Nat} {b b1 : Bf} (hk : L[k]? = some b) :
    nfree (L.set k b1) + (if b.refs = 0 then 1 else 0) = nfree L + (if b1.refs = 0 then 1 else 0) := by
  unfold nfree
  induction L generalizing k with
  | nil => simp at hk
  | cons x L ih =>
    cases k with
    | zero =>
      simp at hk; subst hk
      simp only [List.set_cons_zero, List.countP_cons]
      simp only [beq_iff_eq]; omega
    | succ k =>
      simp only [List.getElem?_cons_succ] at hk
      simp only [List.set_cons_succ, List.countP_cons]
      have := ih hk
      omega

theorem nfree_le (L : List Bf) : nfree L ≤ L.length := List.countP_le_length

/-- The cells that a walk reads. -/
theorem PoolAt.cell0 {w : World} {p ab : Nat} {L : List Bf} (h : PoolAt w p ab L) : w.cell? ⟨p, 0, none⟩ = some (.slice (some ⟨ab, 0, none⟩) L.length L.length) := by
  rw [h.1.cell]; rfl
theorem PoolAt.cell1 {w : World} {p ab : Nat} {L : List Bf} (h : PoolAt w p ab L) : w.cell? ⟨p, 1, none⟩ = some (.int .i64 (nfree L : Int)) := by
  rw [h.1.cell]; rfl
theorem PoolAt.cellr {w : World} {p ab : Nat} {L : List Bf} (h : PoolAt w p ab L) {k : Nat} {b : Bf} (hk : L[k]? = some b) : w.cell? ⟨ab, k * 396, none⟩ = some (.int .i64 (b.refs : Int)) := by
  obtain ⟨hp, hne, a1, a2, c, hc, hl, hr⟩ := h
  obtain ⟨mem, fr, hm, h0, _⟩ := hr k b hk
  rw [hc.cell]; exact h0

/-- Is it in use? -/
def Used (L : List Bf) (id : Int) : Prop := ∃ (k : Nat) (b : Bf), id = (k : Int) ∧ L[k]? = some b ∧ 0 < b.refs

theorem not_used {L : List Bf} {id : Int} (h : ¬ Used L id) : id < 0 ∨ (L.length : Int) ≤ id ∨ ∃ (k : Nat) (b : Bf), id = (k : Int) ∧ k < L.length ∧ L[k]? = some b ∧ b.refs = 0 := by
  by_cases h0 : id < 0
  · exact .inl h0
  · by_cases h1 : (L.length : Int) ≤ id
    · exact .inr (.inl h1)
    · obtain ⟨k, rfl⟩ := Int.eq_ofNat_of_zero_le (Int.not_lt.1 h0)
      have hk : k < L.length := by omega
      refine .inr (.inr ⟨k, L[k], rfl, hk, List.getElem?_eq_getElem hk, ?_⟩)
      by_cases hr : L[k].refs = 0
      · exact hr
      · exact absurd ⟨k, L[k], rfl, List.getElem?_eq_getElem hk, by omega⟩ h

set_option maxRecDepth 100000
set_option maxHeartbeats 400000

theorem used_in {w : World} {p ab : Nat} {L : List Bf} (h : PoolAt w p ab L) {k : Nat} {b : Bf} (hk : L[k]? = some b) (hr : 0 < b.refs) :
    Calls Try.prog 23 #[.pointer (some ⟨p, 0, none⟩), .int .i64 (k : Int)] w fun e w' => e = .returned (.pointer (some ⟨ab, k * 396, none⟩)) ∧ w = w' := by
  have hp0 := h.cell0
  have hb0 := h.cellr hk
  have hkl : k < L.length := (List.getElem?_eq_some_iff.1 hk).1
  have hL := h.2.2.2.1
  have hr0 : ((b.refs : Int) == 0) = false := by simp; omega
  clear h hk
  go_enter Try.func23, Try.ntmps23
  go_wp2
  go_ret
  exact ⟨rfl, rfl⟩

theorem used_no {w : World} {p ab : Nat} {L : List Bf} (h : PoolAt w p ab L) {id : Int} (hn : ¬ Used L id) :
    Calls Try.prog 23 #[.pointer (some ⟨p, 0, none⟩), .int .i64 id] w fun e w' => e = .returned (.pointer none) ∧ w = w' := by
  have hp0 := h.cell0
  have hL := h.2.2.2.1
  rcases not_used hn with h0 | h1 | ⟨k, b, rfl, hkl, hk, hr⟩
  · clear h hn
    go_enter Try.func23, Try.ntmps23
    go_wp2
    go_ret
    exact ⟨rfl, rfl⟩
  · clear h hn
    have h0 : 0 ≤ id := by omega
    go_enter Try.func23, Try.ntmps23
    go_wp2
    go_ret
    exact ⟨rfl, rfl⟩
  · have hb0 := h.cellr hk
    rw [hr] at hb0
    clear h hn hk hr
    go_enter Try.func23, Try.ntmps23
    go_wp2
    go_ret
    exact ⟨rfl, rfl⟩

/-- own: none, shared, one's own. -/
theorem own_no {w : World} {p ab : Nat} {L : List Bf} (h : PoolAt w p ab L) {id : Int} (hn : ¬ Used L id) :
    Calls Try.prog 25 #[.pointer (some ⟨p, 0, none⟩), .int .i64 id] w fun e w' => e = .returned (.tuple #[.pointer none, .int .i64 7]) ∧ w = w' := by
  go_enter Try.func25, Try.ntmps25
  go_wp2_with (go_at_call 23; refine (used_no h hn).mono ?_; rintro e w' ⟨rfl, rfl⟩)
  go_ret2
  exact ⟨rfl, rfl⟩

theorem own_shared {w : World} {p ab : Nat} {L : List Bf} (h : PoolAt w p ab L) {k : Nat} {b : Bf} (hk : L[k]? = some b) (hr : 1 < b.refs) :
    Calls Try.prog 25 #[.pointer (some ⟨p, 0, none⟩), .int .i64 (k : Int)] w fun e w' => e = .returned (.tuple #[.pointer none, .int .i64 9]) ∧ w = w' := by
  have hb0 := h.cellr hk
  have hr1 : decide (1 < b.refs) = true := by simpa using hr
  have hr2 : (1 : Int) < (b.refs : Int) := by omega
  go_enter Try.func25, Try.ntmps25
  go_wp2_with (go_at_call 23; refine (used_in h hk (by omega)).mono ?_; rintro e w' ⟨rfl, rfl⟩)
  go_ret2
  exact ⟨rfl, rfl⟩

theorem own_in {w : World} {p ab : Nat} {L : List Bf} (h : PoolAt w p ab L) {k : Nat} {b : Bf} (hk : L[k]? = some b) (hr : b.refs = 1) :
    Calls Try.prog 25 #[.pointer (some ⟨p, 0, none⟩), .int .i64 (k : Int)] w fun e w' => e = .returned (.tuple #[.pointer (some ⟨ab, k * 396, none⟩), .int .i64 0]) ∧ w = w' := by
  have hb0 := h.cellr hk
  have hr' : 0 < b.refs := by omega
  rw [hr] at hb0
  clear hr
  go_enter Try.func25, Try.ntmps25
  go_wp2_with (go_at_call 23; refine (used_in h hk hr').mono ?_; rintro e w' ⟨rfl, rfl⟩)
  go_ret2
  exact ⟨rfl, rfl⟩

theorem left_any {w : World} {p ab : Nat} {L : List Bf} (h : PoolAt w p ab L) :
    Calls Try.prog 10 #[.pointer (some ⟨p, 0, none⟩)] w fun e w' => e = .returned (.int .i64 (nfree L : Int)) ∧ w = w' := by
  have hp0 := h.cell1
  go_enter Try.func10, Try.ntmps10
  go_wp2
  go_ret
  exact ⟨rfl, rfl⟩

theorem size_any {w : World} {p ab : Nat} {L : List Bf} (h : PoolAt w p ab L) :
    Calls Try.prog 19 #[.pointer (some ⟨p, 0, none⟩)] w fun e w' => e = .returned (.int .i64 (L.length : Int)) ∧ w = w' := by
  have hp0 := h.cell0
  go_enter Try.func19, Try.ntmps19
  go_wp2
  go_ret
  exact ⟨rfl, rfl⟩

/-- What a change of one buffer comes to. -/
theorem PoolAt.turn {w w' : World} {p ab : Nat} {L : List Bf} (h : PoolAt w p ab L) {k : Nat} {b1 : Bf} {c c' : List Value}
    (hc : Blk w ab c 56) (hp' : Blk w' p [.slice (some ⟨ab, 0, none⟩) L.length L.length, .int .i64 (nfree (L.set k b1) : Int)] 53)
    (hc' : Blk w' ab c' 56) (hl : c'.length = c.length) (hout : ∀ o, (o < k * 396 ∨ k * 396 + 396 ≤ o) → c'[o]? = c[o]?) (hin : BufAt c' (k * 396) b1) : PoolAt w' p ab (L.set k b1) := by
  obtain ⟨hp, hne, a1, a2, c0, hc0, hl0, hr⟩ := h
  have e := hc.uniq hc0
  subst e
  refine ⟨by simpa using hp', hne, by simpa using a1, by simpa using a2, c', hc', by simp; omega, bufs_set hr hout hin⟩

theorem hold_no {w : World} {p ab : Nat} {L : List Bf} (h : PoolAt w p ab L) {id : Int} (hn : ¬ Used L id) :
    Calls Try.prog 13 #[.pointer (some ⟨p, 0, none⟩), .int .i64 id] w fun e w' => e = .returned (.int .i64 7) ∧ w = w' := by
  go_enter Try.func13, Try.ntmps13
  go_wp2_with (go_at_call 23; refine (used_no h hn).mono ?_; rintro e w' ⟨rfl, rfl⟩)
  go_ret
  exact ⟨rfl, rfl⟩

/-- A count is turned. -/
theorem BufAt.refs {c : List Value} {o : Nat} {b : Bf} (h : BufAt c o b) (ho : o < c.length) {x : Int} {n : Nat} (hx : x = (n : Int)) : BufAt (c.set o (.int .i64 x)) o { b with refs := n } := by
  obtain ⟨mem, fr, hm, h0, h1, h2, h3, h4, h5⟩ := h
  refine ⟨mem, fr, hm, ?_, ?_, ?_, ?_, ?_, h5⟩
  · rw [List.getElem?_set_self ho, hx]
  · intro j hj; rw [set_ne_at (by omega)]; exact h1 j hj
  · rw [set_ne_at (by omega)]; exact h2
  · rw [set_ne_at (by omega)]; exact h3
  · rw [set_ne_at (by omega)]; exact h4

theorem hold_in {w : World} {p ab : Nat} {L : List Bf} (h : PoolAt w p ab L) {k : Nat} {b : Bf} (hk : L[k]? = some b) (hr : 0 < b.refs) (hm : b.refs < 1000000000000000) :
    Calls Try.prog 13 #[.pointer (some ⟨p, 0, none⟩), .int .i64 (k : Int)] w fun e w' => e = .returned (.int .i64 0) ∧ PoolAt w' p ab (L.set k { b with refs := b.refs + 1 }) ∧ Only (fun b => b = ab) w w' := by
  have hb0 := h.cellr hk
  obtain ⟨c, hc, hcl, hcb⟩ := h.2.2.2.2
  have hz := fun o => hc.fz o
  have H := Lib.hid (And.intro h (And.intro hk hc))
  have hU := used_in h hk hr
  clear hk hc hcl hcb h
  go_enter Try.func13, Try.ntmps13
  go_wp2_with (go_at_call 23; refine hU.mono ?_; rintro e w' ⟨rfl, rfl⟩)
  go_ret
  obtain ⟨h, hk, hc⟩ := H.out
  refine ⟨rfl, h.turn hc ?_ (hc.set _ _) (by simp) (fun o ho => set_ne_at (by omega)) ?_, Only.st (Only.refl (fun b => b = ab) _) rfl _ _⟩
  · have e := nfree_set (b1 := { b with refs := b.refs + 1 }) hk
    rw [if_neg (by omega), if_neg (by simp)] at e
    have e' : nfree (L.set k { b with refs := b.refs + 1 }) = nfree L := by omega
    rw [e']
    exact h.1.set_ne (by simp; exact fun e => h.2.1 e.symm) _
  · obtain ⟨c0, hc0, hl0, hrr⟩ := h.2.2.2.2
    have ec := hc.uniq hc0
    subst ec
    have hkl : k < L.length := (List.getElem?_eq_some_iff.1 hk).1
    exact (hrr k b hk).refs (by omega) rfl

end Go.Proofs.Ythofjobcjkeomaa
