/-
  Get and New of a pool, for every input.
-/
import Derived.Test.YthofjobcjkeomaaPoolSee
namespace Go.Proofs.Ythofjobcjkeomaa
open Go.RowKit
set_option maxRecDepth 100000
set_option maxHeartbeats 1000000

/-- The first k buffers are in use. -/
def FullTo (L : List Bf) (k : Nat) : Prop := ∀ j b, j < k → L[j]? = some b → 0 < b.refs

theorem fullTo_none {L : List Bf} (h : FullTo L L.length) : nfree L = 0 := by
  unfold nfree
  rw [List.countP_eq_zero]
  intro b hb
  obtain ⟨j, hj⟩ := List.getElem?_of_mem hb
  have := h j b (List.getElem?_eq_some_iff.1 hj).1 hj
  simp; omega

theorem get_none {w : World} {p ab : Nat} {L : List Bf} (h : PoolAt w p ab L) (hf : FullTo L L.length) :
    Calls Try.prog 9 #[.pointer (some ⟨p, 0, none⟩)] w fun e w' => e = .returned (.tuple #[.int .i64 0, .int .i64 8]) ∧ w = w' := by
  have hp0 := h.cell0
  have hL := h.2.2.2.1
  have H := Lib.hid (And.intro h hf)
  clear h hf
  go_enter Try.func9, Try.ntmps9
  go_wp2
  go_wp2
  go_step3
  go_wp2
  go_step3
  go_wp2
  go_loop [4, 12] (fun a v => ∃ j : Nat, j ≤ L.length ∧ a = .int .i64 (-1) ∧ v = .int .i64 (j : Int)) (fun _ v => L.length - (intOf v).toNat)
  case atStart => exact ⟨0, Nat.zero_le _, rfl, rfl⟩
  case round =>
    obtain ⟨j, hj, rfl, rfl⟩ := hrel
    by_cases hlt : j < L.length
    · obtain ⟨h, hf⟩ := H.out
      have hb := h.cellr (List.getElem?_eq_getElem hlt)
      have hr := hf j _ hlt (List.getElem?_eq_getElem hlt)
      have hr0 : ((L[j].refs : Int) == 0) = false := by simp; omega
      clear h hf hr
      go_wp2
      go_round
      case rel => exact ⟨j + 1, by omega, rfl, by go_num⟩
      case measure => simp [intOf]; omega
    · have : j = L.length := by omega
      subst this
      go_wp2
      try rw [Exit.noGoto_ret]
      go_ret2
      exact ⟨rfl, rfl⟩

theorem get_in {w : World} {p ab : Nat} {L : List Bf} (h : PoolAt w p ab L) {k : Nat} {b : Bf} (hk : L[k]? = some b) (hr : b.refs = 0) (hf : FullTo L k) :
    Calls Try.prog 9 #[.pointer (some ⟨p, 0, none⟩)] w fun e w' => e = .returned (.tuple #[.int .i64 (k : Int), .int .i64 0]) ∧ PoolAt w' p ab (L.set k ⟨1, [], []⟩) ∧ Only (fun b => b = p ∨ b = ab) w w' := by
  have hp0 := h.cell0
  have hp1 := h.cell1
  have hL := h.2.2.2.1
  have hkl : k < L.length := (List.getElem?_eq_some_iff.1 hk).1
  obtain ⟨c, hc, hcl, hcb⟩ := h.2.2.2.2
  obtain ⟨mem, fr, hraw, hrel⟩ := (hcb k b hk).raw (by omega)
  have g0 : w.cell? ⟨ab, k * 396, none⟩ = some (.int .i64 0) := by rw [hc.cell, hraw.r, hr]; rfl
  have g1 : w.cell? ⟨ab, k * 396 + 393, none⟩ = some (.int .i64 (b.head.length : Int)) := by rw [hc.cell]; exact hraw.h
  have g2 : w.cell? ⟨ab, k * 396 + 394, none⟩ = some (.int .i64 (b.data.length : Int)) := by rw [hc.cell]; exact hraw.s
  have g3 : w.cell? ⟨ab, k * 396 + 395, none⟩ = some (.int .i64 (fr : Int)) := by rw [hc.cell]; exact hraw.f
  have hz := fun o => hc.fz o
  have hzp := fun o => h.1.fz o
  have hne : ¬ p = ab := h.2.1
  have hne' : ¬ ab = p := fun e => h.2.1 e.symm
  have hnf := nfree_le L
  have H := Lib.hid (And.intro h (And.intro hk (And.intro hc (And.intro hraw (And.intro hr hf)))))
  clear h hf hk hc hraw hrel hr hcb hcl
  go_enter Try.func9, Try.ntmps9
  go_wp2
  go_wp2
  go_step3
  go_wp2
  go_step3
  go_wp2
  go_loop [4, 12] (fun a v => ∃ j : Nat, j ≤ k ∧ a = .int .i64 (-1) ∧ v = .int .i64 (j : Int)) (fun _ v => k - (intOf v).toNat)
  case atStart => exact ⟨0, Nat.zero_le _, rfl, rfl⟩
  case round =>
    obtain ⟨j, hj, rfl, rfl⟩ := hrel
    by_cases hlt : j < k
    · obtain ⟨h, hk, hc, hraw, hr, hf⟩ := H.out
      have hjl : j < L.length := by omega
      have hb := h.cellr (List.getElem?_eq_getElem hjl)
      have hr := hf j _ hlt (List.getElem?_eq_getElem hjl)
      have hr0 : ((L[j].refs : Int) == 0) = false := by simp; omega
      clear h hk hc hraw hr hf g0 g1 g2 g3
      go_wp2
      go_round
      case rel => exact ⟨j + 1, by omega, rfl, by go_num⟩
      case measure => simp [intOf]; omega
    · have : j = k := by omega
      subst this
      clear hlt hj
      go_wp2
      try rw [Exit.noGoto_ret]
      go_ret2
      obtain ⟨h, hk, hc, hraw, hr, hf⟩ := H.out
      have e := nfree_set (b1 := ⟨1, [], []⟩) hk
      rw [if_pos hr, if_neg (by simp)] at e
      have hO := Only.st (Only.st (Only.st (Only.st (Only.st (Only.refl (fun b => b = p ∨ b = ab) w) (.inr rfl) (j * 396) (.int .i64 1)) (.inr rfl) (j * 396 + 393) (.int .i64 0)) (.inr rfl) (j * 396 + 394) (.int .i64 0)) (.inr rfl) (j * 396 + 395) (.int .i64 0)) (.inl rfl) 1 (.int .i64 ((nfree L : Int) - 1))
      have R := (((hraw.setR 1).setH 0).setS 0).setF 0
      have hft := hraw.fit
      refine ⟨rfl, h.turn hc ?_ (((((hc.set _ _).set _ _).set _ _).set _ _).set_ne hne _) (by simp) (fun o ho => by rw [set_ne_at (by omega), set_ne_at (by omega), set_ne_at (by omega), set_ne_at (by omega)]) ?_, hO⟩
      · have e2 : (nfree (L.set j ⟨1, [], []⟩) : Int) = (nfree L : Int) - 1 := by omega
        rw [e2]
        have := (((((h.1.set_ne (a := ⟨ab, j * 396, none⟩) hne' (.int .i64 1)).set_ne (a := ⟨ab, j * 396 + 393, none⟩) hne' (.int .i64 0)).set_ne (a := ⟨ab, j * 396 + 394, none⟩) hne' (.int .i64 0)).set_ne (a := ⟨ab, j * 396 + 395, none⟩) hne' (.int .i64 0))).set 1 (.int .i64 ((nfree L : Int) - 1))
        simpa using this
      · exact R.buf (b := ⟨1, [], []⟩) (fr := 0) rfl rfl rfl rfl rfl (by simp) (by simp)

theorem get_cases (L : List Bf) : FullTo L L.length ∨ ∃ k b, L[k]? = some b ∧ b.refs = 0 ∧ FullTo L k := by
  have : ∀ n, n ≤ L.length → FullTo L n ∨ ∃ k b, L[k]? = some b ∧ b.refs = 0 ∧ FullTo L k := by
    intro n
    induction n with
    | zero => intro _; exact .inl (fun j b hj => by omega)
    | succ n ih =>
      intro hn
      rcases ih (by omega) with h | h
      · by_cases hr : L[n].refs = 0
        · exact .inr ⟨n, L[n], List.getElem?_eq_getElem (by omega), hr, h⟩
        · refine .inl (fun j b hj hb => ?_)
          by_cases e : j = n
          · subst e; rw [List.getElem?_eq_getElem (by omega)] at hb; simp at hb; subst hb; omega
          · exact h j b (by omega) hb
      · exact .inr h
  exact this _ (Nat.le_refl _)

theorem new_no {w : World} {n : Int} (hn : n < 1 ∨ 4096 < n) :
    Calls Try.prog 8 #[.int .i64 n] w fun e w' => e = .returned (.tuple #[.pointer none, .int .i64 1]) ∧ w = w' := by
  rcases hn with hn | hn
  · go_enter Try.func8, Try.ntmps8
    go_wp2
    go_ret2
    exact ⟨rfl, rfl⟩
  · have hn' : 1 ≤ n := by omega
    go_enter Try.func8, Try.ntmps8
    go_wp2
    go_ret2
    exact ⟨rfl, rfl⟩

/-- A new pool. -/
def NewPost (w : World) (n : Nat) (e : Ending) (w' : World) : Prop :=
  ∃ p ab, e = .returned (.tuple #[.pointer (some ⟨p, 0, none⟩), .int .i64 0]) ∧ PoolAt w' p ab (List.replicate n ⟨0, [], []⟩) ∧ w.heap.size ≤ p ∧ w.heap.size ≤ ab ∧ Only (fun _ => False) w w'

def zbuf : List Value := .int .i64 0 :: (List.replicate 392 (.int .u8 0) ++ [.int .i64 0, .int .i64 0, .int .i64 0])
theorem zbuf_len : zbuf.length = 396 := by simp [zbuf]
def zbufs (n : Nat) : List Value := (List.range (n * 396)).map fun i => zbuf[i % 396]?.getD default

theorem run_make_bufs (n : Nat) (hn : n ≤ 4096) (w : World) :
    (Instr.makeSlice 51 (.int .i64 (n : Int)) (.int .i64 (n : Int))).run Try.prog w = .ok (.slice (some ⟨w.heap.size, 0, none⟩) n n) (w.alloc (.cells (zbufs n).toArray 56)) := by
  have hq : (Try.prog.info? 56).map (fun i => (i.zero, i.size, i.bytes)) = some (some (.agg zbuf.toArray), 396, 424) := by kernel_rfl
  obtain ⟨i, hi, hz, h1, h2⟩ : ∃ i, Try.prog.info? 56 = some i ∧ i.zero = some (.agg zbuf.toArray) ∧ i.size = 396 ∧ i.bytes = 424 := by
    cases hi : Try.prog.info? 56 with
    | none => rw [hi] at hq; cases hq
    | some i => rw [hi] at hq; simp only [Option.map_some, Option.some.injEq, Prod.mk.injEq] at hq; exact ⟨i, rfl, hq.1, hq.2.1, hq.2.2⟩
  clear hq
  have := run_make (P := Try.prog) w 51 56 i _ Try.underlying51 hi hz .i64 .i64 (n : Int) (n : Int) (by omega) (by omega) (by rw [h2]; omega) (by omega)
  rw [this]
  simp only [Int.toNat_natCast, h1]
  have e : madeCells (Value.agg zbuf.toArray).cells (n * 396) = (zbufs n).toArray := by
    have e1 : (Value.agg zbuf.toArray).cells = zbuf.toArray := rfl
    rw [e1]
    apply Array.ext_getElem?
    intro j
    simp only [madeCells, zbufs]
    by_cases hj : j < n * 396
    · simp [hj, zbuf_len]
    · simp [hj]
  rw [e]

theorem zbufs_at {n k : Nat} (hk : k < n) : BufAt (zbufs n) (k * 396) ⟨0, [], []⟩ := by
  have hg : ∀ j, j < 396 → (zbufs n)[k * 396 + j]? = some (zbuf[j]?.getD default) := by
    intro j hj
    have h1 : k * 396 + j < n * 396 := by omega
    have h2 : (k * 396 + j) % 396 = j := by omega
    simp [zbufs, h1, h2]
  refine ⟨List.replicate 392 0, 0, by simp, ?_, ?_, ?_, ?_, ?_, by simp, by simp, by simp, by simp⟩
  · have := hg 0 (by omega); rw [Nat.add_zero] at this; rw [this]; rfl
  · intro j hj
    have hj' : j < 392 := by simpa using hj
    rw [Nat.add_assoc, hg (1 + j) (by omega)]
    have : zbuf[1 + j]? = some (.int .u8 0) := by
      rw [Nat.add_comm]
      unfold zbuf
      rw [List.getElem?_cons_succ, List.getElem?_append_left (by simpa using hj'), List.getElem?_replicate, if_pos hj']
    rw [this, List.getElem_replicate]; rfl
  · rw [hg 393 (by omega)]; rfl
  · rw [hg 394 (by omega)]; rfl
  · rw [hg 395 (by omega)]; rfl

theorem new_in {w : World} {n : Nat} (h1 : 1 ≤ n) (h2 : n ≤ 4096) : Calls Try.prog 8 #[.int .i64 (n : Int)] w (NewPost w n) := by
  have hm := run_make_bufs n h2
  have g1 : (1 : Int) ≤ (n : Int) := by omega
  have g2 : (n : Int) ≤ 4096 := by omega
  go_enter Try.func8, Try.ntmps8
  go_wp2
  go_ret2
  refine ⟨w.heap.size + 1, w.heap.size, rfl, ⟨?_, by omega, by simpa using h1, by simpa using h2, zbufs n, ?_, by simp [zbufs], ?_⟩, by omega, by omega, Only.alloc (Only.alloc (Only.refl _ _) _) _⟩
  · refine Blk.at_new (by simp) ?_
    have : nfree (List.replicate n ⟨0, [], []⟩) = n := by
      unfold nfree; rw [List.countP_replicate]; simp
    rw [this]; simp
  · exact Blk.alloc (Blk.at_new rfl rfl) _
  · intro k b hk
    rw [List.getElem?_replicate] at hk
    split at hk
    · rename_i hkn
      simp at hk; subst hk
      exact zbufs_at hkn
    · cases hk

end Go.Proofs.Ythofjobcjkeomaa
