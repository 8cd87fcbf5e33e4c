/-
  The document's pool: Get, Left and New, for every input.
-/
import Derived.Test.YthofjobcjkeomaaRefMore
namespace Go.Proofs.Ythofjobcjkeomaa
open Go.RowKit
set_option maxRecDepth 100000
set_option maxHeartbeats 1000000

theorem rget_none {w : World} {r rb : Nat} {base : Nat → Prop} {L : List Bf} (h : RefAt w r rb base L) (hf : FullTo L L.length) :
    Calls Try.prog 26 #[.pointer (some ⟨r, 0, none⟩)] w fun e w' => e = .returned (.tuple #[.int .i64 0, .int .i64 8]) ∧ w = w' := by
  have hp0 := h.cell0
  have hL := h.2.2.2.2.2.1
  have H := Lib.hid (And.intro h hf)
  clear h hf
  go_enter Try.func26, Try.ntmps26
  go_wp2
  go_loop [4] (fun v => ∃ j : Nat, j ≤ L.length ∧ v = .int .i64 (j : Int)) (fun v => L.length - (intOf v).toNat)
  case atStart => exact ⟨0, Nat.zero_le _, rfl⟩
  case round =>
    obtain ⟨j, hj, rfl⟩ := hrel
    by_cases hlt : j < L.length
    · obtain ⟨h, hf⟩ := H.out
      have hb := h.cellr (List.getElem?_eq_getElem hlt)
      have hr := hf j _ hlt (List.getElem?_eq_getElem hlt)
      have hr0 : ((L[j].refs : Int) == 0) = false := by simp; omega
      clear h hf hr
      go_wp2
      go_round
      case rel => exact ⟨j + 1, by omega, by go_num⟩
      case measure => simp [intOf]; omega
    · have : j = L.length := by omega
      subst this
      go_wp2
      go_ret2
      exact ⟨rfl, rfl⟩

theorem rget_in {w : World} {r rb : Nat} {base : Nat → Prop} {L : List Bf} (h : RefAt w r rb base L) {k : Nat} {b : Bf} (hk : L[k]? = some b) (hr : b.refs = 0) (hf : FullTo L k) :
    Calls Try.prog 26 #[.pointer (some ⟨r, 0, none⟩)] w fun e w' => e = .returned (.tuple #[.int .i64 (k : Int), .int .i64 0]) ∧ RefAt w' r rb base (L.set k ⟨1, [], []⟩) ∧ Only (fun x => x = rb) w w' := by
  have hp0 := h.cell0
  have hL := h.2.2.2.2.2.1
  have hkl : k < L.length := (List.getElem?_eq_some_iff.1 hk).1
  obtain ⟨c, hc, hcl, hcb⟩ := h.2.2.2.2.2.2.2
  obtain ⟨a0, ⟨x, n1, q1, a1, -⟩, ⟨y, n2, q2, a4, -⟩⟩ := hcb k b hk
  have g0 : w.cell? ⟨rb, k * 3, none⟩ = some (.int .i64 0) := by rw [hc.cell, a0, hr]; rfl
  have g1 : w.cell? ⟨rb, k * 3 + 1, none⟩ = some (.slice x n1 q1) := by rw [hc.cell]; exact a1
  have g2 : w.cell? ⟨rb, k * 3 + 2, none⟩ = some (.slice y n2 q2) := by rw [hc.cell]; exact a4
  have hz := fun o => hc.fz o
  have H := Lib.hid (And.intro h (And.intro hk (And.intro hc (And.intro hcl hf))))
  clear h hf hk hc hr hcb hcl a0 a1 a4
  go_enter Try.func26, Try.ntmps26
  go_wp2
  go_loop [4] (fun v => ∃ j : Nat, j ≤ k ∧ v = .int .i64 (j : Int)) (fun v => k - (intOf v).toNat)
  case atStart => exact ⟨0, Nat.zero_le _, rfl⟩
  case round =>
    obtain ⟨j, hj, rfl⟩ := hrel
    by_cases hlt : j < k
    · obtain ⟨h, hk, hc, hcl, hf⟩ := H.out
      have hjl : j < L.length := by omega
      have hb := h.cellr (List.getElem?_eq_getElem hjl)
      have hr := hf j _ hlt (List.getElem?_eq_getElem hjl)
      have hr0 : ((L[j].refs : Int) == 0) = false := by simp; omega
      clear h hk hc hcl hf hr g0 g1 g2
      go_wp2
      go_round
      case rel => exact ⟨j + 1, by omega, by go_num⟩
      case measure => simp [intOf]; omega
    · have : j = k := by omega
      subst this
      clear hlt hj
      go_wp2
      go_ret2
      obtain ⟨h, hk, hc, hcl, hf⟩ := H.out
      have hO := Only.st (Only.st (Only.st (Only.refl (fun x => x = rb) w) rfl (j * 3) (.int .i64 1)) rfl (j * 3 + 1) (.slice none 0 0)) rfl (j * 3 + 2) (.slice none 0 0)
      refine ⟨rfl, h.turn hc hO (((hc.set _ _).set _ _).set _ _) (by simp) (fun o ho => by rw [set_ne_at (by omega), set_ne_at (by omega), set_ne_at (by omega)]) ⟨?_, ⟨none, 0, 0, ?_, .nil _, sliceIn_nil⟩, ⟨none, 0, 0, ?_, .nil _, sliceIn_nil⟩⟩, hO⟩
      · rw [set_ne_at (by omega), set_ne_at (by omega), List.getElem?_set_self (by omega)]; rfl
      · rw [set_ne_at (by omega), List.getElem?_set_self (by simp; omega)]
      · rw [List.getElem?_set_self (by simp; omega)]

theorem nfree_snoc (L : List Bf) (k : Nat) (h : k < L.length) : nfree (L.take (k + 1)) = nfree (L.take k) + (if L[k].refs = 0 then 1 else 0) := by
  rw [List.take_succ_eq_append_getElem h]
  unfold nfree
  rw [List.countP_append]
  simp [List.countP_cons]

theorem rleft_any {w : World} {r rb : Nat} {base : Nat → Prop} {L : List Bf} (h : RefAt w r rb base L) :
    Calls Try.prog 18 #[.pointer (some ⟨r, 0, none⟩)] w fun e w' => e = .returned (.int .i64 (nfree L : Int)) ∧ w = w' := by
  have hp0 := h.cell0
  have hL := h.2.2.2.2.2.1
  have H := Lib.hid h
  clear h
  go_enter Try.func18, Try.ntmps18
  go_wp2
  go_loop [3, 4] (fun t v => ∃ j : Nat, j ≤ L.length ∧ v = .int .i64 (j : Int) ∧ t = .int .i64 (nfree (L.take j) : Int)) (fun _ v => L.length - (intOf v).toNat)
  case atStart => exact ⟨0, Nat.zero_le _, rfl, rfl⟩
  case round =>
    obtain ⟨j, hj, rfl, rfl⟩ := hrel
    by_cases hlt : j < L.length
    · have hb := H.out.cellr (List.getElem?_eq_getElem hlt)
      have hs := nfree_snoc L j hlt
      have hle : nfree (L.take j) ≤ 4096 := by have := nfree_le (L.take j); rw [List.length_take] at this; omega
      by_cases hz : L[j].refs = 0
      · rw [if_pos hz] at hs
        rw [hz] at hb
        have HS := Lib.hid hs
        clear hs hz
        go_wp2
        go_round
        case rel => exact ⟨j + 1, by omega, by go_num, by rw [HS.out]; go_num⟩
        case measure => simp [intOf]; omega
      · rw [if_neg hz] at hs
        have HS := Lib.hid hs
        have hr0 : ((L[j].refs : Int) == 0) = false := by simp; omega
        clear hs hz
        go_wp2
        go_round
        case rel => exact ⟨j + 1, by omega, by go_num, by rw [HS.out]; rfl⟩
        case measure => simp [intOf]; omega
    · have : j = L.length := by omega
      subst this
      rw [List.take_length] at *
      go_wp2
      go_ret
      exact ⟨rfl, rfl⟩

theorem rnew_no {w : World} {n : Int} (hn : n < 1 ∨ 4096 < n) :
    Calls Try.prog 15 #[.int .i64 n] w fun e w' => e = .returned (.tuple #[.pointer none, .int .i64 1]) ∧ w = w' := by
  rcases hn with hn | hn
  · go_enter Try.func15, Try.ntmps15
    go_wp2
    go_ret2
    exact ⟨rfl, rfl⟩
  · have hn' : 1 ≤ n := by omega
    go_enter Try.func15, Try.ntmps15
    go_wp2
    go_ret2
    exact ⟨rfl, rfl⟩

def RNewPost (w : World) (n : Nat) (e : Ending) (w' : World) : Prop :=
  ∃ r rb, e = .returned (.tuple #[.pointer (some ⟨r, 0, none⟩), .int .i64 0]) ∧ RefAt w' r rb (fun b => w'.heap.size ≤ b) (List.replicate n ⟨0, [], []⟩) ∧ w.heap.size ≤ r ∧ w.heap.size ≤ rb ∧ Only (fun _ => False) w w'

def zref : List Value := [.int .i64 0, .slice none 0 0, .slice none 0 0]
def zrefs (n : Nat) : List Value := (List.range (n * 3)).map fun i => zref[i % 3]?.getD default

theorem run_make_refs (n : Nat) (hn : n ≤ 4096) (w : World) :
    (Instr.makeSlice 62 (.int .i64 (n : Int)) (.int .i64 (n : Int))).run Try.prog w = .ok (.slice (some ⟨w.heap.size, 0, none⟩) n n) (w.alloc (.cells (zrefs n).toArray 36)) := by
  have hq : (Try.prog.info? 36).map (fun i => (i.zero, i.size, i.bytes)) = some (some (.agg zref.toArray), 3, 56) := by kernel_rfl
  obtain ⟨i, hi, hz, h1, h2⟩ : ∃ i, Try.prog.info? 36 = some i ∧ i.zero = some (.agg zref.toArray) ∧ i.size = 3 ∧ i.bytes = 56 := by
    cases hi : Try.prog.info? 36 with
    | none => rw [hi] at hq; cases hq
    | some i => rw [hi] at hq; simp only [Option.map_some, Option.some.injEq, Prod.mk.injEq] at hq; exact ⟨i, rfl, hq.1, hq.2.1, hq.2.2⟩
  clear hq
  have := run_make (P := Try.prog) w 62 36 i _ Try.underlying62 hi hz .i64 .i64 (n : Int) (n : Int) (by omega) (by omega) (by rw [h2]; omega) (by omega)
  rw [this]
  simp only [Int.toNat_natCast, h1]
  have e : madeCells (Value.agg zref.toArray).cells (n * 3) = (zrefs n).toArray := by
    have e1 : (Value.agg zref.toArray).cells = zref.toArray := rfl
    rw [e1]
    apply Array.ext_getElem?
    intro j
    simp only [madeCells, zrefs]
    by_cases hj : j < n * 3
    · simp [hj, zref]
    · simp [hj]
  rw [e]

theorem rnew_in {w : World} {n : Nat} (h1 : 1 ≤ n) (h2 : n ≤ 4096) : Calls Try.prog 15 #[.int .i64 (n : Int)] w (RNewPost w n) := by
  have hm := run_make_refs n h2
  have g1 : (1 : Int) ≤ (n : Int) := by omega
  have g2 : (n : Int) ≤ 4096 := by omega
  go_enter Try.func15, Try.ntmps15
  go_wp2
  go_ret2
  refine ⟨w.heap.size + 1, w.heap.size, rfl, ⟨?_, by omega, by simp, by simp; omega, by simpa using h1, by simpa using h2, fun _ h => h, zrefs n, ?_, by simp [zrefs], ?_⟩, by omega, by omega, Only.alloc (Only.alloc (Only.refl _ _) _) _⟩
  · exact Blk.at_new (by simp) (by simp)
  · exact Blk.alloc (Blk.at_new rfl rfl) _
  · intro k b hk
    rw [List.getElem?_replicate] at hk
    split at hk
    · rename_i hkn
      simp at hk; subst hk
      have hg : ∀ j, j < 3 → (zrefs n)[k * 3 + j]? = some (zref[j]?.getD default) := by
        intro j hj
        have h1 : k * 3 + j < n * 3 := by omega
        have h2 : (k * 3 + j) % 3 = j := by omega
        simp [zrefs, h1, h2]
      refine ⟨?_, ⟨none, 0, 0, ?_, .nil _, sliceIn_nil⟩, ⟨none, 0, 0, ?_, .nil _, sliceIn_nil⟩⟩
      · have := hg 0 (by omega); rw [Nat.add_zero] at this; rw [this]; rfl
      · rw [hg 1 (by omega)]; rfl
      · rw [hg 2 (by omega)]; rfl
    · cases hk

end Go.Proofs.Ythofjobcjkeomaa
