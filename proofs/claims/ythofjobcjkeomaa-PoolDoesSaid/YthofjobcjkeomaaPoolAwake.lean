/-
  The chapter's example: awake answers true.
-/
import Derived.Test.YthofjobcjkeomaaPoolGet
import Derived.Laws.BytesString
import Derived.Lib.SlBytesConst
namespace Go.Proofs.Ythofjobcjkeomaa
open Go.RowKit
set_option maxRecDepth 100000
set_option maxHeartbeats 1000000

theorem foldl_push (l : List UInt8) (s : ByteArray) : ((l.map fun x => (x.toNat : Int)).foldl (fun r n => r.push (UInt8.ofNat n.toNat)) s) = ⟨s.data ++ l.toArray⟩ := by
  induction l generalizing s with
  | nil => simp
  | cons x l ih =>
    simp only [List.map_cons, List.foldl_cons, ih]
    simp [ByteArray.push]

/-- 'string(b)': the bytes. -/
theorem run_conv_bytes {P : Program} {src dst e : TypeId} (hs : P.underlying src = some (.slice e)) (he : P.underlying e = some (.int .u8)) (hd : P.underlying dst = some .string)
    {w : World} {v : Value} {l : List UInt8} (h : BytesAt w v l) : (convert src dst v).run P w = .ok (.string ⟨l.toArray⟩) w := by
  rcases h with ⟨a, c, rfl, _, rfl⟩ | ⟨b, o, cap, rfl, h1, h2, h3⟩
  · rw [run_convert_bytes_string w src dst e a 0 c hs he hd]
    cases a with
    | none => rfl
    | some a =>
      have hl := run_loadCells_list (P := P) w a [] (by simp)
      rw [run_bytesToString w a 0 c [] (by simpa using hl)]
      rfl
  · rw [run_convert_bytes_string w src dst e _ _ _ hs he hd]
    have hl := run_loadCells_list (P := P) w ⟨b, o, none⟩ (l.map bv) (by
      intro j v hj
      have hjl : j < l.length := by have := (List.getElem?_eq_some_iff.1 hj).1; simpa using this
      have hadd : (⟨b, o, none⟩ : Addr).add j = ⟨b, o + j, none⟩ := by unfold Addr.add; split <;> simp_all
      rw [hadd, h3 j hjl]
      simp only [List.getElem?_map, List.getElem?_eq_getElem hjl, Option.map_some] at hj
      exact hj)
    rw [List.length_map] at hl
    have e : l.map bv = (l.map fun x => (x.toNat : Int)).map (Value.int .u8) := by simp
    rw [e] at hl
    rw [run_bytesToString w ⟨b, o, none⟩ l.length cap _ hl, foldl_push]
    simp

theorem conv_bytes {w : World} {v : Value} {l : List UInt8} (h : BytesAt w v l) : (convert 29 9 v).run Try.prog w = .ok (.string ⟨l.toArray⟩) w :=
  run_conv_bytes Try.underlying29 Try.underlying5 Try.underlying9 h

theorem Blk.bytes {w : World} {b : Nat} {l : List UInt8} {T : TypeId} (h : Blk w b (l.map bv) T) (hl : l.length ≤ 140737488351232) : BytesAt w (.slice (some ⟨b, 0, none⟩) l.length l.length) l := by
  refine .inr ⟨b, 0, l.length, rfl, Nat.le_refl _, hl, fun j hj => ?_⟩
  rw [h.cell, Nat.zero_add, List.getElem?_map, List.getElem?_eq_getElem hj]; rfl

theorem sliceIn_lit {b o n c : Nat} {S : Nat → Prop} (h : S b) : sliceIn (.slice (some ⟨b, o, none⟩) n c) S := by
  intro b' o' n' c' e _
  simp at e
  obtain ⟨⟨rfl, _⟩, _⟩ := e
  exact h
theorem sliceIn_nil {S : Nat → Prop} : sliceIn (.slice none 0 0) S := by
  intro b' o' n' c' e _; simp at e

theorem bytes_const (w : World) (l : List UInt8) (T : TypeId) (fr : Nat × Nat) {n : Nat} (hn : n = l.length) (hl : l.length ≤ 1000) : BytesAt (w.alloc (.cells (l.map bv).toArray T fr)) (.slice (some ⟨w.heap.size, 0, none⟩) n n) l := by
  subst hn
  refine .inr ⟨w.heap.size, 0, l.length, rfl, Nat.le_refl _, by omega, fun j hj => ?_⟩
  have h := Go.heap_alloc_new w (.cells (l.map bv).toArray T fr)
  rw [cell_of_row _ _ _ _ T fr h]
  simp [hj]

theorem awake_any (w : World) : Calls Try.prog 7 #[] w fun e w' => e = .returned (.bool true) ∧ Only (fun _ => False) w w' := by
  have kc := fun (w : World) (C : Array Value) (n c : Nat) => Lib.run_convert_bytes_const (P := Try.prog) w 29 5 C n c Try.underlying29 Try.underlying5
  go_enter Try.func7, Try.ntmps7
  go_wp2_with fail
  refine (new_in (n := 2) (by omega) (by omega)).mono ?_
  rintro e w1 ⟨p, ab, rfl, hP, hp, hab, hO⟩
  have H1 : Hid (PoolAt w1 p ab [⟨0, [], []⟩, ⟨0, [], []⟩] ∧ Only (fun _ => False) w w1) := And.intro hP hO
  clear hP hO
  go_wp2_with fail
  refine (get_in H1.out.1 (k := 0) (b := ⟨0, [], []⟩) rfl rfl (fun j b hj => by omega)).mono ?_
  rintro e w2 ⟨rfl, hP, hO⟩
  have H2 : Hid (PoolAt w2 p ab [⟨1, [], []⟩, ⟨0, [], []⟩] ∧ Only (fun _ => False) w w2) := And.intro hP (H1.out.2.step hO (by intro b hb; rcases hb with rfl | rfl <;> assumption))
  clear hP hO H1
  go_wp2_with fail
  refine (get_in H2.out.1 (k := 1) (b := ⟨0, [], []⟩) rfl rfl (fun j b hj hb => by
    match j, hj, hb with
    | 0, _, hb => cases hb; decide
    | n + 1, hj, _ => omega)).mono ?_
  rintro e w3 ⟨rfl, hP, hO⟩
  have H3 : Hid (PoolAt w3 p ab [⟨1, [], []⟩, ⟨1, [], []⟩] ∧ Only (fun _ => False) w w3) := And.intro hP (H2.out.2.step hO (by intro b hb; rcases hb with rfl | rfl <;> assumption))
  clear hP hO H2
  go_wp2_with fail
  refine (get_none H3.out.1 (fun j b hj hb => by
    match j, hj, hb with
    | 0, _, hb => cases hb; decide
    | 1, _, hb => cases hb; decide
    | n + 2, hj, _ => exact absurd hj (by show ¬ n + 2 < 2; omega))).mono ?_
  rintro e w4 ⟨rfl, rfl⟩
  go_wp2_with fail
  have hb3 : w3.heap.size ≠ ab := by have := H3.out.1.lt; omega
  refine (set_in (H3.out.1.alloc _) (k := 0) (b := ⟨1, [], []⟩) rfl rfl (d := [97, 98, 99]) (bytes_const _ [97, 98, 99] 5 _ rfl (by decide)) (sliceIn_lit hb3) (by simp)).mono ?_
  rintro e w5 ⟨rfl, hP, hO⟩
  have H5 : Hid (PoolAt w5 p ab [⟨1, [], [97, 98, 99]⟩, ⟨1, [], []⟩] ∧ Only (fun _ => False) w w5) := And.intro hP ((H3.out.2.alloc _).step hO (by intro b hb; subst hb; assumption))
  clear hP hO H3 hb3
  go_wp2_with fail
  refine (front_in (H5.out.1.alloc _) (k := 0) (b := ⟨1, [], [97, 98, 99]⟩) rfl rfl (d := [104]) (bytes_const _ [104] 5 _ rfl (by decide)) (by simp)).mono ?_
  rintro e w6 ⟨rfl, hP, hO⟩
  have H6 : Hid (PoolAt w6 p ab [⟨1, [104], [97, 98, 99]⟩, ⟨1, [], []⟩] ∧ Only (fun _ => False) w w6) := And.intro hP ((H5.out.2.alloc _).step hO (by intro b hb; subst hb; assumption))
  clear hP hO H5
  go_wp2_with fail
  refine (trim_in H6.out.1 (k := 0) (b := ⟨1, [104], [97, 98, 99]⟩) rfl rfl (f := 1) (g := 1) (by unfold MayTrim; decide)).mono ?_
  rintro e w7 ⟨rfl, hP, hO⟩
  have H7 : Hid (PoolAt w7 p ab [⟨1, [104], [98]⟩, ⟨1, [], []⟩] ∧ Only (fun _ => False) w w7) := And.intro hP (H6.out.2.step hO (by intro b hb; subst hb; assumption))
  clear hP hO H6
  go_wp2_with fail
  refine (see_in H7.out.1 (k := 0) (b := ⟨1, [104], [98]⟩) rfl (by decide)).mono ?_
  rintro e w8 ⟨bh, bd, rfl, hBh, hBd, hne, hs1, hs2, hO⟩
  have H8 : Hid (PoolAt w8 p ab [⟨1, [104], [98]⟩, ⟨1, [], []⟩] ∧ Only (fun _ => False) w w8 ∧ Blk w8 bh [bv 104] 5 ∧ Blk w8 bd [bv 98] 5) :=
    And.intro (H7.out.1.frame hO id id) (And.intro (H7.out.2.step hO (by intro b hb; exact hb.elim)) (And.intro hBh hBd))
  have HB0 : Hid (bh ≠ p ∧ bh ≠ ab ∧ bd ≠ p ∧ bd ≠ ab) := by have := H7.out.1.lt; exact ⟨by omega, by omega, by omega, by omega⟩
  clear hBh hBd hO H7
  go_wp2_with fail
  have hlt := H8.out.1.lt
  have hlh := H8.out.2.2.1.lt
  have hld := H8.out.2.2.2.lt
  have hpx : ¬ w8.heap.size = p ∧ ¬ w8.heap.size = ab := by omega
  have HB := HB0
  obtain ⟨bx, hbx⟩ : ∃ bx, bx = w8.heap.size := ⟨_, rfl⟩
  have HX := Lib.hid hbx
  refine (hold_in (H8.out.1.alloc _) (k := 0) (b := ⟨1, [104], [98]⟩) rfl (by decide) (by decide)).mono ?_
  rintro e w9 ⟨rfl, hP, hO⟩
  have H9 : Hid (PoolAt w9 p ab [⟨2, [104], [98]⟩, ⟨1, [], []⟩] ∧ Only (fun _ => False) w w9 ∧ Blk w9 bh [bv 104] 5 ∧ Blk w9 bd [bv 98] 5 ∧ Blk w9 bx [.int .i64 1, .slice (some ⟨bh, 0, none⟩) 1 1, .slice (some ⟨bd, 0, none⟩) 1 1] 36) :=
    And.intro hP (And.intro ((H8.out.2.1.alloc _).step hO (by intro b hb; subst hb; assumption)) (And.intro (hO.blk (H8.out.2.2.1.alloc _) HB.out.2.1) (And.intro (hO.blk (H8.out.2.2.2.alloc _) HB.out.2.2.2) (hO.blk (Blk.at_new hbx rfl) (hbx ▸ hpx.2)))))
  rw [← hbx] at hpx
  clear hP hO H8 hlt hlh hld
  rw [← hbx]
  clear hbx
  go_wp2_with fail
  refine (set_err H9.out.1 (x := 9) (.inr ⟨0, ⟨2, [104], [98]⟩, rfl, rfl, by decide, rfl⟩) none 0 0).mono ?_
  rintro e wa ⟨rfl, rfl⟩
  go_wp2_with fail
  refine (free_in H9.out.1 (k := 0) (b := ⟨2, [104], [98]⟩) rfl (by decide) (by decide)).mono ?_
  rintro e w10 ⟨rfl, hP, hO⟩
  have H10 : Hid (PoolAt w10 p ab [⟨1, [104], [98]⟩, ⟨1, [], []⟩] ∧ Only (fun _ => False) w w10 ∧ Blk w10 bh [bv 104] 5 ∧ Blk w10 bd [bv 98] 5 ∧ Blk w10 bx [.int .i64 1, .slice (some ⟨bh, 0, none⟩) 1 1, .slice (some ⟨bd, 0, none⟩) 1 1] 36) :=
    And.intro hP (And.intro (H9.out.2.1.step hO (by intro b hb; rcases hb with rfl | rfl <;> assumption)) (And.intro (hO.blk H9.out.2.2.1 (fun e => e.elim HB.out.1 HB.out.2.1)) (And.intro (hO.blk H9.out.2.2.2.1 (fun e => e.elim HB.out.2.2.1 HB.out.2.2.2)) (hO.blk H9.out.2.2.2.2 (fun e => e.elim hpx.1 hpx.2)))))
  clear hP hO H9
  go_wp2_with fail
  refine (free_in H10.out.1 (k := 0) (b := ⟨1, [104], [98]⟩) rfl (by decide) (by decide)).mono ?_
  rintro e w11 ⟨rfl, hP, hO⟩
  have H11 : Hid (PoolAt w11 p ab [⟨0, [104], [98]⟩, ⟨1, [], []⟩] ∧ Only (fun _ => False) w w11 ∧ Blk w11 bh [bv 104] 5 ∧ Blk w11 bd [bv 98] 5 ∧ Blk w11 bx [.int .i64 1, .slice (some ⟨bh, 0, none⟩) 1 1, .slice (some ⟨bd, 0, none⟩) 1 1] 36) :=
    And.intro hP (And.intro (H10.out.2.1.step hO (by intro b hb; rcases hb with rfl | rfl <;> assumption)) (And.intro (hO.blk H10.out.2.2.1 (fun e => e.elim HB.out.1 HB.out.2.1)) (And.intro (hO.blk H10.out.2.2.2.1 (fun e => e.elim HB.out.2.2.1 HB.out.2.2.2)) (hO.blk H10.out.2.2.2.2 (fun e => e.elim hpx.1 hpx.2)))))
  clear hP hO H10
  go_wp2_with fail
  refine (see_no H11.out.1 (id := 0) (by rintro ⟨k, b, hk, hb, hr⟩; obtain rfl : k = 0 := by omega
                                         cases hb; exact absurd hr (by decide))).mono ?_
  rintro e w12 ⟨rfl, hO⟩
  have H12 : Hid (PoolAt w12 p ab [⟨0, [104], [98]⟩, ⟨1, [], []⟩] ∧ Only (fun _ => False) w w12 ∧ Blk w12 bh [bv 104] 5 ∧ Blk w12 bd [bv 98] 5 ∧ Blk w12 bx [.int .i64 1, .slice (some ⟨bh, 0, none⟩) 1 1, .slice (some ⟨bd, 0, none⟩) 1 1] 36) :=
    And.intro (H11.out.1.frame hO id id) (And.intro (H11.out.2.1.step hO (fun b hb => hb.elim)) (And.intro (hO.blk H11.out.2.2.1 id) (And.intro (hO.blk H11.out.2.2.2.1 id) (hO.blk H11.out.2.2.2.2 id))))
  clear hO H11
  have hxl := H12.out.2.2.2.2.lt
  have hxl' : ¬ bx = w12.heap.size := by omega
  have x0 : w12.cell? ⟨bx, 0, none⟩ = some (.int .i64 1) := by rw [H12.out.2.2.2.2.cell]; rfl
  have x1 : w12.cell? ⟨bx, 1, none⟩ = some (.slice (some ⟨bh, 0, none⟩) 1 1) := by rw [H12.out.2.2.2.2.cell]; rfl
  have x2 : w12.cell? ⟨bx, 2, none⟩ = some (.slice (some ⟨bd, 0, none⟩) 1 1) := by rw [H12.out.2.2.2.2.cell]; rfl
  have v1 : ∀ o, (convert 29 9 (.slice (some ⟨bh, 0, none⟩) 1 1)).run Try.prog (w12.alloc o) = .ok (.string ⟨#[104]⟩) (w12.alloc o) := fun o => conv_bytes (Blk.bytes (l := [104]) (H12.out.2.2.1.alloc o) (by simp))
  have v2 : ∀ o, (convert 29 9 (.slice (some ⟨bd, 0, none⟩) 1 1)).run Try.prog (w12.alloc o) = .ok (.string ⟨#[98]⟩) (w12.alloc o) := fun o => conv_bytes (Blk.bytes (l := [98]) (H12.out.2.2.2.1.alloc o) (by simp))
  have hN : (nfree [⟨0, [104], [98]⟩, ⟨1, [], []⟩] : Int) = 1 := by rfl
  have hL := left_any (H12.out.1.alloc (.cells #[.int .i64 0, .slice none 0 0, .slice none 0 0] 36))
  rw [hN] at hL
  clear hN
  have hS := size_any (H12.out.1.alloc (.cells #[.int .i64 0, .slice none 0 0, .slice none 0 0] 36))
  go_wp2_with (first | (go_at_call 10; refine hL.mono ?_; rintro e w' ⟨rfl, rfl⟩) | (go_at_call 19; refine hS.mono ?_; rintro e w' ⟨rfl, rfl⟩))
  go_ret
  exact ⟨rfl, H12.out.2.1.alloc _⟩

end Go.Proofs.Ythofjobcjkeomaa
