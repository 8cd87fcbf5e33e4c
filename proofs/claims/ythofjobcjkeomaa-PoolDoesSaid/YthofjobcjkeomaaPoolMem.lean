/-
  What the pool's calls that move bytes do, for every input.
-/
import Derived.Test.YthofjobcjkeomaaPoolOps
import Derived.Test.YthofjobcjkeomaaRegion
namespace Go.Proofs.Ythofjobcjkeomaa
open Go.RowKit
set_option maxRecDepth 100000
set_option maxHeartbeats 400000

/-- Where a buffer's data begins (a slice expression at a slice's very end leaves the address). -/
def dOff (o fr : Nat) : Nat := if fr = 288 then o + 1 else o + 105 + fr

theorem ret_slice {b o o' n c c' : Nat} (h : o = o') (hc : c = c') : Ending.returned (.slice (some ⟨b, o, none⟩) n c) = .returned (.slice (some ⟨b, o', none⟩) n c') := by subst h hc; rfl

theorem data_any {w : World} {ab o fr n : Nat} (hs : w.cell? ⟨ab, o + 394, none⟩ = some (.int .i64 (n : Int))) (hf : w.cell? ⟨ab, o + 395, none⟩ = some (.int .i64 (fr : Int))) (h8 : fr + n ≤ 288) :
    Calls Try.prog 24 #[.pointer (some ⟨ab, o, none⟩)] w fun e w' => e = .returned (.slice (some ⟨ab, dOff o fr, none⟩) n (288 - fr)) ∧ ∃ q, w' = w.drewN q := by
  have e1 : IntKind.i64.wrap (104 + (fr : Int)) = 104 + (fr : Int) := IntWalk.i64_in _ (by omega)
  have e2 : (0 : Int) ≤ 104 + (fr : Int) := by omega
  have e3 : (104 + (fr : Int)).toNat = 104 + fr := by omega
  have e4 : 104 + (fr : Int) ≤ 392 := by omega
  have e5 : n ≤ 392 - (104 + fr) := by omega
  by_cases h288 : fr = 288
  · have hn : n = 0 := by omega
    subst hn h288
    go_enter Try.func24, Try.ntmps24
    go_wp2
    go_quiet (fail)
    go_wp2
    go_ret
    refine ⟨?_, _, rfl⟩
    simp [dOff]
  · have hd : dOff o fr = o + 105 + fr := by simp [dOff, h288]
    rw [hd]
    have e6 : ¬ (392 : Nat) = 104 + fr := by omega
    have e7 : ¬ (288 - fr) = 0 := by omega
    go_enter Try.func24, Try.ntmps24
    go_wp2
    go_quiet (fail)
    go_wp2
    go_ret
    refine ⟨?_, _, rfl⟩
    exact ret_slice (by omega) (by omega)

theorem splice_get {α : Type} {L : List α} {off : Nat} {cs : List α} (h : off + cs.length ≤ L.length) (i : Nat) :
    (splice L off cs)[i]? = if i < off then L[i]? else if i < off + cs.length then cs[i - off]? else L[i]? := by
  unfold splice
  have hlo : (L.take off).length = off := by rw [List.length_take]; omega
  by_cases h1 : i < off
  · rw [if_pos h1, List.getElem?_append_left (by omega), List.getElem?_take, if_pos h1]
  · rw [if_neg h1, List.getElem?_append_right (by omega), hlo]
    by_cases h2 : i < off + cs.length
    · rw [if_pos h2, List.getElem?_append_left (by omega)]
    · rw [if_neg h2, List.getElem?_append_right (by omega), List.getElem?_drop]
      congr 1; omega

/-- A buffer's cells as numbers. -/
structure Raw (c : List Value) (o : Nat) (refs : Int) (mem : List UInt8) (hd sz fr : Int) : Prop where
  len : mem.length = 392
  fit : o + 396 ≤ c.length
  r : c[o]? = some (.int .i64 refs)
  m : ∀ j (hj : j < mem.length), c[o + 1 + j]? = some (bv mem[j])
  h : c[o + 393]? = some (.int .i64 hd)
  s : c[o + 394]? = some (.int .i64 sz)
  f : c[o + 395]? = some (.int .i64 fr)

section
variable {c : List Value} {o : Nat} {refs : Int} {mem : List UInt8} {hd sz fr : Int}
theorem Raw.setR (H : Raw c o refs mem hd sz fr) (x : Int) : Raw (c.set o (.int .i64 x)) o x mem hd sz fr := by
  obtain ⟨l, ft, r, m, h, s, f⟩ := H
  refine ⟨l, by simpa using ft, List.getElem?_set_self (by omega), fun j hj => ?_, ?_, ?_, ?_⟩
  · rw [set_ne_at (by omega)]; exact m j hj
  · rw [set_ne_at (by omega)]; exact h
  · rw [set_ne_at (by omega)]; exact s
  · rw [set_ne_at (by omega)]; exact f
theorem Raw.setH (H : Raw c o refs mem hd sz fr) (x : Int) : Raw (c.set (o + 393) (.int .i64 x)) o refs mem x sz fr := by
  obtain ⟨l, ft, r, m, h, s, f⟩ := H
  refine ⟨l, by simpa using ft, ?_, fun j hj => ?_, List.getElem?_set_self (by omega), ?_, ?_⟩
  · rw [set_ne_at (by omega)]; exact r
  · rw [set_ne_at (by omega)]; exact m j hj
  · rw [set_ne_at (by omega)]; exact s
  · rw [set_ne_at (by omega)]; exact f
theorem Raw.setS (H : Raw c o refs mem hd sz fr) (x : Int) : Raw (c.set (o + 394) (.int .i64 x)) o refs mem hd x fr := by
  obtain ⟨l, ft, r, m, h, s, f⟩ := H
  refine ⟨l, by simpa using ft, ?_, fun j hj => ?_, ?_, List.getElem?_set_self (by omega), ?_⟩
  · rw [set_ne_at (by omega)]; exact r
  · rw [set_ne_at (by omega)]; exact m j hj
  · rw [set_ne_at (by omega)]; exact h
  · rw [set_ne_at (by omega)]; exact f
theorem Raw.setF (H : Raw c o refs mem hd sz fr) (x : Int) : Raw (c.set (o + 395) (.int .i64 x)) o refs mem hd sz x := by
  obtain ⟨l, ft, r, m, h, s, f⟩ := H
  refine ⟨l, by simpa using ft, ?_, fun j hj => ?_, ?_, ?_, List.getElem?_set_self (by omega)⟩
  · rw [set_ne_at (by omega)]; exact r
  · rw [set_ne_at (by omega)]; exact m j hj
  · rw [set_ne_at (by omega)]; exact h
  · rw [set_ne_at (by omega)]; exact s
theorem Raw.write (H : Raw c o refs mem hd sz fr) {off p : Nat} {l : List UInt8} (hp : p = o + 1 + off) (hl : off + l.length ≤ 392) : Raw (splice c p (l.map bv)) o refs (splice mem off l) hd sz fr := by
  subst hp
  obtain ⟨ln, ft, r, m, h, s, f⟩ := H
  have hfit : o + 1 + off + (l.map bv).length ≤ c.length := by simp; omega
  have hm : off + l.length ≤ mem.length := by omega
  refine ⟨by rw [length_splice _ _ _ hm]; exact ln, by rw [length_splice _ _ _ hfit]; exact ft, ?_, fun j hj => ?_, ?_, ?_, ?_⟩
  · rw [splice_get hfit, if_pos (by omega)]; exact r
  · rw [length_splice _ _ _ hm] at hj
    have e : (splice mem off l)[j]? = some ((splice mem off l)[j]'(by rw [length_splice _ _ _ hm]; exact hj)) := List.getElem?_eq_getElem _
    rw [splice_get hm] at e
    rw [splice_get hfit]
    simp only [List.length_map]
    by_cases h1 : j < off
    · rw [if_pos h1, List.getElem?_eq_getElem hj] at e
      rw [if_pos (by omega), m j hj]
      simp only [Option.some.injEq] at e
      rw [e]
    · by_cases h2 : j < off + l.length
      · rw [if_neg h1, if_pos h2] at e
        rw [if_neg (by omega), if_pos (by omega), List.getElem?_map, show o + 1 + j - (o + 1 + off) = j - off by omega, e]; rfl
      · rw [if_neg h1, if_neg h2, List.getElem?_eq_getElem hj] at e
        rw [if_neg (by omega), if_neg (by omega), m j hj]
        simp only [Option.some.injEq] at e
        rw [e]
  · rw [splice_get hfit, if_neg (by omega), if_neg (by simp; omega)]; exact h
  · rw [splice_get hfit, if_neg (by omega), if_neg (by simp; omega)]; exact s
  · rw [splice_get hfit, if_neg (by omega), if_neg (by simp; omega)]; exact f
end

theorem BufAt.raw {c : List Value} {o : Nat} {b : Bf} (h : BufAt c o b) (hl : o + 396 ≤ c.length) : ∃ (mem : List UInt8) (fr : Nat), Raw c o b.refs mem b.head.length b.data.length fr ∧
    b.head = mem.take b.head.length ∧ b.data = (mem.drop (104 + fr)).take b.data.length ∧ b.head.length ≤ 104 ∧ fr + b.data.length ≤ 288 := by
  obtain ⟨mem, fr, hm, h0, h1, h2, h3, h4, h5⟩ := h
  exact ⟨mem, fr, ⟨hm, hl, h0, h1, h2, h3, h4⟩, h5⟩

theorem Raw.buf {c : List Value} {o : Nat} {b : Bf} {refs : Int} {mem : List UInt8} {hd sz : Int} {fr : Nat} (H : Raw c o refs mem hd sz fr) (e0 : refs = b.refs) (e1 : hd = b.head.length) (e2 : sz = b.data.length)
    (h1 : b.head = mem.take b.head.length) (h2 : b.data = (mem.drop (104 + fr)).take b.data.length) (h3 : b.head.length ≤ 104) (h4 : fr + b.data.length ≤ 288) : BufAt c o b := by
  subst e0 e1 e2
  exact ⟨mem, fr, H.len, H.r, H.m, H.h, H.s, H.f, h1, h2, h3, h4⟩

/-- Outside of a stretch nothing is turned. -/
def SameOut (c c' : List Value) (lo hi : Nat) : Prop := c'.length = c.length ∧ ∀ o, (o < lo ∨ hi ≤ o) → c'[o]? = c[o]?
theorem SameOut.refl (c : List Value) (lo hi : Nat) : SameOut c c lo hi := ⟨rfl, fun _ _ => rfl⟩
theorem SameOut.set {c c' : List Value} {lo hi : Nat} (h : SameOut c c' lo hi) {i : Nat} (h1 : lo ≤ i) (h2 : i < hi) (v : Value) : SameOut c (c'.set i v) lo hi :=
  ⟨by simpa using h.1, fun o ho => by rw [set_ne_at (by omega)]; exact h.2 o ho⟩
theorem SameOut.splice {c c' : List Value} {lo hi : Nat} (h : SameOut c c' lo hi) {i : Nat} {l : List Value} (h1 : lo ≤ i) (h2 : i + l.length ≤ hi) (h3 : hi ≤ c.length) : SameOut c (splice c' i l) lo hi := by
  have hf : i + l.length ≤ c'.length := by have := h.1; omega
  refine ⟨by rw [length_splice _ _ _ hf]; exact h.1, fun o ho => ?_⟩
  rw [splice_get hf]
  by_cases a : o < i
  · rw [if_pos a]; exact h.2 o ho
  · rw [if_neg a, if_neg (by omega)]; exact h.2 o ho

theorem splice_cut {α : Type} (L : List α) (off : Nat) (l : List α) (h : off + l.length ≤ L.length) : ((Go.splice L off l).drop off).take l.length = l := by
  unfold Go.splice
  have hlo : (L.take off).length = off := by rw [List.length_take]; omega
  rw [List.drop_append_of_le_length (by omega), List.drop_eq_nil_of_le (by omega), List.nil_append, List.take_left']
  rfl
theorem splice_below {α : Type} (L : List α) (off : Nat) (l : List α) (n : Nat) (hn : n ≤ off) (h : off + l.length ≤ L.length) : (Go.splice L off l).take n = L.take n := by
  unfold Go.splice
  have hlo : (L.take off).length = off := by rw [List.length_take]; omega
  rw [List.take_append_of_le_length (by omega), List.take_take, Nat.min_eq_left hn]

/-- A pool's buffer k, turned. -/
theorem PoolAt.turned {w w' : World} {p ab : Nat} {L : List Bf} (h : PoolAt w p ab L) {k : Nat} {b b1 : Bf} {c c' : List Value} (hk : L[k]? = some b)
    (hc : Blk w ab c 56) (ho : Only (fun x => x = ab) w w') (hz : b.refs = 0 ↔ b1.refs = 0)
    (hc' : Blk w' ab c' 56) (hs : SameOut c c' (k * 396) (k * 396 + 396)) (hin : BufAt c' (k * 396) b1) : PoolAt w' p ab (L.set k b1) := by
  refine h.turn hc ?_ hc' hs.1 hs.2 hin
  have e := nfree_set (b1 := b1) hk
  have e' : nfree (L.set k b1) = nfree L := by
    by_cases hb : b.refs = 0
    · rw [if_pos hb, if_pos (hz.1 hb)] at e; omega
    · rw [if_neg hb, if_neg (fun h => hb (hz.2 h))] at e; omega
  rw [e']
  exact ho.blk h.1 h.2.1

theorem set_long {w : World} {p ab : Nat} {L : List Bf} (h : PoolAt w p ab L) {k : Nat} {b : Bf} (hk : L[k]? = some b) (hr : b.refs = 1) (a : Option Addr) (n m : Nat) (hn : 288 < n) :
    Calls Try.prog 12 #[.pointer (some ⟨p, 0, none⟩), .int .i64 (k : Int), .slice a n m] w fun e w' => e = .returned (.int .i64 2) ∧ w = w' := by
  have hO := own_in h hk hr
  have hn' : (288 : Int) < (n : Int) := by omega
  clear hr hk h
  go_enter Try.func12, Try.ntmps12
  go_wp2_with (go_at_call 25; refine hO.mono ?_; rintro e w' ⟨rfl, rfl⟩)
  go_ret
  exact ⟨rfl, rfl⟩

theorem set_in {w : World} {p ab : Nat} {L : List Bf} (h : PoolAt w p ab L) {k : Nat} {b : Bf} (hk : L[k]? = some b) (hr : b.refs = 1) {d : List UInt8} {v : Value} (hd : BytesAt w v d) (hx : sliceIn v (fun b => ¬ b = ab)) (hn : d.length ≤ 288) :
    Calls Try.prog 12 #[.pointer (some ⟨p, 0, none⟩), .int .i64 (k : Int), v] w fun e w' => e = .returned (.int .i64 0) ∧ PoolAt w' p ab (L.set k ⟨1, [], d⟩) ∧ Only (fun b => b = ab) w w' := by
  have hO := own_in h hk hr
  obtain ⟨a, m, rfl⟩ := hd.form
  obtain ⟨c, hc, hcl, hcb⟩ := h.2.2.2.2
  have hkl : k < L.length := (List.getElem?_eq_some_iff.1 hk).1
  obtain ⟨mem, fr, hraw, -⟩ := (hcb k b hk).raw (by omega)
  have g1 : w.cell? ⟨ab, k * 396 + 393, none⟩ = some (.int .i64 (b.head.length : Int)) := by rw [hc.cell]; exact hraw.h
  have g2 : w.cell? ⟨ab, k * 396 + 394, none⟩ = some (.int .i64 (b.data.length : Int)) := by rw [hc.cell]; exact hraw.s
  have g3 : w.cell? ⟨ab, k * 396 + 395, none⟩ = some (.int .i64 (fr : Int)) := by rw [hc.cell]; exact hraw.f
  have hz := fun o => hc.fz o
  have hne' : ¬ ab = p := fun e => h.2.1 e.symm
  have hn' : (d.length : Int) ≤ 288 := by omega
  have H := Lib.hid (And.intro h (And.intro hk (And.intro hc (And.intro hcl (And.intro hraw (And.intro hd (And.intro hx hr)))))))
  clear hraw hcb hcl hc hk h hr hd hx
  go_enter Try.func12, Try.ntmps12
  go_wp2_with (first | (go_at_call 25; refine hO.mono ?_; rintro e w' ⟨rfl, rfl⟩) | (go_at_call 24; refine (data_any (fr := 0) (n := d.length) (by go_simp) (by go_simp) (by omega)).mono ?_; rintro e w' ⟨rfl, q, rfl⟩) | (refine wpList_copy_blk (o := ⟨some 37, _, _, _, _, _⟩) (by rfl) (.tmp 35) (.tmp 36) 29 29 (by rfl) 5 Try.underlying29 (by kernel_rfl) ab (dOff (k * 396) 0) d.length 288 (by rfl) d ?c1 (((c.set (k * 396 + 393) (.int .i64 0)).set (k * 396 + 395) (.int .i64 0)).set (k * 396 + 394) (.int .i64 d.length)) 56 ?c2 ?c3 ?_; rotate_left 3; intro w1 hb1 ho1))
  · go_ret
    obtain ⟨h, hk, hc, hcl, hraw, hd, hx, hr⟩ := H.out
    have e1 : dOff (k * 396) 0 = k * 396 + 105 := by unfold dOff; rw [if_neg (by decide)]
    rw [e1, List.take_length] at hb1
    have hl : 104 + d.length ≤ mem.length := by have := hraw.len; omega
    refine ⟨rfl, h.turned hk hc (Only.trans (Only.drewN (Only.st (Only.st (Only.st (Only.refl (fun b => b = ab) w) rfl _ _) rfl _ _) rfl _ _) q) ho1) (by simp; omega) hb1 ?_ ?_,
      Only.trans (Only.drewN (Only.st (Only.st (Only.st (Only.refl (fun b => b = ab) w) rfl _ _) rfl _ _) rfl _ _) q) ho1⟩
    · exact ((((SameOut.refl c _ _).set (by omega) (by omega) _).set (by omega) (by omega) _).set (by omega) (by omega) _).splice (by omega) (by simp; omega) (by omega)
    · have R := (((hraw.setH 0).setF 0).setS (d.length : Int)).write (p := k * 396 + 105) (off := 104) (l := d) (by omega) (by omega)
      exact R.buf (b := ⟨1, [], d⟩) (fr := 0) (by rw [hr]) rfl rfl rfl (splice_cut mem 104 d hl).symm (by simp) (by simpa using hn)
  case c1 =>
    obtain ⟨h, hk, hc, hcl, hraw, hd, hx, hr⟩ := H.out
    exact hd.only (Only.drewN (Only.st (Only.st (Only.st (Only.refl (fun b => b = ab) w) rfl _ _) rfl _ _) rfl _ _) q) hx
  case c2 =>
    obtain ⟨h, hk, hc, hcl, hraw, hd, hx, hr⟩ := H.out
    exact ((hc.set _ _).set _ _).set _ _
  case c3 =>
    obtain ⟨h, hk, hc, hcl, hraw, hd, hx, hr⟩ := H.out
    unfold dOff; rw [if_neg (by decide)]; simp; omega

theorem front_long {w : World} {p ab : Nat} {L : List Bf} (h : PoolAt w p ab L) {k : Nat} {b : Bf} (hk : L[k]? = some b) (hr : b.refs = 1) (a : Option Addr) (n m : Nat) (hn : 104 < n) :
    Calls Try.prog 20 #[.pointer (some ⟨p, 0, none⟩), .int .i64 (k : Int), .slice a n m] w fun e w' => e = .returned (.int .i64 2) ∧ w = w' := by
  have hO := own_in h hk hr
  have hn' : (104 : Int) < (n : Int) := by omega
  clear hr hk h
  go_enter Try.func20, Try.ntmps20
  go_wp2_with (go_at_call 25; refine hO.mono ?_; rintro e w' ⟨rfl, rfl⟩)
  go_ret
  exact ⟨rfl, rfl⟩

theorem front_in {w : World} {p ab : Nat} {L : List Bf} (h : PoolAt w p ab L) {k : Nat} {b : Bf} (hk : L[k]? = some b) (hr : b.refs = 1) {d : List UInt8} {v : Value} (hd : BytesAt w v d) (hn : d.length ≤ 104) :
    Calls Try.prog 20 #[.pointer (some ⟨p, 0, none⟩), .int .i64 (k : Int), v] w fun e w' => e = .returned (.int .i64 0) ∧ PoolAt w' p ab (L.set k { b with head := d }) ∧ Only (fun b => b = ab) w w' := by
  have hO := own_in h hk hr
  obtain ⟨a, m, rfl⟩ := hd.form
  obtain ⟨c, hc, hcl, hcb⟩ := h.2.2.2.2
  have hkl : k < L.length := (List.getElem?_eq_some_iff.1 hk).1
  obtain ⟨mem, fr, hraw, hrel⟩ := (hcb k b hk).raw (by omega)
  have hn' : (d.length : Int) ≤ 104 := by omega
  have hmin : (min d.length 392 : Nat) = d.length := by omega
  have H := Lib.hid (And.intro h (And.intro hk (And.intro hc (And.intro hcl (And.intro hraw (And.intro hrel (And.intro hd hmin)))))))
  clear hraw hrel hcb hcl hc hk h hr hd hmin
  go_enter Try.func20, Try.ntmps20
  go_wp2_with (first | (go_at_call 25; refine hO.mono ?_; rintro e w' ⟨rfl, rfl⟩) | (refine wpList_copy_blk (o := ⟨some 29, _, _, _, _, _⟩) (by rfl) (.tmp 27) (.tmp 28) 29 29 (by rfl) 5 Try.underlying29 (by kernel_rfl) ab (k * 396 + 1) 392 392 (by rfl) d ?c1 c 56 ?c2 ?c3 ?_; rotate_left 3; intro w1 hb1 ho1; obtain ⟨h, hk, hc, hcl, hraw, hrel, hd, hmin⟩ := H.out; rw [hmin]; have hz := fun o => hb1.fz o; have g1 : w1.cell? ⟨ab, k * 396 + 393, none⟩ = some (.int .i64 (b.head.length : Int)) := (by rw [hb1.cell, List.take_of_length_le (by omega)]; exact (hraw.write (p := k * 396 + 1) (off := 0) (l := d) (by omega) (by omega)).h); have H1 := Lib.hid hb1; clear h hk hc hcl hraw hrel hd hmin hb1))
  · go_ret
    have hb1 := H1.out
    obtain ⟨h, hk, hc, hcl, hraw, hrel, hd, hmin⟩ := H.out
    rw [List.take_of_length_le (by omega)] at hb1
    have R := (hraw.write (p := k * 396 + 1) (off := 0) (l := d) (by omega) (by omega)).setH (d.length : Int)
    obtain ⟨q1, q2, q3, q4⟩ := hrel
    have hm := hraw.len
    refine ⟨rfl, h.turned hk hc (Only.st ho1 rfl _ _) (by simp) (hb1.set _ _) (((SameOut.refl c _ _).splice (by omega) (by simp; omega) (by omega)).set (by omega) (by omega) _) ?_, Only.st ho1 rfl _ _⟩
    refine R.buf (b := { b with head := d }) rfl rfl rfl ?_ ?_ hn q4
    · have := splice_cut mem 0 d (by omega)
      simpa using this.symm
    · simp only
      rw [q2]
      simp only [List.length_take, List.length_drop]
      rw [Nat.min_eq_left (by omega)]
      apply List.ext_getElem?
      intro i
      simp only [List.getElem?_take, List.getElem?_drop]
      split
      · rw [splice_get (by omega), if_neg (by omega), if_neg (by omega)]
      · rfl
  case c1 =>
    obtain ⟨h, hk, hc, hcl, hraw, hrel, hd, hmin⟩ := H.out
    exact hd
  case c2 =>
    obtain ⟨h, hk, hc, hcl, hraw, hrel, hd, hmin⟩ := H.out
    exact hc
  case c3 =>
    obtain ⟨h, hk, hc, hcl, hraw, hrel, hd, hmin⟩ := H.out
    omega

end Go.Proofs.Ythofjobcjkeomaa
