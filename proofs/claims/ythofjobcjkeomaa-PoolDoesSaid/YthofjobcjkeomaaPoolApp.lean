/-
  Append, See, Get and New of a pool, for every input.
-/
import Derived.Test.YthofjobcjkeomaaPoolMem
namespace Go.Proofs.Ythofjobcjkeomaa
open Go.RowKit
set_option maxRecDepth 100000
set_option maxHeartbeats 400000

theorem append_long {w : World} {p ab : Nat} {L : List Bf} (h : PoolAt w p ab L) {k : Nat} {b : Bf} (hk : L[k]? = some b) (hr : b.refs = 1) (a : Option Addr) (n m : Nat) (hn : 288 < b.data.length + n) (hnn : n ≤ 140737488351232) :
    Calls Try.prog 21 #[.pointer (some ⟨p, 0, none⟩), .int .i64 (k : Int), .slice a n m] w fun e w' => e = .returned (.int .i64 2) ∧ w = w' := by
  have hO := own_in h hk hr
  obtain ⟨c, hc, hcl, hcb⟩ := h.2.2.2.2
  have hkl : k < L.length := (List.getElem?_eq_some_iff.1 hk).1
  obtain ⟨mem, fr, hraw, hrel⟩ := (hcb k b hk).raw (by omega)
  have g2 : w.cell? ⟨ab, k * 396 + 394, none⟩ = some (.int .i64 (b.data.length : Int)) := by rw [hc.cell]; exact hraw.s
  have hn' : (288 : Int) < (b.data.length : Int) + (n : Int) := by omega
  have hb : b.data.length ≤ 288 := by omega
  clear hr hk h hraw hrel hc hcb hcl
  go_enter Try.func21, Try.ntmps21
  go_wp2_with (go_at_call 25; refine hO.mono ?_; rintro e w' ⟨rfl, rfl⟩)
  go_ret
  exact ⟨rfl, rfl⟩

/-- What lies in a buffer, as a slice of bytes. -/
theorem Raw.bytes {w : World} {ab o : Nat} {c : List Value} {T : TypeId} {refs : Int} {mem : List UInt8} {hd sz : Int} {fr : Nat} {d : List UInt8} (hc : Blk w ab c T) (H : Raw c o refs mem hd sz fr)
    (hd' : d = (mem.drop (104 + fr)).take d.length) (h8 : fr + d.length ≤ 288) : BytesAt w (.slice (some ⟨ab, dOff o fr, none⟩) d.length (288 - fr)) d := by
  refine .inr ⟨ab, dOff o fr, 288 - fr, rfl, by omega, by omega, fun j hj => ?_⟩
  have hm := H.len
  have e1 : dOff o fr = o + 105 + fr := by unfold dOff; rw [if_neg (by omega)]
  have hj2 : 104 + fr + j < mem.length := by omega
  rw [hc.cell, e1, show o + 105 + fr + j = o + 1 + (104 + fr + j) by omega, H.m (104 + fr + j) hj2]
  have e2 : d[j]? = some (mem[104 + fr + j]'hj2) := by
    rw [hd', List.getElem?_take, if_pos hj, List.getElem?_drop, List.getElem?_eq_getElem hj2]
  rw [List.getElem?_eq_getElem hj] at e2
  simp only [Option.some.injEq] at e2
  rw [e2]

theorem splice_app (mem : List UInt8) (a o : Nat) (l d : List UInt8) (h : l = (mem.drop a).take l.length) (ho : o = a + l.length) (hf : o + d.length ≤ mem.length) :
    l ++ d = ((Go.splice mem o d).drop (a + 0)).take (l.length + d.length) := by
  subst ho
  apply List.ext_getElem?
  intro i
  rw [List.getElem?_take, List.getElem?_drop, splice_get hf, Nat.add_zero]
  by_cases h1 : i < l.length
  · rw [List.getElem?_append_left h1, if_pos (by omega), if_pos (by omega), h, List.getElem?_take, if_pos h1, List.getElem?_drop]
  · rw [List.getElem?_append_right (by omega)]
    by_cases h2 : i < l.length + d.length
    · rw [if_pos h2, if_neg (by omega), if_pos (by omega)]
      congr 1; omega
    · rw [if_neg h2, List.getElem?_eq_none (by omega)]

set_option maxHeartbeats 1000000 in
theorem append_a {w : World} {p ab : Nat} {L : List Bf} (h : PoolAt w p ab L) {k : Nat} {b : Bf} (hk : L[k]? = some b) (hr : b.refs = 1) {d : List UInt8} {v : Value} (hd : BytesAt w v d) (hx : sliceIn v (fun b => ¬ b = ab)) (hn : b.data.length + d.length ≤ 288)
    {c : List Value} {mem : List UInt8} {fr : Nat} (hc : Blk w ab c 56) (hraw : Raw c (k * 396) b.refs mem b.head.length b.data.length fr) (hrel : b.head = mem.take b.head.length ∧ b.data = (mem.drop (104 + fr)).take b.data.length ∧ b.head.length ≤ 104 ∧ fr + b.data.length ≤ 288) (hlt : ¬ b.data.length = 288) (hfr : fr = 0) :
    Calls Try.prog 21 #[.pointer (some ⟨p, 0, none⟩), .int .i64 (k : Int), v] w fun e w' => e = .returned (.int .i64 0) ∧ PoolAt w' p ab (L.set k { b with data := b.data ++ d }) ∧ Only (fun b => b = ab) w w' := by
  subst hfr
  have hO := own_in h hk hr
  obtain ⟨a, m, rfl⟩ := hd.form
  have hkl : k < L.length := (List.getElem?_eq_some_iff.1 hk).1
  have g2 : w.cell? ⟨ab, k * 396 + 394, none⟩ = some (.int .i64 (b.data.length : Int)) := by rw [hc.cell]; exact hraw.s
  have hn' : (b.data.length : Int) + (d.length : Int) ≤ 288 := by omega
  have e1 : IntKind.i64.wrap (104 + (b.data.length : Int)) = 104 + (b.data.length : Int) := IntWalk.i64_in _ (by omega)
  have e2 : (0 : Int) ≤ 104 + (b.data.length : Int) := by omega
  have e3 : (104 + (b.data.length : Int)).toNat = 104 + b.data.length := by omega
  have e4 : 104 + (b.data.length : Int) ≤ 392 := by omega
  have e5 : ¬ (392 : Nat) = 104 + b.data.length := by omega
  have hlt : b.data.length < 288 := by omega
  have g3 : w.cell? ⟨ab, k * 396 + 395, none⟩ = some (.int .i64 0) := by rw [hc.cell]; exact hraw.f
  have H := Lib.hid (And.intro h (And.intro hk (And.intro hc (And.intro hraw (And.intro hrel (And.intro hd hx))))))
  clear hraw hrel hc hk h hr hd hx
  go_enter Try.func21, Try.ntmps21
  go_wp2_with (go_at_call 25; refine hO.mono ?_; rintro e w' ⟨rfl, rfl⟩)
  refine wp_region_quiet_tail_lit 10 (by kernel_rfl) (by kernel_rfl) ?_
  simp only [List.take_succ_cons, List.take_zero, List.drop_succ_cons, List.drop_zero]
  repeat (quiet_step (fail))
  refine wpQuiet_nil ?_
  intro q
  refine wpList_copy_blk (by rfl) (.tmp 51) (.tmp 52) 29 29 (by rfl) 5 Try.underlying29 (by kernel_rfl) ab (k * 396 + 1 + (104 + b.data.length)) (392 - (104 + b.data.length)) (392 - (104 + b.data.length)) (by rfl) d ?c1 c 56 ?c2 ?c3 ?_
  case c1 =>
    obtain ⟨h, hk, hc, hraw, hrel, hd, hx⟩ := H.out
    exact hd
  case c2 =>
    obtain ⟨h, hk, hc, hraw, hrel, hd, hx⟩ := H.out
    exact hc
  case c3 =>
    obtain ⟨h, hk, hc, hraw, hrel, hd, hx⟩ := H.out
    have := hraw.fit
    have hcm := hx
    omega
  intro w1 hb1 ho1
  have hz := fun o => hb1.fz o
  obtain ⟨h, hk, hc, hraw, hrel, hd, hx⟩ := H.out
  rw [List.take_of_length_le (by omega)] at hb1
  have hm := hraw.len
  have R := hraw.write (p := k * 396 + 1 + (104 + b.data.length)) (off := 104 + b.data.length) (l := d) (by omega) (by omega)
  have g1 : w1.cell? ⟨ab, k * 396 + 394, none⟩ = some (.int .i64 (b.data.length : Int)) := by rw [hb1.cell]; exact R.s
  have H2 := Lib.hid (And.intro hb1 (And.intro R (And.intro ho1 (And.intro (Only.drewN (Only.refl (fun b => b = ab) w) q) ((SameOut.refl c (k * 396) (k * 396 + 396)).splice (i := k * 396 + 1 + (104 + b.data.length)) (l := d.map bv) (by omega) (by simp; omega) hraw.fit)))))
  clear h hk hc hraw hrel hd hx hm R hb1 ho1
  refine wpList_nil ?_
  go_wp2
  go_ret
  obtain ⟨h, hk, hc, hraw, hrel, hd, hx⟩ := H.out
  obtain ⟨hb1, R, ho1, hO1, hS1⟩ := H2.out
  obtain ⟨r1, r2, r3, r4⟩ := hrel
  have hm := hraw.len
  have hO2 := Only.st (Only.trans hO1 ho1) (S := fun b => b = ab) rfl (k * 396 + 394) (.int .i64 ((b.data.length : Int) + (d.length : Int)))
  refine ⟨rfl, h.turned hk hc hO2 (by simp) (hb1.set _ _) (hS1.set (by omega) (by omega) _) ?_, hO2⟩
  have R2 := R.setS ((b.data.length : Int) + (d.length : Int))
  refine R2.buf (b := { b with data := b.data ++ d }) (fr := 0) rfl rfl (by simp) ?_ ?_ r3 (by simp; omega)
  · simp only
    rw [splice_below mem _ d _ (by omega) (by omega)]; exact r1
  · simp only [List.length_append]
    exact splice_app mem 104 (104 + b.data.length) b.data d (by simpa using r2) rfl (by omega)

set_option maxHeartbeats 1000000 in
theorem append_b {w : World} {p ab : Nat} {L : List Bf} (h : PoolAt w p ab L) {k : Nat} {b : Bf} (hk : L[k]? = some b) (hr : b.refs = 1) {d : List UInt8} {v : Value} (hd : BytesAt w v d) (hx : sliceIn v (fun b => ¬ b = ab)) (hn : b.data.length + d.length ≤ 288)
    {c : List Value} {mem : List UInt8} {fr : Nat} (hc : Blk w ab c 56) (hraw : Raw c (k * 396) b.refs mem b.head.length b.data.length fr) (hrel : b.head = mem.take b.head.length ∧ b.data = (mem.drop (104 + fr)).take b.data.length ∧ b.head.length ≤ 104 ∧ fr + b.data.length ≤ 288) (hlt : b.data.length = 288) :
    Calls Try.prog 21 #[.pointer (some ⟨p, 0, none⟩), .int .i64 (k : Int), v] w fun e w' => e = .returned (.int .i64 0) ∧ PoolAt w' p ab (L.set k { b with data := b.data ++ d }) ∧ Only (fun b => b = ab) w w' := by
  have hd0 : d = [] := List.eq_nil_of_length_eq_zero (by omega)
  subst hd0
  have hfr : fr = 0 := by omega
  subst hfr
  have hO := own_in h hk hr
  obtain ⟨a, m, rfl⟩ := hd.form
  have hkl : k < L.length := (List.getElem?_eq_some_iff.1 hk).1
  have g2 : w.cell? ⟨ab, k * 396 + 394, none⟩ = some (.int .i64 (b.data.length : Int)) := by rw [hc.cell]; exact hraw.s
  have g3 : w.cell? ⟨ab, k * 396 + 395, none⟩ = some (.int .i64 0) := by rw [hc.cell]; exact hraw.f
  rw [hlt] at g2
  have hz := fun o => hc.fz o
  have e392 : IntKind.i64.wrap 392 = 392 := by decide
  have H := Lib.hid (And.intro h (And.intro hk (And.intro hc (And.intro hraw (And.intro hrel (And.intro hd (And.intro hx hlt)))))))
  clear hlt hn hraw hrel hc hk h hr hd hx
  go_enter Try.func21, Try.ntmps21
  go_wp2_with (go_at_call 25; refine hO.mono ?_; rintro e w' ⟨rfl, rfl⟩)
  refine wp_region_quiet_tail_lit 10 (by kernel_rfl) (by kernel_rfl) ?_
  simp only [List.take_succ_cons, List.take_zero, List.drop_succ_cons, List.drop_zero]
  repeat (quiet_step (fail))
  refine wpQuiet_nil ?_
  intro q
  refine wpList_copy_nothing (by rfl) (.tmp 51) (.tmp 52) 29 29 (by rfl) 5 Try.underlying29 (by kernel_rfl) _ _ _ _ _ _ (by rfl) (by rfl) (by simp) ?_
  refine wpList_nil ?_
  go_wp2
  go_ret
  obtain ⟨h, hk, hc, hraw, hrel, hd, hx, hlt⟩ := H.out
  obtain ⟨r1, r2, r3, r4⟩ := hrel
  have hO2 := Only.st (Only.drewN (Only.refl (fun b => b = ab) w) q) (S := fun b => b = ab) rfl (k * 396 + 394) (.int .i64 (288 : Int))
  have ef := hraw.fit
  refine ⟨rfl, h.turned hk hc hO2 (by simp) (hc.set _ _) ((SameOut.refl c _ _).set (by omega) (by omega) _) ?_, hO2⟩
  have R2 := hraw.setS (288 : Int)
  exact R2.buf (b := { b with data := b.data ++ [] }) (fr := 0) rfl rfl (by simp [hlt]) r1 (by simpa using r2) r3 (by simpa using r4)

set_option maxHeartbeats 1000000 in
theorem append_c {w : World} {p ab : Nat} {L : List Bf} (h : PoolAt w p ab L) {k : Nat} {b : Bf} (hk : L[k]? = some b) (hr : b.refs = 1) {d : List UInt8} {v : Value} (hd : BytesAt w v d) (hx : sliceIn v (fun b => ¬ b = ab)) (hn : b.data.length + d.length ≤ 288)
    {c : List Value} {mem : List UInt8} {fr : Nat} (hc : Blk w ab c 56) (hraw : Raw c (k * 396) b.refs mem b.head.length b.data.length fr) (hrel : b.head = mem.take b.head.length ∧ b.data = (mem.drop (104 + fr)).take b.data.length ∧ b.head.length ≤ 104 ∧ fr + b.data.length ≤ 288) (hlt : ¬ b.data.length = 288) (hfr : 0 < fr) :
    Calls Try.prog 21 #[.pointer (some ⟨p, 0, none⟩), .int .i64 (k : Int), v] w fun e w' => e = .returned (.int .i64 0) ∧ PoolAt w' p ab (L.set k { b with data := b.data ++ d }) ∧ Only (fun b => b = ab) w w' := by
  have hO := own_in h hk hr
  obtain ⟨a, m, rfl⟩ := hd.form
  have hkl : k < L.length := (List.getElem?_eq_some_iff.1 hk).1
  have g2 : w.cell? ⟨ab, k * 396 + 394, none⟩ = some (.int .i64 (b.data.length : Int)) := by rw [hc.cell]; exact hraw.s
  have hn' : (b.data.length : Int) + (d.length : Int) ≤ 288 := by omega
  have e1 : IntKind.i64.wrap (104 + (b.data.length : Int)) = 104 + (b.data.length : Int) := IntWalk.i64_in _ (by omega)
  have e2 : (0 : Int) ≤ 104 + (b.data.length : Int) := by omega
  have e3 : (104 + (b.data.length : Int)).toNat = 104 + b.data.length := by omega
  have e4 : 104 + (b.data.length : Int) ≤ 392 := by omega
  have e5 : ¬ (392 : Nat) = 104 + b.data.length := by omega
  have hlt : b.data.length < 288 := by omega
  have g3 : w.cell? ⟨ab, k * 396 + 395, none⟩ = some (.int .i64 (fr : Int)) := by rw [hc.cell]; exact hraw.f
  have hfr' : (0 : Int) < (fr : Int) := by omega
  have hrr : fr + b.data.length ≤ 288 := hrel.2.2.2
  have H := Lib.hid (And.intro h (And.intro hk (And.intro hc (And.intro hraw (And.intro hrel (And.intro hd hx))))))
  clear hraw hrel hc hk h hr hd hx
  go_enter Try.func21, Try.ntmps21
  go_wp2_with (go_at_call 25; refine hO.mono ?_; rintro e w' ⟨rfl, rfl⟩)
  refine wp_region_quiet_tail_lit 6 (by kernel_rfl) (by kernel_rfl) ?_
  simp only [List.take_succ_cons, List.take_zero, List.drop_succ_cons, List.drop_zero]
  repeat (quiet_step ((go_at_call 24; exact Calls.quiet_of (data_any (fr := fr) (n := b.data.length) g2 g3 hrr))))
  refine wpQuiet_nil ?_
  intro q0
  refine wpList_copy_blk (by rfl) (.tmp 36) (.tmp 38) 29 29 (by rfl) 5 Try.underlying29 (by kernel_rfl) ab (k * 396 + 1 + 104) 288 288 (by rfl) b.data ?d1 c 56 ?d2 ?d3 ?_
  case d1 =>
    obtain ⟨h, hk, hc, hraw, hrel, hd, hx⟩ := H.out
    exact Raw.bytes (w := w.drewN q0) hc hraw hrel.2.1 hrel.2.2.2
  case d2 =>
    obtain ⟨h, hk, hc, hraw, hrel, hd, hx⟩ := H.out
    exact hc
  case d3 =>
    obtain ⟨h, hk, hc, hraw, hrel, hd, hx⟩ := H.out
    have := hraw.fit
    omega
  intro w1 hb1 ho1
  obtain ⟨h, hk, hc, hraw, hrel, hd, hx⟩ := H.out
  rw [List.take_of_length_le (by omega)] at hb1
  have hz1 := fun o => hb1.fz o
  have R1 := hraw.write (p := k * 396 + 1 + 104) (off := 104) (l := b.data) (by omega) (by have := hraw.len; omega)
  have g4 : w1.cell? ⟨ab, k * 396 + 394, none⟩ = some (.int .i64 (b.data.length : Int)) := by rw [hb1.cell]; exact R1.s
  have g5 : w1.cell? ⟨ab, k * 396 + 395, none⟩ = some (.int .i64 (fr : Int)) := by rw [hb1.cell]; exact R1.f
  have H1 := Lib.hid (And.intro hb1 (And.intro R1 (Only.trans (Only.drewN (Only.refl (fun b => b = ab) w) q0) ho1)))
  clear h hk hc hraw hrel hd hx hb1 R1 ho1 g2 g3
  refine wpList_nil ?_
  go_wp2
  refine wp_region_quiet_tail_lit 10 (by kernel_rfl) (by kernel_rfl) ?_
  simp only [List.take_succ_cons, List.take_zero, List.drop_succ_cons, List.drop_zero]
  repeat (quiet_step (fail))
  refine wpQuiet_nil ?_
  intro q
  refine wpList_copy_blk (by rfl) (.tmp 51) (.tmp 52) 29 29 (by rfl) 5 Try.underlying29 (by kernel_rfl) ab (k * 396 + 1 + (104 + b.data.length)) (392 - (104 + b.data.length)) (392 - (104 + b.data.length)) (by rfl) d ?c1 ((Go.splice c (k * 396 + 1 + 104) (b.data.map bv)).set (k * 396 + 395) (.int .i64 0)) 56 ?c2 ?c3 ?_
  case c1 =>
    obtain ⟨h, hk, hc, hraw, hrel, hd, hx⟩ := H.out
    exact hd.only (Only.drewN (Only.st H1.out.2.2 rfl _ _) q) hx
  case c2 =>
    obtain ⟨h, hk, hc, hraw, hrel, hd, hx⟩ := H.out
    exact H1.out.1.set _ _
  case c3 =>
    obtain ⟨h, hk, hc, hraw, hrel, hd, hx⟩ := H.out
    have := hraw.fit
    have hcm := (H1.out.2.1.setF 0).fit
    omega
  intro w1 hb1 ho1
  have hz := fun o => hb1.fz o
  obtain ⟨h, hk, hc, hraw, hrel, hd, hx⟩ := H.out
  rw [List.take_of_length_le (by omega)] at hb1
  have hm := hraw.len
  have R0 := H1.out.2.1.setF 0
  have hm0 := R0.len
  have R := R0.write (p := k * 396 + 1 + (104 + b.data.length)) (off := 104 + b.data.length) (l := d) (by omega) (by omega)
  have g1 : w1.cell? ⟨ab, k * 396 + 394, none⟩ = some (.int .i64 (b.data.length : Int)) := by rw [hb1.cell]; exact R.s
  have H2 := Lib.hid (And.intro hb1 (And.intro R (And.intro ho1 (And.intro (Only.drewN (Only.st H1.out.2.2 rfl (k * 396 + 395) (.int .i64 0)) q) ((((SameOut.refl c (k * 396) (k * 396 + 396)).splice (i := k * 396 + 1 + 104) (l := b.data.map bv) (by omega) (by simp; omega) hraw.fit).set (i := k * 396 + 395) (by omega) (by omega) (.int .i64 0)).splice (i := k * 396 + 1 + (104 + b.data.length)) (l := d.map bv) (by omega) (by simp; omega) hraw.fit)))))
  clear h hk hc hraw hrel hd hx hm R hb1 ho1 R0 hm0 hz1 g4 g5
  refine wpList_nil ?_
  go_wp2
  go_ret
  obtain ⟨h, hk, hc, hraw, hrel, hd, hx⟩ := H.out
  obtain ⟨hb1, R, ho1, hO1, hS1⟩ := H2.out
  obtain ⟨r1, r2, r3, r4⟩ := hrel
  have hm := hraw.len
  have hO2 := Only.st (Only.trans hO1 ho1) (S := fun b => b = ab) rfl (k * 396 + 394) (.int .i64 ((b.data.length : Int) + (d.length : Int)))
  refine ⟨rfl, h.turned hk hc hO2 (by simp) (hb1.set _ _) (hS1.set (by omega) (by omega) _) ?_, hO2⟩
  have R2 := R.setS ((b.data.length : Int) + (d.length : Int))
  refine R2.buf (b := { b with data := b.data ++ d }) (fr := 0) rfl rfl (by simp) ?_ ?_ r3 (by simp; omega)
  · simp only
    rw [splice_below _ _ d _ (by omega) (by rw [length_splice _ _ _ (by omega)]; omega), splice_below mem _ _ _ (by omega) (by omega)]; exact r1
  · simp only [List.length_append]
    exact splice_app _ 104 (104 + b.data.length) b.data d (splice_cut mem 104 b.data (by omega)).symm rfl (by rw [length_splice _ _ _ (by omega)]; omega)

theorem append_in {w : World} {p ab : Nat} {L : List Bf} (h : PoolAt w p ab L) {k : Nat} {b : Bf} (hk : L[k]? = some b) (hr : b.refs = 1) {d : List UInt8} {v : Value} (hd : BytesAt w v d) (hx : sliceIn v (fun b => ¬ b = ab)) (hn : b.data.length + d.length ≤ 288) :
    Calls Try.prog 21 #[.pointer (some ⟨p, 0, none⟩), .int .i64 (k : Int), v] w fun e w' => e = .returned (.int .i64 0) ∧ PoolAt w' p ab (L.set k { b with data := b.data ++ d }) ∧ Only (fun b => b = ab) w w' := by
  obtain ⟨c, hc, hcl, hcb⟩ := h.2.2.2.2
  have hkl : k < L.length := (List.getElem?_eq_some_iff.1 hk).1
  obtain ⟨mem, fr, hraw, hrel⟩ := (hcb k b hk).raw (by omega)
  by_cases h1 : b.data.length = 288
  · exact append_b h hk hr hd hx hn hc hraw hrel h1
  · by_cases h2 : fr = 0
    · exact append_a h hk hr hd hx hn hc hraw hrel h1 h2
    · exact append_c h hk hr hd hx hn hc hraw hrel h1 (by omega)

end Go.Proofs.Ythofjobcjkeomaa
