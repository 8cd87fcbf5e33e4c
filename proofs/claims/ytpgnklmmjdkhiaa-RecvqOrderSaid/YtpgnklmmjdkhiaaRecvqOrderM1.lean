/-
  What the proof of RecvqOrder stands on, part 1: each theorem by itself, under the conditions that it names.
-/
import Derived.Test.YtpgnklmmjdkhiaaRecvqOrderM0
import Derived.Deep.DeepCutAuto
import Derived.RangeFuncLeaves
import Derived.RangeFuncRecord
import Derived.RangeFuncCalls
import Derived.OrdersIn
import Derived.Lib.AppendZerosOnto
/-
  Append, See, Get and New of a pool, for every input.
-/
namespace Go.Proofs.Ytpgnklmmjdkhiaa
open Go.RowKit
set_option maxRecDepth 100000
set_option maxHeartbeats 400000

theorem append_long {w : World} {p ab : Nat} {L : List Bf} (h : PoolAt w p ab L) {k : Nat} {b : Bf} (hk : L[k]? = some b) (hr : b.refs = 1) (a : Option Addr) (n m : Nat) (hn : 288 < b.data.length + n) (hnn : n ≤ 140737488351232) :
    Calls Try.prog 34 #[.pointer (some ⟨p, 0, none⟩), .int .i64 (k : Int), .slice a n m] w fun e w' => e = .returned (.int .i64 2) ∧ w = w' := by
  have hO := own_in h hk hr
  obtain ⟨c, hc, hcl, hcb⟩ := h.2.2.2.2
  have hkl : k < L.length := (List.getElem?_eq_some_iff.1 hk).1
  obtain ⟨mem, fr, hraw, hrel⟩ := (hcb k b hk).raw (by omega)
  have g2 : w.cell? ⟨ab, k * 396 + 394, none⟩ = some (.int .i64 (b.data.length : Int)) := by rw [hc.cell]; exact hraw.s
  have hn' : (288 : Int) < (b.data.length : Int) + (n : Int) := by omega
  have hb : b.data.length ≤ 288 := by omega
  clear hr hk h hraw hrel hc hcb hcl
  go_enter Try.func34, Try.ntmps34
  go_wp2_with (go_at_call 16; refine hO.mono ?_; rintro e w' ⟨rfl, rfl⟩)
  go_ret
  exact ⟨rfl, rfl⟩

/-- What lies in a buffer, as a slice of bytes. -/
theorem Raw.bytes {w : World} {ab o : Nat} {c : List Value} {T : TypeId} {refs : Int} {mem : List UInt8} {hd sz : Int} {fr : Nat} {d : List UInt8} (hc : Blk w ab c T) (H : Raw c o refs mem hd sz fr)
    (hd' : d = (mem.drop (104 + fr)).take d.length) (h8 : fr + d.length ≤ 288) : BytesAt w (.slice (some ⟨ab, dOff o fr, none⟩) d.length (288 - fr)) d := by
  refine .inr ⟨ab, dOff o fr, 288 - fr, rfl, by omega, by omega, fun j hj => ?_⟩
  have hm := H.len
  have e1 : dOff o fr = o + 105 + fr := by unfold dOff; rw [if_neg (by omega)]
  have hj2 : 104 + fr + j < mem.length := by omega
  rw [hc.cell, e1, show o + 105 + fr + j = o + 1 + (104 + fr + j) by omega, H.m (104 + fr + j) hj2]
  have e2 : d[j]? = some (mem[104 + fr + j]'hj2) := by
    rw [hd', List.getElem?_take, if_pos hj, List.getElem?_drop, List.getElem?_eq_getElem hj2]
  rw [List.getElem?_eq_getElem hj] at e2
  simp only [Option.some.injEq] at e2
  rw [e2]

theorem splice_app (mem : List UInt8) (a o : Nat) (l d : List UInt8) (h : l = (mem.drop a).take l.length) (ho : o = a + l.length) (hf : o + d.length ≤ mem.length) :
    l ++ d = ((Go.splice mem o d).drop (a + 0)).take (l.length + d.length) := by
  subst ho
  apply List.ext_getElem?
  intro i
  rw [List.getElem?_take, List.getElem?_drop, splice_get hf, Nat.add_zero]
  by_cases h1 : i < l.length
  · rw [List.getElem?_append_left h1, if_pos (by omega), if_pos (by omega), h, List.getElem?_take, if_pos h1, List.getElem?_drop]
  · rw [List.getElem?_append_right (by omega)]
    by_cases h2 : i < l.length + d.length
    · rw [if_pos h2, if_neg (by omega), if_pos (by omega)]
      congr 1; omega
    · rw [if_neg h2, List.getElem?_eq_none (by omega)]

set_option maxHeartbeats 1000000 in
theorem append_a {w : World} {p ab : Nat} {L : List Bf} (h : PoolAt w p ab L) {k : Nat} {b : Bf} (hk : L[k]? = some b) (hr : b.refs = 1) {d : List UInt8} {v : Value} (hd : BytesAt w v d) (hx : sliceIn v (fun b => ¬ b = ab)) (hn : b.data.length + d.length ≤ 288)
    {c : List Value} {mem : List UInt8} {fr : Nat} (hc : Blk w ab c 55) (hraw : Raw c (k * 396) b.refs mem b.head.length b.data.length fr) (hrel : b.head = mem.take b.head.length ∧ b.data = (mem.drop (104 + fr)).take b.data.length ∧ b.head.length ≤ 104 ∧ fr + b.data.length ≤ 288) (hlt : ¬ b.data.length = 288) (hfr : fr = 0) :
    Calls Try.prog 34 #[.pointer (some ⟨p, 0, none⟩), .int .i64 (k : Int), v] w fun e w' => e = .returned (.int .i64 0) ∧ PoolAt w' p ab (L.set k { b with data := b.data ++ d }) ∧ Only (fun b => b = ab) w w' := by
  subst hfr
  have hO := own_in h hk hr
  obtain ⟨a, m, rfl⟩ := hd.form
  have hkl : k < L.length := (List.getElem?_eq_some_iff.1 hk).1
  have g2 : w.cell? ⟨ab, k * 396 + 394, none⟩ = some (.int .i64 (b.data.length : Int)) := by rw [hc.cell]; exact hraw.s
  have hn' : (b.data.length : Int) + (d.length : Int) ≤ 288 := by omega
  have e1 : IntKind.i64.wrap (104 + (b.data.length : Int)) = 104 + (b.data.length : Int) := IntWalk.i64_in _ (by omega)
  have e2 : (0 : Int) ≤ 104 + (b.data.length : Int) := by omega
  have e3 : (104 + (b.data.length : Int)).toNat = 104 + b.data.length := by omega
  have e4 : 104 + (b.data.length : Int) ≤ 392 := by omega
  have e5 : ¬ (392 : Nat) = 104 + b.data.length := by omega
  have hlt : b.data.length < 288 := by omega
  have g3 : w.cell? ⟨ab, k * 396 + 395, none⟩ = some (.int .i64 0) := by rw [hc.cell]; exact hraw.f
  have H := Lib.hid (And.intro h (And.intro hk (And.intro hc (And.intro hraw (And.intro hrel (And.intro hd hx))))))
  clear hraw hrel hc hk h hr hd hx
  go_enter Try.func34, Try.ntmps34
  go_wp2_with (go_at_call 16; refine hO.mono ?_; rintro e w' ⟨rfl, rfl⟩)
  refine wp_region_quiet_tail_lit 10 (by kernel_rfl) (by kernel_rfl) ?_
  simp only [List.take_succ_cons, List.take_zero, List.drop_succ_cons, List.drop_zero]
  repeat (quiet_step (fail))
  refine wpQuiet_nil ?_
  intro q
  refine wpList_copy_blk (by rfl) (.tmp 51) (.tmp 52) 22 22 (by rfl) 5 Try.underlying22 (by kernel_rfl) ab (k * 396 + 1 + (104 + b.data.length)) (392 - (104 + b.data.length)) (392 - (104 + b.data.length)) (by rfl) d ?c1 c 55 ?c2 ?c3 ?_
  case c1 =>
    obtain ⟨h, hk, hc, hraw, hrel, hd, hx⟩ := H.out
    exact hd
  case c2 =>
    obtain ⟨h, hk, hc, hraw, hrel, hd, hx⟩ := H.out
    exact hc
  case c3 =>
    obtain ⟨h, hk, hc, hraw, hrel, hd, hx⟩ := H.out
    have := hraw.fit
    have hcm := hx
    omega
  intro w1 hb1 ho1
  have hz := fun o => hb1.fz o
  obtain ⟨h, hk, hc, hraw, hrel, hd, hx⟩ := H.out
  rw [List.take_of_length_le (by omega)] at hb1
  have hm := hraw.len
  have R := hraw.write (p := k * 396 + 1 + (104 + b.data.length)) (off := 104 + b.data.length) (l := d) (by omega) (by omega)
  have g1 : w1.cell? ⟨ab, k * 396 + 394, none⟩ = some (.int .i64 (b.data.length : Int)) := by rw [hb1.cell]; exact R.s
  have H2 := Lib.hid (And.intro hb1 (And.intro R (And.intro ho1 (And.intro (Only.drewN (Only.refl (fun b => b = ab) w) q) ((SameOut.refl c (k * 396) (k * 396 + 396)).splice (i := k * 396 + 1 + (104 + b.data.length)) (l := d.map bv) (by omega) (by simp; omega) hraw.fit)))))
  clear h hk hc hraw hrel hd hx hm R hb1 ho1
  refine wpList_nil ?_
  go_wp2
  go_ret
  obtain ⟨h, hk, hc, hraw, hrel, hd, hx⟩ := H.out
  obtain ⟨hb1, R, ho1, hO1, hS1⟩ := H2.out
  obtain ⟨r1, r2, r3, r4⟩ := hrel
  have hm := hraw.len
  have hO2 := Only.st (Only.trans hO1 ho1) (S := fun b => b = ab) rfl (k * 396 + 394) (.int .i64 ((b.data.length : Int) + (d.length : Int)))
  refine ⟨rfl, h.turned hk hc hO2 (by simp) (hb1.set _ _) (hS1.set (by omega) (by omega) _) ?_, hO2⟩
  have R2 := R.setS ((b.data.length : Int) + (d.length : Int))
  refine R2.buf (b := { b with data := b.data ++ d }) (fr := 0) rfl rfl (by simp) ?_ ?_ r3 (by simp; omega)
  · simp only
    rw [splice_below mem _ d _ (by omega) (by omega)]; exact r1
  · simp only [List.length_append]
    exact splice_app mem 104 (104 + b.data.length) b.data d (by simpa using r2) rfl (by omega)

set_option maxHeartbeats 1000000 in
theorem append_b {w : World} {p ab : Nat} {L : List Bf} (h : PoolAt w p ab L) {k : Nat} {b : Bf} (hk : L[k]? = some b) (hr : b.refs = 1) {d : List UInt8} {v : Value} (hd : BytesAt w v d) (hx : sliceIn v (fun b => ¬ b = ab)) (hn : b.data.length + d.length ≤ 288)
    {c : List Value} {mem : List UInt8} {fr : Nat} (hc : Blk w ab c 55) (hraw : Raw c (k * 396) b.refs mem b.head.length b.data.length fr) (hrel : b.head = mem.take b.head.length ∧ b.data = (mem.drop (104 + fr)).take b.data.length ∧ b.head.length ≤ 104 ∧ fr + b.data.length ≤ 288) (hlt : b.data.length = 288) :
    Calls Try.prog 34 #[.pointer (some ⟨p, 0, none⟩), .int .i64 (k : Int), v] w fun e w' => e = .returned (.int .i64 0) ∧ PoolAt w' p ab (L.set k { b with data := b.data ++ d }) ∧ Only (fun b => b = ab) w w' := by
  have hd0 : d = [] := List.eq_nil_of_length_eq_zero (by omega)
  subst hd0
  have hfr : fr = 0 := by omega
  subst hfr
  have hO := own_in h hk hr
  obtain ⟨a, m, rfl⟩ := hd.form
  have hkl : k < L.length := (List.getElem?_eq_some_iff.1 hk).1
  have g2 : w.cell? ⟨ab, k * 396 + 394, none⟩ = some (.int .i64 (b.data.length : Int)) := by rw [hc.cell]; exact hraw.s
  have g3 : w.cell? ⟨ab, k * 396 + 395, none⟩ = some (.int .i64 0) := by rw [hc.cell]; exact hraw.f
  rw [hlt] at g2
  have hz := fun o => hc.fz o
  have e392 : IntKind.i64.wrap 392 = 392 := by decide
  have H := Lib.hid (And.intro h (And.intro hk (And.intro hc (And.intro hraw (And.intro hrel (And.intro hd (And.intro hx hlt)))))))
  clear hlt hn hraw hrel hc hk h hr hd hx
  go_enter Try.func34, Try.ntmps34
  go_wp2_with (go_at_call 16; refine hO.mono ?_; rintro e w' ⟨rfl, rfl⟩)
  refine wp_region_quiet_tail_lit 10 (by kernel_rfl) (by kernel_rfl) ?_
  simp only [List.take_succ_cons, List.take_zero, List.drop_succ_cons, List.drop_zero]
  repeat (quiet_step (fail))
  refine wpQuiet_nil ?_
  intro q
  refine wpList_copy_nothing (by rfl) (.tmp 51) (.tmp 52) 22 22 (by rfl) 5 Try.underlying22 (by kernel_rfl) _ _ _ _ _ _ (by rfl) (by rfl) (by simp) ?_
  refine wpList_nil ?_
  go_wp2
  go_ret
  obtain ⟨h, hk, hc, hraw, hrel, hd, hx, hlt⟩ := H.out
  obtain ⟨r1, r2, r3, r4⟩ := hrel
  have hO2 := Only.st (Only.drewN (Only.refl (fun b => b = ab) w) q) (S := fun b => b = ab) rfl (k * 396 + 394) (.int .i64 (288 : Int))
  have ef := hraw.fit
  refine ⟨rfl, h.turned hk hc hO2 (by simp) (hc.set _ _) ((SameOut.refl c _ _).set (by omega) (by omega) _) ?_, hO2⟩
  have R2 := hraw.setS (288 : Int)
  exact R2.buf (b := { b with data := b.data ++ [] }) (fr := 0) rfl rfl (by simp [hlt]) r1 (by simpa using r2) r3 (by simpa using r4)

set_option maxHeartbeats 1000000 in
theorem append_c {w : World} {p ab : Nat} {L : List Bf} (h : PoolAt w p ab L) {k : Nat} {b : Bf} (hk : L[k]? = some b) (hr : b.refs = 1) {d : List UInt8} {v : Value} (hd : BytesAt w v d) (hx : sliceIn v (fun b => ¬ b = ab)) (hn : b.data.length + d.length ≤ 288)
    {c : List Value} {mem : List UInt8} {fr : Nat} (hc : Blk w ab c 55) (hraw : Raw c (k * 396) b.refs mem b.head.length b.data.length fr) (hrel : b.head = mem.take b.head.length ∧ b.data = (mem.drop (104 + fr)).take b.data.length ∧ b.head.length ≤ 104 ∧ fr + b.data.length ≤ 288) (hlt : ¬ b.data.length = 288) (hfr : 0 < fr) :
    Calls Try.prog 34 #[.pointer (some ⟨p, 0, none⟩), .int .i64 (k : Int), v] w fun e w' => e = .returned (.int .i64 0) ∧ PoolAt w' p ab (L.set k { b with data := b.data ++ d }) ∧ Only (fun b => b = ab) w w' := by
  have hO := own_in h hk hr
  obtain ⟨a, m, rfl⟩ := hd.form
  have hkl : k < L.length := (List.getElem?_eq_some_iff.1 hk).1
  have g2 : w.cell? ⟨ab, k * 396 + 394, none⟩ = some (.int .i64 (b.data.length : Int)) := by rw [hc.cell]; exact hraw.s
  have hn' : (b.data.length : Int) + (d.length : Int) ≤ 288 := by omega
  have e1 : IntKind.i64.wrap (104 + (b.data.length : Int)) = 104 + (b.data.length : Int) := IntWalk.i64_in _ (by omega)
  have e2 : (0 : Int) ≤ 104 + (b.data.length : Int) := by omega
  have e3 : (104 + (b.data.length : Int)).toNat = 104 + b.data.length := by omega
  have e4 : 104 + (b.data.length : Int) ≤ 392 := by omega
  have e5 : ¬ (392 : Nat) = 104 + b.data.length := by omega
  have hlt : b.data.length < 288 := by omega
  have g3 : w.cell? ⟨ab, k * 396 + 395, none⟩ = some (.int .i64 (fr : Int)) := by rw [hc.cell]; exact hraw.f
  have hfr' : (0 : Int) < (fr : Int) := by omega
  have hrr : fr + b.data.length ≤ 288 := hrel.2.2.2
  have H := Lib.hid (And.intro h (And.intro hk (And.intro hc (And.intro hraw (And.intro hrel (And.intro hd hx))))))
  clear hraw hrel hc hk h hr hd hx
  go_enter Try.func34, Try.ntmps34
  go_wp2_with (go_at_call 16; refine hO.mono ?_; rintro e w' ⟨rfl, rfl⟩)
  refine wp_region_quiet_tail_lit 6 (by kernel_rfl) (by kernel_rfl) ?_
  simp only [List.take_succ_cons, List.take_zero, List.drop_succ_cons, List.drop_zero]
  repeat (quiet_step ((go_at_call 17; exact Calls.quiet_of (data_any (fr := fr) (n := b.data.length) g2 g3 hrr))))
  refine wpQuiet_nil ?_
  intro q0
  refine wpList_copy_blk (by rfl) (.tmp 36) (.tmp 38) 22 22 (by rfl) 5 Try.underlying22 (by kernel_rfl) ab (k * 396 + 1 + 104) 288 288 (by rfl) b.data ?d1 c 55 ?d2 ?d3 ?_
  case d1 =>
    obtain ⟨h, hk, hc, hraw, hrel, hd, hx⟩ := H.out
    exact Raw.bytes (w := w.drewN q0) hc hraw hrel.2.1 hrel.2.2.2
  case d2 =>
    obtain ⟨h, hk, hc, hraw, hrel, hd, hx⟩ := H.out
    exact hc
  case d3 =>
    obtain ⟨h, hk, hc, hraw, hrel, hd, hx⟩ := H.out
    have := hraw.fit
    omega
  intro w1 hb1 ho1
  obtain ⟨h, hk, hc, hraw, hrel, hd, hx⟩ := H.out
  rw [List.take_of_length_le (by omega)] at hb1
  have hz1 := fun o => hb1.fz o
  have R1 := hraw.write (p := k * 396 + 1 + 104) (off := 104) (l := b.data) (by omega) (by have := hraw.len; omega)
  have g4 : w1.cell? ⟨ab, k * 396 + 394, none⟩ = some (.int .i64 (b.data.length : Int)) := by rw [hb1.cell]; exact R1.s
  have g5 : w1.cell? ⟨ab, k * 396 + 395, none⟩ = some (.int .i64 (fr : Int)) := by rw [hb1.cell]; exact R1.f
  have H1 := Lib.hid (And.intro hb1 (And.intro R1 (Only.trans (Only.drewN (Only.refl (fun b => b = ab) w) q0) ho1)))
  clear h hk hc hraw hrel hd hx hb1 R1 ho1 g2 g3
  refine wpList_nil ?_
  go_wp2
  refine wp_region_quiet_tail_lit 10 (by kernel_rfl) (by kernel_rfl) ?_
  simp only [List.take_succ_cons, List.take_zero, List.drop_succ_cons, List.drop_zero]
  repeat (quiet_step (fail))
  refine wpQuiet_nil ?_
  intro q
  refine wpList_copy_blk (by rfl) (.tmp 51) (.tmp 52) 22 22 (by rfl) 5 Try.underlying22 (by kernel_rfl) ab (k * 396 + 1 + (104 + b.data.length)) (392 - (104 + b.data.length)) (392 - (104 + b.data.length)) (by rfl) d ?c1 ((Go.splice c (k * 396 + 1 + 104) (b.data.map bv)).set (k * 396 + 395) (.int .i64 0)) 55 ?c2 ?c3 ?_
  case c1 =>
    obtain ⟨h, hk, hc, hraw, hrel, hd, hx⟩ := H.out
    exact hd.only (Only.drewN (Only.st H1.out.2.2 rfl _ _) q) hx
  case c2 =>
    obtain ⟨h, hk, hc, hraw, hrel, hd, hx⟩ := H.out
    exact H1.out.1.set _ _
  case c3 =>
    obtain ⟨h, hk, hc, hraw, hrel, hd, hx⟩ := H.out
    have := hraw.fit
    have hcm := (H1.out.2.1.setF 0).fit
    omega
  intro w1 hb1 ho1
  have hz := fun o => hb1.fz o
  obtain ⟨h, hk, hc, hraw, hrel, hd, hx⟩ := H.out
  rw [List.take_of_length_le (by omega)] at hb1
  have hm := hraw.len
  have R0 := H1.out.2.1.setF 0
  have hm0 := R0.len
  have R := R0.write (p := k * 396 + 1 + (104 + b.data.length)) (off := 104 + b.data.length) (l := d) (by omega) (by omega)
  have g1 : w1.cell? ⟨ab, k * 396 + 394, none⟩ = some (.int .i64 (b.data.length : Int)) := by rw [hb1.cell]; exact R.s
  have H2 := Lib.hid (And.intro hb1 (And.intro R (And.intro ho1 (And.intro (Only.drewN (Only.st H1.out.2.2 rfl (k * 396 + 395) (.int .i64 0)) q) ((((SameOut.refl c (k * 396) (k * 396 + 396)).splice (i := k * 396 + 1 + 104) (l := b.data.map bv) (by omega) (by simp; omega) hraw.fit).set (i := k * 396 + 395) (by omega) (by omega) (.int .i64 0)).splice (i := k * 396 + 1 + (104 + b.data.length)) (l := d.map bv) (by omega) (by simp; omega) hraw.fit)))))
  clear h hk hc hraw hrel hd hx hm R hb1 ho1 R0 hm0 hz1 g4 g5
  refine wpList_nil ?_
  go_wp2
  go_ret
  obtain ⟨h, hk, hc, hraw, hrel, hd, hx⟩ := H.out
  obtain ⟨hb1, R, ho1, hO1, hS1⟩ := H2.out
  obtain ⟨r1, r2, r3, r4⟩ := hrel
  have hm := hraw.len
  have hO2 := Only.st (Only.trans hO1 ho1) (S := fun b => b = ab) rfl (k * 396 + 394) (.int .i64 ((b.data.length : Int) + (d.length : Int)))
  refine ⟨rfl, h.turned hk hc hO2 (by simp) (hb1.set _ _) (hS1.set (by omega) (by omega) _) ?_, hO2⟩
  have R2 := R.setS ((b.data.length : Int) + (d.length : Int))
  refine R2.buf (b := { b with data := b.data ++ d }) (fr := 0) rfl rfl (by simp) ?_ ?_ r3 (by simp; omega)
  · simp only
    rw [splice_below _ _ d _ (by omega) (by rw [length_splice _ _ _ (by omega)]; omega), splice_below mem _ _ _ (by omega) (by omega)]; exact r1
  · simp only [List.length_append]
    exact splice_app _ 104 (104 + b.data.length) b.data d (splice_cut mem 104 b.data (by omega)).symm rfl (by rw [length_splice _ _ _ (by omega)]; omega)

theorem append_in {w : World} {p ab : Nat} {L : List Bf} (h : PoolAt w p ab L) {k : Nat} {b : Bf} (hk : L[k]? = some b) (hr : b.refs = 1) {d : List UInt8} {v : Value} (hd : BytesAt w v d) (hx : sliceIn v (fun b => ¬ b = ab)) (hn : b.data.length + d.length ≤ 288) :
    Calls Try.prog 34 #[.pointer (some ⟨p, 0, none⟩), .int .i64 (k : Int), v] w fun e w' => e = .returned (.int .i64 0) ∧ PoolAt w' p ab (L.set k { b with data := b.data ++ d }) ∧ Only (fun b => b = ab) w w' := by
  obtain ⟨c, hc, hcl, hcb⟩ := h.2.2.2.2
  have hkl : k < L.length := (List.getElem?_eq_some_iff.1 hk).1
  obtain ⟨mem, fr, hraw, hrel⟩ := (hcb k b hk).raw (by omega)
  by_cases h1 : b.data.length = 288
  · exact append_b h hk hr hd hx hn hc hraw hrel h1
  · by_cases h2 : fr = 0
    · exact append_a h hk hr hd hx hn hc hraw hrel h1 h2
    · exact append_c h hk hr hd hx hn hc hraw hrel h1 (by omega)

end Go.Proofs.Ytpgnklmmjdkhiaa

/-
  See, Get and New of a pool, for every input.
-/
namespace Go.Proofs.Ytpgnklmmjdkhiaa
open Go.RowKit
set_option maxRecDepth 100000
set_option maxHeartbeats 4000000

/-- Bytes that are zero. -/
def zbytes (n : Nat) : List Value := List.replicate n (.int .u8 0)

theorem run_make_bytes (n : Nat) (hn : n ≤ 140737488351232) (w : World) :
    (Instr.makeSlice 22 (.int .i64 (n : Int)) (.int .i64 (n : Int))).run Try.prog w = .ok (.slice (some ⟨w.heap.size, 0, none⟩) n n) (w.alloc (.cells (zbytes n).toArray 5)) := by
  obtain ⟨i, hi, hz, h1, h2⟩ : ∃ i, Try.prog.info? 5 = some i ∧ i.zero = some (.int .u8 0) ∧ i.size = 1 ∧ i.bytes = 1 := by
    have hq : (Try.prog.info? 5).map (fun i => (i.zero, i.size, i.bytes)) = some (some (.int .u8 0), 1, 1) := by kernel_rfl
    cases hi : Try.prog.info? 5 with
    | none => rw [hi] at hq; simp at hq
    | some i => rw [hi] at hq; simp at hq; exact ⟨i, rfl, hq.1, hq.2.1, hq.2.2⟩
  have := run_make (P := Try.prog) w 22 5 i _ Try.underlying22 hi hz .i64 .i64 (n : Int) (n : Int) (by omega) (by omega) (by rw [h2]; omega) (by omega)
  rw [this]
  simp only [Int.toNat_natCast, h1, Nat.mul_one]
  have e : madeCells (Value.int .u8 0).cells n = (zbytes n).toArray := by
    apply Array.ext_getElem?
    intro j
    simp only [madeCells, zbytes, Value.cells]
    by_cases hj : j < n
    · simp [hj, Nat.mod_one]
    · simp [hj]
  rw [e]

/-- What See of a buffer in use comes to: two new lists of bytes. -/
def SeePost (w : World) (b : Bf) (e : Ending) (w' : World) : Prop :=
  ∃ bh bd, e = .returned (.tuple #[.agg #[.int .i64 (b.refs : Int), .slice (some ⟨bh, 0, none⟩) b.head.length b.head.length, .slice (some ⟨bd, 0, none⟩) b.data.length b.data.length], .int .i64 0]) ∧
    Blk w' bh (b.head.map bv) 5 ∧ Blk w' bd (b.data.map bv) 5 ∧ bh ≠ bd ∧ w.heap.size ≤ bh ∧ w.heap.size ≤ bd ∧ Only (fun _ => False) w w'

/-- What stands in the midst of See. -/
def SeeMid (w : World) (b : Bf) (v : Value) (wc : World) : Prop :=
  ∃ bx bh bd, v = .pointer (some ⟨bx, 0, none⟩) ∧ Blk wc bx [.int .i64 (b.refs : Int), .slice (some ⟨bh, 0, none⟩) b.head.length b.head.length, .slice (some ⟨bd, 0, none⟩) b.data.length b.data.length] 75 ∧
    Blk wc bh (zbytes b.head.length) 5 ∧ Blk wc bd (zbytes b.data.length) 5 ∧ Blk wc w.heap.size [.int .i64 0, .slice none 0 0, .slice none 0 0] 75 ∧
    w.heap.size < bh ∧ w.heap.size < bd ∧ w.heap.size < bx ∧ bh ≠ bd ∧ bh ≠ bx ∧ bd ≠ bx ∧ Only (fun _ => False) w wc

theorem Raw.memBytes {w : World} {ab o : Nat} {c : List Value} {T : TypeId} {refs : Int} {mem : List UInt8} {hd sz fr : Int} (H : Raw c o refs mem hd sz fr) (hc : Blk w ab c T) : BytesAt w (.slice (some ⟨ab, o + 1, none⟩) 392 392) mem := by
  have hm := H.len
  refine .inr ⟨ab, o + 1, 392, by rw [hm], by omega, by omega, fun j hj => ?_⟩
  rw [hc.cell, H.m j hj]

theorem see_in {w : World} {p ab : Nat} {L : List Bf} (h : PoolAt w p ab L) {k : Nat} {b : Bf} (hk : L[k]? = some b) (hr : 0 < b.refs) :
    Calls Try.prog 29 #[.pointer (some ⟨p, 0, none⟩), .int .i64 (k : Int)] w (SeePost w b) := by
  obtain ⟨c, hc, hcl, hcb⟩ := h.2.2.2.2
  have hkl : k < L.length := (List.getElem?_eq_some_iff.1 hk).1
  obtain ⟨mem, fr, hraw, hrel⟩ := (hcb k b hk).raw (by omega)
  have g0 : w.cell? ⟨ab, k * 396, none⟩ = some (.int .i64 (b.refs : Int)) := by rw [hc.cell]; exact hraw.r
  have g1 : w.cell? ⟨ab, k * 396 + 393, none⟩ = some (.int .i64 (b.head.length : Int)) := by rw [hc.cell]; exact hraw.h
  have g2 : w.cell? ⟨ab, k * 396 + 394, none⟩ = some (.int .i64 (b.data.length : Int)) := by rw [hc.cell]; exact hraw.s
  have hlt := hc.lt
  have hlt1 : ab < w.heap.size + 1 := by omega
  have hlt2 : ab < w.heap.size + 1 + 1 := by omega
  have hlt3 : ab < w.heap.size + 1 + 1 + 1 := by omega
  have m1 := run_make_bytes b.head.length (by have := hrel.2.2.1; omega)
  have m2 := run_make_bytes b.data.length (by have := hrel.2.2.2; omega)
  have hb1 : b.head.length ≤ 104 := hrel.2.2.1
  have hb2 : fr + b.data.length ≤ 288 := hrel.2.2.2
  have H := Lib.hid (And.intro h (And.intro hk (And.intro hc (And.intro hraw hrel))))
  have hU : ∀ o, Calls Try.prog 28 #[.pointer (some ⟨p, 0, none⟩), .int .i64 (k : Int)] (w.alloc o) fun e w' => e = .returned (.pointer (some ⟨ab, k * 396, none⟩)) ∧ w.alloc o = w' := fun o => used_in (h.alloc o) hk hr
  have HU := Lib.hid hU
  clear hU hraw hrel hc hk h hr hcb
  go_enter Try.func29, Try.ntmps29
  go_wp2_with (go_at_call 28; refine (HU.out _).mono ?_; rintro e w' ⟨rfl, rfl⟩)
  go_cut [7] (SeeMid w b)
  case first =>
    go_region
    all_goals go_wp2
    all_goals go_meet
    all_goals
      apply Exists.intro
      apply Exists.intro
      apply Exists.intro
      refine ⟨rfl, ?_, ?_, ?_, ?_, ?_, ?_, ?_, ?_, ?_, ?_, Only.drew (Only.alloc (Only.alloc (Only.alloc (Only.alloc (Only.refl _ _) _) _) _) _)⟩
      · repeat (first | exact Blk.at_new (by simp) rfl | refine Blk.alloc ?_ _ | refine Blk.drew ?_)
      · repeat (first | exact Blk.at_new (by simp) rfl | refine Blk.alloc ?_ _ | refine Blk.drew ?_)
      · repeat (first | exact Blk.at_new (by simp) rfl | refine Blk.alloc ?_ _ | refine Blk.drew ?_)
      · repeat (first | exact Blk.at_new (by simp) rfl | refine Blk.alloc ?_ _ | refine Blk.drew ?_)
      all_goals omega
  case rest =>
    obtain ⟨bx, bh, bd, rfl, q1, q2, q3, q4, n1, n2, n3, n4, n5, n6, qO⟩ := hcut
    have x1 : wc.cell? ⟨bx, 1, none⟩ = some (.slice (some ⟨bh, 0, none⟩) b.head.length b.head.length) := by rw [q1.cell]; rfl
    have H1 := Lib.hid (And.intro q1 (And.intro q2 (And.intro q3 (And.intro q4 qO))))
    clear q1 q2 q3 q4 qO m1 m2 g0
    go_wp2
    refine wp_region_quiet_tail_lit 6 (by kernel_rfl) (by kernel_rfl) ?_
    simp only [List.take_succ_cons, List.take_zero, List.drop_succ_cons, List.drop_zero]
    repeat (quiet_step (fail))
    refine wpQuiet_nil ?_
    intro qa
    refine wpList_copy_blk (by rfl) (.tmp 30) (.tmp 34) 22 22 (by rfl) 5 Try.underlying22 (by kernel_rfl) bh 0 b.head.length b.head.length (by rfl) mem ?d1 (zbytes b.head.length) 5 ?d2 ?d3 ?_
    case d1 =>
      obtain ⟨h, hk, hc, hraw, hrel⟩ := H.out
      obtain ⟨q1, q2, q3, q4, qO⟩ := H1.out
      exact hraw.memBytes (w := wc.drewN qa) (qO.blk hc (fun h => h))
    case d2 => exact H1.out.2.1
    case d3 => simp [zbytes]
    intro w1 hb1 ho1
    have X1 : Blk w1 bh (b.head.map bv) 5 := by
      have e : Go.splice (zbytes b.head.length) 0 ((mem.take b.head.length).map bv) = b.head.map bv := by
        rw [← H.out.2.2.2.2.1]; simp [Go.splice, zbytes]
      rwa [e] at hb1
    have x2 : w1.cell? ⟨bx, 2, none⟩ = some (.slice (some ⟨bd, 0, none⟩) b.data.length b.data.length) := by
      rw [(ho1.blk (c := [_, _, _]) (Blk.drewN H1.out.1 qa) (fun e => n5 e.symm)).cell]; rfl
    have c1 : w1.cell? ⟨ab, k * 396 + 394, none⟩ = some (.int .i64 (b.data.length : Int)) := by
      rw [(ho1.blk (Blk.drewN (H1.out.2.2.2.2.blk H.out.2.2.1 (fun h => h)) qa) (fun e => by omega)).cell]; exact H.out.2.2.2.1.s
    have c2 : w1.cell? ⟨ab, k * 396 + 395, none⟩ = some (.int .i64 (fr : Int)) := by
      rw [(ho1.blk (Blk.drewN (H1.out.2.2.2.2.blk H.out.2.2.1 (fun h => h)) qa) (fun e => by omega)).cell]; exact H.out.2.2.2.1.f
    have HX := Lib.hid (And.intro X1 ho1)
    clear X1 hb1 ho1 x1
    refine wpList_nil ?_
    go_wp2
    refine wp_region_quiet_tail_lit 4 (by kernel_rfl) (by kernel_rfl) ?_
    simp only [List.take_succ_cons, List.take_zero, List.drop_succ_cons, List.drop_zero]
    repeat (quiet_step ((go_at_call 17; exact Calls.quiet_of (data_any (fr := fr) (n := b.data.length) c1 c2 hb2))))
    refine wpQuiet_nil ?_
    intro qb
    refine wpList_copy_blk (by rfl) (.tmp 37) (.tmp 39) 22 22 (by rfl) 5 Try.underlying22 (by kernel_rfl) bd 0 b.data.length b.data.length (by rfl) b.data ?f1 (zbytes b.data.length) 5 ?f2 ?f3 ?_
    case f1 =>
      have hB := HX.out.2.blk (Blk.drewN (H1.out.2.2.2.2.blk H.out.2.2.1 (fun h => h)) qa) (fun e => by omega)
      exact Raw.bytes (w := w1.drewN qb) hB H.out.2.2.2.1 H.out.2.2.2.2.2.1 hb2
    case f2 => exact HX.out.2.blk (Blk.drewN H1.out.2.2.1 qa) (fun e => n4 e.symm)
    case f3 => simp [zbytes]
    intro w2 hb2' ho2
    have X2 : Blk w2 bd (b.data.map bv) 5 := by
      have e : Go.splice (zbytes b.data.length) 0 ((b.data.take b.data.length).map bv) = b.data.map bv := by
        rw [List.take_length]; simp [Go.splice, zbytes]
      rwa [e] at hb2'
    have Y1 : Blk w2 bh (b.head.map bv) 5 := ho2.blk (Blk.drewN HX.out.1 qb) n4
    have Y2 : Blk w2 bx [.int .i64 (b.refs : Int), .slice (some ⟨bh, 0, none⟩) b.head.length b.head.length, .slice (some ⟨bd, 0, none⟩) b.data.length b.data.length] 75 :=
      ho2.blk (Blk.drewN (HX.out.2.blk (Blk.drewN H1.out.1 qa) (fun e => n5 e.symm)) qb) (fun e => n6 e.symm)
    have Y3 : Blk w2 w.heap.size [.int .i64 0, .slice none 0 0, .slice none 0 0] 75 :=
      ho2.blk (Blk.drewN (HX.out.2.blk (Blk.drewN H1.out.2.2.2.1 qa) (fun e => by omega)) qb) (fun e => by omega)
    have YO : Only (fun _ => False) w w2 :=
      ((H1.out.2.2.2.2.trans' (S' := fun b => b = bh) ((Only.drewN (Only.refl _ _) qa).trans HX.out.2) (fun b e => .inr (by omega))).trans' (S' := fun b => b = bd) ((Only.drewN (Only.refl _ _) qb).trans ho2) (fun b e => .inr (by omega)))
    have z0 : w2.cell? ⟨bx, 0, none⟩ = some (.int .i64 (b.refs : Int)) := by rw [Y2.cell]; rfl
    have z1 : w2.cell? ⟨bx, 1, none⟩ = some (.slice (some ⟨bh, 0, none⟩) b.head.length b.head.length) := by rw [Y2.cell]; rfl
    have z2 : w2.cell? ⟨bx, 2, none⟩ = some (.slice (some ⟨bd, 0, none⟩) b.data.length b.data.length) := by rw [Y2.cell]; rfl
    have y0 : w2.cell? ⟨w.heap.size, 0, none⟩ = some (.int .i64 0) := by rw [Y3.cell]; rfl
    have y1 : w2.cell? ⟨w.heap.size, 1, none⟩ = some (.slice none 0 0) := by rw [Y3.cell]; rfl
    have y2 : w2.cell? ⟨w.heap.size, 2, none⟩ = some (.slice none 0 0) := by rw [Y3.cell]; rfl
    have yz := fun o => Y3.fz o
    have HY := Lib.hid (And.intro X2 (And.intro Y1 (And.intro Y3 YO)))
    clear X2 hb2' ho2 Y1 Y2 Y3 YO c1 c2 x2
    refine wpList_nil ?_
    go_wp2
    obtain ⟨X2, Y1, Y3, YO⟩ := HY.out
    have o1 : Only (fun _ => False) w (((w2.setCell ⟨w.heap.size, 0, none⟩ (.int .i64 (b.refs : Int))).setCell ⟨w.heap.size, 1, none⟩ (.slice (some ⟨bh, 0, none⟩) b.head.length b.head.length)).setCell ⟨w.heap.size, 2, none⟩ (.slice (some ⟨bd, 0, none⟩) b.data.length b.data.length)) :=
      Only.setCell (Only.setCell (Only.setCell YO (.inr (Nat.le_refl _)) _) (.inr (Nat.le_refl _)) _) (.inr (Nat.le_refl _)) _
    have hBh : Blk (((w2.setCell ⟨w.heap.size, 0, none⟩ (.int .i64 (b.refs : Int))).setCell ⟨w.heap.size, 1, none⟩ (.slice (some ⟨bh, 0, none⟩) b.head.length b.head.length)).setCell ⟨w.heap.size, 2, none⟩ (.slice (some ⟨bd, 0, none⟩) b.data.length b.data.length)) bh (b.head.map bv) 5 :=
      ((Y1.set_ne (by simp; omega) _).set_ne (by simp; omega) _).set_ne (by simp; omega) _
    have hBd : Blk (((w2.setCell ⟨w.heap.size, 0, none⟩ (.int .i64 (b.refs : Int))).setCell ⟨w.heap.size, 1, none⟩ (.slice (some ⟨bh, 0, none⟩) b.head.length b.head.length)).setCell ⟨w.heap.size, 2, none⟩ (.slice (some ⟨bd, 0, none⟩) b.data.length b.data.length)) bd (b.data.map bv) 5 :=
      ((X2.set_ne (by simp; omega) _).set_ne (by simp; omega) _).set_ne (by simp; omega) _
    have hP : SeePost w b (.returned (.tuple #[.agg #[.int .i64 (b.refs : Int), .slice (some ⟨bh, 0, none⟩) b.head.length b.head.length, .slice (some ⟨bd, 0, none⟩) b.data.length b.data.length], .int .i64 0]))
        (((w2.setCell ⟨w.heap.size, 0, none⟩ (.int .i64 (b.refs : Int))).setCell ⟨w.heap.size, 1, none⟩ (.slice (some ⟨bh, 0, none⟩) b.head.length b.head.length)).setCell ⟨w.heap.size, 2, none⟩ (.slice (some ⟨bd, 0, none⟩) b.data.length b.data.length)) :=
      ⟨bh, bd, rfl, hBh, hBd, n4, by omega, by omega, o1⟩
    clear X2 Y1 Y3 YO o1 hBh hBd
    exact bodyPost_ret (v := .tuple #[.agg #[.int .i64 (b.refs : Int), .slice (some ⟨bh, 0, none⟩) b.head.length b.head.length, .slice (some ⟨bd, 0, none⟩) b.data.length b.data.length], .int .i64 0]) (by simp [results, Try.results29, go_sem, y0, y1, y2]) rfl hP

theorem see_no {w : World} {p ab : Nat} {L : List Bf} (h : PoolAt w p ab L) {id : Int} (hn : ¬ Used L id) :
    Calls Try.prog 29 #[.pointer (some ⟨p, 0, none⟩), .int .i64 id] w fun e w' => e = .returned (.tuple #[.agg #[.int .i64 0, .slice none 0 0, .slice none 0 0], .int .i64 7]) ∧ Only (fun _ => False) w w' := by
  have hU : ∀ o, Calls Try.prog 28 #[.pointer (some ⟨p, 0, none⟩), .int .i64 id] (w.alloc o) fun e w' => e = .returned (.pointer none) ∧ w.alloc o = w' := fun o => used_no (h.alloc o) hn
  have HU := Lib.hid hU
  clear hU h
  go_enter Try.func29, Try.ntmps29
  go_wp2_with (go_at_call 28; refine (HU.out _).mono ?_; rintro e w' ⟨rfl, rfl⟩)
  exact bodyPost_ret (v := .tuple #[.agg #[.int .i64 0, .slice none 0 0, .slice none 0 0], .int .i64 7]) (by simp [results, Try.results29, go_sem]) rfl ⟨rfl, Only.alloc (Only.refl _ _) _⟩

end Go.Proofs.Ytpgnklmmjdkhiaa

/-
  Get and New of a pool, for every input.
-/
namespace Go.Proofs.Ytpgnklmmjdkhiaa
open Go.RowKit
set_option maxRecDepth 100000
set_option maxHeartbeats 1000000

/-- The first k buffers are in use. -/
def FullTo (L : List Bf) (k : Nat) : Prop := ∀ j b, j < k → L[j]? = some b → 0 < b.refs

theorem fullTo_none {L : List Bf} (h : FullTo L L.length) : nfree L = 0 := by
  unfold nfree
  rw [List.countP_eq_zero]
  intro b hb
  obtain ⟨j, hj⟩ := List.getElem?_of_mem hb
  have := h j b (List.getElem?_eq_some_iff.1 hj).1 hj
  simp; omega

theorem get_none {w : World} {p ab : Nat} {L : List Bf} (h : PoolAt w p ab L) (hf : FullTo L L.length) :
    Calls Try.prog 8 #[.pointer (some ⟨p, 0, none⟩)] w fun e w' => e = .returned (.tuple #[.int .i64 0, .int .i64 8]) ∧ w = w' := by
  have hp0 := h.cell0
  have hL := h.2.2.2.1
  have H := Lib.hid (And.intro h hf)
  clear h hf
  go_enter Try.func8, Try.ntmps8
  go_wp2
  go_wp2
  go_step3
  go_wp2
  go_step3
  go_wp2
  go_loop [4, 12] (fun a v => ∃ j : Nat, j ≤ L.length ∧ a = .int .i64 (-1) ∧ v = .int .i64 (j : Int)) (fun _ v => L.length - (intOf v).toNat)
  case atStart => exact ⟨0, Nat.zero_le _, rfl, rfl⟩
  case round =>
    obtain ⟨j, hj, rfl, rfl⟩ := hrel
    by_cases hlt : j < L.length
    · obtain ⟨h, hf⟩ := H.out
      have hb := h.cellr (List.getElem?_eq_getElem hlt)
      have hr := hf j _ hlt (List.getElem?_eq_getElem hlt)
      have hr0 : ((L[j].refs : Int) == 0) = false := by simp; omega
      clear h hf hr
      go_wp2
      go_round
      case rel => exact ⟨j + 1, by omega, rfl, by go_num⟩
      case measure => simp [intOf]; omega
    · have : j = L.length := by omega
      subst this
      go_wp2
      try rw [Exit.noGoto_ret]
      go_ret2
      exact ⟨rfl, rfl⟩

theorem get_in {w : World} {p ab : Nat} {L : List Bf} (h : PoolAt w p ab L) {k : Nat} {b : Bf} (hk : L[k]? = some b) (hr : b.refs = 0) (hf : FullTo L k) :
    Calls Try.prog 8 #[.pointer (some ⟨p, 0, none⟩)] w fun e w' => e = .returned (.tuple #[.int .i64 (k : Int), .int .i64 0]) ∧ PoolAt w' p ab (L.set k ⟨1, [], []⟩) ∧ Only (fun b => b = p ∨ b = ab) w w' := by
  have hp0 := h.cell0
  have hp1 := h.cell1
  have hL := h.2.2.2.1
  have hkl : k < L.length := (List.getElem?_eq_some_iff.1 hk).1
  obtain ⟨c, hc, hcl, hcb⟩ := h.2.2.2.2
  obtain ⟨mem, fr, hraw, hrel⟩ := (hcb k b hk).raw (by omega)
  have g0 : w.cell? ⟨ab, k * 396, none⟩ = some (.int .i64 0) := by rw [hc.cell, hraw.r, hr]; rfl
  have g1 : w.cell? ⟨ab, k * 396 + 393, none⟩ = some (.int .i64 (b.head.length : Int)) := by rw [hc.cell]; exact hraw.h
  have g2 : w.cell? ⟨ab, k * 396 + 394, none⟩ = some (.int .i64 (b.data.length : Int)) := by rw [hc.cell]; exact hraw.s
  have g3 : w.cell? ⟨ab, k * 396 + 395, none⟩ = some (.int .i64 (fr : Int)) := by rw [hc.cell]; exact hraw.f
  have hz := fun o => hc.fz o
  have hzp := fun o => h.1.fz o
  have hne : ¬ p = ab := h.2.1
  have hne' : ¬ ab = p := fun e => h.2.1 e.symm
  have hnf := nfree_le L
  have H := Lib.hid (And.intro h (And.intro hk (And.intro hc (And.intro hraw (And.intro hr hf)))))
  clear h hf hk hc hraw hrel hr hcb hcl
  go_enter Try.func8, Try.ntmps8
  go_wp2
  go_wp2
  go_step3
  go_wp2
  go_step3
  go_wp2
  go_loop [4, 12] (fun a v => ∃ j : Nat, j ≤ k ∧ a = .int .i64 (-1) ∧ v = .int .i64 (j : Int)) (fun _ v => k - (intOf v).toNat)
  case atStart => exact ⟨0, Nat.zero_le _, rfl, rfl⟩
  case round =>
    obtain ⟨j, hj, rfl, rfl⟩ := hrel
    by_cases hlt : j < k
    · obtain ⟨h, hk, hc, hraw, hr, hf⟩ := H.out
      have hjl : j < L.length := by omega
      have hb := h.cellr (List.getElem?_eq_getElem hjl)
      have hr := hf j _ hlt (List.getElem?_eq_getElem hjl)
      have hr0 : ((L[j].refs : Int) == 0) = false := by simp; omega
      clear h hk hc hraw hr hf g0 g1 g2 g3
      go_wp2
      go_round
      case rel => exact ⟨j + 1, by omega, rfl, by go_num⟩
      case measure => simp [intOf]; omega
    · have : j = k := by omega
      subst this
      clear hlt hj
      go_wp2
      try rw [Exit.noGoto_ret]
      go_ret2
      obtain ⟨h, hk, hc, hraw, hr, hf⟩ := H.out
      have e := nfree_set (b1 := ⟨1, [], []⟩) hk
      rw [if_pos hr, if_neg (by simp)] at e
      have hO := Only.st (Only.st (Only.st (Only.st (Only.st (Only.refl (fun b => b = p ∨ b = ab) w) (.inr rfl) (j * 396) (.int .i64 1)) (.inr rfl) (j * 396 + 393) (.int .i64 0)) (.inr rfl) (j * 396 + 394) (.int .i64 0)) (.inr rfl) (j * 396 + 395) (.int .i64 0)) (.inl rfl) 1 (.int .i64 ((nfree L : Int) - 1))
      have R := (((hraw.setR 1).setH 0).setS 0).setF 0
      have hft := hraw.fit
      refine ⟨rfl, h.turn hc ?_ (((((hc.set _ _).set _ _).set _ _).set _ _).set_ne hne _) (by simp) (fun o ho => by rw [set_ne_at (by omega), set_ne_at (by omega), set_ne_at (by omega), set_ne_at (by omega)]) ?_, hO⟩
      · have e2 : (nfree (L.set j ⟨1, [], []⟩) : Int) = (nfree L : Int) - 1 := by omega
        rw [e2]
        have := (((((h.1.set_ne (a := ⟨ab, j * 396, none⟩) hne' (.int .i64 1)).set_ne (a := ⟨ab, j * 396 + 393, none⟩) hne' (.int .i64 0)).set_ne (a := ⟨ab, j * 396 + 394, none⟩) hne' (.int .i64 0)).set_ne (a := ⟨ab, j * 396 + 395, none⟩) hne' (.int .i64 0))).set 1 (.int .i64 ((nfree L : Int) - 1))
        simpa using this
      · exact R.buf (b := ⟨1, [], []⟩) (fr := 0) rfl rfl rfl rfl rfl (by simp) (by simp)

theorem get_cases (L : List Bf) : FullTo L L.length ∨ ∃ k b, L[k]? = some b ∧ b.refs = 0 ∧ FullTo L k := by
  have : ∀ n, n ≤ L.length → FullTo L n ∨ ∃ k b, L[k]? = some b ∧ b.refs = 0 ∧ FullTo L k := by
    intro n
    induction n with
    | zero => intro _; exact .inl (fun j b hj => by omega)
    | succ n ih =>
      intro hn
      rcases ih (by omega) with h | h
      · by_cases hr : L[n].refs = 0
        · exact .inr ⟨n, L[n], List.getElem?_eq_getElem (by omega), hr, h⟩
        · refine .inl (fun j b hj hb => ?_)
          by_cases e : j = n
          · subst e; rw [List.getElem?_eq_getElem (by omega)] at hb; simp at hb; subst hb; omega
          · exact h j b (by omega) hb
      · exact .inr h
  exact this _ (Nat.le_refl _)

theorem new_no {w : World} {n : Int} (hn : n < 1 ∨ 4096 < n) :
    Calls Try.prog 6 #[.int .i64 n] w fun e w' => e = .returned (.tuple #[.pointer none, .int .i64 1]) ∧ w = w' := by
  rcases hn with hn | hn
  · go_enter Try.func6, Try.ntmps6
    go_wp2
    go_ret2
    exact ⟨rfl, rfl⟩
  · have hn' : 1 ≤ n := by omega
    go_enter Try.func6, Try.ntmps6
    go_wp2
    go_ret2
    exact ⟨rfl, rfl⟩

/-- A new pool. -/
def NewPost (w : World) (n : Nat) (e : Ending) (w' : World) : Prop :=
  ∃ p ab, e = .returned (.tuple #[.pointer (some ⟨p, 0, none⟩), .int .i64 0]) ∧ PoolAt w' p ab (List.replicate n ⟨0, [], []⟩) ∧ w.heap.size ≤ p ∧ w.heap.size ≤ ab ∧ Only (fun _ => False) w w'

def zbuf : List Value := .int .i64 0 :: (List.replicate 392 (.int .u8 0) ++ [.int .i64 0, .int .i64 0, .int .i64 0])
theorem zbuf_len : zbuf.length = 396 := by simp [zbuf]
def zbufs (n : Nat) : List Value := (List.range (n * 396)).map fun i => zbuf[i % 396]?.getD default

theorem run_make_bufs (n : Nat) (hn : n ≤ 4096) (w : World) :
    (Instr.makeSlice 47 (.int .i64 (n : Int)) (.int .i64 (n : Int))).run Try.prog w = .ok (.slice (some ⟨w.heap.size, 0, none⟩) n n) (w.alloc (.cells (zbufs n).toArray 55)) := by
  have hq : (Try.prog.info? 55).map (fun i => (i.zero, i.size, i.bytes)) = some (some (.agg zbuf.toArray), 396, 424) := by kernel_rfl
  obtain ⟨i, hi, hz, h1, h2⟩ : ∃ i, Try.prog.info? 55 = some i ∧ i.zero = some (.agg zbuf.toArray) ∧ i.size = 396 ∧ i.bytes = 424 := by
    cases hi : Try.prog.info? 55 with
    | none => rw [hi] at hq; cases hq
    | some i => rw [hi] at hq; simp only [Option.map_some, Option.some.injEq, Prod.mk.injEq] at hq; exact ⟨i, rfl, hq.1, hq.2.1, hq.2.2⟩
  clear hq
  have := run_make (P := Try.prog) w 47 55 i _ Try.underlying47 hi hz .i64 .i64 (n : Int) (n : Int) (by omega) (by omega) (by rw [h2]; omega) (by omega)
  rw [this]
  simp only [Int.toNat_natCast, h1]
  have e : madeCells (Value.agg zbuf.toArray).cells (n * 396) = (zbufs n).toArray := by
    have e1 : (Value.agg zbuf.toArray).cells = zbuf.toArray := rfl
    rw [e1]
    apply Array.ext_getElem?
    intro j
    simp only [madeCells, zbufs]
    by_cases hj : j < n * 396
    · simp [hj, zbuf_len]
    · simp [hj]
  rw [e]

theorem zbufs_at {n k : Nat} (hk : k < n) : BufAt (zbufs n) (k * 396) ⟨0, [], []⟩ := by
  have hg : ∀ j, j < 396 → (zbufs n)[k * 396 + j]? = some (zbuf[j]?.getD default) := by
    intro j hj
    have h1 : k * 396 + j < n * 396 := by omega
    have h2 : (k * 396 + j) % 396 = j := by omega
    simp [zbufs, h1, h2]
  refine ⟨List.replicate 392 0, 0, by simp, ?_, ?_, ?_, ?_, ?_, by simp, by simp, by simp, by simp⟩
  · have := hg 0 (by omega); rw [Nat.add_zero] at this; rw [this]; rfl
  · intro j hj
    have hj' : j < 392 := by simpa using hj
    rw [Nat.add_assoc, hg (1 + j) (by omega)]
    have : zbuf[1 + j]? = some (.int .u8 0) := by
      rw [Nat.add_comm]
      unfold zbuf
      rw [List.getElem?_cons_succ, List.getElem?_append_left (by simpa using hj'), List.getElem?_replicate, if_pos hj']
    rw [this, List.getElem_replicate]; rfl
  · rw [hg 393 (by omega)]; rfl
  · rw [hg 394 (by omega)]; rfl
  · rw [hg 395 (by omega)]; rfl

theorem new_in {w : World} {n : Nat} (h1 : 1 ≤ n) (h2 : n ≤ 4096) : Calls Try.prog 6 #[.int .i64 (n : Int)] w (NewPost w n) := by
  have hm := run_make_bufs n h2
  have g1 : (1 : Int) ≤ (n : Int) := by omega
  have g2 : (n : Int) ≤ 4096 := by omega
  go_enter Try.func6, Try.ntmps6
  go_wp2
  go_ret2
  refine ⟨w.heap.size + 1, w.heap.size, rfl, ⟨?_, by omega, by simpa using h1, by simpa using h2, zbufs n, ?_, by simp [zbufs], ?_⟩, by omega, by omega, Only.alloc (Only.alloc (Only.refl _ _) _) _⟩
  · refine Blk.at_new (by simp) ?_
    have : nfree (List.replicate n ⟨0, [], []⟩) = n := by
      unfold nfree; rw [List.countP_replicate]; simp
    rw [this]; simp
  · exact Blk.alloc (Blk.at_new rfl rfl) _
  · intro k b hk
    rw [List.getElem?_replicate] at hk
    split at hk
    · rename_i hkn
      simp at hk; subst hk
      exact zbufs_at hkn
    · cases hk

end Go.Proofs.Ytpgnklmmjdkhiaa

/-
  What the pool's calls do, as plain functions; each call's contract for whatever it is handed.
-/
namespace Go.Proofs.Ytpgnklmmjdkhiaa
open Go.RowKit

/-- A buffer by its number. -/
def bufAt (L : List Bf) (id : Int) : Option Bf := if 0 ≤ id then L[id.toNat]? else none
def inUse (L : List Bf) (id : Int) : Bool := match bufAt L id with | some b => decide (0 < b.refs) | none => false
def putF (L : List Bf) (id : Int) (b : Bf) : List Bf := L.set id.toNat b
def freeF (L : List Bf) (id : Int) : Int × List Bf := match bufAt L id with | some b => if 0 < b.refs then (0, putF L id { b with refs := b.refs - 1 }) else (7, L) | none => (7, L)
/-- What a change answers, and makes: f, where it may be. -/
def ownF (L : List Bf) (id : Int) (f : Bf → Int × Bf) : Int × List Bf := match bufAt L id with
  | some b => if b.refs = 0 then (7, L) else if b.refs = 1 then (if (f b).1 = 0 then (0, putF L id (f b).2) else ((f b).1, L)) else (9, L)
  | none => (7, L)
def setF (d : List UInt8) (_ : Bf) : Int × Bf := if 288 < d.length then (2, ⟨1, [], []⟩) else (0, ⟨1, [], d⟩)
def appF (d : List UInt8) (b : Bf) : Int × Bf := if 288 < b.data.length + d.length then (2, b) else (0, { b with data := b.data ++ d })
instance (b : Bf) (f g : Int) : Decidable (MayTrim b f g) := by unfold MayTrim; infer_instance
def trimF (f g : Int) (b : Bf) : Int × Bf := if MayTrim b f g then (0, { b with data := (b.data.drop f.toNat).take (b.data.length - f.toNat - g.toNat) }) else (1, b)
theorem bufAt_nat {L : List Bf} {k : Nat} : bufAt L (k : Int) = L[k]? := by unfold bufAt; rw [if_pos (by omega), Int.toNat_natCast]
theorem bufAt_used {L : List Bf} {id : Int} : Used L id ↔ ∃ b, bufAt L id = some b ∧ 0 < b.refs := by
  constructor
  · rintro ⟨k, b, rfl, h1, h2⟩; exact ⟨b, by rw [bufAt_nat]; exact h1, h2⟩
  · rintro ⟨b, h1, h2⟩
    unfold bufAt at h1
    by_cases h0 : 0 ≤ id
    · rw [if_pos h0] at h1; exact ⟨id.toNat, b, by omega, h1, h2⟩
    · rw [if_neg h0] at h1; cases h1
theorem not_used_cases {L : List Bf} {id : Int} (h : ¬ Used L id) : bufAt L id = none ∨ ∃ b, bufAt L id = some b ∧ b.refs = 0 := by
  cases e : bufAt L id with
  | none => exact .inl rfl
  | some b => exact .inr ⟨b, rfl, by by_cases h0 : b.refs = 0; exact h0; exact absurd (bufAt_used.2 ⟨b, e, by omega⟩) h⟩
theorem inUse_iff {L : List Bf} {id : Int} : inUse L id = true ↔ Used L id := by
  rw [bufAt_used]; unfold inUse
  cases bufAt L id <;> simp
theorem ownF_no {L : List Bf} {id : Int} {f : Bf → Int × Bf} (h : ¬ Used L id) : ownF L id f = (7, L) := by
  unfold ownF
  rcases not_used_cases h with e | ⟨b, e, h0⟩
  · rw [e]
  · rw [e]; simp [h0]
theorem ownF_err {L : List Bf} {id x : Int} {f : Bf → Int × Bf} (h : OwnErr L id x) : ownF L id f = (x, L) := by
  rcases h with ⟨h, rfl⟩ | ⟨k, b, rfl, h1, h2, rfl⟩
  · exact ownF_no h
  · unfold ownF; rw [bufAt_nat, h1]; simp only
    rw [if_neg (by omega), if_neg (by omega)]
theorem ownF_in {L : List Bf} {k : Nat} {b : Bf} {f : Bf → Int × Bf} (h1 : L[k]? = some b) (h2 : b.refs = 1) : ownF L (k : Int) f = if (f b).1 = 0 then (0, L.set k (f b).2) else ((f b).1, L) := by
  unfold ownF putF; rw [bufAt_nat, h1]; simp only [Int.toNat_natCast]
  rw [if_neg (by omega), if_pos h2]
/-- What a call leaves. -/
def PoolTo (w : World) (p ab : Nat) (L' : List Bf) (w' : World) : Prop := PoolAt w' p ab L' ∧ Only (fun b => b = p ∨ b = ab) w w'
section
variable {w : World} {p ab : Nat} {L : List Bf}
theorem PoolTo.same (h : PoolAt w p ab L) : PoolTo w p ab L w := ⟨h, Only.refl _ _⟩
theorem PoolTo.buf {w' : World} {L' : List Bf} (h : PoolAt w' p ab L') (k : Only (fun b => b = ab) w w') : PoolTo w p ab L' w' := ⟨h, k.mono (fun _ h => .inl (.inr h))⟩
theorem free_any (h : PoolAt w p ab L) (id : Int) (hm : ∀ b ∈ L, b.refs < 1000000000000000) : Calls Try.prog 21 #[pt p 0, iw id] w fun e w' => e = .returned (iw (freeF L id).1) ∧ PoolTo w p ab (freeF L id).2 w' := by
  by_cases hu : Used L id
  · obtain ⟨k, b, rfl, hk, hr⟩ := hu
    have e : freeF L (k : Int) = (0, L.set k { b with refs := b.refs - 1 }) := by unfold freeF putF; rw [bufAt_nat, hk]; simp [hr]
    rw [e]
    exact (free_in h hk hr (hm b (List.mem_of_getElem? hk))).mono (by rintro e w' ⟨rfl, h1, h2⟩; exact ⟨rfl, h1, h2⟩)
  · have e : freeF L id = (7, L) := by
      unfold freeF
      rcases not_used_cases hu with e | ⟨b, e, h0⟩
      · rw [e]
      · rw [e]; simp [h0]
    rw [e]
    exact (free_no h hu).mono (by rintro e w' ⟨rfl, rfl⟩; exact ⟨rfl, PoolTo.same h⟩)
theorem set_any (h : PoolAt w p ab L) (id : Int) {v : Value} {d : List UInt8} (hd : BytesAt w v d) (hx : sliceIn v (fun b => ¬ b = ab)) : Calls Try.prog 9 #[pt p 0, iw id, v] w fun e w' => e = .returned (iw (ownF L id (setF d)).1) ∧ PoolTo w p ab (ownF L id (setF d)).2 w' := by
  obtain ⟨a, c, rfl⟩ := hd.form
  rcases own_cases L id with he | he | ⟨k, b, rfl, hk, hr⟩
  · rw [ownF_err he]; exact (set_err h he _ _ _).mono (by rintro e w' ⟨rfl, rfl⟩; exact ⟨rfl, PoolTo.same h⟩)
  · rw [ownF_err he]; exact (set_err h he _ _ _).mono (by rintro e w' ⟨rfl, rfl⟩; exact ⟨rfl, PoolTo.same h⟩)
  · rw [ownF_in hk hr]
    by_cases hl : d.length ≤ 288
    · have e : setF d b = (0, ⟨1, [], d⟩) := by unfold setF; rw [if_neg (by omega)]
      rw [e, if_pos rfl]
      exact (set_in h hk hr hd hx hl).mono (by rintro e w' ⟨rfl, h1, h2⟩; exact ⟨rfl, PoolTo.buf h1 h2⟩)
    · have e : setF d b = (2, ⟨1, [], []⟩) := by unfold setF; rw [if_pos (by omega)]
      rw [e, if_neg (by decide)]
      exact (set_long h hk hr _ _ _ (by omega)).mono (by rintro e w' ⟨rfl, rfl⟩; exact ⟨rfl, PoolTo.same h⟩)
theorem app_any (h : PoolAt w p ab L) (id : Int) {v : Value} {d : List UInt8} (hd : BytesAt w v d) (hx : sliceIn v (fun b => ¬ b = ab)) : Calls Try.prog 34 #[pt p 0, iw id, v] w fun e w' => e = .returned (iw (ownF L id (appF d)).1) ∧ PoolTo w p ab (ownF L id (appF d)).2 w' := by
  obtain ⟨a, c, rfl⟩ := hd.form
  have hlen := hd.len
  rcases own_cases L id with he | he | ⟨k, b, rfl, hk, hr⟩
  · rw [ownF_err he]; exact (append_err h he _ _ _).mono (by rintro e w' ⟨rfl, rfl⟩; exact ⟨rfl, PoolTo.same h⟩)
  · rw [ownF_err he]; exact (append_err h he _ _ _).mono (by rintro e w' ⟨rfl, rfl⟩; exact ⟨rfl, PoolTo.same h⟩)
  · rw [ownF_in hk hr]
    by_cases hl : b.data.length + d.length ≤ 288
    · have e : appF d b = (0, { b with data := b.data ++ d }) := by unfold appF; rw [if_neg (by omega)]
      rw [e, if_pos rfl]
      exact (append_in h hk hr hd hx hl).mono (by rintro e w' ⟨rfl, h1, h2⟩; exact ⟨rfl, PoolTo.buf h1 h2⟩)
    · have e : appF d b = (2, b) := by unfold appF; rw [if_pos (by omega)]
      rw [e, if_neg (show ¬ (2 : Int) = 0 by decide)]
      exact (append_long h hk hr _ _ _ (by omega) hlen).mono (by rintro e w' ⟨rfl, rfl⟩; exact ⟨rfl, PoolTo.same h⟩)
theorem trim_any (h : PoolAt w p ab L) (id f g : Int) : Calls Try.prog 23 #[pt p 0, iw id, iw f, iw g] w fun e w' => e = .returned (iw (ownF L id (trimF f g)).1) ∧ PoolTo w p ab (ownF L id (trimF f g)).2 w' := by
  rcases own_cases L id with he | he | ⟨k, b, rfl, hk, hr⟩
  · rw [ownF_err he]; exact (trim_err h he f g).mono (by rintro e w' ⟨rfl, rfl⟩; exact ⟨rfl, PoolTo.same h⟩)
  · rw [ownF_err he]; exact (trim_err h he f g).mono (by rintro e w' ⟨rfl, rfl⟩; exact ⟨rfl, PoolTo.same h⟩)
  · rw [ownF_in hk hr]
    by_cases hl : MayTrim b f g
    · have e : trimF f g b = (0, { b with data := (b.data.drop f.toNat).take (b.data.length - f.toNat - g.toNat) }) := by unfold trimF; rw [if_pos hl]
      rw [e, if_pos rfl]
      exact (trim_in h hk hr hl).mono (by rintro e w' ⟨rfl, h1, h2⟩; exact ⟨rfl, PoolTo.buf h1 h2⟩)
    · have e : trimF f g b = (1, b) := by unfold trimF; rw [if_neg hl]
      rw [e, if_neg (show ¬ (1 : Int) = 0 by decide)]
      exact (trim_arg h hk hr hl).mono (by rintro e w' ⟨rfl, rfl⟩; exact ⟨rfl, PoolTo.same h⟩)
/-- The first one that is free. -/
def getF (L : List Bf) : (Int × Int) × List Bf := match L.findIdx? (fun b => b.refs == 0) with | some k => (((k : Int), 0), L.set k ⟨1, [], []⟩) | none => ((0, 8), L)
theorem get_any (h : PoolAt w p ab L) : Calls Try.prog 8 #[pt p 0] w fun e w' => e = .returned (.tuple #[iw (getF L).1.1, iw (getF L).1.2]) ∧ PoolTo w p ab (getF L).2 w' := by
  unfold getF
  cases e : L.findIdx? (fun b => b.refs == 0) with
  | none =>
    rw [List.findIdx?_eq_none_iff] at e
    exact (get_none h (fun j b _ hb => by have := e b (List.mem_of_getElem? hb); simp at this; omega)).mono (by rintro e w' ⟨rfl, rfl⟩; exact ⟨rfl, PoolTo.same h⟩)
  | some k =>
    rw [List.findIdx?_eq_some_iff_getElem] at e
    obtain ⟨hk, h1, h2⟩ := e
    have hr : L[k].refs = 0 := by simpa using h1
    exact (get_in h (List.getElem?_eq_getElem hk) hr (fun j b hj hb => by
      obtain ⟨hjl, rfl⟩ := List.getElem?_eq_some_iff.1 hb
      have := h2 j hj; simp at this; omega)).mono (by rintro e w' ⟨rfl, h1, h2⟩; exact ⟨rfl, h1, h2⟩)
end
end Go.Proofs.Ytpgnklmmjdkhiaa

/-
  A pool as something that is known: for the walks of those that use it.
-/
namespace Go.Proofs.Ytpgnklmmjdkhiaa
open Go.RowKit

theorem PoolAt.agree {w w' : World} {p ab : Nat} {L : List Bf} (h : PoolAt w p ab L) (hw : ∀ b, b = p ∨ b = ab → w'.heap[b]? = w.heap[b]?) : PoolAt w' p ab L := by
  obtain ⟨hp, hne, a1, a2, c, hc, hr⟩ := h
  exact ⟨by unfold Blk; rw [hw p (.inl rfl)]; exact hp, hne, a1, a2, c, by unfold Blk; rw [hw ab (.inr rfl)]; exact hc, hr⟩
def rPool (p ab : Nat) (L : List Bf) : Res where
  ok w := PoolAt w p ab L
  fp b := b = p ∨ b = ab
  lt w h b hb := by rcases hb with rfl | rfl; exact h.lt.1; exact h.lt.2
  st w w' h hw := h.agree hw
theorem pool_sizes {w : World} {p ab : Nat} {L : List Bf} (h : PoolAt w p ab L) : ∀ b ∈ L, b.head.length ≤ 104 ∧ b.data.length ≤ 288 := by
  intro b hb
  obtain ⟨_, _, _, _, c, _, _, hr⟩ := h
  obtain ⟨k, hk, rfl⟩ := List.getElem_of_mem hb
  obtain ⟨mem, fr, _, _, _, _, _, _, _, _, h1, h2⟩ := hr k _ (List.getElem?_eq_getElem hk)
  exact ⟨h1, by omega⟩
/-- What is told of a buffer. -/
def seeF (L : List Bf) (id : Int) : Bf × Int := match bufAt L id with | some b => if 0 < b.refs then (b, 0) else (⟨0, [], []⟩, 7) | none => (⟨0, [], []⟩, 7)
theorem seeF_no {L : List Bf} {id : Int} (h : ¬ Used L id) : seeF L id = (⟨0, [], []⟩, 7) := by
  unfold seeF
  rcases not_used_cases h with e | ⟨b, e, h0⟩
  · rw [e]
  · rw [e]; simp [h0]
theorem see_any {w : World} {p ab : Nat} {L : List Bf} (h : PoolAt w p ab L) (id : Int) : Calls Try.prog 29 #[pt p 0, iw id] w fun e w' => ∃ qh ch qd cd,
    e = .returned (.tuple #[.agg #[iw ((seeF L id).1.refs : Int), .slice qh (seeF L id).1.head.length ch, .slice qd (seeF L id).1.data.length cd], iw (seeF L id).2]) ∧
      OwnBytes w' 0 5 (.slice qh (seeF L id).1.head.length ch) (seeF L id).1.head ∧ OwnBytes w' 0 5 (.slice qd (seeF L id).1.data.length cd) (seeF L id).1.data ∧
      (∀ b, (Value.slice qh (seeF L id).1.head.length ch).ownBlock = some b → w.heap.size ≤ b) ∧ (∀ b, (Value.slice qd (seeF L id).1.data.length cd).ownBlock = some b → w.heap.size ≤ b) ∧
      (∀ b, (Value.slice qh (seeF L id).1.head.length ch).ownBlock = some b → (Value.slice qd (seeF L id).1.data.length cd).ownBlock = some b → False) ∧ Only (fun _ => False) w w' := by
  by_cases hu : Used L id
  · obtain ⟨k, b, rfl, hk, hr⟩ := hu
    have e : seeF L (k : Int) = (b, 0) := by unfold seeF; rw [bufAt_nat, hk]; simp [hr]
    rw [e]
    have hb := pool_sizes h b (List.mem_of_getElem? hk)
    refine (see_in h hk hr).mono ?_
    rintro e w' ⟨bh, bd, rfl, h1, h2, h3, h4, h5, h6⟩
    refine ⟨_, _, _, _, rfl, ownb_new h1 (show b.head.length ≤ _ by omega), ownb_new h2 (show b.data.length ≤ _ by omega), fun b hb => by simp [Value.ownBlock] at hb; omega, fun b hb => by simp [Value.ownBlock] at hb; omega, fun b h7 h8 => ?_, h6⟩
    simp [Value.ownBlock] at h7 h8
    omega
  · rw [seeF_no hu]
    refine (see_no h hu).mono ?_
    rintro e w' ⟨rfl, h1⟩
    exact ⟨none, 0, none, 0, rfl, ownb_nil _ _, ownb_nil _ _, fun b hb => by simp [Value.ownBlock] at hb, fun b hb => by simp [Value.ownBlock] at hb, fun b hb => by simp [Value.ownBlock] at hb, h1⟩
section
variable {P : Program} {X : Cx} {l : List Res}
theorem pool_at {w : World} {i p ab : Nat} {L : List Bf} (h : Inv X w l) (hi : l[i]? = some (rPool p ab L)) : PoolAt w p ab L := h.1.get hi
theorem Inv.poolTo {w w' : World} {i p ab : Nat} {L L' : List Bf} (h : Inv X w l) (hi : l[i]? = some (rPool p ab L)) (hS : ∀ b, b = p ∨ b = ab → X.S b ∨ X.w0.heap.size ≤ b) (k : PoolTo w p ab L' w') : Inv X w' (l.set i (rPool p ab L')) :=
  h.upd hi k.2 hS k.1 (fun b hb => .inl hb)
theorem Inv.saw {w w' : World} {vh vd : Value} {fh fd : List UInt8} {U : TypeId} (h : Inv X w l) (h1 : OwnBytes w' 0 U vh fh) (h2 : OwnBytes w' 0 U vd fd) (h3 : ∀ b, vh.ownBlock = some b → w.heap.size ≤ b) (h4 : ∀ b, vd.ownBlock = some b → w.heap.size ≤ b) (h5 : ∀ b, vh.ownBlock = some b → vd.ownBlock = some b → False)
    (hO : Only (fun _ => False) w w') : Inv X w' (l ++ [rMine vh fh U] ++ [rMine vd fd U]) := by
  have k1 : Inv X w' (l ++ [rMine vh fh U]) := h.add hO h1 h3
  have hp := k1.1
  refine ⟨⟨fun s hs => ?_, ?_⟩, k1.2⟩
  · rcases List.mem_append.1 hs with hs | hs
    · exact hp.1 s hs
    · simp at hs; subst hs; exact h2
  · rw [List.pairwise_append]
    refine ⟨hp.2, List.pairwise_singleton _ _, fun s hs q hq b e1 e2 => ?_⟩
    simp only [List.mem_singleton] at hq
    subst hq
    have e2' : vd.ownBlock = some b := e2
    rcases List.mem_append.1 hs with hs | hs
    · have := s.lt w (h.1.1 s hs) b e1
      have := h4 b e2'
      omega
    · simp at hs; subst hs
      exact h5 b e1 e2'
end
end Go.Proofs.Ytpgnklmmjdkhiaa

/-
  The queue's small functions.
-/
namespace Go.Proofs.Ytpgnklmmjdkhiaa
open Go.RowKit
set_option maxRecDepth 100000
set_option maxHeartbeats 4000000
/-- Some bytes in a buffer. -/
structure Pc where
  off : Int
  buf : Int
  skip : Int
  size : Int
  fin : Bool
def Pc.row (x : Pc) : List Value := [iw x.off, iw x.buf, iw x.skip, iw x.size, bo x.fin]

theorem end_any (w : World) (x : Pc) : Calls Try.prog 27 #[.agg x.row.toArray] w fun e w' => e = .returned (iw (IntKind.i64.wrap (x.off + x.size))) ∧ Only (fun _ => False) w w' := by
  refine calls_sc (l0 := []) (args := [.agg x.row.toArray]) (fun _ => False) Try.func27 rfl 8 Try.ntmps27 (le_b rfl) ⟨⟨by simp, List.Pairwise.nil⟩, Only.refl _ _⟩ ?_
  show SC _ _ _ _ [(0, Value.agg #[iw x.off, iw x.buf, iw x.skip, iw x.size, bo x.fin])] []
  refine SC.seq ?_
  refine SC.region ?_
  refine SL.box (c := [iw x.off, iw x.buf, iw x.skip, iw x.size, bo x.fin]) rfl rfl (lt_b rfl) rfl rfl rfl fun b1 hb1 => ?_
  refine SL.ru rfl rfl (lt_b rfl) (ru_assign rfl rfl) ?_
  refine SL.nil ?_
  refine SC.of_SE ?_
  refine SC.norm [(1, pt b1 0), (2, iw 0)] [rBlk b1 [iw x.off, iw x.buf, iw x.skip, iw x.size, bo x.fin] 61] ⟨rfl, rfl, trivial⟩ rfl ?_
  refine SC.seq ?_
  refine SC.region ?_
  refine SL.ru rfl rfl (lt_b rfl) (ru_fieldAddr (o2 := 0) fd61_0 rfl rfl rfl) ?_
  refine SL.ru rfl rfl (lt_b rfl) (ru_load (i := 0) ts3 rfl rfl rfl rfl) ?_
  refine SL.ru rfl rfl (lt_b rfl) (ru_fieldAddr (o2 := 3) fd61_3 rfl rfl rfl) ?_
  refine SL.ru rfl rfl (lt_b rfl) (ru_load (i := 0) ts3 rfl rfl rfl rfl) ?_
  refine SL.ru rfl rfl (lt_b rfl) (ru_add (r := (IntKind.i64.wrap (x.off + x.size))) rfl rfl rfl rfl) ?_
  refine SL.ru rfl rfl (lt_b rfl) (ru_assign rfl rfl) ?_
  refine SL.nil ?_
  refine SC.of_SE ?_
  refine SC.norm [(2, iw (IntKind.i64.wrap (x.off + x.size)))] [rBlk b1 [iw x.off, iw x.buf, iw x.skip, iw x.size, bo x.fin] 61] ⟨rfl, trivial⟩ rfl ?_
  refine SC.ret ?_
  refine SE.res (.inl rfl) (res1 Try.results27 rfl) fun w1 hI => ⟨rfl, hI.2⟩

theorem room_any {w : World} {d p : Nat} {q1 q2 : Option Addr} {n1 c1 n2 c2 : Nat} {nxt hv last : Int} {gone : Bool} (h : Blk w d [pt p 0, Value.slice q1 n1 c1, Value.slice q2 n2 c2, iw nxt, iw hv, iw last, bo gone] 52) : Calls Try.prog 25 #[pt d 0] w fun e w' => e = .returned (iw (IntKind.i64.wrap (1024 - hv))) ∧ Only (fun _ => False) w w' := by
  refine calls_sc (l0 := [rBlk d [pt p 0, Value.slice q1 n1 c1, Value.slice q2 n2 c2, iw nxt, iw hv, iw last, bo gone] 52]) (args := [pt d 0]) (fun _ => False) Try.func25 rfl 8 Try.ntmps25 (le_b rfl) ⟨⟨fun q hq => by simp at hq; subst hq; exact h, List.pairwise_singleton _ _⟩, Only.refl _ _⟩ ?_
  show SC _ _ _ _ [(0, pt d 0)] [rBlk d [pt p 0, Value.slice q1 n1 c1, Value.slice q2 n2 c2, iw nxt, iw hv, iw last, bo gone] 52]
  refine SC.seq ?_
  refine SC.region ?_
  refine SL.ru rfl rfl (lt_b rfl) (ru_assign rfl rfl) ?_
  refine SL.nil ?_
  refine SC.of_SE ?_
  refine SC.norm [(0, pt d 0), (2, iw 0)] [rBlk d [pt p 0, Value.slice q1 n1 c1, Value.slice q2 n2 c2, iw nxt, iw hv, iw last, bo gone] 52] ⟨rfl, rfl, trivial⟩ rfl ?_
  refine SC.seq ?_
  refine SC.region ?_
  refine SL.ru rfl rfl (lt_b rfl) (ru_move rfl rfl) ?_
  refine SL.ru rfl rfl (lt_b rfl) (ru_nilCheck rfl rfl) ?_
  refine SL.ru rfl rfl (lt_b rfl) (ru_fieldAddr (o2 := 4) fd52_4 rfl rfl rfl) ?_
  refine SL.ru rfl rfl (lt_b rfl) (ru_load (i := 0) ts3 rfl rfl rfl rfl) ?_
  refine SL.ru rfl rfl (lt_b rfl) (ru_sub (r := (IntKind.i64.wrap (1024 - hv))) rfl rfl rfl rfl) ?_
  refine SL.ru rfl rfl (lt_b rfl) (ru_assign rfl rfl) ?_
  refine SL.nil ?_
  refine SC.of_SE ?_
  refine SC.norm [(2, iw (IntKind.i64.wrap (1024 - hv)))] [rBlk d [pt p 0, Value.slice q1 n1 c1, Value.slice q2 n2 c2, iw nxt, iw hv, iw last, bo gone] 52] ⟨rfl, trivial⟩ rfl ?_
  refine SC.ret ?_
  refine SE.res (.inl rfl) (res1 Try.results25 rfl) fun w1 hI => ⟨rfl, hI.2⟩

theorem ended_any {w : World} {d p : Nat} {q1 q2 : Option Addr} {n1 c1 n2 c2 : Nat} {nxt hv last : Int} {gone : Bool} (h : Blk w d [pt p 0, Value.slice q1 n1 c1, Value.slice q2 n2 c2, iw nxt, iw hv, iw last, bo gone] 52) : Calls Try.prog 12 #[pt d 0] w fun e w' => e = .returned (bo (decide ((0 : Int) ≤ last) && (nxt == last))) ∧ Only (fun _ => False) w w' := by
  refine calls_sc (l0 := [rBlk d [pt p 0, Value.slice q1 n1 c1, Value.slice q2 n2 c2, iw nxt, iw hv, iw last, bo gone] 52]) (args := [pt d 0]) (fun _ => False) Try.func12 rfl 19 Try.ntmps12 (le_b rfl) ⟨⟨fun q hq => by simp at hq; subst hq; exact h, List.pairwise_singleton _ _⟩, Only.refl _ _⟩ ?_
  show SC _ _ _ _ [(0, pt d 0)] [rBlk d [pt p 0, Value.slice q1 n1 c1, Value.slice q2 n2 c2, iw nxt, iw hv, iw last, bo gone] 52]
  refine SC.seq ?_
  refine SC.region ?_
  refine SL.ru rfl rfl (lt_b rfl) (ru_assign rfl rfl) ?_
  refine SL.nil ?_
  refine SC.of_SE ?_
  refine SC.norm [(0, pt d 0), (2, bo false)] [rBlk d [pt p 0, Value.slice q1 n1 c1, Value.slice q2 n2 c2, iw nxt, iw hv, iw last, bo gone] 52] ⟨rfl, rfl, trivial⟩ rfl ?_
  refine SC.seq ?_
  refine SC.region_quiet (by kernel_rfl) (by kernel_rfl) ?_
  refine SQ.ru rfl rfl (lt_b rfl) (ru_move rfl rfl) ?_
  refine SQ.ru rfl rfl (lt_b rfl) (ru_nilCheck rfl rfl) ?_
  refine SQ.ru rfl rfl (lt_b rfl) (ru_fieldAddr (o2 := 5) fd52_5 rfl rfl rfl) ?_
  refine SQ.ru rfl rfl (lt_b rfl) (ru_load (i := 0) ts3 rfl rfl rfl rfl) ?_
  refine SQ.ru rfl rfl (lt_b rfl) (ru_ge (b := (decide ((0 : Int) ≤ last))) rfl rfl rfl rfl) ?_
  refine SQ.ru rfl rfl (lt_b rfl) (ru_move rfl rfl) ?_
  refine SQ.join 10 [(0, pt d 0), (2, bo false), (3, pt d 0), (4, pt d 0), (5, pt d 5), (6, iw last), (7, bo (decide ((0 : Int) ≤ last))), (8, bo (decide ((0 : Int) ≤ last))), (18, bo ((decide ((0 : Int) ≤ last)) && ((nxt : Int) == last)))] ?_ ?_
  rotate_left
  · intro K hK
    rcases tf (decide ((0 : Int) ≤ last)) with h1 | h1
    · skip
      refine SQ.norm [(0, pt d 0), (2, bo false), (3, pt d 0), (4, pt d 0), (5, pt d 5), (6, iw last), (7, bo true), (8, bo true)] ⟨rfl, rfl, rfl, rfl, rfl, rfl, (congrArg (fun x => some (Value.bool x)) h1), (congrArg (fun x => some (Value.bool x)) h1), trivial⟩ ?_
      refine SQ.rug rfl rfl rfl rfl (lt_b rfl) (ru_move rfl rfl) ?_
      refine SQ.rug rfl rfl rfl rfl (lt_b rfl) (ru_nilCheck rfl rfl) ?_
      refine SQ.rug rfl rfl rfl rfl (lt_b rfl) (ru_fieldAddr (o2 := 3) fd52_3 rfl rfl rfl) ?_
      refine SQ.rug rfl rfl rfl rfl (lt_b rfl) (ru_load (i := 0) ts3 rfl rfl rfl rfl) ?_
      refine SQ.rug rfl rfl rfl rfl (lt_b rfl) (ru_move rfl rfl) ?_
      refine SQ.rug rfl rfl rfl rfl (lt_b rfl) (ru_nilCheck rfl rfl) ?_
      refine SQ.rug rfl rfl rfl rfl (lt_b rfl) (ru_fieldAddr (o2 := 5) fd52_5 rfl rfl rfl) ?_
      refine SQ.rug rfl rfl rfl rfl (lt_b rfl) (ru_load (i := 0) ts3 rfl rfl rfl rfl) ?_
      refine SQ.rug rfl rfl rfl rfl (lt_b rfl) (ru_eq (b := ((nxt : Int) == last)) rfl rfl rfl rfl) ?_
      refine SQ.ru rfl rfl (lt_b rfl) (ru_pick (u := bo ((nxt : Int) == last)) (v := bo false) rfl rfl rfl rfl) ?_
      exact SQ.joined hK ⟨rfl, rfl, rfl, rfl, rfl, rfl, (congrArg (fun x => some (Value.bool x)) h1.symm), (congrArg (fun x => some (Value.bool x)) h1.symm), (congrArg (fun x => some (Value.bool (x && ((nxt : Int) == last)))) h1.symm), trivial⟩
    · skip
      refine SQ.norm [(0, pt d 0), (2, bo false), (3, pt d 0), (4, pt d 0), (5, pt d 5), (6, iw last), (7, bo false), (8, bo false)] ⟨rfl, rfl, rfl, rfl, rfl, rfl, (congrArg (fun x => some (Value.bool x)) h1), (congrArg (fun x => some (Value.bool x)) h1), trivial⟩ ?_
      refine SQ.off (b := false) rfl rfl rfl rfl rfl (lt_b rfl) ?_
      refine SQ.off (b := false) rfl rfl rfl rfl rfl (lt_b rfl) ?_
      refine SQ.off (b := false) rfl rfl rfl rfl rfl (lt_b rfl) ?_
      refine SQ.off (b := false) rfl rfl rfl rfl rfl (lt_b rfl) ?_
      refine SQ.off (b := false) rfl rfl rfl rfl rfl (lt_b rfl) ?_
      refine SQ.off (b := false) rfl rfl rfl rfl rfl (lt_b rfl) ?_
      refine SQ.off (b := false) rfl rfl rfl rfl rfl (lt_b rfl) ?_
      refine SQ.off (b := false) rfl rfl rfl rfl rfl (lt_b rfl) ?_
      refine SQ.off (b := false) rfl rfl rfl rfl rfl (lt_b rfl) ?_
      refine SQ.ru rfl rfl (lt_b rfl) (ru_pick (u := undef) (v := bo false) rfl rfl rfl rfl) ?_
      exact SQ.joined hK ⟨rfl, rfl, rfl, rfl, rfl, rfl, (congrArg (fun x => some (Value.bool x)) h1.symm), (congrArg (fun x => some (Value.bool x)) h1.symm), (congrArg (fun x => some (Value.bool (x && ((nxt : Int) == last)))) h1.symm), trivial⟩
  skip
  refine SQ.ru rfl rfl (lt_b rfl) (ru_assign rfl rfl) ?_
  refine SQ.nilE ?_
  refine SC.of_SE ?_
  refine SC.norm [(2, bo ((decide ((0 : Int) ≤ last)) && ((nxt : Int) == last)))] [rBlk d [pt p 0, Value.slice q1 n1 c1, Value.slice q2 n2 c2, iw nxt, iw hv, iw last, bo gone] 52] ⟨rfl, trivial⟩ rfl ?_
  refine SC.ret ?_
  refine SE.res (.inl rfl) (res1 Try.results12 rfl) fun w1 hI => ⟨rfl, hI.2⟩

end Go.Proofs.Ytpgnklmmjdkhiaa

/-
  Behind all bytes that came.
-/
namespace Go.Proofs.Ytpgnklmmjdkhiaa
open Go.RowKit
set_option maxRecDepth 100000
set_option maxHeartbeats 4000000
/-- Behind all bytes that came. -/
def farF (nxt : Int) (M : List Pc) : Int := M.foldl (fun n x => if 0 < x.size then max n (IntKind.i64.wrap (x.off + x.size)) else n) nxt
theorem far_snoc {nxt : Int} {M : List Pc} {x : Pc} {j : Nat} (h : M[j]? = some x) : farF nxt (M.take (j + 1)) = if 0 < x.size then max (farF nxt (M.take j)) (IntKind.i64.wrap (x.off + x.size)) else farF nxt (M.take j) := by
  unfold farF
  rw [List.take_add_one, h]
  simp
theorem far_step {nxt : Int} {M : List Pc} {x : Pc} {nn : Nat} {b : Bool} (h : M[M.length - nn]? = some x) (h0 : 0 < nn) (hn : nn ≤ M.length) (e : decide ((0 : Int) < x.size) = b) : farF nxt (M.take (M.length - (nn - 1))) = if b then max (farF nxt (M.take (M.length - nn))) (IntKind.i64.wrap (x.off + x.size)) else farF nxt (M.take (M.length - nn)) := by
  rw [show M.length - (nn - 1) = (M.length - nn) + 1 by omega, far_snoc h]
  subst e
  simp
theorem far_any {w : World} {d p : Nat} {q1 q2 : Option Addr} {n1 c1 c2 : Nat} {nxt hv last : Int} {gone : Bool} {M : List Pc} (hM : M.length ≤ 1000) (h : Sep w [rBlk d [pt p 0, Value.slice q1 n1 c1, Value.slice q2 M.length c2, iw nxt, iw hv, iw last, bo gone] 52, rRowN (.slice q2 M.length c2) (M.map Pc.row) 61 5]) : Calls Try.prog 30 #[pt d 0] w fun e w' => e = .returned (iw (farF nxt M)) ∧ Only (fun _ => False) w w' := by
  refine calls_sc (l0 := [rBlk d [pt p 0, Value.slice q1 n1 c1, Value.slice q2 M.length c2, iw nxt, iw hv, iw last, bo gone] 52, rRowN (.slice q2 M.length c2) (M.map Pc.row) 61 5]) (args := [pt d 0]) (fun _ => False) Try.func30 rfl 28 Try.ntmps30 (le_b rfl) ⟨h, Only.refl _ _⟩ ?_
  show SC _ _ _ _ [(0, pt d 0)] [rBlk d [pt p 0, Value.slice q1 n1 c1, Value.slice q2 M.length c2, iw nxt, iw hv, iw last, bo gone] 52, rRowN (.slice q2 M.length c2) (M.map Pc.row) 61 5]
  refine SC.seq ?_
  refine SC.region ?_
  refine SL.ru rfl rfl (lt_b rfl) (ru_assign rfl rfl) ?_
  refine SL.nil ?_
  refine SC.of_SE ?_
  refine SC.norm [(0, pt d 0), (2, iw 0)] [rBlk d [pt p 0, Value.slice q1 n1 c1, Value.slice q2 M.length c2, iw nxt, iw hv, iw last, bo gone] 52, rRowN (.slice q2 M.length c2) (M.map Pc.row) 61 5] ⟨rfl, rfl, trivial⟩ rfl ?_
  refine SC.seq ?_
  refine SC.region ?_
  refine SL.ru rfl rfl (lt_b rfl) (ru_move rfl rfl) ?_
  refine SL.ru rfl rfl (lt_b rfl) (ru_nilCheck rfl rfl) ?_
  refine SL.ru rfl rfl (lt_b rfl) (ru_fieldAddr (o2 := 3) fd52_3 rfl rfl rfl) ?_
  refine SL.ru rfl rfl (lt_b rfl) (ru_load (i := 0) ts3 rfl rfl rfl rfl) ?_
  refine SL.ru rfl rfl (lt_b rfl) (ru_assign rfl rfl) ?_
  refine SL.nil ?_
  refine SC.of_SE ?_
  refine SC.norm [(0, pt d 0), (2, iw 0), (3, iw nxt)] [rBlk d [pt p 0, Value.slice q1 n1 c1, Value.slice q2 M.length c2, iw nxt, iw hv, iw last, bo gone] 52, rRowN (.slice q2 M.length c2) (M.map Pc.row) 61 5] ⟨rfl, rfl, rfl, trivial⟩ rfl ?_
  refine SC.seq ?_
  refine SC.seq ?_
  refine SC.region ?_
  refine SL.ru rfl rfl (lt_b rfl) (ru_move rfl rfl) ?_
  refine SL.ru rfl rfl (lt_b rfl) (ru_nilCheck rfl rfl) ?_
  refine SL.ru rfl rfl (lt_b rfl) (ru_fieldAddr (o2 := 2) fd52_2 rfl rfl rfl) ?_
  refine SL.ru rfl rfl (lt_b rfl) (ru_load (i := 0) ts50 rfl rfl rfl rfl) ?_
  refine SL.ru rfl rfl (lt_b rfl) (ru_len Try.underlying50 rfl rfl) ?_
  refine SL.ru rfl rfl (lt_b rfl) (ru_move rfl rfl) ?_
  refine SL.nil ?_
  refine SC.of_SE ?_
  refine SC.norm [(2, iw 0), (3, iw nxt), (13, Value.slice q2 M.length c2), (14, iw (M.length : Int)), (15, iw 0)] [rBlk d [pt p 0, Value.slice q1 n1 c1, Value.slice q2 M.length c2, iw nxt, iw hv, iw last, bo gone] 52, rRowN (.slice q2 M.length c2) (M.map Pc.row) 61 5] ⟨rfl, rfl, rfl, rfl, rfl, trivial⟩ rfl ?_
  refine SC.block ?_
  refine SC.loop (γ := Unit) (fun nn _ => [(2, iw 0), (3, iw (farF nxt (M.take (M.length - nn)))), (13, Value.slice q2 M.length c2), (14, iw (M.length : Int)), (15, iw ((M.length : Int) - (nn : Int)))]) (fun nn _ => [rBlk d [pt p 0, Value.slice q1 n1 c1, Value.slice q2 M.length c2, iw nxt, iw hv, iw last, bo gone] 52, rRowN (.slice q2 M.length c2) (M.map Pc.row) 61 5]) (fun nn _ => nn ≤ M.length) M.length () (Nat.le_refl _) ⟨rfl, (congrArg (fun x => some (iw x)) (show nxt = farF nxt (M.take (M.length - M.length)) by rw [Nat.sub_self]; rfl)), rfl, rfl, (congrArg (fun x => some (iw x)) (show (0 : Int) = (M.length : Int) - ((M.length : Nat) : Int) by omega)), trivial⟩ rfl ?_
  rintro nn ⟨⟩ hn
  rcases Nat.eq_zero_or_pos nn with h0 | h0
  · skip
    refine SC.seq ?_
    refine SC.region ?_
    refine SL.ru rfl rfl (lt_b rfl) (ru_lt (b := (decide ((((M.length : Int) - (nn : Int)) : Int) < (M.length : Int)))) rfl rfl rfl rfl) ?_
    refine SL.nil ?_
    refine SC.of_SE ?_
    refine SC.norm [(2, iw 0), (3, iw (farF nxt (M.take (M.length - nn)))), (13, Value.slice q2 M.length c2), (14, iw (M.length : Int)), (15, iw ((M.length : Int) - (nn : Int))), (16, bo (decide ((((M.length : Int) - (nn : Int)) : Int) < (M.length : Int))))] [rBlk d [pt p 0, Value.slice q1 n1 c1, Value.slice q2 M.length c2, iw nxt, iw hv, iw last, bo gone] 52, rRowN (.slice q2 M.length c2) (M.map Pc.row) 61 5] ⟨rfl, rfl, rfl, rfl, rfl, rfl, trivial⟩ rfl ?_
    refine SC.seq ?_
    refine SC.no (show some (Value.bool (decide ((((M.length : Int) - (nn : Int)) : Int) < (M.length : Int)))) = some (Value.bool false) from congrArg (fun x => some (Value.bool x)) (decide_eq_false (by omega))) ?_
    refine SC.exit ?_
    refine SE.passe ?_
    refine SE.passe ?_
    refine SE.blke ?_
    refine SC.of_SE ?_
    refine SC.norm [(2, iw 0), (3, iw (farF nxt (M.take (M.length - nn))))] [rBlk d [pt p 0, Value.slice q1 n1 c1, Value.slice q2 M.length c2, iw nxt, iw hv, iw last, bo gone] 52, rRowN (.slice q2 M.length c2) (M.map Pc.row) 61 5] ⟨rfl, rfl, trivial⟩ rfl ?_
    refine SC.seq ?_
    refine SC.region ?_
    refine SL.ru rfl rfl (lt_b rfl) (ru_move rfl rfl) ?_
    refine SL.ru rfl rfl (lt_b rfl) (ru_assign rfl rfl) ?_
    refine SL.nil ?_
    refine SC.of_SE ?_
    refine SC.norm [(2, iw (farF nxt (M.take (M.length - nn))))] [rBlk d [pt p 0, Value.slice q1 n1 c1, Value.slice q2 M.length c2, iw nxt, iw hv, iw last, bo gone] 52, rRowN (.slice q2 M.length c2) (M.map Pc.row) 61 5] ⟨rfl, trivial⟩ rfl ?_
    refine SC.ret ?_
    have e : M.take (M.length - nn) = M := by rw [h0]; exact List.take_of_length_le (Nat.le_refl _)
    refine SE.res (.inl rfl) (res1 Try.results30 rfl) fun w1 hI => ⟨by rw [e], hI.2⟩
  · skip
    obtain ⟨x, hx⟩ : ∃ x, M[M.length - nn]? = some x := ⟨_, List.getElem?_eq_getElem (by omega)⟩
    refine SC.seq ?_
    refine SC.region ?_
    refine SL.ru rfl rfl (lt_b rfl) (ru_lt (b := (decide ((((M.length : Int) - (nn : Int)) : Int) < (M.length : Int)))) rfl rfl rfl rfl) ?_
    refine SL.nil ?_
    refine SC.of_SE ?_
    refine SC.norm [(2, iw 0), (3, iw (farF nxt (M.take (M.length - nn)))), (13, Value.slice q2 M.length c2), (14, iw (M.length : Int)), (15, iw ((M.length : Int) - (nn : Int))), (16, bo (decide ((((M.length : Int) - (nn : Int)) : Int) < (M.length : Int))))] [rBlk d [pt p 0, Value.slice q1 n1 c1, Value.slice q2 M.length c2, iw nxt, iw hv, iw last, bo gone] 52, rRowN (.slice q2 M.length c2) (M.map Pc.row) 61 5] ⟨rfl, rfl, rfl, rfl, rfl, rfl, trivial⟩ rfl ?_
    refine SC.seq ?_
    refine SC.yes (show some (Value.bool (decide ((((M.length : Int) - (nn : Int)) : Int) < (M.length : Int)))) = some (Value.bool true) from congrArg (fun x => some (Value.bool x)) (decide_eq_true (by omega))) ?_
    refine SC.skip ?_
    refine SC.of_SE ?_
    refine SC.norm [(2, iw 0), (3, iw (farF nxt (M.take (M.length - nn)))), (13, Value.slice q2 M.length c2), (14, iw (M.length : Int)), (15, iw ((M.length : Int) - (nn : Int)))] [rBlk d [pt p 0, Value.slice q1 n1 c1, Value.slice q2 M.length c2, iw nxt, iw hv, iw last, bo gone] 52, rRowN (.slice q2 M.length c2) (M.map Pc.row) 61 5] ⟨rfl, rfl, rfl, rfl, rfl, trivial⟩ rfl ?_
    refine SC.seq ?_
    refine SC.block ?_
    refine SC.seq ?_
    refine SC.region ?_
    refine SL.ru rfl rfl (lt_b rfl) (ru_index_rowN (ri := 1) si50 rfl rfl rfl rfl (by omega) (by omega)) ?_
    refine SL.ru rfl rfl (lt_b rfl) (ru_loada_rowN (ri := 1) (r := x.row) ta61 rfl rfl rfl (by rw [show ((M.length : Int) - (nn : Int)).toNat = M.length - nn by omega, List.getElem?_map, hx]; rfl) rfl rfl) ?_
    refine SL.alloca rfl rfl (lt_b rfl) ta61 rfl fun b1 hb1 => ?_
    refine SL.storea (i := 2) (vs := [iw x.off, iw x.buf, iw x.skip, iw x.size, bo x.fin]) (c' := [iw x.off, iw x.buf, iw x.skip, iw x.size, bo x.fin]) rfl rfl ta61 rfl rfl rfl rfl rfl rfl (le_b rfl) (.inr hb1) rfl ?_
    refine SL.nil ?_
    refine SC.of_SE ?_
    refine SC.norm [(2, iw 0), (3, iw (farF nxt (M.take (M.length - nn)))), (5, pt b1 0), (13, Value.slice q2 M.length c2), (14, iw (M.length : Int)), (15, iw ((M.length : Int) - (nn : Int)))] [rBlk d [pt p 0, Value.slice q1 n1 c1, Value.slice q2 M.length c2, iw nxt, iw hv, iw last, bo gone] 52, rRowN (.slice q2 M.length c2) (M.map Pc.row) 61 5, rBlk b1 [iw x.off, iw x.buf, iw x.skip, iw x.size, bo x.fin] 61] ⟨rfl, rfl, rfl, rfl, rfl, rfl, trivial⟩ rfl ?_
    refine SC.seq ?_
    refine SC.region ?_
    refine SL.ru rfl rfl (lt_b rfl) (ru_fieldAddr (o2 := 3) fd61_3 rfl rfl rfl) ?_
    refine SL.ru rfl rfl (lt_b rfl) (ru_load (i := 2) ts3 rfl rfl rfl rfl) ?_
    refine SL.ru rfl rfl (lt_b rfl) (ru_gt (b := (decide ((0 : Int) < x.size))) rfl rfl rfl rfl) ?_
    refine SL.nil ?_
    refine SC.of_SE ?_
    refine SC.norm [(2, iw 0), (3, iw (farF nxt (M.take (M.length - nn)))), (5, pt b1 0), (13, Value.slice q2 M.length c2), (14, iw (M.length : Int)), (15, iw ((M.length : Int) - (nn : Int))), (21, bo (decide ((0 : Int) < x.size)))] [rBlk d [pt p 0, Value.slice q1 n1 c1, Value.slice q2 M.length c2, iw nxt, iw hv, iw last, bo gone] 52, rRowN (.slice q2 M.length c2) (M.map Pc.row) 61 5, rBlk b1 [iw x.off, iw x.buf, iw x.skip, iw x.size, bo x.fin] 61] ⟨rfl, rfl, rfl, rfl, rfl, rfl, rfl, trivial⟩ rfl ?_
    refine SC.both (decide ((0 : Int) < x.size)) rfl (fun h2 => ?_) (fun h2 => ?_)
    · skip
      refine SC.region ?_
      refine SL.ru rfl rfl (lt_b rfl) (ru_move rfl rfl) ?_
      refine SL.ru rfl rfl (lt_b rfl) (ru_loada (i := 2) (vs := [iw x.off, iw x.buf, iw x.skip, iw x.size, bo x.fin]) ta61 rfl rfl rfl rfl (le_b rfl)) ?_
      refine SL.callv (iw (IntKind.i64.wrap (x.off + x.size))) rfl rfl co27 rfl rfl rfl (lt_b rfl) (fun w hI => H_only hI (end_any _ x)) ?_
      refine SL.ru rfl rfl (lt_b rfl) (ru_max (r := max (farF nxt (M.take (M.length - nn))) (IntKind.i64.wrap (x.off + x.size))) rfl rfl rfl rfl) ?_
      refine SL.ru rfl rfl (lt_b rfl) (ru_assign rfl rfl) ?_
      refine SL.nil ?_
      refine SE.blkn ?_
      refine SC.of_SE ?_
      refine SC.norm [(2, iw 0), (3, iw (max (farF nxt (M.take (M.length - nn))) (IntKind.i64.wrap (x.off + x.size)))), (13, Value.slice q2 M.length c2), (14, iw (M.length : Int)), (15, iw ((M.length : Int) - (nn : Int)))] [rBlk d [pt p 0, Value.slice q1 n1 c1, Value.slice q2 M.length c2, iw nxt, iw hv, iw last, bo gone] 52, rRowN (.slice q2 M.length c2) (M.map Pc.row) 61 5, rBlk b1 [iw x.off, iw x.buf, iw x.skip, iw x.size, bo x.fin] 61] ⟨rfl, rfl, rfl, rfl, rfl, trivial⟩ rfl ?_
      refine SC.region ?_
      refine SL.ru rfl rfl (lt_b rfl) (ru_add (r := (IntKind.i64.wrap (((M.length : Int) - (nn : Int)) + 1))) rfl rfl rfl rfl) ?_
      refine SL.ru rfl rfl (lt_b rfl) (ru_move rfl rfl) ?_
      refine SL.nil ?_
      refine SE.keep 2 ?_
      refine SE.again (nn - 1) () (by omega) (by omega) ⟨rfl, (congrArg (fun x => some (iw x)) (far_step hx h0 hn h2).symm), rfl, rfl, (congrArg (fun x => some (iw x)) (show IntKind.i64.wrap (((M.length : Int) - (nn : Int)) + 1) = (M.length : Int) - (((nn - 1 : Nat) : Int) : Int) by rw [IntKind.wrap_i64]; omega)), trivial⟩ rfl
    · skip
      refine SC.skip ?_
      refine SE.blkn ?_
      refine SC.of_SE ?_
      refine SC.norm [(2, iw 0), (3, iw (farF nxt (M.take (M.length - nn)))), (13, Value.slice q2 M.length c2), (14, iw (M.length : Int)), (15, iw ((M.length : Int) - (nn : Int)))] [rBlk d [pt p 0, Value.slice q1 n1 c1, Value.slice q2 M.length c2, iw nxt, iw hv, iw last, bo gone] 52, rRowN (.slice q2 M.length c2) (M.map Pc.row) 61 5, rBlk b1 [iw x.off, iw x.buf, iw x.skip, iw x.size, bo x.fin] 61] ⟨rfl, rfl, rfl, rfl, rfl, trivial⟩ rfl ?_
      refine SC.region ?_
      refine SL.ru rfl rfl (lt_b rfl) (ru_add (r := (IntKind.i64.wrap (((M.length : Int) - (nn : Int)) + 1))) rfl rfl rfl rfl) ?_
      refine SL.ru rfl rfl (lt_b rfl) (ru_move rfl rfl) ?_
      refine SL.nil ?_
      refine SE.keep 2 ?_
      refine SE.again (nn - 1) () (by omega) (by omega) ⟨rfl, (congrArg (fun x => some (iw x)) (far_step hx h0 hn h2).symm), rfl, rfl, (congrArg (fun x => some (iw x)) (show IntKind.i64.wrap (((M.length : Int) - (nn : Int)) + 1) = (M.length : Int) - (((nn - 1 : Nat) : Int) : Int) by rw [IntKind.wrap_i64]; omega)), trivial⟩ rfl

end Go.Proofs.Ytpgnklmmjdkhiaa

/-
  A region that draws its order and holds several operations that make memory, or turn it: one walk in the order of the text serves every order; what each of them comes to is taken as it comes. No program is named here.
-/
namespace Go.Proofs.Ytpgnklmmjdkhiaa
/-- What the listed operations have come to. -/
abbrev Got := Nat → Option Value
def updD (D : Got) (k : Nat) (v : Value) : Got := fun j => bif Nat.beq k j then some v else D j
theorem updD_same {D : Got} {k : Nat} {v : Value} : updD D k v k = some v := by simp [updD]
theorem beq_off {k j : Nat} (h : k ≠ j) : Nat.beq k j = false := by
  cases e : Nat.beq k j
  · rfl
  · exact absurd (Nat.eq_of_beq_eq_true e) h
theorem updD_ne {D : Got} {k j : Nat} {v : Value} (h : k ≠ j) : updD D k v j = D j := by simp [updD, beq_off h]
theorem updD_comm {D : Got} {i j : Nat} {u v : Value} (h : i ≠ j) : updD (updD D i v) j u = updD (updD D j u) i v := by
  funext k
  simp only [updD]
  by_cases h1 : i = k
  · subst h1; simp [beq_off (Ne.symm h)]
  · by_cases h2 : j = k
    · subst h2; simp [beq_off h]
    · simp [beq_off h1, beq_off h2]
section
variable {P : Program} {ops : Array Oper} {md : Region.Mode} {sp : List Nat} {C : Got → World → Prop} {V : Nat → Value → Prop} {dep : Nat → List Nat}

def mkUpon (P : Program) (R : Value → World → Prop) : Result Next → Prop
  | .ok (.value u) w' => R u w'
  | .ok .skip w' => R undef w'
  | .ok (.enter f args) w' => Calls P f args w' (fun e w'' => ∃ u, e = .returned u ∧ R u w'')
  | _ => False
def quUpon (R : World → Prop) (v : Value) : Result Next → Prop
  | .ok (.value u) w' => u = v ∧ R w'
  | .ok .skip w' => v = undef ∧ R w'
  | _ => False
def mkAt (P : Program) (C : Got → World → Prop) (V : Nat → Value → Prop) (dep : Nat → List Nat) (i : Nat) (o : Oper) (a : Act) (E : Got) : Prop :=
  ∀ D w, C D w → D i = none → (∀ j ∈ dep i, D j = E j) → mkUpon P (fun u w' => V i u ∧ C (updD D i u) w') ((execOp a.eval o).run P w)
def quAt (P : Program) (C : Got → World → Prop) (dep : Nat → List Nat) (i : Nat) (o : Oper) (a : Act) (E : Got) (v : Value) : Prop := ∀ D w, C D w → (∀ j ∈ dep i, D j = E j) → quUpon (C D) v ((execOp a.eval o).run P w)

def wpMk (P : Program) (ops : Array Oper) (sp : List Nat) (C : Got → World → Prop) (V : Nat → Value → Prop) (dep : Nat → List Nat) (Q : Act → Got → Prop) : Nat → List Oper → Act → Got → Prop
  | _, [], a, D => Q a D
  | k, o :: rest, a, D =>
    if Region.wanted o (yielded ops a.tmps) then
      (if sp.contains k = true then mkAt P C V dep k o a D ∧ ∀ v, V k v → wpMk P ops sp C V dep Q (k + 1) rest (a.put o.dst v) (updD D k v)
       else ∃ v, quAt P C dep k o a D v ∧ wpMk P ops sp C V dep Q (k + 1) rest (a.put o.dst v) D)
    else wpMk P ops sp C V dep Q (k + 1) rest (a.put o.dst undef) D

def mkOp (P : Program) (ops : Array Oper) (sp : List Nat) (C : Got → World → Prop) (V : Nat → Value → Prop) (dep : Nat → List Nat) (i : Nat) (K : Act → Got → Prop) (a : Act) (D : Got) : Prop :=
  match ops[i]? with
  | none => K a D
  | some o =>
    if Region.wanted o (yielded ops a.tmps) then
      (if sp.contains i = true then mkAt P C V dep i o a D ∧ ∀ v, V i v → K (a.put o.dst v) (updD D i v) else ∃ v, quAt P C dep i o a D v ∧ K (a.put o.dst v) D)
    else K (a.put o.dst undef) D

theorem mkOp_mono {i : Nat} {a : Act} {D : Got} {K K' : Act → Got → Prop} (h : ∀ a D, K a D → K' a D) (hh : mkOp P ops sp C V dep i K a D) : mkOp P ops sp C V dep i K' a D := by
  unfold mkOp at *
  split
  · exact h _ _ (by simpa [*] using hh)
  · rename_i o ho
    simp only [ho] at hh
    split
    · rename_i hw
      simp only [hw, if_true] at hh
      split
      · rename_i hs; simp only [hs, if_true] at hh; exact ⟨hh.1, fun v hv => h _ _ (hh.2 v hv)⟩
      · rename_i hs; simp only [hs] at hh; obtain ⟨v, h1, h2⟩ := hh; exact ⟨v, h1, h _ _ h2⟩
    · rename_i hw; simp only [hw] at hh; exact h _ _ hh

/-- In state a, operation o (number i) comes to one of W, and what is known turns by f. -/
def MkYields (P : Program) (ops : Array Oper) (sp : List Nat) (C : Got → World → Prop) (V : Nat → Value → Prop) (dep : Nat → List Nat) (i : Nat) (o : Oper) (W : Value → Prop) (f : Value → Got → Got) (a : Act) (E : Got) : Prop :=
  (Region.wanted o (yielded ops a.tmps) = true ∧ sp.contains i = true ∧ mkAt P C V dep i o a E ∧ W = V i ∧ f = fun v D => updD D i v) ∨
  (Region.wanted o (yielded ops a.tmps) = true ∧ sp.contains i = false ∧ (∃ v, quAt P C dep i o a E v ∧ W = fun u => u = v) ∧ f = fun _ D => D) ∨
  (Region.wanted o (yielded ops a.tmps) = false ∧ (W = fun u => u = undef) ∧ f = fun _ D => D)

theorem Calls.wit {P : Program} {f : FuncId} {args : Array Value} {w : World} {R : Ending → World → Prop} (h : Calls P f args w R) : ∃ e w', R e w' := by
  obtain ⟨e, w', fr, hR, _⟩ := h []
  exact ⟨e, w', hR⟩
theorem mkUpon.wit {R : Value → World → Prop} {r : Result Next} (h : mkUpon P R r) : ∃ u w', R u w' := by
  cases r with
  | ok n w' =>
    cases n <;> simp only [mkUpon] at h
    case value u => exact ⟨_, _, h⟩
    case skip => exact ⟨_, _, h⟩
    case enter f args => obtain ⟨e, w'', u, _, hR⟩ := Calls.wit h; exact ⟨_, _, hR⟩
  | halt x w' => simp only [mkUpon] at h
theorem MkYields.some {i : Nat} {o : Oper} {W : Value → Prop} {f : Value → Got → Got} {a : Act} {E : Got} (hne : ∃ w, C E w) (hE : E i = none) (h : MkYields P ops sp C V dep i o W f a E) : ∃ v, W v ∧ ∃ w, C (f v E) w := by
  obtain ⟨w, hw⟩ := hne
  rcases h with ⟨_, h1, h2, rfl, rfl⟩ | ⟨_, _, ⟨v, _, rfl⟩, rfl⟩ | ⟨_, rfl, rfl⟩
  · obtain ⟨u, w', h3, h4⟩ := (h2 E w hw hE (fun _ _ => rfl)).wit
    exact ⟨u, h3, w', h4⟩
  · exact ⟨v, rfl, w, hw⟩
  · exact ⟨_, rfl, w, hw⟩
theorem MkYields.comm {i j : Nat} {o : Oper} {W : Value → Prop} {f : Value → Got → Got} {a : Act} {E : Got} (h : MkYields P ops sp C V dep i o W f a E) (hij : i ≠ j) (v u : Value) (D : Got) : f v (updD D j u) = updD (f v D) j u := by
  rcases h with ⟨_, _, _, _, rfl⟩ | ⟨_, _, _, rfl⟩ | ⟨_, _, rfl⟩
  · exact (updD_comm hij).symm
  · rfl
  · rfl
theorem MkYields.at {i j : Nat} {o : Oper} {W : Value → Prop} {f : Value → Got → Got} {a : Act} {E : Got} (h : MkYields P ops sp C V dep i o W f a E) (hij : i ≠ j) (v : Value) (D : Got) : f v D j = D j := by
  rcases h with ⟨_, _, _, _, rfl⟩ | ⟨_, _, _, rfl⟩ | ⟨_, _, rfl⟩
  · exact updD_ne hij
  · rfl
  · rfl
theorem MkYields.op {i : Nat} {o : Oper} {W : Value → Prop} {f : Value → Got → Got} {a : Act} {D : Got} (hi : ops[i]? = .some o) (hy : MkYields P ops sp C V dep i o W f a D) {K : Act → Got → Prop} (h : ∀ v, W v → K (a.put o.dst v) (f v D)) : mkOp P ops sp C V dep i K a D := by
  unfold mkOp
  simp only [hi]
  rcases hy with ⟨hw, hs, hm, rfl, rfl⟩ | ⟨hw, hs, ⟨v, hq, rfl⟩, rfl⟩ | ⟨hw, rfl, rfl⟩
  · simp only [hw, hs, if_true]; exact ⟨hm, h⟩
  · simp only [hw, hs, if_true]; exact ⟨v, hq, h v rfl⟩
  · simp only [hw]; exact h _ rfl
theorem mkYields_of_op {i : Nat} {o : Oper} {a : Act} {D : Got} {K : Act → Got → Prop} (hi : ops[i]? = .some o) (h : mkOp P ops sp C V dep i K a D) : ∃ W f, MkYields P ops sp C V dep i o W f a D ∧ ∀ v, W v → K (a.put o.dst v) (f v D) := by
  unfold mkOp at h
  simp only [hi] at h
  by_cases hw : Region.wanted o (yielded ops a.tmps) = true
  · simp only [hw, if_true] at h
    by_cases hs : sp.contains i = true
    · simp only [hs, if_true] at h
      exact ⟨_, _, .inl ⟨hw, hs, h.1, rfl, rfl⟩, h.2⟩
    · simp only [hs] at h
      obtain ⟨v, h1, h2⟩ := h
      exact ⟨_, _, .inr (.inl ⟨hw, by simpa using hs, ⟨v, h1, rfl⟩, rfl⟩), fun u hu => by subst hu; exact h2⟩
  · simp only [hw] at h
    exact ⟨_, _, .inr (.inr ⟨by simpa using hw, rfl, rfl⟩), fun u hu => by subst hu; exact h⟩
theorem MkYields.of_same {i : Nat} {o : Oper} {W : Value → Prop} {f : Value → Got → Got} {a a' : Act} {E E' : Got} (hy : MkYields P ops sp C V dep i o W f a E) (he : execOp a'.eval o = execOp a.eval o)
    (hw : Region.wanted o (yielded ops a'.tmps) = Region.wanted o (yielded ops a.tmps)) (hE : ∀ j ∈ dep i, E' j = E j) : MkYields P ops sp C V dep i o W f a' E' := by
  have hd : ∀ D : Got, (∀ j ∈ dep i, D j = E' j) → ∀ j ∈ dep i, D j = E j := fun D h j hj => (h j hj).trans (hE j hj)
  unfold MkYields mkAt quAt at *
  rw [he, hw]
  rcases hy with ⟨h1, h2, h3, h4⟩ | ⟨h1, h2, ⟨v, h3, h4⟩, h5⟩ | h
  · exact .inl ⟨h1, h2, fun D w k1 k2 k3 => h3 D w k1 k2 (hd D k3), h4⟩
  · exact .inr (.inl ⟨h1, h2, ⟨v, fun D w k1 k3 => h3 D w k1 (hd D k3), h4⟩, h5⟩)
  · exact .inr (.inr h)
theorem quAt_one {i : Nat} {o : Oper} {a : Act} {E : Got} {u v : Value} (hne : ∃ w, C E w) (h1 : quAt P C dep i o a E u) (h2 : quAt P C dep i o a E v) : u = v := by
  obtain ⟨w, hC⟩ := hne
  have k1 := h1 E w hC (fun _ _ => rfl)
  have k2 := h2 E w hC (fun _ _ => rfl)
  generalize (execOp a.eval o).run P w = r at *
  cases r with
  | ok n w' => cases n <;> simp only [quUpon] at k1 k2 <;> first | exact k1.1.symm.trans k2.1 | exact k1.1.trans k2.1.symm | exact k1.elim
  | halt x w' => simp only [quUpon] at k1

theorem mkOp_put (hdown : ∀ D j u w, C (updD D j u) w → D j = none → (∀ k, D k ≠ none → j ∉ dep k) → C D w) {i j : Nat} {oi oj : Oper} {W : Value → Prop} {f : Value → Got → Got} (hij : i ≠ j) (hdi : j ∉ dep i) (hdj : i ∉ dep j) (hj : ops[j]? = .some oj) (hap : oi.apart ops oj = true)
    (hsi : ∀ cs b, oi.op ≠ .select cs b) (hsj : ∀ cs b, oj.op ≠ .select cs b) {K : Act → Got → Prop} {a : Act} {D : Got} (hne : ∃ w, C D w) (hDi : D i = none) (hDj : D j = none) (hcl : ∀ k, D k ≠ none → j ∉ dep k)
    (hy : MkYields P ops sp C V dep i oi W f a D) (h : ∀ v, W v → (∃ w, C (f v D) w) → mkOp P ops sp C V dep j K (a.put oi.dst v) (f v D)) :
    mkOp P ops sp C V dep j (fun a' D' => MkYields P ops sp C V dep i oi W f a' D' ∧ ∀ v, W v → (∃ w, C (f v D') w) → K (a'.put oi.dst v) (f v D')) a D := by
  obtain ⟨h1, h2, h3⟩ := Oper.apart_spec hap
  have keep : ∀ u E, (∀ q ∈ dep i, E q = D q) → MkYields P ops sp C V dep i oi W f (a.put oj.dst u) E := fun u E hE =>
    hy.of_same (execOp_put oi hsi a oj.dst u h3) (wanted_put oi a oj.dst u h3) hE
  have hup : ∀ u, ∀ q ∈ dep i, updD D j u q = D q := fun u q hq => updD_ne (fun e => hdi (by rw [e]; exact hq))
  have hex : ∀ v, execOp (a.put oi.dst v).eval oj = execOp a.eval oj := fun v => execOp_put oj hsj a oi.dst v h1
  have hdd : ∀ v (D' : Got), (∀ q ∈ dep j, D' q = D q) → ∀ q ∈ dep j, D' q = f v D q := fun v D' hd q hq => (hd q hq).trans (hy.at (fun e => hdj (by rw [e]; exact hq)) v D).symm
  obtain ⟨v0, hv0, hne0⟩ := hy.some hne hDi
  unfold mkOp at *
  simp only [hj] at *
  simp only [wanted_put oj a oi.dst _ h1] at h
  by_cases hw : Region.wanted oj (yielded ops a.tmps) = true
  · simp only [hw, if_true] at h ⊢
    by_cases hs : sp.contains j = true
    · simp only [hs, if_true] at h ⊢
      refine ⟨?_, fun u hu => ⟨keep u _ (hup u), fun v hv hin => ?_⟩⟩
      · have := (h v0 hv0 hne0).1
        unfold mkAt at *
        rw [hex v0] at this
        exact fun D' w k1 k2 k3 => this D' w k1 k2 (hdd v0 D' k3)
      · rw [hy.comm hij] at hin ⊢
        have hin' : ∃ w, C (f v D) w := by
          obtain ⟨w, hC⟩ := hin
          exact ⟨w, hdown _ _ _ _ hC (by rw [hy.at hij]; exact hDj) (fun k hk => by
            by_cases e : i = k
            · subst e; exact hdi
            · rw [hy.at e] at hk; exact hcl k hk)⟩
        have := (h v hv hin').2 u hu
        rw [← Act.put_comm a v u h2]
        exact this
    · simp only [hs] at h ⊢
      have hall : ∀ v, W v → (∃ w, C (f v D) w) → ∃ u, quAt P C dep j oj a D u ∧ K ((a.put oi.dst v).put oj.dst u) (f v D) := fun v hv hin => by
        obtain ⟨u, hq, hk⟩ := h v hv hin
        refine ⟨u, ?_, hk⟩
        unfold quAt at *
        rw [hex v] at hq
        exact fun D' w k1 k3 => hq D' w k1 (hdd v D' k3)
      obtain ⟨u0, hq0, _⟩ := hall v0 hv0 hne0
      refine ⟨u0, hq0, keep u0 _ (fun _ _ => rfl), fun v hv hin => ?_⟩
      obtain ⟨u, hq, hk⟩ := hall v hv hin
      have := quAt_one hne hq0 hq
      subst this
      rw [← Act.put_comm a v u0 h2]
      exact hk
  · simp only [hw] at h ⊢
    exact ⟨keep _ _ (fun _ _ => rfl), fun v hv hin => by rw [← Act.put_comm a v undef h2]; exact h v hv hin⟩

/-! ## Whole regions -/
/-- What an operation waits for, itself or through others, is ahead of it. -/
def reachB (md : Region.Mode) (ops : Array Oper) : Nat → Nat → Nat → Bool
  | 0, _, _ => false
  | n + 1, i, j => ((ops[i]?).map (·.after.any fun e => Region.binds md e && (Nat.beq e.on j || reachB md ops n e.on j))).getD false
def depB (md : Region.Mode) (ops : Array Oper) (ds : List (Nat × List Nat)) : Bool := ds.all fun x => x.2.all fun j => reachB md ops 3 x.1 j
def depOf : List (Nat × List Nat) → Nat → List Nat
  | [], _ => []
  | (k, js) :: r, i => bif Nat.beq k i then js else depOf r i
def ShutM (md : Region.Mode) (ops : Array Oper) (listed : Array Bool) : Prop := ∀ k o, ops[k]? = .some o → listed.getD k false = true → ∀ e ∈ o.after, Region.binds md e = true → listed.getD e.on false = true
def Deps (md : Region.Mode) (ops : Array Oper) (dep : Nat → List Nat) : Prop := ∀ (i : Nat) (listed : Array Bool), ShutM md ops listed → i ∈ Region.ready md ops listed → ∀ j ∈ dep i, listed.getD j false = true
theorem reach_listed {listed : Array Bool} (hs : ShutM md ops listed) : ∀ (n i j : Nat) (o : Oper), ops[i]? = .some o → (∀ e ∈ o.after, Region.binds md e = true → listed.getD e.on false = true) → reachB md ops n i j = true → listed.getD j false = true
  | 0, _, _, _, _, _, h => by simp [reachB] at h
  | n + 1, i, j, o, ho, hall, h => by
    simp only [reachB, ho, Option.map_some, Option.getD_some, Array.any_eq_true, Bool.and_eq_true, Bool.or_eq_true] at h
    obtain ⟨q, hq, h2, h3⟩ := h
    have he := hall _ (Array.getElem_mem hq) h2
    rcases h3 with h3 | h3
    · rw [← Nat.eq_of_beq_eq_true h3]; exact he
    · cases ho2 : ops[(o.after[q]).on]? with
      | none =>
        cases n with
        | zero => simp [reachB] at h3
        | succ n => simp [reachB, ho2] at h3
      | some o2 => exact reach_listed hs n _ j o2 ho2 (hs _ o2 ho2 he) h3
theorem deps_of {ds : List (Nat × List Nat)} (h : depB md ops ds = true) : Deps md ops (depOf ds) := by
  intro i listed hs hi j hj
  obtain ⟨_, o, ho, hall⟩ := mem_ready.1 hi
  induction ds with
  | nil => simp [depOf] at hj
  | cons x r ih =>
    obtain ⟨k, js⟩ := x
    simp only [depB, List.all_cons, Bool.and_eq_true] at h
    simp only [depOf] at hj
    cases hb : Nat.beq k i
    · rw [hb] at hj
      exact ih (by simpa [depB] using h.2) (by simpa using hj)
    · rw [hb] at hj
      have e : k = i := Nat.eq_of_beq_eq_true hb
      subst e
      exact reach_listed hs 3 k j o ho hall (List.all_eq_true.1 h.1 j (by simpa using hj))
theorem getD_tf {listed : Array Bool} {j : Nat} (h : listed.getD j false = true) : listed.getD j true = true := by
  cases h2 : listed.getD j true with
  | true => rfl
  | false => rw [getD_both h2] at h; cases h
theorem Deps.off (hd : Deps md ops dep) {listed : Array Bool} (hs : ShutM md ops listed) {i j : Nat} (hi : i ∈ Region.ready md ops listed) (hj : listed.getD j true = false) : j ∉ dep i := fun h => by
  have h1 := getD_tf (hd i listed hs hi j h)
  rw [hj] at h1; cases h1
def wpAnyMk (P : Program) (md : Region.Mode) (ops : Array Oper) (sp : List Nat) (C : Got → World → Prop) (V : Nat → Value → Prop) (dep : Nat → List Nat) (Q : Act → Got → Prop) : Nat → Array Bool → Act → Got → Prop
  | 0, listed, a, D => Region.ready md ops listed = [] ∧ Q a D
  | fuel + 1, listed, a, D =>
    (Region.ready md ops listed = [] → Q a D) ∧
    ∀ i ∈ Region.ready md ops listed, mkOp P ops sp C V dep i (fun a' D' => (∃ w, C D' w) → wpAnyMk P md ops sp C V dep Q fuel (listed.setIfInBounds i true) a' D') a D

/-- What the flags say. -/
structure FlagsM (md : Region.Mode) (ops : Array Oper) (dep : Nat → List Nat) (listed : Array Bool) (D : Got) : Prop where
  size : listed.size = ops.size
  off : ∀ i, listed.getD i true = false → D i = none
  deps : ∀ k, D k ≠ none → ∀ q ∈ dep k, listed.getD q true = true
  shut : ShutM md ops listed
theorem set_keeps {listed : Array Bool} {i q : Nat} (h : listed.getD q true = true) : (listed.setIfInBounds i true).getD q true = true := by
  by_cases e : i = q
  · subst e
    rw [Array.getD_eq_getD_getElem?, Array.getElem?_setIfInBounds_self]
    split <;> simp
  · rw [getD_set_ne true e]; exact h
theorem set_keepsF {listed : Array Bool} {i q : Nat} (h : listed.getD q false = true) : (listed.setIfInBounds i true).getD q false = true := by
  by_cases e : i = q
  · subst e
    have hlt : i < listed.size := by
      cases Nat.lt_or_ge i listed.size with
      | inl h => exact h
      | inr hge => simp [Nat.not_lt.2 hge] at h
    simp [hlt]
  · rw [getD_set_ne false e]; exact h
theorem ShutM.set {listed : Array Bool} (h : ShutM md ops listed) {i : Nat} (hi : i ∈ Region.ready md ops listed) : ShutM md ops (listed.setIfInBounds i true) := by
  intro k o ho hk e he hb
  by_cases eq : i = k
  · subst eq
    obtain ⟨_, o', ho', hall⟩ := mem_ready.1 hi
    rw [ho] at ho'; cases ho'
    exact set_keepsF (hall e he hb)
  · rw [getD_set_ne false eq] at hk
    exact set_keepsF (h k o ho hk e he hb)
theorem FlagsM.set {listed : Array Bool} {D : Got} (h : FlagsM md ops dep listed D) {i : Nat} (hi : i ∈ Region.ready md ops listed) : FlagsM md ops dep (listed.setIfInBounds i true) D := by
  refine ⟨by simp [h.size], fun j hj => h.off j ?_, fun k hk q hq => set_keeps (h.deps k hk q hq), h.shut.set hi⟩
  by_cases e : i = j
  · subst e
    rw [Array.getD_eq_getD_getElem?, Array.getElem?_setIfInBounds_self] at hj
    split at hj <;> simp at hj
  · rwa [getD_set_ne true e] at hj
theorem FlagsM.step {listed : Array Bool} {D : Got} (h : FlagsM md ops dep listed D) (hd : Deps md ops dep) {i : Nat} (hi : i ∈ Region.ready md ops listed) (v : Value) : FlagsM md ops dep (listed.setIfInBounds i true) (updD D i v) := by
  refine ⟨by simp [h.size], fun j hj => ?_, fun k hk q hq => ?_, h.shut.set hi⟩
  · by_cases e : i = j
    · subst e
      rw [Array.getD_eq_getD_getElem?, Array.getElem?_setIfInBounds_self] at hj
      split at hj <;> simp at hj
    · rw [updD_ne e]; exact h.off j (by rwa [getD_set_ne true e] at hj)
  · by_cases e : i = k
    · subst e; exact set_keeps (getD_tf (hd i listed h.shut hi q hq))
    · rw [updD_ne e] at hk; exact set_keeps (h.deps k hk q hq)

theorem mkOp_wp {i : Nat} {K : Act → Got → Prop} {K' : Act → World → Prop} {Q' : Exit → Act → World → Prop} {a : Act} {D : Got} {w : World} (hw : C D w) (hD : D i = none) (h : mkOp P ops sp C V dep i K a D)
    (hk : ∀ a D' w', (D' = D ∨ ∃ v, D' = updD D i v) → C D' w' → K a D' → K' a w') : wpOp P ops Q' i K' a w := by
  unfold mkOp at h
  unfold wpOp
  split
  · rename_i ho
    simp only [ho] at h
    exact hk _ _ _ (.inl rfl) hw h
  · rename_i o ho
    simp only [ho] at h
    split
    · rename_i hwt
      simp only [hwt, if_true] at h
      left
      unfold Oper.wp
      split at h
      · obtain ⟨h1, h2⟩ := h
        have h5 := h1 D w hw hD (fun _ _ => rfl)
        generalize (execOp a.eval o).run P w = r at *
        cases r with
        | ok n w' =>
          cases n <;> simp only [mkUpon] at h5 <;> simp only [Oper.upon]
          case value u => exact hk _ _ _ (.inr ⟨u, rfl⟩) h5.2 (h2 u h5.1)
          case skip => exact hk _ _ _ (.inr ⟨_, rfl⟩) h5.2 (h2 _ h5.1)
          case enter f args => exact h5.mono fun e w'' ⟨u, he, hc⟩ => by subst he; exact hk _ _ _ (.inr ⟨u, rfl⟩) hc.2 (h2 u hc.1)
          all_goals exact h5.elim
        | halt x w' => simp only [mkUpon] at h5
      · obtain ⟨v, h1, h2⟩ := h
        have h5 := h1 D w hw (fun _ _ => rfl)
        generalize (execOp a.eval o).run P w = r at *
        cases r with
        | ok n w' =>
          cases n <;> simp only [quUpon] at h5 <;> simp only [Oper.upon]
          case value u => rw [h5.1]; exact hk _ _ _ (.inl rfl) h5.2 h2
          case skip => rw [← h5.1]; exact hk _ _ _ (.inl rfl) h5.2 h2
        | halt x w' => simp only [quUpon] at h5
    · rename_i hwt
      simp only [hwt] at h
      exact hk _ _ _ (.inl rfl) hw h

theorem wpAny_of_mk (hdep : Deps md ops dep) {Q : Act → Got → Prop} {Q' : Exit → Act → World → Prop} (hQ : ∀ a D w, C D w → Q a D → Q' .normal a w) :
    ∀ (fuel : Nat) (listed : Array Bool) (a : Act) (D : Got) (w : World), FlagsM md ops dep listed D → C D w → wpAnyMk P md ops sp C V dep Q fuel listed a D → wpAny P md ops Q' fuel listed a w
  | 0, listed, _, D, _, hf, hw, h => ⟨h.1, hQ _ D _ hw h.2⟩
  | fuel + 1, listed, a, D, w, hf, hw, h => ⟨fun h0 => hQ _ D _ hw (h.1 h0), fun i hi =>
      mkOp_wp hw (hf.off i (mem_ready.1 hi).1) (h.2 i hi) fun a' D' w' hD hC hK => by
        refine wpAny_of_mk hdep hQ fuel _ a' D' w' ?_ hC (hK ⟨w', hC⟩)
        rcases hD with rfl | ⟨v, rfl⟩
        · exact hf.set hi
        · exact hf.step hdep hi v⟩

theorem mkOp_flags {i : Nat} {a : Act} {D : Got} {listed : Array Bool} {K K' : Act → Got → Prop} (hf : FlagsM md ops dep listed D) (hd : Deps md ops dep) (hi : i ∈ Region.ready md ops listed) (h : ∀ a D, FlagsM md ops dep (listed.setIfInBounds i true) D → K a D → K' a D) (hh : mkOp P ops sp C V dep i K a D) : mkOp P ops sp C V dep i K' a D := by
  unfold mkOp at *
  split
  · rename_i ho
    simp only [ho] at hh
    exact h _ _ (hf.set hi) hh
  · rename_i o ho
    simp only [ho] at hh
    split
    · rename_i hw
      simp only [hw, if_true] at hh
      split
      · rename_i hs; simp only [hs, if_true] at hh; exact ⟨hh.1, fun v hv => h _ _ (hf.step hd hi v) (hh.2 v hv)⟩
      · rename_i hs; simp only [hs] at hh; obtain ⟨v, h1, h2⟩ := hh; exact ⟨v, h1, h _ _ (hf.set hi) h2⟩
    · rename_i hw; simp only [hw] at hh; exact h _ _ (hf.set hi) hh

theorem MkYields.flags {i : Nat} {o : Oper} {W : Value → Prop} {f : Value → Got → Got} {a : Act} {E : Got} {listed : Array Bool} (h : MkYields P ops sp C V dep i o W f a E) {D : Got} (hf : FlagsM md ops dep listed D) (hd : Deps md ops dep) (hi : i ∈ Region.ready md ops listed) (v : Value) : FlagsM md ops dep (listed.setIfInBounds i true) (f v D) := by
  rcases h with ⟨_, _, _, _, rfl⟩ | ⟨_, _, _, rfl⟩ | ⟨_, _, rfl⟩
  · exact hf.step hd hi v
  · exact hf.set hi
  · exact hf.set hi

theorem wpAnyMk_first (hdown : ∀ D j u w, C (updD D j u) w → D j = none → (∀ k, D k ≠ none → j ∉ dep k) → C D w) (hdep : Deps md ops dep) {Q : Act → Got → Prop} {i : Nat} {oi : Oper} {W : Value → Prop} {f : Value → Got → Got} (hi : ops[i]? = .some oi) (hsel : ∀ (j : Nat) (o : Oper) cs b, ops[j]? = .some o → o.op ≠ .select cs b) :
    ∀ (fuel : Nat) (listed : Array Bool) (a : Act) (D : Got), FlagsM md ops dep listed D → (∃ w, C D w) →
      (∀ j oj, ops[j]? = .some oj → j ≠ i → listed.getD j true = false → (∀ e ∈ oj.after, Region.binds md e = true → e.on ≠ i) → oi.apart ops oj = true) →
      i ∈ Region.ready md ops listed → MkYields P ops sp C V dep i oi W f a D →
      (∀ v, W v → (∃ w, C (f v D) w) → wpAnyMk P md ops sp C V dep Q fuel (listed.setIfInBounds i true) (a.put oi.dst v) (f v D)) → wpAnyMk P md ops sp C V dep Q (fuel + 1) listed a D := by
  intro fuel
  induction fuel with
  | zero =>
    intro listed a D hfl hne _ hr hy H
    refine ⟨fun h => (by rw [h] at hr; cases hr), fun j hj => ?_⟩
    by_cases hji : j = i
    · subst hji; exact hy.op hi H
    · have := ready_mono hj hji
      obtain ⟨v0, hv0, hin⟩ := hy.some hne (hfl.off i (mem_ready.1 hr).1)
      rw [(H v0 hv0 hin).1] at this
      cases this
  | succ fuel ih =>
    intro listed a D hfl hne hfree hr hy H
    refine ⟨fun h => (by rw [h] at hr; cases hr), fun j hj => ?_⟩
    by_cases hji : j = i
    · subst hji; exact hy.op hi H
    · have h1 := fun v hv hin => (H v hv hin).2 j (ready_mono hj hji)
      obtain ⟨hjun, oj, hoj, hall⟩ := mem_ready.1 hj
      have hiun := (mem_ready.1 hr).1
      have hnot : ∀ e ∈ oj.after, Region.binds md e = true → e.on ≠ i := fun e he hb heq => by
        have h1 := hall e he hb
        rw [heq, getD_both hiun] at h1
        cases h1
      have h2 := mkOp_put hdown (Ne.symm hji) (hdep.off hfl.shut hr hjun) (hdep.off hfl.shut hj hiun) hoj (hfree j oj hoj hji hjun hnot) (fun cs b => hsel i oi cs b hi) (fun cs b => hsel j oj cs b hoj) hne (hfl.off i hiun) (hfl.off j hjun) (fun k hk hj' => by rw [hfl.deps k hk j hj'] at hjun; cases hjun) hy h1
      have hfree' : ∀ k ok, ops[k]? = .some ok → k ≠ i → (listed.setIfInBounds j true).getD k true = false →
          (∀ e ∈ ok.after, Region.binds md e = true → e.on ≠ i) → oi.apart ops ok = true := fun k ok hk hki hun hno => by
        refine hfree k ok hk hki ?_ hno
        by_cases hjk : j = k
        · subst hjk; exact hjun
        · rw [getD_set_ne true hjk] at hun; exact hun
      refine mkOp_flags hfl hdep hj (fun a' D' hfl' h3 hin' => ih (listed.setIfInBounds j true) a' D' hfl' hin' hfree' (ready_mono hr (Ne.symm hji)) h3.1 (fun v hv hin => ?_)) h2
      rw [Array.setIfInBounds_comm _ _ hji]
      exact h3.2 v hv hin hin

theorem wpAnyMk_lex (hdown : ∀ D j u w, C (updD D j u) w → D j = none → (∀ k, D k ≠ none → j ∉ dep k) → C D w) (hdep : Deps md ops dep) {Q : Act → Got → Prop} (hs : Region.noSelect ops = true) : ∀ (l : List Oper) (k : Nat) (listed : Array Bool) (a : Act) (D : Got), FlagsM md ops dep listed D → (∃ w, C D w) → (∀ j, l[j]? = ops[k + j]?) →
    Region.lexFrom md ops l.length k listed = true → wpMk P ops sp C V dep Q k l a D → wpAnyMk P md ops sp C V dep Q l.length listed a D
  | [], _, _, _, _, _, _, _, hB, h => ⟨by simpa [Region.lexFrom] using hB, h⟩
  | o :: l, k, listed, a, D, hfl, hne, hl, hB, h => by
    have h0 : ops[k]? = .some o := by simpa using (hl 0).symm
    simp only [List.length_cons, Region.lexFrom, Bool.and_eq_true] at hB
    obtain ⟨⟨hr, hf⟩, hB'⟩ := hB
    have hst : mkOp P ops sp C V dep k (wpMk P ops sp C V dep Q (k + 1) l) a D := by unfold mkOp; simp only [h0]; exact h
    obtain ⟨W, f, hy, hK⟩ := mkYields_of_op h0 hst
    exact wpAnyMk_first hdown hdep h0 (Region.noSelect_spec hs) l.length listed a D hfl hne (Region.free_spec h0 hf) (by simpa using hr) hy
      (fun v hv hin => wpAnyMk_lex hdown hdep hs l (k + 1) _ _ _ (hy.flags hfl hdep (by simpa using hr) v) hin (fun j => by have := hl (j + 1); simpa [Nat.add_assoc, Nat.add_comm 1 j] using this) hB' (hK v hv))

theorem shut0 {n : Nat} : ShutM md ops (Array.replicate n false) := fun k o _ hk => by rw [getD_replicate_false] at hk; cases hk
def noD : Got := fun _ => none
theorem wp_region_mk {id : Nat} {Q : Exit → Act → World → Prop} {a : Act} {w : World} {l : List Oper} (sp : List Nat) (C : Got → World → Prop) (V : Nat → Value → Prop) (ds : List (Nat × List Nat)) (hm : P.follows .mixedOrders = true) (hB : Region.lexB .any l.toArray = true)
    (hd : depB .any l.toArray ds = true) (hdown : ∀ D j u w, C (updD D j u) w → D j = none → (∀ k, D k ≠ none → j ∉ depOf ds k) → C D w) (hC : C noD { w with drawn := w.drawn + 1 })
    (h : wpMk P l.toArray sp C V (depOf ds) (fun a' D => ∀ w', C D w' → Q .normal a' w') 0 l a noD) : (Code.region id l.toArray true).wp P Q a w := by
  simp only [Region.lexB, Bool.and_eq_true] at hB
  refine wp_region_any hm (wpAny_of_mk (deps_of hd) (sp := sp) (C := C) (V := V) (dep := depOf ds) (Q := fun a' D => ∀ w', C D w' → Q .normal a' w') (fun a' D w' hC' h => h w' hC') _ _ _ noD _ ⟨by simp, fun i _ => rfl, fun k hk => absurd rfl hk, shut0⟩ hC ?_)
  have := wpAnyMk_lex (sp := sp) (C := C) (V := V) (md := .any) hdown (deps_of hd) hB.1 l 0 (Array.replicate l.toArray.size false) a noD ⟨by simp, fun i _ => rfl, fun k hk => absurd rfl hk, shut0⟩ ⟨_, hC⟩ (by simp) (by simpa using hB.2) h
  simpa using this

/-! ## A head of n operations; the others come behind all of them, in their order -/
def wpAnyMkL (P : Program) (md : Region.Mode) (ops : Array Oper) (sp : List Nat) (C : Got → World → Prop) (V : Nat → Value → Prop) (dep : Nat → List Nat) (n : Nat) (L : Array Bool → Act → Got → Prop) : Nat → Array Bool → Act → Got → Prop
  | 0, listed, a, D => L listed a D
  | f + 1, listed, a, D =>
    Region.ready md ops listed ≠ [] ∧ ∀ i ∈ Region.ready md ops listed, i < n ∧ mkOp P ops sp C V dep i (fun a' D' => (∃ w, C D' w) → wpAnyMkL P md ops sp C V dep n L f (listed.setIfInBounds i true) a' D') a D

theorem wpAny_of_headMk (hdep : Deps md ops dep) {n g : Nat} {L : Array Bool → Act → Got → Prop} {Q' : Exit → Act → World → Prop} (hL : ∀ listed a D w, C D w → L listed a D → wpAny P md ops Q' g listed a w) :
    ∀ (f : Nat) (listed : Array Bool) (a : Act) (D : Got) (w : World), FlagsM md ops dep listed D → C D w → wpAnyMkL P md ops sp C V dep n L f listed a D → wpAny P md ops Q' (f + g) listed a w
  | 0, listed, a, D, w, hf, hw, h => by rw [Nat.zero_add]; exact hL _ _ _ _ hw h
  | f + 1, listed, a, D, w, hf, hw, h => by
    rw [show f + 1 + g = (f + g) + 1 by omega]
    refine ⟨fun h0 => absurd h0 h.1, fun i hi => ?_⟩
    refine mkOp_wp hw (hf.off i (mem_ready.1 hi).1) (h.2 i hi).2 fun a' D' w' hD hC hK => ?_
    refine wpAny_of_headMk hdep hL f _ a' D' w' ?_ hC (hK ⟨w', hC⟩)
    rcases hD with rfl | ⟨v, rfl⟩
    · exact hf.set hi
    · exact hf.step hdep hi v

theorem wpAnyMkL_first (hdown : ∀ D j u w, C (updD D j u) w → D j = none → (∀ k, D k ≠ none → j ∉ dep k) → C D w) (hdep : Deps md ops dep) {n i : Nat} {oi : Oper} {W : Value → Prop} {f : Value → Got → Got} {L : Array Bool → Act → Got → Prop} (hi : ops[i]? = .some oi) (hsel : ∀ (j : Nat) (o : Oper) cs b, ops[j]? = .some o → o.op ≠ .select cs b)
    (hs : Region.sinkB md ops n = true) (hc : Region.chainB md ops n = true) (hn : n < ops.size) (hin : i < n)
    (hdone : ∀ listed a D, L listed a D → ∀ j ∈ Region.ready md ops listed, n ≤ j) :
    ∀ (fu : Nat) (listed : Array Bool) (a : Act) (D : Got), FlagsM md ops dep listed D → (∃ w, C D w) → HeadInv md ops n listed →
      (∀ j oj, ops[j]? = .some oj → j ≠ i → listed.getD j true = false → (∀ e ∈ oj.after, Region.binds md e = true → e.on ≠ i) → oi.apart ops oj = true) →
      i ∈ Region.ready md ops listed → MkYields P ops sp C V dep i oi W f a D →
      (∀ v, W v → (∃ w, C (f v D) w) → wpAnyMkL P md ops sp C V dep n L fu (listed.setIfInBounds i true) (a.put oi.dst v) (f v D)) → wpAnyMkL P md ops sp C V dep n L (fu + 1) listed a D := by
  intro fu
  induction fu with
  | zero =>
    intro listed a D hfl hne inv _ hr hy H
    have hun := (mem_ready.1 hr).1
    refine ⟨fun h => (by rw [h] at hr; cases hr), fun j hj => ?_⟩
    have hjn : j < n := by
      rcases Nat.lt_or_ge j n with h | h
      · exact h
      · exact absurd hj (tail_waits hs hc hn inv _ i rfl hin hun j h)
    refine ⟨hjn, ?_⟩
    by_cases hji : j = i
    · subst hji; exact hy.op hi H
    · obtain ⟨v0, hv0, hin0⟩ := hy.some hne (hfl.off i hun)
      have := hdone _ _ _ (H v0 hv0 hin0) j (ready_mono hj hji)
      omega
  | succ fu ih =>
    intro listed a D hfl hne inv hfree hr hy H
    have hun := (mem_ready.1 hr).1
    refine ⟨fun h => (by rw [h] at hr; cases hr), fun j hj => ?_⟩
    have hjn : j < n := by
      rcases Nat.lt_or_ge j n with h | h
      · exact h
      · exact absurd hj (tail_waits hs hc hn inv _ i rfl hin hun j h)
    refine ⟨hjn, ?_⟩
    by_cases hji : j = i
    · subst hji; exact hy.op hi H
    · have h1 := fun v hv hin => ((H v hv hin).2 j (ready_mono hj hji)).2
      obtain ⟨hjun, oj, hoj, hall⟩ := mem_ready.1 hj
      have hnot : ∀ e ∈ oj.after, Region.binds md e = true → e.on ≠ i := fun e he hb heq => by
        have h1 := hall e he hb
        rw [heq, getD_both hun] at h1
        cases h1
      have h2 := mkOp_put hdown (Ne.symm hji) (hdep.off hfl.shut hr hjun) (hdep.off hfl.shut hj hun) hoj (hfree j oj hoj hji hjun hnot) (fun cs b => hsel i oi cs b hi) (fun cs b => hsel j oj cs b hoj) hne (hfl.off i hun) (hfl.off j hjun) (fun k hk hj' => by rw [hfl.deps k hk j hj'] at hjun; cases hjun) hy h1
      have hfree' : ∀ k ok, ops[k]? = .some ok → k ≠ i → (listed.setIfInBounds j true).getD k true = false →
          (∀ e ∈ ok.after, Region.binds md e = true → e.on ≠ i) → oi.apart ops ok = true := fun k ok hk hki hun hno => by
        refine hfree k ok hk hki ?_ hno
        by_cases hjk : j = k
        · subst hjk; exact hjun
        · rw [getD_set_ne true hjk] at hun; exact hun
      refine mkOp_flags hfl hdep hj (fun a' D' hfl' h3 hin' => ih (listed.setIfInBounds j true) a' D' hfl' hin' (inv.set hj hjn) hfree' (ready_mono hr (Ne.symm hji)) h3.1 (fun v hv hin => ?_)) h2
      rw [Array.setIfInBounds_comm _ _ hji]
      exact h3.2 v hv hin hin

theorem wpAnyMkL_lex (hdown : ∀ D j u w, C (updD D j u) w → D j = none → (∀ k, D k ≠ none → j ∉ dep k) → C D w) (hdep : Deps md ops dep) {n g : Nat} {Lq : Act → Got → Prop} (hsel : Region.noSelect ops = true) (hs : Region.sinkB md ops n = true) (hc : Region.chainB md ops n = true) (hn : n < ops.size) :
    ∀ (l : List Oper) (k : Nat) (listed : Array Bool) (a : Act) (D : Got), FlagsM md ops dep listed D → (∃ w, C D w) → (∀ j, j < l.length → l[j]? = ops[k + j]?) → k + l.length = n → HeadInv md ops n listed →
    Region.lexHead md ops g l.length k listed = true → wpMk P ops sp C V dep Lq k l a D →
    wpAnyMkL P md ops sp C V dep n (fun listed' a' D' => Region.seqB md ops g n listed' = true ∧ Lq a' D') l.length listed a D
  | [], k, listed, a, D, _, _, _, hk, _, hB, h => by
    have : k = n := by simpa using hk
    subst this
    exact ⟨by simpa [Region.lexHead] using hB, h⟩
  | o :: l, k, listed, a, D, hfl, hne, hl, hk, inv, hB, h => by
    have h0 : ops[k]? = .some o := by simpa using (hl 0 (by simp)).symm
    simp only [List.length_cons, Region.lexHead, Bool.and_eq_true] at hB
    obtain ⟨⟨hr, hf⟩, hB'⟩ := hB
    have hkn : k < n := by simp only [List.length_cons] at hk; omega
    have hr' : k ∈ Region.ready md ops listed := by simpa using hr
    have hst : mkOp P ops sp C V dep k (wpMk P ops sp C V dep Lq (k + 1) l) a D := by unfold mkOp; simp only [h0]; exact h
    obtain ⟨W, f, hy, hK⟩ := mkYields_of_op h0 hst
    exact wpAnyMkL_first hdown hdep h0 (Region.noSelect_spec hsel) hs hc hn hkn (fun listed' a' D' hL => seqB_ready hL.1) l.length listed a D hfl hne inv (Region.free_spec h0 hf) hr' hy fun v hv hin =>
      wpAnyMkL_lex (g := g) hdown hdep hsel hs hc hn l (k + 1) (listed.setIfInBounds k true) (a.put o.dst v) (f v D) (hy.flags hfl hdep (by simpa using hr) v) hin (fun j hj => by have := hl (j + 1) (by simp; omega); simpa [Nat.add_assoc, Nat.add_comm 1 j] using this) (by simp only [List.length_cons] at hk; omega) (inv.set hr' hkn) hB' (hK v hv)

theorem wpAny_mk_tail {Q : Exit → Act → World → Prop} {a : Act} {w : World} {l : List Oper} (n : Nat) (sp : List Nat) (C : Got → World → Prop) (V : Nat → Value → Prop) (ds : List (Nat × List Nat)) (hB : Region.lexTailB .any l.toArray n = true)
    (hd : depB .any l.toArray ds = true) (hdown : ∀ D j u w, C (updD D j u) w → D j = none → (∀ k, D k ≠ none → j ∉ depOf ds k) → C D w) (hC : C noD { w with drawn := w.drawn + 1 })
    (h : wpMk P l.toArray sp C V (depOf ds) (fun a' D => ∀ w', C D w' → wpList P l.toArray Q (l.drop n) a' w') 0 (l.take n) a noD) : wpAny P .any l.toArray Q l.length (Array.replicate l.length false) a { w with drawn := w.drawn + 1 } := by
  simp only [Region.lexTailB, Bool.and_eq_true, decide_eq_true_eq] at hB
  obtain ⟨⟨⟨⟨hsel, hn⟩, hs⟩, hc⟩, hlex⟩ := hB
  have hn' : n < l.length := by simpa using hn
  have htl : (l.take n).length = n := by simp; omega
  have hdl : (l.drop n).length = l.toArray.size - n := by simp
  have inv0 : HeadInv .any l.toArray n (Array.replicate l.toArray.size false) :=
    ⟨by simp, fun j oj _ hl => (by rw [getD_replicate_false] at hl; cases hl), fun t _ ht => getD_in (by simpa using ht) (getD_replicate_false _ _)⟩
  have H := wpAnyMkL_lex (sp := sp) (C := C) (V := V) (md := .any) (g := l.toArray.size - n) hdown (deps_of hd) hsel hs hc hn (l.take n) 0 _ a noD ⟨by simp, fun i _ => rfl, fun k hk => absurd rfl hk, shut0⟩ ⟨_, hC⟩ (fun j hj => by
    have hj' : j < n := by rw [htl] at hj; exact hj
    simp [hj']) (by simpa using htl) inv0 (by rw [htl]; exact hlex) h
  have := wpAny_of_headMk (deps_of hd) (Q' := Q) (g := l.toArray.size - n) (fun listed a' D w' hw' hL => by
    have := wpAny_of_seq (md := .any) (Q' := Q) (l.drop n) n listed a' w' (fun j => by simp [List.getElem?_drop]) (by rw [hdl]; exact hL.1) (hL.2 w' hw')
    rwa [hdl] at this) _ _ _ noD _ ⟨by simp, fun i _ => rfl, fun k hk => absurd rfl hk, shut0⟩ hC H
  rw [htl, show n + (l.toArray.size - n) = l.toArray.size by omega] at this
  simpa using this
theorem wp_region_mk_tail {id : Nat} {Q : Exit → Act → World → Prop} {a : Act} {w : World} {l : List Oper} (n : Nat) (sp : List Nat) (C : Got → World → Prop) (V : Nat → Value → Prop) (ds : List (Nat × List Nat)) (hm : P.follows .mixedOrders = true) (hB : Region.lexTailB .any l.toArray n = true)
    (hd : depB .any l.toArray ds = true) (hdown : ∀ D j u w, C (updD D j u) w → D j = none → (∀ k, D k ≠ none → j ∉ depOf ds k) → C D w) (hC : C noD { w with drawn := w.drawn + 1 })
    (h : wpMk P l.toArray sp C V (depOf ds) (fun a' D => ∀ w', C D w' → wpList P l.toArray Q (l.drop n) a' w') 0 (l.take n) a noD) : (Code.region id l.toArray true).wp P Q a w := by
  refine wp_region_any hm ?_
  have := wpAny_mk_tail (Q := Q) n sp C V ds hB hd hdown hC h
  simpa using this
end
end Go.Proofs.Ytpgnklmmjdkhiaa

/-
  The light machine: regions that draw their order, and make memory in several places. No program is named here.
-/
namespace Go.Proofs.Ytpgnklmmjdkhiaa
open Go.RowKit

/-- What an operation may come to, and what is known then (it may hang on what those of dp have come to). -/
structure Mk where
  V : Value → Prop
  N : Value → Got → List Res
  ne : ∃ v, V v
  dp : List Nat := []
  loc : ∀ u D D', (∀ j ∈ dp, D j = D' j) → N u D = N u D'
def mfind : List (Nat × Mk) → Nat → Option Mk
  | [], _ => none
  | (j, s) :: r, k => bif Nat.beq j k then some s else mfind r k
def mV (ms : List (Nat × Mk)) (k : Nat) (v : Value) : Prop := match mfind ms k with | some s => s.V v | none => True
def mNews : List (Nat × Mk) → Got → List Res
  | [], _ => []
  | (k, s) :: r, D => (match D k with | some v => s.N v D | none => []) ++ mNews r D
def mHas : List (Nat × Mk) → Nat → Bool
  | [], _ => false
  | (j, _) :: r, k => bif Nat.beq j k then true else mHas r k
def mNodup : List (Nat × Mk) → Bool
  | [] => true
  | (j, _) :: r => !mHas r j && mNodup r
def hasN : List Nat → Nat → Bool
  | [], _ => false
  | j :: r, k => bif Nat.beq j k then true else hasN r k
theorem hasN_mem {l : List Nat} {k : Nat} (h : hasN l k = true) : k ∈ l := by
  induction l with
  | nil => simp [hasN] at h
  | cons j r ih =>
    simp only [hasN] at h
    cases hb : Nat.beq j k
    · rw [hb] at h; exact List.mem_cons_of_mem _ (ih (by simpa using h))
    · rw [Nat.eq_of_beq_eq_true hb]; exact List.mem_cons_self
def dpOk (ms : List (Nat × Mk)) (ds : List (Nat × List Nat)) : Bool := ms.all fun x => x.2.dp.all fun j => hasN (depOf ds x.1) j
/-- Nothing has been that waits for what has not. -/
def Cl (ms : List (Nat × Mk)) (D : Got) : Prop := ∀ x ∈ ms, D x.1 ≠ none → ∀ i ∈ x.2.dp, D i ≠ none
theorem loc_upd {s : Mk} {v u : Value} {D : Got} {k : Nat} (h : k ∉ s.dp) : s.N v (updD D k u) = s.N v D := s.loc v _ _ fun j hj => updD_ne (fun e => h (by rw [e]; exact hj))
theorem mNews_same {ms : List (Nat × Mk)} {D : Got} {k : Nat} {u : Value} (h : mHas ms k = false) (hk : ∀ x ∈ ms, D x.1 ≠ none → k ∉ x.2.dp) : mNews ms (updD D k u) = mNews ms D := by
  induction ms with
  | nil => rfl
  | cons x r ih =>
    obtain ⟨j, s⟩ := x
    simp only [mHas] at h
    cases hb : Nat.beq j k
    · rw [hb] at h
      have hne : k ≠ j := fun e => by subst e; simp at hb
      simp only [mNews]
      rw [updD_ne hne, ih (by simpa using h) (fun x hx => hk x (List.mem_cons_of_mem _ hx))]
      cases hd : D j with
      | none => rfl
      | some v => simp only; rw [loc_upd (hk (j, s) (by simp) (by simp [hd]))]
    · rw [hb] at h; simp at h
theorem mNews_add {ms : List (Nat × Mk)} {D : Got} {k : Nat} {u : Value} {s : Mk} (hn : mNodup ms = true) (hf : mfind ms k = some s) (hD : D k = none) (hk : ∀ x ∈ ms, D x.1 ≠ none → k ∉ x.2.dp) : (mNews ms (updD D k u)).Perm (mNews ms D ++ s.N u (updD D k u)) := by
  induction ms with
  | nil => simp [mfind] at hf
  | cons x r ih =>
    obtain ⟨j, q⟩ := x
    simp only [mNodup, Bool.and_eq_true, Bool.not_eq_true'] at hn
    simp only [mfind] at hf
    cases hb : Nat.beq j k
    · rw [hb] at hf
      have hne : k ≠ j := fun e => by subst e; simp at hb
      simp only [mNews]
      rw [updD_ne hne, List.append_assoc]
      have e1 : (match D j with | some v => q.N v (updD D k u) | none => []) = (match D j with | some v => q.N v D | none => []) := by
        cases hd : D j with
        | none => rfl
        | some v => simp only; rw [loc_upd (hk (j, q) (by simp) (by simp [hd]))]
      rw [e1]
      exact (ih hn.2 (by simpa using hf) (fun x hx => hk x (List.mem_cons_of_mem _ hx))).append_left _
    · rw [hb] at hf
      have e : j = k := Nat.eq_of_beq_eq_true hb
      subst e
      simp at hf; subst hf
      simp only [mNews]
      rw [updD_same, hD, mNews_same hn.1 (fun x hx => hk x (List.mem_cons_of_mem _ hx))]
      simp only [List.nil_append]
      exact List.perm_append_comm
theorem mfind_mem {ms : List (Nat × Mk)} {k : Nat} {s : Mk} (hf : mfind ms k = some s) : (k, s) ∈ ms := by
  induction ms with
  | nil => simp [mfind] at hf
  | cons x r ih =>
    obtain ⟨j, q⟩ := x
    simp only [mfind] at hf
    cases hb : Nat.beq j k
    · rw [hb] at hf; exact List.mem_cons_of_mem _ (ih (by simpa using hf))
    · rw [hb] at hf
      have e : j = k := Nat.eq_of_beq_eq_true hb
      subst e
      simp at hf; subst hf; exact List.mem_cons_self
theorem mHas_of {ms : List (Nat × Mk)} {k : Nat} (hf : mfind ms k = none) : mHas ms k = false := by
  induction ms with
  | nil => rfl
  | cons x r ih =>
    obtain ⟨j, q⟩ := x
    simp only [mfind] at hf
    simp only [mHas]
    cases hb : Nat.beq j k
    · rw [hb] at hf; exact ih (by simpa using hf)
    · rw [hb] at hf; simp at hf
theorem mfind_only {ms : List (Nat × Mk)} {k : Nat} {s : Mk} (hn : mNodup ms = true) (hf : mfind ms k = some s) : ∀ x ∈ ms, x.1 = k → x.2 = s := by
  induction ms with
  | nil => simp
  | cons x r ih =>
    obtain ⟨j, q⟩ := x
    simp only [mNodup, Bool.and_eq_true, Bool.not_eq_true'] at hn
    simp only [mfind] at hf
    have nohas : ∀ (r : List (Nat × Mk)) (j : Nat), mHas r j = false → ∀ y ∈ r, y.1 ≠ j := by
      intro r
      induction r with
      | nil => simp
      | cons z r ih2 =>
        intro j h y hy
        obtain ⟨jz, qz⟩ := z
        simp only [mHas] at h
        cases hb : Nat.beq jz j
        · rw [hb] at h
          rcases List.mem_cons.1 hy with rfl | hy
          · intro e; simp only at e; subst e; simp at hb
          · exact ih2 j (by simpa using h) y hy
        · rw [hb] at h; simp at h
    intro y hy hk
    rcases List.mem_cons.1 hy with rfl | hy
    · simp only at hk; subst hk
      simp at hf; exact hf
    · cases hb : Nat.beq j k
      · rw [hb] at hf; exact ih hn.2 (by simpa using hf) y hy hk
      · have e : j = k := Nat.eq_of_beq_eq_true hb
        subst e
        exact absurd hk (nohas r j hn.1 y hy)
theorem Inv.perm {X : Cx} {w : World} {l l' : List Res} (h : Inv X w l) (hp : l.Perm l') : Inv X w l' :=
  ⟨⟨fun r hr => h.1.1 r (hp.mem_iff.2 hr), (hp.pairwise_iff (fun {x y} hxy b h1 h2 => hxy b h2 h1)).1 h.1.2⟩, h.2⟩
theorem Inv.left {X : Cx} {w : World} {l l' : List Res} (h : Inv X w (l ++ l')) : Inv X w l :=
  ⟨⟨fun r hr => h.1.1 r (List.mem_append_left _ hr), (List.pairwise_append.1 h.1.2).1⟩, h.2⟩
def mDel : List (Nat × Mk) → Nat → List (Nat × Mk)
  | [], _ => []
  | (k, s) :: r, j => bif Nat.beq k j then r else (k, s) :: mDel r j
def mOf : List Nat → List (Nat × Mk) → Got → List Res
  | [], _, _ => []
  | j :: r, ms, D => (match mfind ms j with | some s => (match D j with | some v => s.N v D | none => []) | none => []) ++ mOf r (mDel ms j) D
def jsOk (js : List Nat) : List Nat → List (Nat × Mk) → Bool
  | [], _ => true
  | j :: r, ms => (match mfind ms j with | some s => s.dp.all (hasN js) | none => false) && jsOk js r (mDel ms j)
theorem mNews_pull {ms : List (Nat × Mk)} {D : Got} {j : Nat} {s : Mk} (hf : mfind ms j = some s) : (mNews ms D).Perm ((match D j with | some v => s.N v D | none => []) ++ mNews (mDel ms j) D) := by
  induction ms with
  | nil => simp [mfind] at hf
  | cons x r ih =>
    obtain ⟨k, q⟩ := x
    simp only [mfind] at hf
    simp only [mDel]
    cases hb : Nat.beq k j
    · rw [hb] at hf
      simp only [cond_false, mNews]
      refine ((ih (by simpa using hf)).append_left _).trans ?_
      rw [← List.append_assoc, ← List.append_assoc]
      exact List.perm_append_comm.append_right _
    · rw [hb] at hf
      have e : k = j := Nat.eq_of_beq_eq_true hb
      subst e
      simp at hf; subst hf
      simp only [cond_true, mNews]
      exact List.Perm.refl _
theorem mNews_of {D D' : Got} {Js : List Nat} : ∀ {js : List Nat} {ms : List (Nat × Mk)}, jsOk Js js ms = true → (∀ j ∈ js, D' j = D j) → (∀ j ∈ Js, D' j = D j) → ∃ l'', (mNews ms D').Perm (mOf js ms D ++ l'')
  | [], ms, _, _, _ => ⟨mNews ms D', List.Perm.refl _⟩
  | j :: r, ms, h, hd, hJ => by
    simp only [jsOk, Bool.and_eq_true] at h
    cases hs : mfind ms j with
    | none => rw [hs] at h; simp at h
    | some s =>
      rw [hs] at h
      obtain ⟨l'', hp⟩ := mNews_of (D := D) (D' := D') h.2 (fun i hi => hd i (List.mem_cons_of_mem _ hi)) hJ
      refine ⟨l'', (mNews_pull hs).trans ?_⟩
      simp only [mOf, hs]
      rw [hd j (by simp), List.append_assoc]
      have e1 : (match D j with | some v => s.N v D' | none => []) = (match D j with | some v => s.N v D | none => []) := by
        cases hdj : D j with
        | none => rfl
        | some v => simp only; exact s.loc v _ _ (fun i hi => hJ i (hasN_mem (List.all_eq_true.1 h.1 i hi)))
      rw [e1]
      exact hp.append_left _
/-- Growing numbers. -/
def incB : List Nat → Bool
  | a :: b :: r => Nat.blt a b && incB (b :: r)
  | _ => true
theorem pick_sub {α : Type} : ∀ (js : List Nat) (l : List α) (n : Nat), incB js = true → (∀ j ∈ js, n ≤ j) → ∃ l', (js.filterMap (l[·]?)).Sublist l' ∧ l' = l.drop n
  | [], l, n, _, _ => ⟨_, by simp, rfl⟩
  | j :: r, l, n, h, hn => by
    refine ⟨_, ?_, rfl⟩
    have hr : incB r = true ∧ ∀ i ∈ r, j + 1 ≤ i := by
      clear hn
      induction r generalizing j with
      | nil => exact ⟨rfl, by simp⟩
      | cons b r ih =>
        simp only [incB, Bool.and_eq_true, Nat.blt_eq] at h
        refine ⟨h.2, fun i hi => ?_⟩
        rcases List.mem_cons.1 hi with rfl | hi
        · omega
        · have := (ih b h.2).2 i hi; omega
    obtain ⟨l', h1, rfl⟩ := pick_sub r l (j + 1) hr.1 hr.2
    have hnj := hn j (by simp)
    cases hj : l[j]? with
    | none =>
      rw [List.filterMap_cons, hj]
      exact h1.trans (by rw [show l.drop (j + 1) = (l.drop n).drop (j + 1 - n) by rw [List.drop_drop]; congr 1; omega]; exact List.drop_sublist _ _)
    | some x =>
      rw [List.filterMap_cons, hj]
      have hlt := (List.getElem?_eq_some_iff.1 hj).1
      have e : l.drop n = (l.drop n).take (j - n) ++ x :: l.drop (j + 1) := by
        have : l.drop j = x :: l.drop (j + 1) := by rw [List.drop_eq_getElem_cons hlt]; rw [(List.getElem?_eq_some_iff.1 hj).2]
        rw [← this, show l.drop j = (l.drop n).drop (j - n) by rw [List.drop_drop]; congr 1; omega, List.take_append_drop]
      rw [e]
      exact (h1.cons_cons x).trans (List.sublist_append_right _ _)
theorem Inv.pick {X : Cx} {w : World} {l : List Res} {js : List Nat} (h : Inv X w l) (hs : incB js = true) : Inv X w (js.filterMap (l[·]?)) := by
  obtain ⟨l', h1, h2⟩ := pick_sub js l 0 hs (fun _ _ => Nat.zero_le _)
  rw [List.drop_zero] at h2
  subst h2
  exact ⟨⟨fun r hr => h.1.1 r (h1.subset hr), h.1.2.sublist h1⟩, h.2⟩
def CM (X : Cx) (l : List Res) (ms : List (Nat × Mk)) : Got → World → Prop := fun D w => Inv X w (l ++ mNews ms D) ∧ Cl ms D
section
variable (P : Program) (X : Cx)
def SM (ops : Array Oper) (sp : List Nat) (C : Got → World → Prop) (V : Nat → Value → Prop) (ds : List (Nat × List Nat)) (K : Act → Got → Prop) (k : Nat) (rest : List Oper) (m : List (Nat × Value)) (D : Got) : Prop := ∀ a, Fr X.n a m → wpMk P ops sp C V (depOf ds) K k rest a D
end
section
variable {P : Program} {X : Cx} {ops : Array Oper} {Q : Exit → Act → World → Prop} {rest : List Oper} {o : Oper} {m : List (Nat × Value)} {l : List Res} {v : Value} {d k : Nat} {sp : List Nat} {C : Got → World → Prop} {V : Nat → Value → Prop} {K : Act → Got → Prop} {D : Got} {ds : List (Nat × List Nat)} {l1 : List Res} {ms : List (Nat × Mk)} {s : Mk}

def Wants (X : Cx) (ops : Array Oper) (o : Oper) (m : List (Nat × Value)) : Prop := ∀ a, Fr X.n a m → Region.wanted o (yielded ops a.tmps) = true
theorem w_all (h : o.guard = none) : Wants X ops o m := fun a _ => by simp [Region.wanted, h]
theorem w_yes {j : Nat} {want : Bool} {dj : Nat} (hg : o.guard = some (j, want)) (hj : (ops[j]?).bind (·.dst) = some dj) (hb : look m dj = some (.bool want)) : Wants X ops o m := fun a hf => by rw [guard_is hf hg hj hb]; simp

theorem SM.norm (m' : List (Nat × Value)) (hm : Subs m m') (h : SM P X ops sp C V ds K k rest m' D) : SM P X ops sp C V ds K k rest m D := fun a hf => h a (hf.sub hm)
theorem CM.known {w : World} {D' : Got} {js : List Nat} (hC : CM X l ms D' w) (hj : jsOk js js ms = true) (hd : ∀ j ∈ js, D' j = D j) (hl1 : l ++ mOf js ms D = l1) : ∃ l'', (l ++ mNews ms D').Perm (l1 ++ l'') ∧ Inv X w (l1 ++ l'') := by
  obtain ⟨l'', hp⟩ := mNews_of hj hd hd
  have hp' : (l ++ mNews ms D').Perm (l1 ++ l'') := by rw [← hl1, List.append_assoc]; exact hp.append_left l
  exact ⟨l'', hp', Inv.perm hC.1 hp'⟩
theorem CM.down (hnd : mNodup ms = true) (hdp : dpOk ms ds = true) : ∀ (D : Got) j u w, CM X l ms (updD D j u) w → D j = none → (∀ k, D k ≠ none → j ∉ depOf ds k) → CM X l ms D w := fun D j u w hC hD hcl => by
  have hk : ∀ x ∈ ms, D x.1 ≠ none → j ∉ x.2.dp := fun x hx hne hj => hcl x.1 hne (hasN_mem (List.all_eq_true.1 (List.all_eq_true.1 hdp x hx) j hj))
  obtain ⟨hC1, hC2⟩ := hC
  refine ⟨?_, fun x hx hne i hi => ?_⟩
  · cases hf : mfind ms j with
    | some s =>
      refine Inv.left (l' := s.N u (updD D j u)) (hC1.perm ?_)
      rw [List.append_assoc]
      exact (mNews_add hnd hf hD hk).append_left l
    | none => rwa [mNews_same (mHas_of hf) hk] at hC1
  · have hxj : j ≠ x.1 := fun e => hne (by rw [← e]; exact hD)
    have := hC2 x hx (by rw [updD_ne hxj]; exact hne) i hi
    have hij : j ≠ i := fun e => hk x hx hne (by rw [e]; exact hi)
    rwa [updD_ne hij] at this
theorem SM.ru (hl1 : l ++ mOf (depOf ds k) ms D = l1) (hj : jsOk (depOf ds k) (depOf ds k) ms = true) (hk : (ms.map (·.1)).contains k = false) (hw : Wants X ops o m) (hd : o.dst = some d) (hn : d < X.n) (hr : Ru P X o m l1 v) (h : SM P X ops (ms.map (·.1)) (CM X l ms) V ds K (k + 1) rest ((d, v) :: m) D) : SM P X ops (ms.map (·.1)) (CM X l ms) V ds K k (o :: rest) m D := fun a hf => by
  unfold wpMk
  rw [if_pos (hw a hf), if_neg (by rw [hk]; simp)]
  refine ⟨v, fun D' w hD hd => ?_, ?_⟩
  · obtain ⟨l'', _, hI⟩ := CM.known hD hj hd hl1
    rw [hr a w hf hI.left]; exact ⟨rfl, hD⟩
  · rw [hd]; exact h _ (hf.put hn v)
theorem SM.off {j : Nat} {want b : Bool} {dj : Nat} (hg : o.guard = some (j, want)) (hj : (ops[j]?).bind (·.dst) = some dj) (hb : look m dj = some (.bool b)) (hw : (b == want) = false) (hd : o.dst = some d) (hn : d < X.n)
    (h : SM P X ops sp C V ds K (k + 1) rest ((d, undef) :: m) D) : SM P X ops sp C V ds K k (o :: rest) m D := fun a hf => by
  unfold wpMk
  rw [if_neg (by rw [guard_is hf hg hj hb]; simp [hw]), hd]
  exact h _ (hf.put hn _)
theorem SM.offu {j : Nat} {want : Bool} {dj : Nat} (hg : o.guard = some (j, want)) (hj : (ops[j]?).bind (·.dst) = some dj) (hb : look m dj = some undef) (hd : o.dst = some d) (hn : d < X.n)
    (h : SM P X ops sp C V ds K (k + 1) rest ((d, undef) :: m) D) : SM P X ops sp C V ds K k (o :: rest) m D := fun a hf => by
  unfold wpMk
  rw [if_neg (by rw [guard_un hf hg hj hb]; simp), hd]
  exact h _ (hf.put hn _)
/-- Whatever makes something. -/
theorem SM.made (hl1 : l ++ mOf (depOf ds k) ms D = l1) (hj : jsOk (depOf ds k) (depOf ds k) ms = true) (hdq : (s.dp.all fun j => hasN (depOf ds k) j && (D j).isSome) = true) (hm : mfind ms k = some s) (hk : (ms.map (·.1)).contains k = true) (hnd : mNodup ms = true) (hw : Wants X ops o m) (hd : o.dst = some d) (hn : d < X.n)
    (H : ∀ (l' : List Res) a w, Fr X.n a m → Inv X w (l1 ++ l') → mkUpon P (fun u w' => s.V u ∧ Inv X w' (l1 ++ l' ++ s.N u D)) ((execOp a.eval o).run P w))
    (h : ∀ v, s.V v → SM P X ops (ms.map (·.1)) (CM X l ms) (mV ms) ds K (k + 1) rest ((d, v) :: m) (updD D k v)) : SM P X ops (ms.map (·.1)) (CM X l ms) (mV ms) ds K k (o :: rest) m D := fun a hf => by
  have eV : mV ms k = s.V := by funext v; simp only [mV, hm]
  unfold wpMk
  rw [if_pos (hw a hf), if_pos hk]
  refine ⟨fun D' w hD hn hd => ?_, fun v hv => ?_⟩
  · obtain ⟨l'', hp, hI⟩ := CM.known hD hj hd hl1
    have h1 := H l'' a w hf hI
    have hkx : ∀ x ∈ ms, D' x.1 ≠ none → k ∉ x.2.dp := fun x hx hne hi => hD.2 x hx hne k hi hn
    have hdq' : ∀ j ∈ s.dp, D' j = D j ∧ D' j ≠ none := fun j hj' => by
      have h2 := List.all_eq_true.1 hdq j hj'
      simp only [Bool.and_eq_true] at h2
      have h3 := hd j (hasN_mem h2.1)
      exact ⟨h3, by rw [h3]; intro e; rw [e] at h2; simp at h2⟩
    have hkj : ∀ j ∈ s.dp, k ≠ j := fun j hj' e => (hdq' j hj').2 (by rw [← e]; exact hn)
    have fin : ∀ u w', s.V u ∧ Inv X w' (l1 ++ l'' ++ s.N u D) → mV ms k u ∧ CM X l ms (updD D' k u) w' := fun u w' hu => by
      refine ⟨by rw [eV]; exact hu.1, ?_, fun x hx hne i hi => ?_⟩
      · refine hu.2.perm ((hp.symm.append_right _).trans ?_)
        rw [List.append_assoc]
        have e1 : s.N u D = s.N u (updD D' k u) := s.loc u _ _ (fun j hj' => by rw [updD_ne (hkj j hj')]; exact (hdq' j hj').1.symm)
        rw [e1]
        exact ((mNews_add hnd hm hn hkx).symm).append_left l
      · by_cases e : k = i
        · subst e; rw [updD_same]; simp
        · rw [updD_ne e]
          by_cases ex : x.1 = k
          · rw [mfind_only hnd hm x hx ex] at hi
            exact (hdq' i hi).2
          · rw [updD_ne (Ne.symm ex)] at hne
            exact hD.2 x hx hne i hi
    generalize (execOp a.eval o).run P w = r at *
    cases r with
    | ok n w' =>
      cases n <;> simp only [mkUpon] at h1 ⊢
      case value u => exact fin _ _ h1
      case skip => exact fin _ _ h1
      case enter f args => exact h1.mono fun e w'' ⟨u, he, hc⟩ => ⟨u, he, fin _ _ hc⟩
    | halt x w' => simp only [mkUpon] at h1
  · rw [eV] at hv; rw [hd]; exact h v hv _ (hf.put hn v)
theorem SC.region_mk {id : Nat} {L : List Oper} (ms : List (Nat × Mk)) (ds : List (Nat × List Nat)) (hnd : mNodup ms = true) (hdp : dpOk ms ds = true) (hde : depB .any L.toArray ds = true) (hm : P.follows .mixedOrders = true) (hB : Region.lexB .any L.toArray = true)
    (h : SM P X L.toArray (ms.map (·.1)) (CM X l ms) (mV ms) ds (fun a' D => ∀ w', CM X l ms D w' → Q .normal a' w') 0 L m noD) : SC P X (.region id L.toArray true) Q m l := fun a w hf hi => by
  refine wp_region_mk (ms.map (·.1)) (CM X l ms) (mV ms) ds hm hB hde (CM.down hnd hdp) ?_ (h a hf)
  · unfold CM
    have : mNews ms noD = [] := by
      clear h hi hnd hdp
      induction ms with
      | nil => rfl
      | cons x r ih => obtain ⟨j, s⟩ := x; simp only [mNews, noD, List.nil_append]; exact ih
    rw [this, List.append_nil]
    exact ⟨hi.draw1, fun x _ hne => absurd rfl hne⟩
theorem SC.region_mk_tail {id : Nat} {L : List Oper} (n : Nat) (ms : List (Nat × Mk)) (ds : List (Nat × List Nat)) (hnd : mNodup ms = true) (hdp : dpOk ms ds = true) (hde : depB .any L.toArray ds = true) (hm : P.follows .mixedOrders = true) (hB : Region.lexTailB .any L.toArray n = true)
    (h : SM P X L.toArray (ms.map (·.1)) (CM X l ms) (mV ms) ds (fun a' D => ∀ w', CM X l ms D w' → wpList P L.toArray Q (L.drop n) a' w') 0 (L.take n) m noD) : SC P X (.region id L.toArray true) Q m l := fun a w hf hi => by
  refine wp_region_mk_tail n (ms.map (·.1)) (CM X l ms) (mV ms) ds hm hB hde (CM.down hnd hdp) ?_ (h a hf)
  · unfold CM
    have : mNews ms noD = [] := by
      clear h hi hnd hdp
      induction ms with
      | nil => rfl
      | cons x r ih => obtain ⟨j, s⟩ := x; simp only [mNews, noD, List.nil_append]; exact ih
    rw [this, List.append_nil]
    exact ⟨hi.draw1, fun x _ hne => absurd rfl hne⟩
theorem SM.nilE {l' : List Res} (hl : l ++ mNews ms D = l') (h : SE X Q .normal m l') : SM P X ops sp C V ds (fun a' D => ∀ w', CM X l ms D w' → Q .normal a' w') k [] m D := fun a hf => by
  unfold wpMk
  intro w' hC
  exact h a w' hf (by rw [← hl]; exact hC.1)
theorem SM.nilL {l' : List Res} {L : List Oper} (hl : l ++ mNews ms D = l') (h : SL P X ops Q L m l') : SM P X ops sp C V ds (fun a' D => ∀ w', CM X l ms D w' → wpList P ops Q L a' w') k [] m D := fun a hf => by
  unfold wpMk
  intro w' hC
  exact h a w' hf (by rw [← hl]; exact hC.1)
theorem SM.append {L2 : List Oper} : ∀ (L1 : List Oper) (k : Nat) (a : Act) (D : Got), wpMk P ops sp C V (depOf ds) (fun a D => wpMk P ops sp C V (depOf ds) K (k + L1.length) L2 a D) k L1 a D → wpMk P ops sp C V (depOf ds) K k (L1 ++ L2) a D
  | [], k, a, D, h => by simpa [wpMk] using h
  | o :: r, k, a, D, h => by
    rw [List.cons_append]
    unfold wpMk at h ⊢
    have e : k + (o :: r).length = k + 1 + r.length := by simp; omega
    rw [e] at h
    split
    · rename_i hw
      rw [if_pos hw] at h
      split
      · rename_i hs
        rw [if_pos hs] at h
        exact ⟨h.1, fun v hv => SM.append r (k + 1) _ _ (h.2 v hv)⟩
      · rename_i hs
        rw [if_neg hs] at h
        obtain ⟨v, h1, h2⟩ := h
        exact ⟨v, h1, SM.append r (k + 1) _ _ h2⟩
    · rename_i hw
      rw [if_neg hw] at h
      exact SM.append r (k + 1) _ _ h
theorem SM.join (n : Nat) (m' : List (Nat × Value)) (hl : (rest.take n).length = n) (hk : SM P X ops sp C V ds K (k + n) (rest.drop n) m' D)
    (h : ∀ K' : Act → Got → Prop, (∀ a, Fr X.n a m' → K' a D) → SM P X ops sp C V ds K' k (rest.take n) m D) : SM P X ops sp C V ds K k rest m D := fun a hf => by
  have := h (fun a D => wpMk P ops sp C V (depOf ds) K (k + (rest.take n).length) (rest.drop n) a D) (fun a hf => by rw [hl]; exact hk a hf) a hf
  have := SM.append (K := K) (L2 := rest.drop n) _ _ _ _ this
  rwa [List.take_append_drop] at this
theorem SM.joined {K : Act → Got → Prop} {m' : List (Nat × Value)} (hK : ∀ a, Fr X.n a m' → K a D) (hm : Subs m m') : SM P X ops sp C V ds K k [] m D := fun a hf => by unfold wpMk; exact hK a (hf.sub hm)

/-! ## What makes -/
def vb : Value → Nat
  | .pointer (some a) => a.block
  | .slice (some a) _ _ => a.block
  | _ => 0
def Mk.blk (X : Cx) (cs : List Value) (T : TypeId) : Mk := ⟨fun u => ∃ b, X.w0.heap.size ≤ b ∧ u = pt b 0, fun u _ => [rBlk (vb u) cs T], ⟨pt X.w0.heap.size 0, _, Nat.le_refl _, rfl⟩, [], fun _ _ _ _ => rfl⟩
/-- What an operation has come to. -/
def gotD (D : Got) (k : Nat) : Value := match D k with | some v => v | none => undef
def Mk.row (X : Cx) (n c : Nat) (dp : List Nat) (cs : List Value → List Value) (T : TypeId) : Mk := ⟨fun u => ∃ b, X.w0.heap.size ≤ b ∧ u = sl b 0 n c, fun u D => [rBlk (vb u) (cs (dp.map (gotD D))) T], ⟨sl X.w0.heap.size 0 n c, _, Nat.le_refl _, rfl⟩, dp, fun u D D' h => by
  have : dp.map (gotD D) = dp.map (gotD D') := List.map_congr_left fun j hj => by simp only [gotD, h j hj]
  rw [this]⟩
def Mk.val (v : Value) : Mk := ⟨fun u => u = v, fun _ _ => [], ⟨v, rfl⟩, [], fun _ _ _ _ => rfl⟩
def Mk.mine (X : Cx) (f : List UInt8) (T : TypeId) : Mk := ⟨fun u => ∃ q c, (∀ b, (Value.slice q f.length c).ownBlock = some b → X.w0.heap.size ≤ b) ∧ u = .slice q f.length c, fun u _ => [rMine u f T], ⟨_, none, 0, fun b hb => by simp [Value.ownBlock] at hb, rfl⟩, [], fun _ _ _ _ => rfl⟩

section
variable (hl1 : l ++ mOf (depOf ds k) ms D = l1) (hj : jsOk (depOf ds k) (depOf ds k) ms = true) (hk : (ms.map (·.1)).contains k = true) (hnd : mNodup ms = true) (hw : Wants X ops o m) (hd : o.dst = some d) (hn : d < X.n)
include hl1 hj hk hnd hw hd hn
theorem SM.alloc {t : TypeId} {z : Value} (hm : mfind ms k = some (Mk.blk X [z] t)) (ht : TySc P t z) (ho : o.op = .alloc t)
    (h : ∀ b, X.w0.heap.size ≤ b → SM P X ops (ms.map (·.1)) (CM X l ms) (mV ms) ds K (k + 1) rest ((d, pt b 0) :: m) (updD D k (pt b 0))) : SM P X ops (ms.map (·.1)) (CM X l ms) (mV ms) ds K k (o :: rest) m D := by
  refine SM.made hl1 hj rfl hm hk hnd hw hd hn (fun l' a w hf hI => ?_) (by rintro v ⟨b, h1, rfl⟩; exact h b h1)
  have hvc : z.cells = #[z] := by have := ht.one; cases z <;> first | rfl | simp [Value.oneCell'] at this
  have hrun : (Instr.alloc t true (.tuple #[])).run P w = .ok (.pointer (some ⟨w.heap.size, 0, none⟩)) (w.alloc (.cells #[z] t)) := by
    unfold Instr.alloc
    rw [Sem.run_bind, (ht.run w).2.2]
    simp [newVar, newRow, newObj, hvc]; rfl
  unfold execOp; rw [ho]
  simp only [Sem.run_bind, hrun, Result.andThen_ok, Sem.run_pure]
  exact ⟨⟨_, hI.2.size, rfl⟩, new_blk hI #[z] t⟩
theorem SM.alloca {t : TypeId} {z : List Value} (hm : mfind ms k = some (Mk.blk X z t)) (ht : TyAg P t z) (ho : o.op = .alloc t)
    (h : ∀ b, X.w0.heap.size ≤ b → SM P X ops (ms.map (·.1)) (CM X l ms) (mV ms) ds K (k + 1) rest ((d, pt b 0) :: m) (updD D k (pt b 0))) : SM P X ops (ms.map (·.1)) (CM X l ms) (mV ms) ds K k (o :: rest) m D := by
  refine SM.made hl1 hj rfl hm hk hnd hw hd hn (fun l' a w hf hI => ?_) (by rintro v ⟨b, h1, rfl⟩; exact h b h1)
  have hrun : (Instr.alloc t true (.tuple #[])).run P w = .ok (.pointer (some ⟨w.heap.size, 0, none⟩)) (w.alloc (.cells z.toArray t)) := by
    unfold Instr.alloc
    rw [Sem.run_bind, (ht.run w).2.2]
    simp [newVar, newRow, newObj, Value.cells]; rfl
  unfold execOp; rw [ho]
  simp only [Sem.run_bind, hrun, Result.andThen_ok, Sem.run_pure]
  exact ⟨⟨_, hI.2.size, rfl⟩, new_blk hI z.toArray t⟩
theorem SM.box {t : TypeId} {x : Operand} {c : List Value} (hm : mfind ms k = some (Mk.blk X c t)) (ho : o.op = .box t x) (hx : evM m x = some v) (hc : v.cells = c.toArray)
    (h : ∀ b, X.w0.heap.size ≤ b → SM P X ops (ms.map (·.1)) (CM X l ms) (mV ms) ds K (k + 1) rest ((d, pt b 0) :: m) (updD D k (pt b 0))) : SM P X ops (ms.map (·.1)) (CM X l ms) (mV ms) ds K k (o :: rest) m D := by
  refine SM.made hl1 hj rfl hm hk hnd hw hd hn (fun l' a w hf hI => ?_) (by rintro v ⟨b, h1, rfl⟩; exact h b h1)
  have hrun : (Instr.box t v).run P w = .ok (.pointer (some ⟨w.heap.size, 0, none⟩)) (w.alloc (.cells c.toArray t)) := by
    unfold Instr.box
    simp [newVar, newRow, newObj, hc]; rfl
  unfold execOp; rw [ho]
  simp only [hf.ev hx, Sem.run_bind, hrun, Result.andThen_ok, Sem.run_pure]
  exact ⟨⟨_, hI.2.size, rfl⟩, new_blk hI c.toArray t⟩
theorem SM.buildSlice {t : TypeId} {e n size : Nat} {parts : List (Nat × Operand)} {vals : List (Nat × Value)} {z cs : List Value} {dp : List Nat} {csf : List Value → List Value} (hdq : (dp.all fun j => hasN (depOf ds k) j && (D j).isSome) = true) (hcs : csf (dp.map (gotD D)) = cs) (hm : mfind ms k = some (Mk.row X n n dp csf e)) (ho : o.op = .buildSlice t n parts.toArray)
    (hu : P.underlying t = some (.slice e)) (hs : (P.info? e).map (fun i => (i.size, i.zero.map (·.cells.toList))) = some (size, some z)) (hsz : Nat.ble (n * size) 16777216 = true) (hp : parts.mapM (fun x => (evM m x.2).map (x.1, ·)) = some vals)
    (hc : Instr.fill (fun i => some (i * size, size)) ((Array.range (n * size)).map (z.toArray[· % z.toArray.size]!)) vals = some cs.toArray)
    (h : ∀ b, X.w0.heap.size ≤ b → SM P X ops (ms.map (·.1)) (CM X l ms) (mV ms) ds K (k + 1) rest ((d, sl b 0 n n) :: m) (updD D k (sl b 0 n n))) : SM P X ops (ms.map (·.1)) (CM X l ms) (mV ms) ds K k (o :: rest) m D := by
  refine SM.made (s := Mk.row X n n dp csf e) hl1 hj hdq hm hk hnd hw hd hn (fun l' a w hf hI => ?_) (by rintro v ⟨b, h1, rfl⟩; exact h b h1)
  have hv : (parts.toArray.map fun (i, x) => (i, a.eval x)) = vals.toArray := by
    have : parts.map (fun (x : Nat × Operand) => (x.1, a.eval x.2)) = vals := by
      clear ho hc hw
      induction parts generalizing vals with
      | nil => simp at hp; simpa using hp.symm
      | cons y r ih =>
        simp only [List.mapM_cons, Option.bind_eq_bind, Option.bind_eq_some_iff, Option.map_eq_some_iff] at hp
        obtain ⟨u, ⟨u', hu, rfl⟩, us, hus, h⟩ := hp
        cases h
        rw [List.map_cons, ih hus, hf.ev hu]
    rw [← this]; simp
  have hrun := built_slice (P := P) (w := w) (parts := vals.toArray) hu hs (Nat.le_of_ble_eq_true hsz) hc
  unfold execOp; rw [ho]
  simp only [hv, Sem.run_bind, hrun, Result.andThen_ok, Sem.run_pure]
  refine ⟨⟨_, hI.2.size, rfl⟩, ?_⟩
  show Inv X _ (_ ++ [rBlk w.heap.size (csf (dp.map (gotD D))) e])
  rw [hcs]
  exact new_blk hI cs.toArray e
theorem SM.append0 {t e : TypeId} {z x : Operand} {vx : Value} {f : List UInt8} (hm : mfind ms k = some (Mk.mine X f e)) (ho : o.op = .call { callee := .builtin .append, args := #[z, x], argTypes := #[t, t] })
    (ht : P.underlying t = some (.slice e)) (hz : (P.info? e).map (fun i => (i.zero, i.size, i.bytes)) = some (some (.int .u8 0), 1, 1)) (h0 : evM m z = some (.slice none 0 0)) (hx : evM m x = some vx) (hb : ∀ w, Inv X w l1 → BytesAt w vx f)
    (h : ∀ (q : Option Addr) (c : Nat), (∀ b, (Value.slice q f.length c).ownBlock = some b → X.w0.heap.size ≤ b) → SM P X ops (ms.map (·.1)) (CM X l ms) (mV ms) ds K (k + 1) rest ((d, .slice q f.length c) :: m) (updD D k (.slice q f.length c))) : SM P X ops (ms.map (·.1)) (CM X l ms) (mV ms) ds K k (o :: rest) m D := by
  refine SM.made hl1 hj rfl hm hk hnd hw hd hn (fun l' a w hf hI => ?_) (by rintro v ⟨q, c, h1, rfl⟩; exact h q c h1)
  obtain ⟨w', hr, hO, hU⟩ := run_app0 (P := P) (ty := o.type) ht hz (hb w hI.left)
  rw [run_call_app ho (hf.ev h0) (hf.ev hx) hr]
  have hown : ∀ b, (appV w e f.length).ownBlock = some b → w.heap.size ≤ b := fun b hb => Nat.le_of_eq (appV_own hb).symm
  exact ⟨⟨_, _, fun b hb => Nat.le_trans hI.2.size (hown b hb), rfl⟩, hI.add hU hO hown⟩
/-- A call: whatever it makes. -/
theorem SM.mkcall {f : FuncId} {fs cs vals : List Value} {c : Operand} {args : List Operand} {aT : Array TypeId} (hdq : (s.dp.all fun j => hasN (depOf ds k) j && (D j).isSome) = true) (hm : mfind ms k = some s)
    (ho : o.op = .call { callee := .value c, args := args.toArray, argTypes := aT }) (hok : CallOk P f) (hc : evM m c = some (.func (.func f) fs.toArray cs.toArray)) (ha : evL m args = some vals)
    (H : ∀ (l' : List Res) w, Inv X w (l1 ++ l') → Calls P f (fs ++ vals ++ cs).toArray w fun e w' => ∃ u, e = .returned u ∧ s.V u ∧ Inv X w' (l1 ++ l' ++ s.N u D))
    (h : ∀ v, s.V v → SM P X ops (ms.map (·.1)) (CM X l ms) (mV ms) ds K (k + 1) rest ((d, v) :: m) (updD D k v)) : SM P X ops (ms.map (·.1)) (CM X l ms) (mV ms) ds K k (o :: rest) m D := by
  refine SM.made hl1 hj hdq hm hk hnd hw hd hn (fun l' a w hf hI => ?_) h
  rw [call_enter ho hok hc ha hf w]
  exact H l' w hI
/-- A quiet call. -/
theorem SM.call {f : FuncId} {fs cs vals : List Value} {c : Operand} {args : List Operand} {aT : Array TypeId} (v : Value) (hm : mfind ms k = some (Mk.val v))
    (ho : o.op = .call { callee := .value c, args := args.toArray, argTypes := aT }) (hok : CallOk P f) (hc : evM m c = some (.func (.func f) fs.toArray cs.toArray)) (ha : evL m args = some vals)
    (H : ∀ (l' : List Res) w, Inv X w (l1 ++ l') → Calls P f (fs ++ vals ++ cs).toArray w fun e w' => e = .returned v ∧ Inv X w' (l1 ++ l'))
    (h : SM P X ops (ms.map (·.1)) (CM X l ms) (mV ms) ds K (k + 1) rest ((d, v) :: m) (updD D k v)) : SM P X ops (ms.map (·.1)) (CM X l ms) (mV ms) ds K k (o :: rest) m D :=
  SM.mkcall (s := Mk.val v) hl1 hj hk hnd hw hd hn rfl hm ho hok hc ha (fun l' w hI => (H l' w hI).mono fun e w' ⟨h1, h2⟩ => ⟨v, h1, rfl, by simpa [Mk.val] using h2⟩) (by rintro u rfl; exact h)
end
/-- .. in a region that goes in order. -/
theorem SL.mk {f : FuncId} {fs cs vals : List Value} {c : Operand} {args : List Operand} {aT : Array TypeId} (s : Mk) (hw : Wants X ops o m)
    (ho : o.op = .call { callee := .value c, args := args.toArray, argTypes := aT }) (hok : CallOk P f) (hc : evM m c = some (.func (.func f) fs.toArray cs.toArray)) (ha : evL m args = some vals) (hd : o.dst = some d) (hn : d < X.n)
    (H : ∀ (l' : List Res) w, Inv X w (l ++ l') → Calls P f (fs ++ vals ++ cs).toArray w fun e w' => ∃ u, e = .returned u ∧ s.V u ∧ Inv X w' (l ++ l' ++ s.N u noD))
    (h : ∀ v, s.V v → SL P X ops Q rest ((d, v) :: m) (l ++ s.N v noD)) : SL P X ops Q (o :: rest) m l := fun a w hf hI =>
  wpList_step fun K hK => by
    rw [if_pos (hw a hf)]
    unfold Oper.wp
    rw [call_enter ho hok hc ha hf w, Oper.upon_enter]
    refine (H [] w (by rw [List.append_nil]; exact hI)).mono fun e w' ⟨u, he, hV, hI'⟩ => ?_
    subst he
    rw [hd]
    rw [List.append_nil] at hI'
    exact hK _ _ (h u hV _ _ (hf.put hn _) hI')
/-- A row of one's own. -/
def Mk.ints (X : Cx) (xs : List Value) (e : TypeId) : Mk := ⟨fun u => ∃ q c, (∀ b, (Value.slice q xs.length c).ownBlock = some b → X.w0.heap.size ≤ b) ∧ u = .slice q xs.length c, fun u _ => [rRow u xs e], ⟨_, none, 0, fun b hb => by simp [Value.ownBlock] at hb, rfl⟩, [], fun _ _ _ _ => rfl⟩
theorem take_snoc {α : Type} {xs : List α} {i : Nat} {u : α} (h : xs[i]? = some u) : xs.take i ++ [u] = xs.take (i + 1) := by rw [List.take_add_one, h]; rfl
def tupv (v : Value) (i : Nat) : Value := match v with
  | .tuple a => a.getD i undef
  | .agg a => a.getD i undef
  | _ => undef
/-- Bytes, and two answers more. -/
def Mk.rx (X : Cx) (f : List UInt8) (b : Bool) (e : Int) (U : TypeId) : Mk := ⟨fun u => ∃ q c, (∀ b, (Value.slice q f.length c).ownBlock = some b → X.w0.heap.size ≤ b) ∧ u = .tuple #[.slice q f.length c, bo b, iw e], fun u _ => [rMine (tupv u 0) f U], ⟨_, none, 0, fun b hb => by simp [Value.ownBlock] at hb, rfl⟩, [], fun _ _ _ _ => rfl⟩
/-- A struct with bytes, and an error. -/
def Mk.take (X : Cx) (f : List UInt8) (b : Bool) (t e : Int) (U : TypeId) : Mk := ⟨fun u => ∃ q c, (∀ b, (Value.slice q f.length c).ownBlock = some b → X.w0.heap.size ≤ b) ∧ u = .tuple #[.agg #[.slice q f.length c, bo b, iw t], iw e], fun u _ => [rMine (tupv (tupv u 0) 0) f U], ⟨_, none, 0, fun b hb => by simp [Value.ownBlock] at hb, rfl⟩, [], fun _ _ _ _ => rfl⟩
/-- What a pool tells of a buffer. -/
def Mk.see (X : Cx) (n : Nat) (h g : List UInt8) (e : Int) (U : TypeId) : Mk := ⟨fun u => ∃ qh ch qd cd, (∀ b, (Value.slice qh h.length ch).ownBlock = some b → X.w0.heap.size ≤ b) ∧ (∀ b, (Value.slice qd g.length cd).ownBlock = some b → X.w0.heap.size ≤ b) ∧ u = .tuple #[.agg #[iw (n : Int), .slice qh h.length ch, .slice qd g.length cd], iw e],
  fun u _ => [rMine (tupv (tupv u 0) 1) h U, rMine (tupv (tupv u 0) 2) g U], ⟨_, none, 0, none, 0, fun b hb => by simp [Value.ownBlock] at hb, fun b hb => by simp [Value.ownBlock] at hb, rfl⟩, [], fun _ _ _ _ => rfl⟩
end
end Go.Proofs.Ytpgnklmmjdkhiaa

/-
  A region that draws its order: an operation that but picks apart what lies in slots may be taken ahead of another, as soon as it is ready. No program is named here.
-/
namespace Go.Proofs.Ytpgnklmmjdkhiaa
open Go.RowKit
def addE1 (k0 i0 : Nat) : Nat → List Oper → List Oper
  | _, [] => []
  | k, o :: r => (bif Nat.beq k k0 then { o with after := o.after.push ⟨i0, .data⟩ } else o) :: addE1 k0 i0 (k + 1) r
def addEs : List (Nat × Nat) → List Oper → List Oper
  | [], L => L
  | (k0, i0) :: r, L => addEs r (addE1 k0 i0 0 L)
/-- Ways out but the one at the end. -/
def onlyN (Q : Exit → Act → World → Prop) : Exit → Act → World → Prop
  | .normal, a, w => Q .normal a w
  | _, _, _ => False
def pureB : Op → Bool
  | .extract _ _ => true
  | .move _ => true
  | _ => false
def edgeOk (L : List Oper) (k0 i0 : Nat) : Bool :=
  Region.noSelect L.toArray && !Nat.beq k0 i0 && (match L[i0]? with
    | some oi => pureB oi.op && oi.guard.isNone && (oi.after.all fun e => !Region.binds .any e || reachB .any L.toArray 3 k0 e.on) &&
      (List.range L.length).all fun j => Nat.beq j i0 || reachB .any L.toArray 3 i0 j || (match L[j]? with
        | some oj => oj.after.any (fun e => Region.binds .any e && Nat.beq e.on i0) || oi.apart L.toArray oj
        | none => true)
    | none => false)
def edgesOk : List (Nat × Nat) → List Oper → Bool
  | [], _ => true
  | (k0, i0) :: r, L => edgeOk L k0 i0 && edgesOk r (addE1 k0 i0 0 L)
theorem addE1_get (k0 i0 : Nat) : ∀ (L : List Oper) (k j : Nat), (addE1 k0 i0 k L)[j]? = (L[j]?).map fun o => bif Nat.beq (k + j) k0 then { o with after := o.after.push ⟨i0, .data⟩ } else o
  | [], _, _ => by simp [addE1]
  | o :: r, k, 0 => by simp [addE1]
  | o :: r, k, j + 1 => by
    simp only [addE1, List.getElem?_cons_succ]
    rw [addE1_get k0 i0 r (k + 1) j, show k + 1 + j = k + (j + 1) by omega]
theorem addE1_len (k0 i0 : Nat) : ∀ (L : List Oper) (k : Nat), (addE1 k0 i0 k L).length = L.length
  | [], _ => rfl
  | o :: r, k => by simp [addE1, addE1_len k0 i0 r (k + 1)]
section
variable {P : Program} {L : List Oper} {k0 i0 : Nat} {Q : Exit → Act → World → Prop}
theorem get1 {j : Nat} {o : Oper} (h : L[j]? = some o) : ∃ e, (addE1 k0 i0 0 L)[j]? = some { o with after := e } ∧ (j ≠ k0 → e = o.after) ∧ (j = k0 → e = o.after.push ⟨i0, .data⟩) := by
  have h1 := addE1_get k0 i0 L 0 j
  rw [h, Nat.zero_add] at h1
  cases hb : Nat.beq j k0
  · rw [hb] at h1
    have hne : j ≠ k0 := fun e => by subst e; simp at hb
    exact ⟨o.after, h1, fun _ => rfl, fun e => absurd e hne⟩
  · rw [hb] at h1
    have e : j = k0 := Nat.eq_of_beq_eq_true hb
    exact ⟨_, h1, fun hne => absurd e hne, fun _ => rfl⟩
theorem yielded1 (tm : Array Value) : yielded (addE1 k0 i0 0 L).toArray tm = yielded L.toArray tm := by
  funext j
  unfold yielded
  have : ((addE1 k0 i0 0 L).toArray[j]?).bind (·.dst) = (L.toArray[j]?).bind (·.dst) := by
    simp only [List.getElem?_toArray]
    rw [addE1_get, Nat.zero_add]
    cases L[j]? with
    | none => rfl
    | some o => cases hb : Nat.beq j k0 <;> simp [hb]
  rw [this]
theorem wpOp1 {i : Nat} {K : Act → World → Prop} {a : Act} {w : World} (h : wpOp P (addE1 k0 i0 0 L).toArray Q i K a w) : wpOp P L.toArray Q i K a w := by
  unfold wpOp at h ⊢
  simp only [List.getElem?_toArray] at h ⊢
  cases ho : L[i]? with
  | none =>
    have : (addE1 k0 i0 0 L)[i]? = none := by rw [addE1_get, ho]; rfl
    rw [this] at h
    exact h
  | some o =>
    obtain ⟨e, h1, _⟩ := get1 (k0 := k0) (i0 := i0) ho
    rw [h1] at h
    simp only [yielded1] at h
    exact h
theorem pure_run {o : Oper} (h : pureB o.op = true) (ρ : Operand → Value) : (∃ v, ∀ w, (execOp ρ o).run P w = .ok (.value v) w) ∨ ∀ w, ∃ x, (execOp ρ o).run P w = .halt x w := by
  cases ho : o.op <;> rw [ho] at h <;> simp only [pureB, Bool.false_eq_true] at h
  case extract x i =>
    unfold execOp
    rw [ho]
    simp only
    cases hx : ρ x <;> simp only [Instr.extract] <;> try exact .inr fun w => ⟨_, rfl⟩
    rename_i vs
    cases hv : vs[i]? with
    | none => exact .inr fun w => by simp only [hv]; exact ⟨_, rfl⟩
    | some v => exact .inl ⟨v, fun w => by simp only [hv]; rfl⟩
  case move x =>
    refine .inl ⟨ρ x, fun w => ?_⟩
    unfold execOp; rw [ho]; rfl
theorem onlyN_mono {ops : Array Oper} : ∀ (fuel : Nat) (listed : Array Bool) (a : Act) (w : World), wpAny P .any ops (onlyN Q) fuel listed a w → wpAny P .any ops Q fuel listed a w := by
  have up : ∀ {o : Oper} {a : Act} {w : World} {K K' : Act → World → Prop}, (∀ a w, K a w → K' a w) → (o.wp P a w K (onlyN Q) ∨ (o.asks P a w ∧ LetsOut (onlyN Q))) → (o.wp P a w K' Q ∨ (o.asks P a w ∧ LetsOut Q)) := by
    intro o a w K K' hK h
    rcases h with h | ⟨_, ⟨a, w, h⟩⟩
    · left
      unfold Oper.wp at h ⊢
      generalize (execOp a.eval o).run P w = r at *
      cases r with
      | ok n w' =>
        cases n <;> simp only [Oper.upon] at h ⊢ <;> first | exact hK _ _ h | exact h.elim | skip
        · refine h.mono fun e w'' he => ?_
          cases e with
          | returned v => exact hK _ _ he
          | panicked c => exact he.elim
          | outgrown => obtain ⟨a, w, h⟩ := he; exact h.elim
        · exact h.mono fun v w'' he => hK _ _ he
      | halt x w' => cases x <;> simp only [Oper.upon] at h ⊢ <;> exact h.elim
    · exact h.elim
  have opm : ∀ {i : Nat} {a : Act} {w : World} {K K' : Act → World → Prop}, (∀ a w, K a w → K' a w) → wpOp P ops (onlyN Q) i K a w → wpOp P ops Q i K' a w := by
    intro i a w K K' hK h
    unfold wpOp at *
    split
    · rename_i ho; simp only [ho] at h; exact hK _ _ h
    · rename_i o ho
      simp only [ho] at h
      split
      · rename_i hw; simp only [hw, if_true] at h; exact up hK h
      · rename_i hw; simp only [hw] at h; exact hK _ _ h
  intro fuel
  induction fuel with
  | zero => intro listed a w h; exact h
  | succ f ih => intro listed a w h; exact ⟨fun h0 => h.1 h0, fun i hi => opm (ih _) (h.2 i hi)⟩
theorem wpAny_edge (hok : edgeOk L k0 i0 = true) : ∀ (fuel : Nat) (listed : Array Bool) (a : Act) (w : World), listed.size = L.length → ShutM .any L.toArray listed → wpAny P .any (addE1 k0 i0 0 L).toArray (onlyN Q) fuel listed a w → wpAny P .any L.toArray (onlyN Q) fuel listed a w := by
  simp only [edgeOk, Bool.and_eq_true, Bool.not_eq_true'] at hok
  obtain ⟨⟨hsel, hne⟩, hrest⟩ := hok
  have hki : k0 ≠ i0 := fun e => by subst e; simp at hne
  cases hoi : L[i0]? with
  | none => rw [hoi] at hrest; simp at hrest
  | some oi =>
    rw [hoi] at hrest
    simp only [Bool.and_eq_true] at hrest
    obtain ⟨⟨⟨hpure, hguard⟩, hpre⟩, hfree⟩ := hrest
    have hoi' : L.toArray[i0]? = some oi := by simpa using hoi
    have ready_of : ∀ (listed : Array Bool) (j : Nat), j ∈ Region.ready .any (addE1 k0 i0 0 L).toArray listed → j ∈ Region.ready .any L.toArray listed := by
      intro listed j hj
      obtain ⟨h1, o', h2, h3⟩ := mem_ready.1 hj
      simp only [List.getElem?_toArray] at h2
      cases hoj : L[j]? with
      | none => rw [addE1_get, hoj] at h2; cases h2
      | some oj =>
        obtain ⟨e, g1, g2, g3⟩ := get1 (k0 := k0) (i0 := i0) hoj
        rw [g1] at h2; cases h2
        refine mem_ready.2 ⟨h1, oj, by simpa using hoj, fun x hx hb => h3 x ?_ hb⟩
        by_cases ejk : j = k0
        · rw [g3 ejk]; simp [hx]
        · rw [g2 ejk]; exact hx
    have ready_if : ∀ (listed : Array Bool) (j : Nat), j ∈ Region.ready .any L.toArray listed → (j = k0 → listed.getD i0 false = true) → j ∈ Region.ready .any (addE1 k0 i0 0 L).toArray listed := by
      intro listed j hj hjk
      obtain ⟨h1, oj, h2, h3⟩ := mem_ready.1 hj
      simp only [List.getElem?_toArray] at h2
      obtain ⟨e, g1, g2, g3⟩ := get1 (k0 := k0) (i0 := i0) h2
      refine mem_ready.2 ⟨h1, _, by simpa using g1, fun x hx hb => ?_⟩
      by_cases ejk : j = k0
      · simp only [g3 ejk, Array.mem_push] at hx
        rcases hx with hx | rfl
        · exact h3 x hx hb
        · exact hjk ejk
      · simp only [g2 ejk] at hx
        exact h3 x hx hb
    have hblock : ∀ (listed : Array Bool) (j : Nat), listed.size = L.length → ShutM .any L.toArray listed → j ∈ Region.ready .any L.toArray listed → i0 ∉ Region.ready .any L.toArray listed → j = k0 → listed.getD i0 false = true := by
      intro listed j hsz hs hj hni ejk
      subst ejk
      obtain ⟨_, ok, hok, hall⟩ := mem_ready.1 hj
      have hilt : i0 < L.length := (List.getElem?_eq_some_iff.1 hoi).1
      cases hl : listed.getD i0 false with
      | true => rfl
      | false =>
        exfalso
        refine hni (mem_ready.2 ⟨?_, oi, hoi', fun e he hb => ?_⟩)
        · have hlt : i0 < listed.size := by omega
          simpa [hlt] using hl
        · have h1 := Array.all_eq_true_iff_forall_mem.1 hpre e he
          simp only [Bool.or_eq_true, Bool.not_eq_true'] at h1
          rcases h1 with h1 | h1
          · rw [h1] at hb; cases hb
          · exact reach_listed hs 3 _ _ ok hok hall h1
    intro fuel
    induction fuel with
    | zero =>
      intro listed a w hsz hs h
      refine ⟨?_, h.2⟩
      by_cases hnil : Region.ready .any L.toArray listed = []
      · exact hnil
      · obtain ⟨j, hj⟩ := List.exists_mem_of_ne_nil _ hnil
        exfalso
        by_cases hi : i0 ∈ Region.ready .any L.toArray listed
        · have := ready_if listed i0 hi (fun e => absurd e.symm hki)
          rw [h.1] at this; cases this
        · have := ready_if listed j hj (hblock listed j hsz hs hj hi)
          rw [h.1] at this; cases this
    | succ f ih =>
      intro listed a w hsz hs h
      by_cases hi : i0 ∈ Region.ready .any L.toArray listed
      · have h1 := wpOp1 (h.2 i0 (ready_if listed i0 hi (fun e => absurd e.symm hki)))
        unfold wpOp at h1
        have hw : Region.wanted oi (yielded L.toArray a.tmps) = true := by
          cases hg : oi.guard with
          | none => simp [Region.wanted, hg]
          | some g => rw [hg] at hguard; simp at hguard
        simp only [hoi', hw, if_true] at h1
        rcases h1 with h1 | ⟨_, ⟨a, w, h1⟩⟩
        · rcases pure_run (P := P) hpure a.eval with ⟨v, hv⟩ | hv
          · unfold Oper.wp at h1
            rw [hv w, Oper.upon_value] at h1
            refine wpAny_first hoi' (Region.noSelect_spec hsel) (fun c a w h => h.elim) f listed a w (fun j oj hj hji hun hno => ?_) hi (.inl ⟨hw, hv⟩) (ih _ _ _ (by simpa using hsz) (hs.set hi) h1)
            have hjl : j < L.length := by have := (Array.getElem?_eq_some_iff.1 hj).1; simpa using this
            have h2 := List.all_eq_true.1 hfree j (List.mem_range.2 hjl)
            simp only [List.getElem?_toArray] at hj
            rw [hj] at h2
            simp only [Bool.or_eq_true, Array.any_eq_true, Bool.and_eq_true] at h2
            rcases h2 with (h2 | h2) | ⟨q, hq, h2, h3⟩ | h2
            · exact absurd (Nat.eq_of_beq_eq_true h2) hji
            · obtain ⟨_, o', ho', hall⟩ := mem_ready.1 hi
              have h4 := reach_listed hs 3 _ _ o' ho' hall h2
              have hjl' : j < listed.size := by omega
              simp [hjl'] at h4 hun
              rw [h4] at hun; cases hun
            · exact absurd (Nat.eq_of_beq_eq_true h3) (hno _ (Array.getElem_mem hq) h2)
            · exact h2
          · obtain ⟨x, hx⟩ := hv w
            unfold Oper.wp at h1
            rw [hx] at h1
            cases x <;> simp only [Oper.upon] at h1 <;> exact h1.elim
        · exact h1.elim
      · refine ⟨fun h0 => h.1 ?_, fun i hi' => ?_⟩
        · cases hr : Region.ready .any (addE1 k0 i0 0 L).toArray listed with
          | nil => rfl
          | cons x xs =>
            have := ready_of listed x (by rw [hr]; simp)
            rw [h0] at this; cases this
        · exact wpOp_mono (fun a w hh => ih (listed.setIfInBounds i true) a w (by simpa using hsz) (hs.set hi') hh) (wpOp1 (h.2 i (ready_if listed i hi' (hblock listed i hsz hs hi' hi))))
theorem addEs_len : ∀ (ex : List (Nat × Nat)) (L : List Oper), (addEs ex L).length = L.length
  | [], _ => rfl
  | (k0, i0) :: r, L => by unfold addEs; rw [addEs_len r, addE1_len]
theorem wpAny_edges : ∀ (ex : List (Nat × Nat)) (L : List Oper), edgesOk ex L = true → ∀ (fuel : Nat) (a : Act) (w : World), wpAny P .any (addEs ex L).toArray (onlyN Q) fuel (Array.replicate L.length false) a w → wpAny P .any L.toArray (onlyN Q) fuel (Array.replicate L.length false) a w
  | [], L, _, _, _, _, h => h
  | (k0, i0) :: r, L, hok, fuel, a, w, h => by
    simp only [edgesOk, Bool.and_eq_true] at hok
    unfold addEs at h
    have h1 := wpAny_edges r (addE1 k0 i0 0 L) hok.2 fuel a w (by rw [addE1_len]; exact h)
    rw [addE1_len] at h1
    exact wpAny_edge hok.1 fuel _ a w (by simp) shut0 h1
end
section
variable {P : Program} {X : Cx} {Q : Exit → Act → World → Prop} {m : List (Nat × Value)} {l : List Res}
theorem wp_region_mk_tailE {id : Nat} {a : Act} {w : World} {L : List Oper} (ex : List (Nat × Nat)) (n : Nat) (sp : List Nat) (C : Got → World → Prop) (V : Nat → Value → Prop) (ds : List (Nat × List Nat)) (hm : P.follows .mixedOrders = true) (hok : edgesOk ex L = true) (hB : Region.lexTailB .any (addEs ex L).toArray n = true)
    (hd : depB .any (addEs ex L).toArray ds = true) (hdown : ∀ D j u w, C (updD D j u) w → D j = none → (∀ k, D k ≠ none → j ∉ depOf ds k) → C D w) (hC : C noD { w with drawn := w.drawn + 1 })
    (h : wpMk P (addEs ex L).toArray sp C V (depOf ds) (fun a' D => ∀ w', C D w' → wpList P (addEs ex L).toArray (onlyN Q) ((addEs ex L).drop n) a' w') 0 ((addEs ex L).take n) a noD) : (Code.region id L.toArray true).wp P Q a w := by
  refine wp_region_any hm ?_
  refine onlyN_mono _ _ _ _ ?_
  have key := wpAny_edges (P := P) (Q := Q) ex L hok L.toArray.size a { w with drawn := w.drawn + 1 }
  simp only [List.size_toArray] at key ⊢
  refine key ?_
  have := wpAny_mk_tail (Q := onlyN Q) n sp C V ds hB hd hdown hC h
  rw [addEs_len] at this
  exact this
theorem SC.region_mk_tailE {id : Nat} {L : List Oper} (ex : List (Nat × Nat)) (n : Nat) (ms : List (Nat × Mk)) (ds : List (Nat × List Nat)) (hnd : mNodup ms = true) (hdp : dpOk ms ds = true) (hde : depB .any (addEs ex L).toArray ds = true) (hm : P.follows .mixedOrders = true) (hok : edgesOk ex L = true) (hB : Region.lexTailB .any (addEs ex L).toArray n = true)
    (h : SM P X (addEs ex L).toArray (ms.map (·.1)) (CM X l ms) (mV ms) ds (fun a' D => ∀ w', CM X l ms D w' → wpList P (addEs ex L).toArray (onlyN Q) ((addEs ex L).drop n) a' w') 0 ((addEs ex L).take n) m noD) : SC P X (.region id L.toArray true) Q m l := fun a w hf hi => by
  refine wp_region_mk_tailE ex n (ms.map (·.1)) (CM X l ms) (mV ms) ds hm hok hB hde (CM.down hnd hdp) ?_ (h a hf)
  · unfold CM
    have : mNews ms noD = [] := by
      clear h hi hnd hdp
      induction ms with
      | nil => rfl
      | cons x r ih => obtain ⟨j, s⟩ := x; simp only [mNews, noD, List.nil_append]; exact ih
    rw [this, List.append_nil]
    exact ⟨hi.draw1, fun x _ hne => absurd rfl hne⟩
theorem SE.onlyN (h : SE X Q .normal m l) : SE X (onlyN Q) .normal m l := h
end
end Go.Proofs.Ytpgnklmmjdkhiaa

/-
  The receiver's queue: how it lies in memory; what its calls do, as plain functions.
-/
namespace Go.Proofs.Ytpgnklmmjdkhiaa
open Go.RowKit
structure Rq where
  L : List Bf
  l : List Pc
  late : List Pc
  nxt : Int
  hv : Int
  last : Int
  gone : Bool
abbrev pRows (l : List Pc) : List (List Value) := l.map Pc.row
abbrev rQ (d p : Nat) (q1 : Option Addr) (c1 : Nat) (q2 : Option Addr) (c2 : Nat) (S : Rq) : Res := rBlk d [pt p 0, .slice q1 S.l.length c1, .slice q2 S.late.length c2, iw S.nxt, iw S.hv, iw S.last, bo S.gone] 52
abbrev QR (d p ab : Nat) (q1 : Option Addr) (c1 : Nat) (q2 : Option Addr) (c2 : Nat) (S : Rq) : List Res := [rQ d p q1 c1 q2 c2 S, rPool p ab S.L, rRowN (.slice q1 S.l.length c1) (pRows S.l) 61 5, rRowN (.slice q2 S.late.length c2) (pRows S.late) 61 5]
/-- What a call leaves; all of it lies in G, or is new. -/
def QTo (w : World) (d p ab : Nat) (G : Nat → Prop) (S : Rq) (w' : World) : Prop := ∃ q1 c1 q2 c2, Sep w' (QR d p ab q1 c1 q2 c2 S) ∧ (∀ b, (Value.slice q1 S.l.length c1).ownBlock = some b → G b ∨ w.heap.size ≤ b) ∧ (∀ b, (Value.slice q2 S.late.length c2).ownBlock = some b → G b ∨ w.heap.size ≤ b) ∧ Only G w w'
/-- Where a piece's bytes end. -/
def Pc.fin' (x : Pc) : Int := IntKind.i64.wrap (x.off + x.size)
def endedF (S : Rq) : Bool := decide ((0 : Int) ≤ S.last) && (S.nxt == S.last)
def roomF (S : Rq) : Int := IntKind.i64.wrap (1024 - S.hv)
def fitsF (S : Rq) (x : Pc) : Bool :=
  if (((((((seeF S.L x.buf).2 != 0) || decide (x.off < 0)) || decide (x.skip < 0)) || decide (x.size < 0)) || decide (((seeF S.L x.buf).1.data.length : Int) < x.skip)) || decide (IntKind.i64.wrap (((seeF S.L x.buf).1.data.length : Int) - x.skip) < x.size)) = true then false
  else if (((S.gone || endedF S) || decide (IntKind.i64.wrap (S.nxt + roomF S) < x.off)) || decide (IntKind.i64.wrap (S.nxt + roomF S) < x.fin')) = true then false
  else if (decide ((0 : Int) ≤ S.last) && (decide (S.last < x.fin') || (x.fin && (x.fin' != S.last)))) = true then false
  else !x.fin || decide (farF S.nxt S.late ≤ x.fin')
theorem Inv.saw2 {X : Cx} {l : List Res} {w w' : World} {vh vd : Value} {fh fd : List UInt8} {U : TypeId} (h : Inv X w l) (h1 : OwnBytes w' 0 U vh fh) (h2 : OwnBytes w' 0 U vd fd) (h3 : ∀ b, vh.ownBlock = some b → w.heap.size ≤ b) (h4 : ∀ b, vd.ownBlock = some b → w.heap.size ≤ b) (h5 : ∀ b, vh.ownBlock = some b → vd.ownBlock = some b → False)
    (hO : Only (fun _ => False) w w') : Inv X w' (l ++ [rMine vh fh U, rMine vd fd U]) := by
  have := h.saw h1 h2 h3 h4 h5 hO
  rwa [List.append_assoc] at this
theorem ne_t {a b : Int} (h : (a != b) = true) : a ≠ b := by simpa using h
theorem ne_f {a b : Int} (h : (a != b) = false) : ¬ (a ≠ b) := by simpa using h
theorem eq_t {a b : Int} (h : (a == b) = true) : a = b := by simpa using h
theorem eq_f {a b : Int} (h : (a == b) = false) : ¬ a = b := by simpa using h
theorem or_f {a b : Bool} (h : (a || b) = false) : a = false ∧ b = false := by simpa using h
theorem not_t {b : Bool} (h : b = false) : ¬ (b = true) := by rw [h]; simp
theorem mine_bytes {X : Cx} {w : World} {l : List Res} {j : Nat} {v : Value} {f : List UInt8} {U : TypeId} (h : Inv X w l) (hj : l[j]? = some (rMine v f U)) (hl : f.length ≤ 140737488351232) : BytesAt w v f := OwnBytes.bytes (h.1.get hj) hl
theorem see_len (L : List Bf) (id : Int) {w : World} {p ab : Nat} (h : PoolAt w p ab L) : (seeF L id).1.head.length ≤ 288 ∧ (seeF L id).1.data.length ≤ 288 := by
  unfold seeF
  split
  · rename_i b hb
    unfold bufAt at hb
    split at hb
    · have := pool_sizes h b (List.mem_of_getElem? hb)
      split
      · dsimp only; omega
      · simp
    · cases hb
  · simp
/-- Four more. -/
theorem Inv.four {X : Cx} {w : World} {l : List Res} {a b c e : Res} (h : Inv X w (a :: b :: c :: e :: l)) : Sep w [a, b, c, e] := (h.keep 4).1
end Go.Proofs.Ytpgnklmmjdkhiaa

/-
  The light machine where code is no plain activation's: a round of a loop over a function; an activation behind such a loop (a mark among its calls that are put off). No program is named here.
-/
namespace Go.Proofs.Ytpgnklmmjdkhiaa
open Go.RowKit
/-- Where code runs: in a round of loop l, or in no round; and what is put off besides. -/
structure Rd where
  l : Option Nat
  ds : List Deferred
def Rd.F (Z : Rd) : Fence := { Fence.wide with round := Z.l }
def sh (Z : Rd) (a : Act) : Act := { a with defers := a.defers ++ Z.ds }
def shQ (Z : Rd) (Q : Exit → Act → World → Prop) : Exit → Act → World → Prop := fun e a w => Q e (sh Z a) w
def NoOut (Q : Exit → Act → World → Prop) : Prop := ∀ a w, ¬ Q .outgrown a w
def ndf (o : Oper) : Bool := match o.op with | .defer _ => false | _ => true
theorem ndf_spec {o : Oper} (h : ndf o = true) : ∀ c, o.op ≠ .defer c := fun c hc => by unfold ndf at h; rw [hc] at h; cases h
theorem sh_eval (Z : Rd) (a : Act) : (sh Z a).eval = a.eval := by funext x; cases x <;> rfl
theorem sh_put (Z : Rd) (a : Act) (d : Option Tmp) (v : Value) : (sh Z a).put d v = sh Z (a.put d v) := by cases d <;> rfl
theorem callsIn_Z {Z : Rd} {n : Nat} {P : Program} {f : FuncId} {args : Array Value} {w : World} {R : Ending → World → Prop} (h : Calls P f args w R) : CallsIn Z.F n P f args w R := callsIn_wide (n := n).2 h
theorem fenced_Z {Z : Rd} {P : Program} : Machine.fenced P Z.F = Machine.fenced P Fence.wide := rfl
theorem rowsIn_Z {Z : Rd} {n : Nat} {P : Program} {row : String} {args : Array Value} {w : World} {R : Value → World → Prop} (h : Rows P row args w R) : RowsIn Z.F n P row args w R := fun c cs _ =>
  let ⟨v, w', r, s⟩ := h c cs
  ⟨v, w', r, by rw [fenced_Z]; exact stepsIn_wide.2 s⟩
section
variable {P : Program} {Z : Rd} {ops : Array Oper} {Q : Exit → Act → World → Prop} {a : Act} {w : World}
theorem op_lift {o : Oper} {K K' : Act → World → Prop} (hnd : ndf o = true) (hK : ∀ a w, K a w → K' (sh Z a) w) (ho : NoOut Q) (h : o.wp P a w K (shQ Z Q)) : o.wpIn Z.F 0 P (sh Z a) w K' Q := by
  refine ⟨fun _ _ => trivial, ?_⟩
  have e : Oper.semAt Z.F.round (sh Z a).eval o = execOp a.eval o := by rw [sh_eval]; exact Oper.semAt_eq _ _ _ (ndf_spec hnd)
  rw [e]
  unfold Oper.wp at h
  generalize (execOp a.eval o).run P w = r at h ⊢
  cases r with
  | ok x w' =>
    cases x <;> simp only [Oper.upon] at h <;> simp only [Oper.uponIn]
    case value v => rw [sh_put]; exact hK _ _ h
    case skip => rw [sh_put]; exact hK _ _ h
    case defer d =>
      show K' ((sh Z { tmps := a.tmps, defers := d :: a.defers }).put o.dst undef) w'
      rw [sh_put]; exact hK _ _ h
    case enter f args =>
      refine ⟨fun hd => (by cases hd), callsIn_Z (h.mono fun e w'' he => ?_)⟩
      cases e with
      | returned v => dsimp only at he ⊢; rw [sh_put]; exact hK _ _ he
      | panicked c => exact he
      | outgrown => obtain ⟨a0, w0, h0⟩ := he; exact absurd h0 (ho _ _)
    case row row args => exact ⟨fun hd => (by cases hd), rowsIn_Z (h.mono fun v w'' he => by rw [sh_put]; exact hK _ _ he)⟩
  | halt x w' =>
    cases x <;> simp only [Oper.upon] at h <;> simp only [Oper.uponIn]
    case panic v => exact h
theorem noLets (ho : NoOut Q) : ¬ LetsOut (shQ Z Q) := fun ⟨a, w, h⟩ => ho _ _ h
/-- A list of operations; what follows. -/
def hdQ (Z : Rd) (P : Program) (ops : Array Oper) (Q : Exit → Act → World → Prop) (L2 : List Oper) : Exit → Act → World → Prop
  | .normal, a, w => wpListIn Z.F 0 P ops Q L2 (sh Z a) w
  | e, a, w => Q e (sh Z a) w
theorem list_lift (ho : NoOut Q) {L2 : List Oper} : ∀ (L1 : List Oper) (a : Act) (w : World), (L1.all ndf = true) → wpList P ops (hdQ Z P ops Q L2) L1 a w → wpListIn Z.F 0 P ops Q (L1 ++ L2) (sh Z a) w
  | [], a, w, _, h => h
  | o :: r, a, w, hnd, h => by
    simp only [List.all_cons, Bool.and_eq_true] at hnd
    simp only [List.cons_append, wpListIn, wpList] at h ⊢
    show if Region.wanted o (yielded ops a.tmps) = true then _ else _
    split
    · rename_i hw
      rw [if_pos hw] at h
      rcases h with h | h
      · have key : ∀ (Q1 : Exit → Act → World → Prop), (∀ c a w, Q1 (.panic c) a w → Q (.panic c) (sh Z a) w) → (¬ LetsOut Q1) → o.wp P a w (wpList P ops (hdQ Z P ops Q L2) r) Q1 → o.wp P a w (wpList P ops (hdQ Z P ops Q L2) r) (shQ Z Q) := by
          intro Q1 h1 h2 h3
          unfold Oper.wp at h3 ⊢
          generalize (execOp a.eval o).run P w = z at h3 ⊢
          cases z with
          | ok x w' =>
            cases x <;> simp only [Oper.upon] at h3 ⊢ <;> try exact h3
            refine h3.mono fun e w'' he => ?_
            cases e with
            | returned v => exact he
            | panicked c => exact h1 _ _ _ he
            | outgrown => exact absurd he h2
          | halt x w' =>
            cases x <;> simp only [Oper.upon] at h3 ⊢
            exact h1 _ _ _ h3
        exact op_lift hnd.1 (fun a' w' hk => list_lift ho r a' w' hnd.2 hk) ho (key (hdQ Z P ops Q L2) (fun c a w hc => hc) (fun ⟨a, w, h⟩ => ho _ _ h) h)
      · exact absurd h.2 (fun ⟨a, w, h⟩ => ho _ _ h)
    · rename_i hw
      rw [if_neg hw] at h
      refine ⟨fun _ _ => trivial, ?_⟩
      rw [sh_put]
      exact list_lift ho r _ w hnd.2 h
theorem op_liftAt (ho : NoOut Q) {i : Nat} {K K' : Act → World → Prop} (hnd : ∀ o, ops[i]? = some o → ndf o = true) (hK : ∀ a w, K a w → K' (sh Z a) w) (h : wpOp P ops (shQ Z Q) i K a w) : wpOpIn Z.F 0 P ops Q i K' (sh Z a) w := by
  unfold wpOp at h
  unfold wpOpIn
  cases hi : ops[i]? with
  | none => rw [hi] at h; exact hK _ _ h
  | some o =>
    rw [hi] at h
    dsimp only at h ⊢
    show if Region.wanted o (yielded ops a.tmps) = true then _ else _
    split
    · rename_i hw
      rw [if_pos hw] at h
      rcases h with h | h
      · exact op_lift (hnd o hi) hK ho h
      · exact absurd h.2 (noLets ho)
    · rename_i hw
      rw [if_neg hw] at h
      exact ⟨fun _ _ => trivial, by rw [sh_put]; exact hK _ _ h⟩
theorem any_lift {md : Region.Mode} (ho : NoOut Q) (hnd : ∀ (i : Nat) o, ops[i]? = some o → ndf o = true) : ∀ (fuel : Nat) (listed : Array Bool) (a : Act) (w : World), wpAny P md ops (shQ Z Q) fuel listed a w → wpAnyIn Z.F 0 P md ops Q fuel listed (sh Z a) w
  | 0, _, _, _, h => h
  | fuel + 1, _, _, _, h => ⟨fun h0 => h.1 h0, fun i hi => op_liftAt ho (hnd i) (fun a' w' hk => any_lift ho hnd fuel _ a' w' hk) (h.2 i hi)⟩
theorem all_ndf {L : List Oper} (h : L.all ndf = true) : ∀ (i : Nat) o, L.toArray[i]? = some o → ndf o = true := fun i o hi => by
  have : o ∈ L := List.mem_of_getElem? (i := i) (by simpa using hi)
  exact List.all_eq_true.1 h o this
/-- Operations in their order, the order forced. -/
theorem wpAnyIn_of_seq {F : Fence} {n : Nat} {md : Region.Mode} {Q' : Exit → Act → World → Prop} : ∀ (l : List Oper) (k : Nat) (listed : Array Bool) (a : Act) (w : World), (∀ j, l[j]? = ops[k + j]?) →
    Region.seqB md ops l.length k listed = true → wpListIn F n P ops Q' l a w → wpAnyIn F n P md ops Q' l.length listed a w
  | [], _, _, _, _, _, hB, h => ⟨by simpa [Region.seqB] using hB, h⟩
  | o :: l, k, listed, a, w, hl, hB, h => by
    have h0 : ops[k]? = some o := by simpa using (hl 0).symm
    simp only [List.length_cons, Region.seqB, Bool.and_eq_true, decide_eq_true_eq] at hB
    refine ⟨fun h1 => (by rw [hB.1] at h1; cases h1), fun i hi => ?_⟩
    rw [hB.1] at hi
    have hik : i = k := by simpa using hi
    subst hik
    have hw : wpOpIn F n P ops Q' i (wpListIn F n P ops Q' l) a w := by unfold wpOpIn; simp only [h0]; exact h
    exact wpOpIn_mono (fun a' w' h' => wpAnyIn_of_seq l (i + 1) _ a' w' (fun j => by have := hl (j + 1); simpa [Nat.add_assoc, Nat.add_comm 1 j] using this) hB.2 h') hw
theorem wpAnyIn_of_headC {C : World → Prop} {md : Region.Mode} {n g : Nat} {L : Array Bool → Act → Prop} (ho : NoOut Q) (hnd : ∀ (i : Nat) o, ops[i]? = some o → ndf o = true) (hL : ∀ listed a w, C w → L listed a → wpAnyIn Z.F 0 P md ops Q g listed (sh Z a) w) :
    ∀ (f : Nat) (listed : Array Bool) (a : Act) (w : World), C w → wpAnyC P md ops C n L f listed a → wpAnyIn Z.F 0 P md ops Q (f + g) listed (sh Z a) w
  | 0, listed, a, w, hw, h => by rw [Nat.zero_add]; exact hL _ _ _ hw h
  | f + 1, listed, a, w, hw, h => by
    rw [show f + 1 + g = (f + g) + 1 by omega]
    exact ⟨fun h0 => absurd h0 h.1, fun i hi => op_liftAt ho (hnd i) (fun a' w' hk => hk) (wpOp_of_qOp (K' := fun a' w' => wpAnyIn Z.F 0 P md ops Q (f + g) (listed.setIfInBounds i true) (sh Z a') w') hw (fun a' w' hw' h' => wpAnyIn_of_headC ho hnd hL f _ a' w' hw' h') (h.2 i hi).2)⟩
theorem wpIn_region_quiet_tail {C : World → Prop} {id : Nat} {l : List Oper} (n : Nat) (hm : P.follows .mixedOrders = true) (hB : Region.lexTailB .any l.toArray n = true) (ho : NoOut Q) (hnd : l.all ndf = true)
    (hC : C { w with drawn := w.drawn + 1 })
    (h : wpQuiet P l.toArray C (fun a' => ∀ w', C w' → wpListIn Z.F 0 P l.toArray Q (l.drop n) (sh Z a') w') (l.take n) a) : (Code.region id l.toArray true).wpIn Z.F 0 P Q (sh Z a) w := by
  simp only [Region.lexTailB, Bool.and_eq_true, decide_eq_true_eq] at hB
  obtain ⟨⟨⟨⟨hsel, hn⟩, hs⟩, hc⟩, hlex⟩ := hB
  have hn' : n < l.length := by simpa using hn
  have htl : (l.take n).length = n := by simp; omega
  have hdl : (l.drop n).length = l.toArray.size - n := by simp
  have inv0 : HeadInv .any l.toArray n (Array.replicate l.toArray.size false) :=
    ⟨by simp, fun j oj _ hl => (by rw [getD_replicate_false] at hl; cases hl), fun t _ ht => getD_in (by simpa using ht) (getD_replicate_false _ _)⟩
  have H := wpAnyC_lex (C := C) (md := .any) (g := l.toArray.size - n) hsel hs hc hn (l.take n) 0 _ a (fun j hj => by
    have hj' : j < n := by rw [htl] at hj; exact hj
    simp [hj']) (by simpa using htl) inv0 (by rw [htl]; exact hlex) h
  refine wpIn_region_any hm ?_
  have := wpAnyIn_of_headC (Z := Z) (Q := Q) (g := l.toArray.size - n) ho (all_ndf hnd) (fun listed a' w' hw' hL => by
    have := wpAnyIn_of_seq (F := Z.F) (n := 0) (md := .any) (Q' := Q) (l.drop n) n listed (sh Z a') w' (fun j => by simp [List.getElem?_drop]) (by rw [hdl]; exact hL.1) (hL.2 w' hw')
    rwa [hdl] at this) _ _ _ _ hC H
  rw [htl, show n + (l.toArray.size - n) = l.toArray.size by omega] at this
  exact this
end
/-! ## Regions, whoever runs them -/
def RG (P : Program) (draw : Bool) (L : List Oper) (Q : Exit → Act → World → Prop) (a : Act) (w : World) : Prop := match draw with
  | false => wpList P L.toArray Q L a w
  | true => P.follows .mixedOrders = true ∧ wpAny P .any L.toArray Q L.toArray.size (Array.replicate L.toArray.size false) a { w with drawn := w.drawn + 1 }
def SG (P : Program) (X : Cx) (draw : Bool) (L : List Oper) (Q : Exit → Act → World → Prop) (m : List (Nat × Value)) (l : List Res) : Prop := ∀ a w, Fr X.n a m → Inv X w l → RG P draw L Q a w
section
variable {P : Program} {X : Cx} {Q : Exit → Act → World → Prop} {m : List (Nat × Value)} {l : List Res}
theorem SC.of_SG {id : Nat} {draw : Bool} {L : List Oper} (h : SG P X draw L Q m l) : SC P X (.region id L.toArray draw) Q m l := fun a w hf hi => by
  have := h a w hf hi
  cases draw with
  | false => exact wp_region_lit this
  | true => exact wp_region_any this.1 this.2
theorem SG.region {L : List Oper} (h : SL P X L.toArray Q L m l) : SG P X false L Q m l := h
theorem SG.region_quiet {L : List Oper} (hm : P.follows .mixedOrders = true) (hB : Region.lexB .any L.toArray = true) (h : SQ P X L.toArray (fun a' => ∀ w', Inv X w' l → Q .normal a' w') L m l) : SG P X true L Q m l := fun a w hf hi => by
  refine ⟨hm, ?_⟩
  simp only [Region.lexB, Bool.and_eq_true] at hB
  refine wpAny_of_quiet (C := fun w => Inv X w l) (Q := fun a' => ∀ w', Inv X w' l → Q .normal a' w') (fun _ w' hw' h => h w' hw') _ _ _ _ hi.draw1 ?_
  have := wpAnyQ_lex (C := fun w => Inv X w l) (md := .any) hB.1 L 0 (Array.replicate L.toArray.size false) a (by simp) (by simpa using hB.2) (h a hf)
  simpa using this
theorem SG.region_tail {L : List Oper} (n : Nat) (hm : P.follows .mixedOrders = true) (hB : Region.lexTailB .any L.toArray n = true)
    (h : SQ P X L.toArray (fun a' => ∀ w', Inv X w' l → wpList P L.toArray Q (L.drop n) a' w') (L.take n) m l) : SG P X true L Q m l := fun a w hf hi => by
  refine ⟨hm, ?_⟩
  simp only [Region.lexTailB, Bool.and_eq_true, decide_eq_true_eq] at hB
  obtain ⟨⟨⟨⟨hsel, hn⟩, hs⟩, hc⟩, hlex⟩ := hB
  have hn' : n < L.length := by simpa using hn
  have htl : (L.take n).length = n := by simp; omega
  have hdl : (L.drop n).length = L.toArray.size - n := by simp
  have inv0 : HeadInv .any L.toArray n (Array.replicate L.toArray.size false) :=
    ⟨by simp, fun j oj _ hl => (by rw [getD_replicate_false] at hl; cases hl), fun t _ ht => getD_in (by simpa using ht) (getD_replicate_false _ _)⟩
  have H := wpAnyC_lex (C := fun w => Inv X w l) (md := .any) (g := L.toArray.size - n) hsel hs hc hn (L.take n) 0 _ a (fun j hj => by
    have hj' : j < n := by rw [htl] at hj; exact hj
    simp [hj']) (by simpa using htl) inv0 (by rw [htl]; exact hlex) (h a hf)
  have := wpAny_of_headC (Q' := Q) (g := L.toArray.size - n) (fun listed a' w' hw' hL => by
    have := wpAny_of_seq (md := .any) (Q' := Q) (L.drop n) n listed a' w' (fun j => by simp [List.getElem?_drop]) (by rw [hdl]; exact hL.1) (hL.2 w' hw')
    rwa [hdl] at this) _ _ _ _ hi.draw1 H
  rw [htl, show n + (L.toArray.size - n) = L.toArray.size by omega] at this
  exact this
theorem cm0 {w : World} (ms : List (Nat × Mk)) (hi : Inv X w l) : CM X l ms noD { w with drawn := w.drawn + 1 } := by
  unfold CM
  have : mNews ms noD = [] := by
    induction ms with
    | nil => rfl
    | cons x r ih => obtain ⟨j, s⟩ := x; simp only [mNews, noD, List.nil_append]; exact ih
  rw [this, List.append_nil]
  exact ⟨hi.draw1, fun x _ hne => absurd rfl hne⟩
theorem SG.region_mk {L : List Oper} (ms : List (Nat × Mk)) (ds : List (Nat × List Nat)) (hnd : mNodup ms = true) (hdp : dpOk ms ds = true) (hde : depB .any L.toArray ds = true) (hm : P.follows .mixedOrders = true) (hB : Region.lexB .any L.toArray = true)
    (h : SM P X L.toArray (ms.map (·.1)) (CM X l ms) (mV ms) ds (fun a' D => ∀ w', CM X l ms D w' → Q .normal a' w') 0 L m noD) : SG P X true L Q m l := fun a w hf hi => by
  refine ⟨hm, ?_⟩
  simp only [Region.lexB, Bool.and_eq_true] at hB
  refine wpAny_of_mk (deps_of hde) (sp := ms.map (·.1)) (C := CM X l ms) (V := mV ms) (dep := depOf ds) (Q := fun a' D => ∀ w', CM X l ms D w' → Q .normal a' w') (fun a' D w' hC' h => h w' hC') _ _ _ noD _ ⟨by simp, fun i _ => rfl, fun k hk => absurd rfl hk, shut0⟩ (cm0 ms hi) ?_
  have := wpAnyMk_lex (sp := ms.map (·.1)) (C := CM X l ms) (V := mV ms) (md := .any) (CM.down hnd hdp) (deps_of hde) hB.1 L 0 (Array.replicate L.toArray.size false) a noD ⟨by simp, fun i _ => rfl, fun k hk => absurd rfl hk, shut0⟩ ⟨_, cm0 ms hi⟩ (by simp) (by simpa using hB.2) (h a hf)
  simpa using this
theorem SG.region_mk_tail {L : List Oper} (n : Nat) (ms : List (Nat × Mk)) (ds : List (Nat × List Nat)) (hnd : mNodup ms = true) (hdp : dpOk ms ds = true) (hde : depB .any L.toArray ds = true) (hm : P.follows .mixedOrders = true) (hB : Region.lexTailB .any L.toArray n = true)
    (h : SM P X L.toArray (ms.map (·.1)) (CM X l ms) (mV ms) ds (fun a' D => ∀ w', CM X l ms D w' → wpList P L.toArray Q (L.drop n) a' w') 0 (L.take n) m noD) : SG P X true L Q m l := fun a w hf hi => by
  refine ⟨hm, ?_⟩
  have := wpAny_mk_tail (Q := Q) n (ms.map (·.1)) (CM X l ms) (mV ms) ds hB hde (CM.down hnd hdp) (cm0 ms hi) (h a hf)
  simpa using this
theorem SG.region_mk_tailE {L : List Oper} (ex : List (Nat × Nat)) (n : Nat) (ms : List (Nat × Mk)) (ds : List (Nat × List Nat)) (hnd : mNodup ms = true) (hdp : dpOk ms ds = true) (hde : depB .any (addEs ex L).toArray ds = true) (hm : P.follows .mixedOrders = true) (hok : edgesOk ex L = true) (hB : Region.lexTailB .any (addEs ex L).toArray n = true)
    (h : SM P X (addEs ex L).toArray (ms.map (·.1)) (CM X l ms) (mV ms) ds (fun a' D => ∀ w', CM X l ms D w' → wpList P (addEs ex L).toArray (onlyN Q) ((addEs ex L).drop n) a' w') 0 ((addEs ex L).take n) m noD) : SG P X true L Q m l := fun a w hf hi => by
  refine ⟨hm, ?_⟩
  refine onlyN_mono _ _ _ _ ?_
  have key := wpAny_edges (P := P) (Q := Q) ex L hok L.toArray.size a { w with drawn := w.drawn + 1 }
  simp only [List.size_toArray] at key ⊢
  refine key ?_
  have := wpAny_mk_tail (Q := onlyN Q) n (ms.map (·.1)) (CM X l ms) (mV ms) ds hB hde (CM.down hnd hdp) (cm0 ms hi) (h a hf)
  rw [addEs_len] at this
  exact this
theorem SG.region_sp {L : List Oper} (sp : List Nat) (lD : (Nat → Bool) → List Res) (hm : P.follows .mixedOrders = true) (hB : Region.lexB .any L.toArray = true) (hb : backB L.toArray = true)
    (hg : (sp.all fun i => ((L[i]?).map (fun o => o.guard.isNone)).getD false) = true) (h0 : l = lD (fun _ => false))
    (h : SS P X L.toArray sp (fun D w => Inv X w (lD D)) (fun a' => ∀ D w', (∀ i ∈ sp, D i = true) → Inv X w' (lD D) → Q .normal a' w') 0 L m) : SG P X true L Q m l := fun a w hf hi => by
  refine ⟨hm, ?_⟩
  simp only [Region.lexB, Bool.and_eq_true] at hB
  have hg' : ∀ i ∈ sp, i < L.length ∧ ∀ o, L.toArray[i]? = some o → o.guard = none := by
    intro i hi
    have := List.all_eq_true.1 hg i hi
    cases ho : L[i]? with
    | none => rw [ho] at this; simp at this
    | some o =>
      rw [ho] at this
      refine ⟨(List.getElem?_eq_some_iff.1 ho).1, fun o' ho' => ?_⟩
      have e : L[i]? = some o' := by simpa using ho'
      rw [ho] at e; cases e
      simpa using this
  refine wpAny_of_spr (sp := sp) (C := fun D w => Inv X w (lD D)) (Q := fun a' => ∀ D w', (∀ i ∈ sp, D i = true) → Inv X w' (lD D) → Q .normal a' w') (fun i hi o ho => (hg' i hi).2 o ho) (fun a' listed D w' hr hf hC' h => ?_) _ _ _ (fun _ => false) _ ?_ (by have := hi.draw1; rw [h0] at this; exact this) ?_
  · refine h D w' (fun i hi => ?_) hC'
    have hlt : i < L.toArray.size := by simpa using (hg' i hi).1
    rw [hf.2 i hi hlt]
    exact all_listed hb hf.1 hr i hlt
  · refine ⟨by simp, fun i _ hlt => ?_⟩
    have hlt' : i < L.length := by simpa using hlt
    simp [hlt']
  · have := wpAnySpr_lex (sp := sp) (C := fun D w => Inv X w (lD D)) (md := .any) hB.1 L 0 (Array.replicate L.toArray.size false) a (by simp) (by simpa using hB.2) (h a hf)
    simpa using this
end
end Go.Proofs.Ytpgnklmmjdkhiaa

/-
  Rounds of a loop over a function, walked in the light machine: judgements SI (code), SLI (a list of operations with a call of yield); the loop's statement; a round; a function that holds such a loop. No program is named here.
-/
namespace Go.Proofs.Ytpgnklmmjdkhiaa
open Go.RowKit
/-- Anything that is no cells. -/
def rObj (k : Nat) (o : Obj) : Res where
  ok w := w.heap[k]? = some o
  fp b := b = k
  lt w h b hb := by subst hb; exact (Array.getElem?_eq_some_iff.1 h).1
  st w w' h hw := by rw [hw k rfl]; exact h
abbrev rDef (D : Nat) : Res := rObj D (.deferred (some []))
abbrev rLoop (k : Nat) (r : Loop) : Res := rObj k (.loop r)
abbrev mkLoop (fn : FuncId) (T : Array Value) (ps : Array Tmp) (assign body : Code) (D : Nat) (st : LoopState) (j : Option Code) : Loop := { state := st, pending := j, fn, tmps := T, params := ps, assign, body, defers := D }
abbrev markD (D : Nat) : Deferred := { target := .collected D, args := #[] }
theorem only_put (w : World) (k : Nat) (o : Obj) : Only (fun b => b = k) w (w.putObj k o) := ⟨rfl, rfl, rfl, by simp, fun j _ hj => World.putObj_heap_other hj⟩
theorem Inv.putObj {X : Cx} {w : World} {l : List Res} {i k : Nat} {o : Obj} (o' : Obj) (h : Inv X w l) (hi : l[i]? = some (rObj k o)) (hS : X.S k ∨ X.w0.heap.size ≤ k) : Inv X (w.putObj k o') (l.set i (rObj k o')) :=
  h.upd hi (only_put w k o') (fun b hb => by cases hb; exact hS) (World.putObj_heap_same ((rObj k o).lt w (h.1.get hi) k rfl)) (fun b hb => .inl hb)
theorem Inv.addObj {X : Cx} {w : World} {l : List Res} (h : Inv X w l) (o : Obj) : Inv X (w.alloc o) (l ++ [rObj w.heap.size o]) :=
  h.add ((Only.refl _ w).alloc o) (World.alloc_heap_new w o) (fun b hb => by cases hb; exact Nat.le_refl _)
section
variable (P : Program) (Z : Rd) (X : Cx)
def SI (c : Code) (Q : Exit → Act → World → Prop) (m : List (Nat × Value)) (l : List Res) : Prop := ∀ a w, Fr X.n a m → Inv X w l → c.wpIn Z.F 0 P Q (sh Z a) w
def SLI (ops : Array Oper) (Q : Exit → Act → World → Prop) (rest : List Oper) (m : List (Nat × Value)) (l : List Res) : Prop := ∀ a w, Fr X.n a m → Inv X w l → wpListIn Z.F 0 P ops Q rest (sh Z a) w
end
section
variable {P : Program} {Z : Rd} {X : Cx} {ops : Array Oper} {Q : Exit → Act → World → Prop} {rest : List Oper} {o : Oper} {m : List (Nat × Value)} {l : List Res} {v : Value} {d : Nat}
theorem SI.norm {c : Code} (m' : List (Nat × Value)) (l' : List Res) (hm : Subs m m') (hl : l = l') (h : SI P Z X c Q m' l') : SI P Z X c Q m l := fun a w hf hi => h a w (hf.sub hm) (hl ▸ hi)
theorem SI.seq {x y : Code} (h : SI P Z X x (Exit.then (y.wpIn Z.F 0 P Q) Q) m l) : SI P Z X (x.seq y) Q m l := fun a w hf hi => wpIn_seq (h a w hf hi)
theorem SI.block {id : Nat} {c : Code} (h : SI P Z X c (Exit.inBlock id Q) m l) : SI P Z X (.block id c) Q m l := fun a w hf hi => wpIn_block (h a w hf hi)
theorem SI.skip (h : SE X (shQ Z Q) .normal m l) : SI P Z X .skip Q m l := fun a w hf hi => wpIn_skip (h a w hf hi)
theorem SI.exit {id : Nat} (h : SE X (shQ Z Q) (.exit id) m l) : SI P Z X (.exit id) Q m l := fun a w hf hi => wpIn_exit (h a w hf hi)
theorem SI.ret (h : SE X (shQ Z Q) .ret m l) : SI P Z X .ret Q m l := fun a w hf hi => wpIn_ret (h a w hf hi)
theorem sh_ev {a : Act} {x : Operand} {v : Value} (hf : Fr X.n a m) (hx : evM m x = some v) : (sh Z a).eval x = v := by rw [sh_eval]; exact hf.ev hx
theorem SI.yes {c : Operand} {x y : Code} (hc : evM m c = some (.bool true)) (h : SI P Z X x Q m l) : SI P Z X (.cond c x y) Q m l := fun a w hf hi => wpIn_cond_true (sh_ev hf hc) (h a w hf hi)
theorem SI.no {c : Operand} {x y : Code} (hc : evM m c = some (.bool false)) (h : SI P Z X y Q m l) : SI P Z X (.cond c x y) Q m l := fun a w hf hi => wpIn_cond_false (sh_ev hf hc) (h a w hf hi)
theorem SI.both {c : Operand} {x y : Code} (b : Bool) (hc : evM m c = some (.bool b)) (ht : b = true → SI P Z X x Q m l) (hn : b = false → SI P Z X y Q m l) : SI P Z X (.cond c x y) Q m l := fun a w hf hi => wpIn_cond_split (sh_ev hf hc) (fun e => ht e a w hf hi) (fun e => hn e a w hf hi)
theorem SI.of_SE {y : Code} {m' : List (Nat × Value)} {l' : List Res} (h : SI P Z X y Q m' l') : SE X (shQ Z (Exit.then (y.wpIn Z.F 0 P Q) Q)) .normal m' l' := h
theorem SI.of_SG (ho : NoOut Q) {id : Nat} {draw : Bool} {L : List Oper} (hnd : L.all ndf = true) (h : SG P X draw L (shQ Z Q) m l) : SI P Z X (.region id L.toArray draw) Q m l := fun a w hf hi => by
  have h1 := h a w hf hi
  cases draw with
  | false =>
    refine wpIn_region_lit ?_
    have := list_lift (Z := Z) ho (L2 := []) L a w hnd (by
      refine cast (congrArg (fun q => wpList P L.toArray q L a w) ?_) h1
      funext e a w; cases e <;> rfl)
    rwa [List.append_nil] at this
  | true => exact wpIn_region_any h1.1 (any_lift ho (all_ndf hnd) _ _ _ _ h1.2)
theorem SI.region_list {id : Nat} {L : List Oper} (h : SLI P Z X L.toArray Q L m l) : SI P Z X (.region id L.toArray false) Q m l := fun a w hf hi => wpIn_region_lit (h a w hf hi)
theorem SI.region_head {id : Nat} {L : List Oper} (n : Nat) (ho : NoOut Q) (hnd : L.all ndf = true) (hm : P.follows .mixedOrders = true) (hB : Region.lexTailB .any L.toArray n = true)
    (h : SQ P X L.toArray (fun a' => ∀ w', Inv X w' l → wpListIn Z.F 0 P L.toArray Q (L.drop n) (sh Z a') w') (L.take n) m l) : SI P Z X (.region id L.toArray true) Q m l :=
  fun a w hf hi => wpIn_region_quiet_tail (C := fun w => Inv X w l) n hm hB ho hnd hi.draw1 (h a hf)
theorem SQ.nilI {L : List Oper} (h : SLI P Z X ops Q L m l) : SQ P X ops (fun a' => ∀ w', Inv X w' l → wpListIn Z.F 0 P ops Q L (sh Z a') w') [] m l := fun a hf w' hi => h a w' hf hi
theorem SLI.norm (m' : List (Nat × Value)) (l' : List Res) (hm : Subs m m') (hl : l = l') (h : SLI P Z X ops Q rest m' l') : SLI P Z X ops Q rest m l := fun a w hf hi => h a w (hf.sub hm) (hl ▸ hi)
/-- n operations as everywhere, ahead of the others. -/
theorem SLI.head (n : Nat) (ho : NoOut Q) (hnd : (rest.take n).all ndf = true) (h : SL P X ops (hdQ Z P ops Q (rest.drop n)) (rest.take n) m l) : SLI P Z X ops Q rest m l := fun a w hf hi => by
  have := list_lift (Z := Z) ho (L2 := rest.drop n) _ a w hnd (h a w hf hi)
  rwa [List.take_append_drop] at this
theorem SF.list (h : SLI P Z X ops Q rest m l) : SE X (hdQ Z P ops Q rest) .normal m l := h
theorem SLI.nil (h : SE X (shQ Z Q) .normal m l) : SLI P Z X ops Q [] m l := fun a w hf hi => h a w hf hi
theorem call_yield {Lk : Nat} {r : Loop} {vals : List Value} {c : Operand} {args : List Operand} {aT : Array TypeId} (ho : o.op = .call { callee := .value c, args := args.toArray, argTypes := aT })
    (hc : evM m c = some (.func (.yield Lk) #[] #[])) (ha : evL m args = some vals) (hsz : vals.length = r.params.size) {a : Act} {n : Nat} (hf : Fr n a m) (w : World) (hw : w.heap[Lk]? = some (.loop r)) :
    (execOp a.eval o).run P w = .ok (.round Lk r.fn ((r.params.zip vals.toArray).foldl (fun t (p, v) => t.setIfInBounds p v) r.tmps) r.assign r.body) w := by
  have hy := run_yield (P := P) (args := vals.toArray) hw (by simpa using hsz)
  unfold execOp; rw [ho]
  have he : args.toArray.map a.eval = vals.toArray := by rw [← hf.evL ha]; simp
  simp [resolve, hf.ev hc, Deferred.ofValue, he, invoke, Sem.run_bind, Result.andThen, hy]
/-- A call of yield. -/
theorem SLI.yield {ζ : Type} (val : ζ → Value) (l' : ζ → List Res) (p : ζ → Prop) {j Lk : Nat} {r : Loop} {vals : List Value} {c : Operand} {args : List Operand} {aT : Array TypeId} (hl : Z.l = none) (hg : o.guard = none)
    (hop : o.op = .call { callee := .value c, args := args.toArray, argTypes := aT }) (hc : evM m c = some (.func (.yield Lk) #[] #[])) (ha : evL m args = some vals) (hj : l[j]? = some (rLoop Lk r)) (hsz : vals.length = r.params.size) (hd : o.dst = some d) (hn : d < X.n)
    (H : ∀ w, Inv X w l → RoundIn Fence.wide 0 P Lk r.fn ((r.params.zip vals.toArray).foldl (fun t (p, v) => t.setIfInBounds p v) r.tmps) r.assign r.body w fun e w' => ∃ z, e = .returned (val z) ∧ Inv X w' (l' z) ∧ p z)
    (k : ∀ z, p z → SLI P Z X ops Q rest ((d, val z) :: m) (l' z)) : SLI P Z X ops Q (o :: rest) m l := fun a w hf hI =>
  wpListIn_plain hg fun K hK => by
    refine ⟨fun _ _ => trivial, ?_⟩
    have e0 : Z.F = Fence.wide := by unfold Rd.F; rw [hl]; rfl
    have e : Oper.semAt Z.F.round (sh Z a).eval o = execOp a.eval o := by rw [sh_eval]; exact Oper.semAt_eq _ _ _ (fun c hc => by rw [hop] at hc; cases hc)
    rw [e, call_yield hop hc ha hsz hf w (hI.1.get hj), Oper.uponIn_round]
    refine ⟨fun hd => (by cases hd), ?_⟩
    rw [e0]
    refine (H w hI).mono fun e w' ⟨z, he, hI', hp⟩ => ?_
    subst he
    rw [hd]
    show K ((sh Z a).put (some d) (val z)) w'
    rw [sh_put]
    exact hK _ _ (k z hp _ _ (hf.put hn _) hI')
/-! Ends. -/
theorem SF.norm {e : Exit} (m' : List (Nat × Value)) (l' : List Res) (hm : Subs m m') (hl : l = l') (h : SE X Q e m' l') : SE X Q e m l := fun a w hf hi => h a w (hf.sub hm) (hl ▸ hi)
theorem SF.passr {K : Act → World → Prop} (h : SE X (shQ Z Q) .ret m l) : SE X (shQ Z (Exit.then K Q)) .ret m l := h
theorem SF.passe {K : Act → World → Prop} {id : Nat} (h : SE X (shQ Z Q) (.exit id) m l) : SE X (shQ Z (Exit.then K Q)) (.exit id) m l := h
theorem SF.blkn {id : Nat} (h : SE X (shQ Z Q) .normal m l) : SE X (shQ Z (Exit.inBlock id Q)) .normal m l := h
theorem SF.blkr {id : Nat} (h : SE X (shQ Z Q) .ret m l) : SE X (shQ Z (Exit.inBlock id Q)) .ret m l := h
theorem SF.blke {id : Nat} (h : SE X (shQ Z Q) .normal m l) : SE X (shQ Z (Exit.inBlock id Q)) (.exit id) m l := fun a w hf hi => by simp only [shQ, Exit.inBlock, if_true]; exact h a w hf hi
theorem SF.blko {id id' : Nat} (hne : id' ≠ id) (h : SE X (shQ Z Q) (.exit id') m l) : SE X (shQ Z (Exit.inBlock id Q)) (.exit id') m l := fun a w hf hi => by simp only [shQ, Exit.inBlock, if_neg hne]; exact h a w hf hi
theorem SF.onlyN (h : SE X (shQ Z Q) .normal m l) : SE X (onlyN (shQ Z Q)) .normal m l := h
/-! Loops. -/
theorem wpIn_loop_ghost {F : Fence} {n : Nat} {a : Act} {w : World} {c : Code} (I : Nat → Act → World → Prop) (n₀ : Nat) (h₀ : I n₀ a w)
    (round : ∀ k a w, I k a w → c.wpIn F n P (Exit.then (fun a' w' => ∃ k', k' < k ∧ I k' a' w') Q) a w) : (Code.loop c).wpIn F n P Q a w := by
  refine wpIn_loop (fun a w => ∃ k, I k a w) (fun a w => leastOf (fun k => I k a w)) ⟨n₀, h₀⟩ ?_
  intro a w hI
  refine wpIn_mono (round _ a w (leastOf_spec hI).1) ?_
  intro e a' w' hq
  cases e with
  | normal =>
    obtain ⟨n', hlt, hI'⟩ := hq
    exact show (∃ k, I k a' w') ∧ leastOf (fun k => I k a' w') < leastOf (fun k => I k a w) from ⟨⟨n', hI'⟩, Nat.lt_of_le_of_lt ((leastOf_spec ⟨n', hI'⟩).2 n' hI') hlt⟩
  | exit id => exact hq
  | goto l => exact hq
  | ret => exact hq
  | panic ch => exact hq
  | outgrown => exact hq
theorem SI.loop {c : Code} {γ : Type} (M : Nat → γ → List (Nat × Value)) (R : Nat → γ → List Res) (p : Nat → γ → Prop) (n0 : Nat) (g0 : γ) (hp : p n0 g0) (h0 : Subs m (M n0 g0)) (hl : l = R n0 g0)
    (round : ∀ n g, p n g → SI P Z X c (Exit.then (fun a w => ∃ n', n' < n ∧ ∃ a0 g', a = sh Z a0 ∧ p n' g' ∧ Fr X.n a0 (M n' g') ∧ Inv X w (R n' g')) Q) (M n g) (R n g)) : SI P Z X (.loop c) Q m l := fun a w hf hi =>
  wpIn_loop_ghost (fun n a w => ∃ a0 g, a = sh Z a0 ∧ p n g ∧ Fr X.n a0 (M n g) ∧ Inv X w (R n g)) n0 ⟨a, g0, rfl, hp, hf.sub h0, hl ▸ hi⟩ fun n a w ⟨a0, g, h0, h1, h2, h3⟩ => by subst h0; exact round n g h1 a0 w h2 h3
theorem SF.again {γ : Type} {M : Nat → γ → List (Nat × Value)} {R : Nat → γ → List Res} {p : Nat → γ → Prop} {n : Nat} (n' : Nat) (g' : γ) (hn : n' < n) (hp : p n' g') (hm : Subs m (M n' g')) (hl : l = R n' g') :
    SE X (shQ Z (Exit.then (fun a w => ∃ n', n' < n ∧ ∃ a0 g', a = sh Z a0 ∧ p n' g' ∧ Fr X.n a0 (M n' g') ∧ Inv X w (R n' g')) Q)) .normal m l := fun a w hf hi => ⟨n', hn, a, g', rfl, hp, hf.sub hm, hl ▸ hi⟩
/-! A function's end and beginning. -/
theorem SF.res {F : Fence} {fn : Func} {R : Ending → World → Prop} {e : Exit} (hz : Z.ds = []) (he : e = .ret ∨ e = .normal) (hr : ∀ a w, Fr X.n a m → Inv X w l → (results fn a.tmps).run P w = .ok v w) (hR : ∀ w, Inv X w l → R (.returned v) w) : SE X (shQ Z (bodyPostM F 0 P fn R)) e m l := fun a w hf hI => by
  have hd : (sh Z a).defers = [] := by show a.defers ++ Z.ds = []; rw [hz, hf.1]; rfl
  have : LeavesInM F 0 P fn a.tmps R (sh Z a).defers .returning w := by rw [hd]; exact ⟨v, hr a w hf hI, hR w hI⟩
  rcases he with rfl | rfl <;> exact this
theorem SF.resD {F : Fence} {fn : Func} {R : Ending → World → Prop} {e : Exit} {D j : Nat} (hz : Z.ds = [markD D]) (he : e = .ret ∨ e = .normal) (hj : l[j]? = some (rDef D)) (hD : X.w0.heap.size ≤ D)
    (hr : ∀ a w, Fr X.n a m → Inv X w (l.set j (rObj D (.deferred none))) → (results fn a.tmps).run P w = .ok v w) (hR : ∀ w, Inv X w (l.set j (rObj D (.deferred none))) → R (.returned v) w) : SE X (shQ Z (bodyPostM F 0 P fn R)) e m l := fun a w hf hI => by
  have hd : (sh Z a).defers = [markD D] := by show a.defers ++ Z.ds = [markD D]; rw [hz, hf.1]; rfl
  have hI2 := hI.putObj (.deferred none) hj (.inr hD)
  have : LeavesInM F 0 P fn a.tmps R (sh Z a).defers .returning w := by
    rw [hd]
    exact ⟨by simp, .inl ⟨D, _, rfl, run_takeDeferred (hI.1.get hj), v, hr a _ hf hI2, hR _ hI2⟩⟩
  rcases he with rfl | rfl <;> exact this
theorem bpm_out {F : Fence} {fn : Func} {R : Ending → World → Prop} (h : ∀ w, ¬ R .outgrown w) : NoOut (bodyPostM F 0 P fn R) := fun _ w hq => h w hq
theorem fr_args {n : Nat} {args : List Value} (hargs : args.length ≤ n) : Fr n { tmps := args.toArray ++ Array.replicate (n - args.toArray.size) undef, defers := [] } (args.zipIdx.map fun x => (x.2, x.1)) := by
  refine ⟨rfl, by simp; omega, ?_⟩
  intro t v hv
  have key : ∀ (xs : List Value) (k : Nat), look ((xs.zipIdx k).map fun x => (x.2, x.1)) t = some v → k ≤ t ∧ xs[t - k]? = some v := by
    intro xs
    induction xs with
    | nil => intro k h; simp [look] at h
    | cons x r ih =>
      intro k h
      simp only [List.zipIdx_cons, List.map_cons, look] at h
      cases hb : Nat.beq k t
      · rw [hb] at h
        have hne : k ≠ t := fun e => by subst e; simp at hb
        obtain ⟨h1, h2⟩ := ih (k + 1) (by simpa using h)
        refine ⟨by omega, ?_⟩
        rw [show t - k = (t - (k + 1)) + 1 by omega, List.getElem?_cons_succ]; exact h2
      · rw [hb] at h
        have e : k = t := Nat.eq_of_beq_eq_true hb
        subst e
        simp at h; subst h
        simp
  have h2 := (key args 0 hv).2
  simp only [Nat.sub_zero] at h2
  obtain ⟨h3, h4⟩ := List.getElem?_eq_some_iff.1 h2
  rw [Array.getElem?_append_left (by simpa using h3)]
  simpa using h2
theorem calls_si {f : FuncId} {fn : Func} {c : Code} {args : List Value} {w : World} {R : Ending → World → Prop} {l0 : List Res} (S : Nat → Prop) (hfn : P.funcs[f]? = some fn) (hb : fn.body = some c) (n : Nat) (hn : fn.ntmps = n) (hargs : args.length ≤ n)
    (hI : Inv ⟨n, w, S⟩ w l0) (hR : ∀ w, ¬ R .outgrown w) (h : NoOut (bodyPostM Fence.wide 0 P fn R) → SI P ⟨none, []⟩ ⟨n, w, S⟩ c (bodyPostM Fence.wide 0 P fn R) (args.zipIdx.map fun x => (x.2, x.1)) l0) : Calls P f args.toArray w R := by
  refine (callsIn_wide (n := 0)).1 (callsIn_of_wp_marks hfn hb trivial ?_)
  have := h (bpm_out hR) { tmps := args.toArray ++ Array.replicate (n - args.toArray.size) undef, defers := [] } w (fr_args hargs) hI
  rw [hn]
  exact this
/-! A round. -/
theorem rp_out {Lk : Nat} {R : Ending → World → Prop} : NoOut (roundPost P Lk R) := fun _ _ hq => hq
theorem SF.begin {body : Code} {Lk j : Nat} {r : Loop} {R : Ending → World → Prop} (hz : Z = ⟨some Lk, []⟩) (hj : l[j]? = some (rLoop Lk r)) (hr : r.state = .ready) (hS : X.S Lk ∨ X.w0.heap.size ≤ Lk) (h : SI P ⟨some Lk, []⟩ X body (roundPost P Lk R) m (l.set j (rLoop Lk { r with state := .busy }))) :
    SE X (shQ Z (Exit.then (fun a₁ w₁ => ∃ w₂, (Instr.beginRound Lk).run P w₁ = .ok () w₂ ∧ body.wpIn (Fence.wide.inRound Lk) 0 P (roundPost P Lk R) a₁ w₂) (fun _ _ _ => False))) .normal m l := fun a w hf hI => by
  subst hz
  exact ⟨_, run_beginRound (hI.1.get hj) hr, h a _ hf (hI.putObj _ hj hS)⟩
theorem SF.rend {Lk j : Nat} {r : Loop} {R : Ending → World → Prop} (hj : l[j]? = some (rLoop Lk r)) (hS : X.S Lk ∨ X.w0.heap.size ≤ Lk) (hR : ∀ w, Inv X w (l.set j (rLoop Lk { r with state := .ready, pending := none })) → R (.returned (.bool true)) w) : SE X (shQ Z (roundPost P Lk R)) .normal m l := fun a w _ hI =>
  ⟨_, _, run_endRound none (hI.1.get hj), hR _ (hI.putObj _ hj hS)⟩
theorem SF.rexit {Lk j id : Nat} {r : Loop} {R : Ending → World → Prop} (hj : l[j]? = some (rLoop Lk r)) (hS : X.S Lk ∨ X.w0.heap.size ≤ Lk) (hR : ∀ w, Inv X w (l.set j (rLoop Lk { r with state := .done, pending := some (.exit id) })) → R (.returned (.bool false)) w) : SE X (shQ Z (roundPost P Lk R)) (.exit id) m l := fun a w _ hI =>
  ⟨_, _, run_endRound (some (.exit id)) (hI.1.get hj), hR _ (hI.putObj _ hj hS)⟩
theorem SF.rret {Lk j : Nat} {r : Loop} {R : Ending → World → Prop} (hj : l[j]? = some (rLoop Lk r)) (hS : X.S Lk ∨ X.w0.heap.size ≤ Lk) (hR : ∀ w, Inv X w (l.set j (rLoop Lk { r with state := .done, pending := some .ret })) → R (.returned (.bool false)) w) : SE X (shQ Z (roundPost P Lk R)) .ret m l := fun a w _ hI =>
  ⟨_, _, run_endRound (some .ret) (hI.1.get hj), hR _ (hI.putObj _ hj hS)⟩
theorem round_si {Lk : Nat} {fn : FuncId} {tmps : Array Value} {assign body : Code} {w : World} {R : Ending → World → Prop} {l0 : List Res} (S : Nat → Prop) (n : Nat) (hf : Fr n ⟨tmps, []⟩ m) (hI : Inv ⟨n, w, S⟩ w l0)
    (h : SI P ⟨some Lk, []⟩ ⟨n, w, S⟩ assign (Exit.then (fun a₁ w₁ => ∃ w₂, (Instr.beginRound Lk).run P w₁ = .ok () w₂ ∧ body.wpIn (Fence.wide.inRound Lk) 0 P (roundPost P Lk R) a₁ w₂) (fun _ _ _ => False)) m l0) : RoundIn Fence.wide 0 P Lk fn tmps assign body w R :=
  roundIn_of_wpIn trivial (h ⟨tmps, []⟩ w hf hI)
theorem loop_eta {r : Loop} (h1 : r.state = .ready) (h2 : r.pending = none) : ({ r with state := .ready, pending := none } : Loop) = r := by cases r; simp_all
/-! The statement. -/
/-- What comes behind a loop over a function: on, or the jump that a round has left by. -/
def JP (P : Program) (Z : Rd) (X : Cx) (Q : Exit → Act → World → Prop) (m : List (Nat × Value)) (l : List Res) : Option Code → Prop
  | none => SE X (shQ Z Q) .normal m l
  | some c => SI P Z X c Q m l
theorem JP.on (h : SE X (shQ Z Q) .normal m l) : JP P Z X Q m l none := h
theorem JP.brk {id : Nat} {j : Option Code} (hj : j = none ∨ j = some (.exit id)) (h : SE X (shQ Z Q) .normal m l) : JP P Z X (Exit.inBlock id Q) m l j := by
  rcases hj with rfl | rfl
  · exact SF.blkn h
  · exact SI.exit (SF.blke h)
theorem SI.range {g : Operand} {ps : Array Tmp} {assign body : Code} {gf : FuncId} {lb : List Value} {ζ : Type} (R : ζ → List Res) (p : ζ → Option Code → Prop) (hl : Z.l = none) (hok : CallOk P gf) (hg : evM m g = some (.func (.func gf) #[] lb.toArray))
    (H : ∀ (r : Loop) (D Lk : Nat) (w1 : World), r.params = ps → r.assign = assign → r.body = body → r.state = .ready → r.pending = none → Fr X.n ⟨r.tmps, []⟩ m → X.w0.heap.size ≤ D → X.w0.heap.size ≤ Lk → Inv X w1 (l ++ [rDef D, rLoop Lk r]) →
      Calls P gf (.func (.yield Lk) #[] #[] :: lb).toArray w1 fun e w2 => (∃ v, e = .returned v) ∧ ∃ z st j, st ≠ .busy ∧ p z j ∧ Inv X w2 (R z ++ [rDef D, rLoop Lk { r with state := st, pending := j }]))
    (K : ∀ D z j, X.w0.heap.size ≤ D → p z j → JP P ⟨Z.l, markD D :: Z.ds⟩ X Q m (R z ++ [rDef D]) j) : SI P Z X (.rangeFunc g ps assign body) Q m l := fun a w hf hI => by
  refine wpIn_rangeFunc fun fn _ => ?_
  have hr : Z.F.round = none := hl
  rw [hr]
  have he := run_enterLoop_outer (P := P) (w := w) fn (sh Z a).tmps ps assign body
  obtain ⟨W1, hW1⟩ : ∃ W1, W1 = (w.alloc (.deferred (some []))).alloc (.loop (mkLoop fn (sh Z a).tmps ps assign body w.heap.size .ready none)) := ⟨_, rfl⟩
  rw [← hW1] at he
  have hI1 : Inv X ((w.alloc (.deferred (some []))).alloc (.loop (mkLoop fn (sh Z a).tmps ps assign body w.heap.size .ready none))) (l ++ [rDef w.heap.size, rLoop (w.heap.size + 1) (mkLoop fn (sh Z a).tmps ps assign body w.heap.size .ready none)]) := by
    have h1 := (hI.addObj (.deferred (some []))).addObj (.loop (mkLoop fn (sh Z a).tmps ps assign body w.heap.size .ready none))
    rw [World.size_alloc, List.append_assoc] at h1
    exact h1
  rw [← hW1] at hI1
  obtain ⟨fnn, hf1, hf2, hf3⟩ := hok
  have h2' : ¬ fnn.body = none := by cases hfb : fnn.body <;> simp_all
  have h3' : ¬ fnn.name = "runtime.NumGoroutine" := by simpa using hf3
  refine ⟨w.heap.size + 1, [markD w.heap.size], W1, { target := .fn (.func gf) lb.toArray, args := #[.func (.yield (w.heap.size + 1)) #[] #[]] }, W1, gf, (.func (.yield (w.heap.size + 1)) #[] #[] :: lb).toArray, W1, he, ?_, fun _ _ => trivial, ?_, fun hd => (by cases hd), callsIn_Z ?_⟩
  · have hev := sh_ev (Z := Z) hf hg
    have h0 : (sh Z a).eval (.const (.func (.yield (w.heap.size + 1)) #[] #[])) = .func (.yield (w.heap.size + 1)) #[] #[] := rfl
    simp only [resolve, rangeCall, hev, Deferred.ofValue, List.map_toArray, List.map_cons, List.map_nil, h0]
    rfl
  · simp [invoke, callFunc, hf1, h2', h3', Sem.run_bind, Result.andThen]
  refine (H (mkLoop fn (sh Z a).tmps ps assign body w.heap.size .ready none) w.heap.size (w.heap.size + 1) _ rfl rfl rfl rfl rfl ⟨rfl, hf.2.1, hf.2.2⟩ hI.2.size (Nat.le_trans hI.2.size (Nat.le_succ _)) hI1).mono fun e w2 => ?_
  rintro ⟨⟨v, rfl⟩, z, st, j, hst, hp, hI2⟩
  have hlen : (R z ++ [rDef w.heap.size, rLoop (w.heap.size + 1) (mkLoop fn (sh Z a).tmps ps assign body w.heap.size st j)])[(R z).length + 1]? = some (rLoop (w.heap.size + 1) (mkLoop fn (sh Z a).tmps ps assign body w.heap.size st j)) := by
    rw [List.getElem?_append_right (by omega), show (R z).length + 1 - (R z).length = 1 by omega]; rfl
  have hk := K w.heap.size z j hI.2.size hp
  have hIe := hI2.putObj (.loop { mkLoop fn (sh Z a).tmps ps assign body w.heap.size st j with state := .exhausted }) hlen (.inr (Nat.le_trans hI.2.size (Nat.le_succ _)))
  have hIl : Inv X (w2.putObj (w.heap.size + 1) (.loop { mkLoop fn (sh Z a).tmps ps assign body w.heap.size st j with state := .exhausted })) (R z ++ [rDef w.heap.size]) := by
    refine Inv.left (l' := [rLoop (w.heap.size + 1) { mkLoop fn (sh Z a).tmps ps assign body w.heap.size st j with state := .exhausted }]) ?_
    rw [List.append_assoc]
    refine cast (congrArg (Inv X _) ?_) hIe
    rw [List.set_append_right _ _ (by omega), show (R z).length + 1 - (R z).length = 1 by omega]; rfl
  have hsh : ({ sh Z a with defers := [markD w.heap.size] ++ (sh Z a).defers } : Act) = sh ⟨Z.l, markD w.heap.size :: Z.ds⟩ a := by
    unfold sh; rw [hf.1]; rfl
  refine ⟨j, _, run_endLoop (hI2.1.get hlen) hst, ?_⟩
  rw [hsh]
  cases j with
  | none => exact hk a _ hf hIl
  | some c => exact hk a _ hf hIl
end
end Go.Proofs.Ytpgnklmmjdkhiaa

/-
  Resources in bundles, in another order; a function value with one captured place. No program is named here.
-/
namespace Go.Proofs.Ytpgnklmmjdkhiaa
open Go.RowKit
section
variable {P : Program} {X : Cx} {Q : Exit → Act → World → Prop} {m : List (Nat × Value)} {l l1 l2 : List Res} {w w' : World}
theorem SF.keep {e : Exit} (j : Nat) (h : SE X Q e m (l.take j)) : SE X Q e m l := fun a w hf hI => h a w hf ⟨⟨fun s hs => hI.1.1 s (List.mem_of_mem_take hs), hI.1.2.sublist (List.take_sublist _ _)⟩, hI.2⟩
/-- Many as one. -/
def rPk (ls : List Res) : Res where
  ok w := Sep w ls
  fp b := ∃ r ∈ ls, r.fp b
  lt w h b hb := by obtain ⟨r, hr, hb⟩ := hb; exact r.lt w (h.1 r hr) b hb
  st w w' h hw := ⟨fun r hr => r.st w w' (h.1 r hr) (fun b hb => hw b ⟨r, hr, hb⟩), h.2⟩
theorem Sep.pack {ls : List Res} (h : Sep w (l1 ++ ls)) : Sep w (l1 ++ [rPk ls]) := by
  have hp := List.pairwise_append.1 h.2
  refine ⟨fun s hs => ?_, List.pairwise_append.2 ⟨hp.1, List.pairwise_singleton _ _, fun a ha b hb k h1 h2 => ?_⟩⟩
  · rcases List.mem_append.1 hs with hs | hs
    · exact h.1 s (List.mem_append_left _ hs)
    · simp at hs; subst hs
      exact ⟨fun r hr => h.1 r (List.mem_append_right _ hr), hp.2.1⟩
  · simp at hb; subst hb
    obtain ⟨r, hr, hk⟩ := h2
    exact hp.2.2 a ha r hr k h1 hk
theorem Sep.unpack {ls : List Res} (h : Sep w (l1 ++ [rPk ls])) : Sep w (l1 ++ ls) := by
  have hp := List.pairwise_append.1 h.2
  have hs : Sep w ls := h.1 (rPk ls) (by simp)
  refine ⟨fun s hm => ?_, List.pairwise_append.2 ⟨hp.1, hs.2, fun a ha b hb k h1 h2 => hp.2.2 a ha (rPk ls) (by simp) k h1 ⟨b, hb, h2⟩⟩⟩
  rcases List.mem_append.1 hm with hm | hm
  · exact h.1 s (List.mem_append_left _ hm)
  · exact hs.1 s hm
theorem Sep.reo {js : List Nat} (h : Sep w l) (hn : js.Nodup) : Sep w (js.filterMap (l[·]?)) := by
  have hp := List.pairwise_iff_getElem.1 h.2
  have dis : ∀ (i j : Nat) (x y : Res), i ≠ j → l[i]? = some x → l[j]? = some y → ∀ b, x.fp b → ¬ y.fp b := by
    intro i j x y hij hx hy b h1 h2
    obtain ⟨hi, rfl⟩ := List.getElem?_eq_some_iff.1 hx
    obtain ⟨hj, rfl⟩ := List.getElem?_eq_some_iff.1 hy
    rcases Nat.lt_or_gt_of_ne hij with hlt | hlt
    · exact hp i j hi hj hlt b h1 h2
    · exact hp j i hj hi hlt b h2 h1
  refine ⟨fun r hr => ?_, ?_⟩
  · obtain ⟨j, _, hj⟩ := List.mem_filterMap.1 hr
    exact h.1 r (List.mem_of_getElem? hj)
  · rw [List.pairwise_filterMap]
    refine hn.imp ?_
    intro i j hij x hx y hy
    exact dis i j x y hij hx hy
theorem Inv.pack {ls : List Res} (h : Inv X w (l1 ++ ls)) : Inv X w (l1 ++ [rPk ls]) := ⟨h.1.pack, h.2⟩
theorem Inv.unpack {ls : List Res} (h : Inv X w (l1 ++ [rPk ls])) : Inv X w (l1 ++ ls) := ⟨h.1.unpack, h.2⟩
theorem Inv.reo (js : List Nat) (h : Inv X w l) (hn : js.Nodup) : Inv X w (js.filterMap (l[·]?)) := ⟨h.1.reo hn, h.2⟩
/-- A row of none. -/
theorem Inv.nilRow (e size : Nat) (h : Inv X w l) : Inv X w (l ++ [rRowN (.slice none 0 0) [] e size]) := by
  refine ⟨⟨fun s hs => ?_, List.pairwise_append.2 ⟨h.1.2, List.pairwise_singleton _ _, fun a _ b hb k _ h2 => ?_⟩⟩, h.2⟩
  · rcases List.mem_append.1 hs with hs | hs
    · exact h.1.1 s hs
    · simp at hs; subst hs; exact rowN_nil w e size
  · simp at hb; subst hb; simp [rRowN, Value.ownBlock] at h2
/-- What a walk inside has left, seen from outside. -/
theorem Inv.up {S : Nat → Prop} {w1 : World} {n : Nat} (h : Inv X w1 l1) (hI : Inv ⟨n, w1, S⟩ w l) (hS : ∀ b, S b → X.S b ∨ X.w0.heap.size ≤ b) : Inv X w l := ⟨hI.1, h.2.trans' hI.2 hS⟩
theorem Inv.down {S : Nat → Prop} {n : Nat} (h : Inv X w l) : Inv ⟨n, w, S⟩ w l := ⟨h.1, Only.refl _ _⟩
/-- A function value with one captured place. -/
def fb : Value → Nat
  | .func _ _ cs => vb (cs.getD 0 undef)
  | _ => 0
def Mk.fnc (X : Cx) (f : FuncId) (cs : List Value) (T : TypeId) : Mk := ⟨fun u => ∃ b, X.w0.heap.size ≤ b ∧ u = .func (.func f) #[] #[pt b 0], fun u _ => [rBlk (fb u) cs T], ⟨.func (.func f) #[] #[pt X.w0.heap.size 0], _, Nat.le_refl _, rfl⟩, [], fun _ _ _ _ => rfl⟩
theorem fold2 (p1 p2 : Nat) (v1 v2 : Value) (T : Array Value) : (#[p1, p2].zip #[v1, v2]).foldl (fun t (x : Nat × Value) => t.setIfInBounds x.1 x.2) T = (T.setIfInBounds p1 v1).setIfInBounds p2 v2 := by simp
theorem Fr.param {n : Nat} {T : Array Value} {m : List (Nat × Value)} (h : Fr n ⟨T, []⟩ m) {k : Nat} (hk : k < n) (v : Value) : Fr n ⟨T.setIfInBounds k v, []⟩ ((k, v) :: m) := h.put (d := k) hk v
/-- A round of a loop over two variables. -/
theorem round_si2 {Lk : Nat} {r : Loop} {w : World} {R : Ending → World → Prop} {l0 : List Res} {p1 p2 : Nat} {v1 v2 : Value} {assign body : Code} (S : Nat → Prop) (n : Nat) (hp : r.params = #[p1, p2]) (ha : r.assign = assign) (hb : r.body = body) (hT : Fr n ⟨r.tmps, []⟩ m) (h1 : p1 < n) (h2 : p2 < n) (hI : Sep w l0)
    (h : SI P ⟨some Lk, []⟩ ⟨n, w, S⟩ assign (Exit.then (fun a₁ w₁ => ∃ w₂, (Instr.beginRound Lk).run P w₁ = .ok () w₂ ∧ body.wpIn (Fence.wide.inRound Lk) 0 P (roundPost P Lk R) a₁ w₂) (fun _ _ _ => False)) ((p2, v2) :: (p1, v1) :: m) l0) :
    RoundIn Fence.wide 0 P Lk r.fn ((r.params.zip #[v1, v2]).foldl (fun t (p, v) => t.setIfInBounds p v) r.tmps) r.assign r.body w R := by
  rw [hp, show (#[p1, p2].zip #[v1, v2]).foldl (fun t (p, v) => t.setIfInBounds p v) r.tmps = _ from fold2 p1 p2 v1 v2 r.tmps, ha, hb]
  exact round_si S n ((hT.param h1 v1).param h2 v2) ⟨hI, Only.refl _ _⟩ h
end
end Go.Proofs.Ytpgnklmmjdkhiaa

/-
  The light machine: append of several elements to a row of one's own; slices.Grow and slices.Concat. No program is named here.
-/
namespace Go.Proofs.Ytpgnklmmjdkhiaa
open Go.RowKit
/-- A slice (of elements of one cell) reads so. -/
def CellsAt (w : World) (x : Value) (ys : List Value) : Prop :=
  (∃ a c, x = .slice a 0 c ∧ ys = []) ∨ ∃ (b o cap : Nat), x = .slice (some ⟨b, o, none⟩) ys.length cap ∧ ∀ j u, ys[j]? = some u → w.cell? ⟨b, o + j, none⟩ = some u
theorem BytesAt.cells {w : World} {v : Value} {f : List UInt8} (h : BytesAt w v f) : CellsAt w v (f.map bv) := by
  rcases h with ⟨a, c, h1, _, rfl⟩ | ⟨b, o, cap, rfl, h1, h2, h3⟩
  · exact .inl ⟨a, c, h1, rfl⟩
  · refine .inr ⟨b, o, cap, by simp, fun j u hj => ?_⟩
    have hjl : j < f.length := by have := (List.getElem?_eq_some_iff.1 hj).1; simpa using this
    rw [h3 j hjl]
    simp only [List.getElem?_map, List.getElem?_eq_getElem hjl, Option.map_some] at hj
    exact hj
theorem row_cells {w : World} {v : Value} {xs : List Value} {e : TypeId} (h : w.ownsRow 0 e 1 v xs.length xs) : CellsAt w v xs := by
  rcases h.2 with ⟨h1, h2⟩ | ⟨g, cap, cur, rfl, h1, h2, h3, h4, h5, h6⟩
  · exact .inl ⟨none, 0, h1, List.eq_nil_of_length_eq_zero h2⟩
  · refine .inr ⟨g, 0, cap, rfl, fun j u hj => ?_⟩
    rw [Nat.zero_add, cell_of_row _ _ _ _ _ _ h2]
    have hjl : j < xs.length := (List.getElem?_eq_some_iff.1 hj).1
    have : (cur.toList.take (xs.length * 1))[j]? = some u := by rw [h6]; exact hj
    rw [List.getElem?_take, if_pos (by omega)] at this
    simpa using this
theorem CellsAt.only {w w' : World} {x : Value} {ys : List Value} (h : CellsAt w x ys) (hO : Only (fun _ => False) w w') : CellsAt w' x ys := by
  rcases h with h | ⟨b, o, cap, rfl, h1⟩
  · exact .inl h
  · refine .inr ⟨b, o, cap, rfl, fun j u hj => ?_⟩
    have hc := h1 j u hj
    rw [hO.cell (a := ⟨b, o + j, none⟩) (block_lt_of_cell hc) id]; exact hc
section
variable {P : Program} {X : Cx} {ops : Array Oper} {Q : Exit → Act → World → Prop} {rest : List Oper} {o : Oper} {m : List (Nat × Value)} {l : List Res} {v : Value} {d k : Nat} {x y : Operand} {t t' : TypeId}
theorem run_app0_none {w : World} {e ty : TypeId} {v x : Value} {xs : List Value} {i : TypeInfo} (ht : P.underlying t = some (.slice e)) (hi : P.info? e = some i) (hv : w.ownsRow 0 e 1 v xs.length xs) {a : Option Addr} {c : Nat} (hx : x = .slice a 0 c) :
    ∃ w', (Builtin.append_ #[t, t] ty #[v, x]).run P w = .ok v w' ∧ w = w' := by
  subst hx
  refine ⟨w, ?_, rfl⟩
  rcases hv.2 with ⟨rfl, h0⟩ | ⟨g, cap, cur, rfl, _, hg, hnc, _⟩
  · cases a <;> simp [Builtin.append_, run_underlying ht, sizeOf, typeInfo, hi, Builtin.lenOf, Builtin.firstCells, loadCells, loadCellsFrom]
  · cases a <;> simp [Builtin.append_, run_underlying ht, sizeOf, typeInfo, hi, Builtin.lenOf, Builtin.firstCells, loadCells, loadCellsFrom, hnc, storeCells]
theorem run_appOwn {w : World} {e ty : TypeId} {v x z : Value} {xs ys : List Value} {bytes : Nat} (ht : P.underlying t = some (.slice e)) (hz : (P.info? e).map (fun i => (i.zero, i.size, i.bytes)) = some (some z, 1, bytes)) (hzs : z.cells.size = 1) (hu : ∀ u ∈ ys, u.oneCell' = true)
    (hv : w.ownsRow 0 e 1 v xs.length xs) (hx : CellsAt w x ys) (hb : (xs.length + ys.length) * bytes ≤ 140737488355328) (hn : xs.length + ys.length ≤ maxLen) :
    ∃ v' w', (Builtin.append_ #[t, t] ty #[v, x]).run P w = .ok v' w' ∧ w'.ownsRow 0 e 1 v' (xs ++ ys).length (xs ++ ys) ∧ Only (fun k => v.ownBlock = some k) w w' ∧ (∀ b, v'.ownBlock = some b → v.ownBlock = some b ∨ w.heap.size ≤ b) := by
  obtain ⟨i, hi, h3⟩ := map_some hz
  simp only [Prod.mk.injEq] at h3
  obtain ⟨z0, z1, z2⟩ := h3
  by_cases hys : ys = []
  · subst hys
    have hx' : ∃ a c, x = .slice a 0 c := by
      rcases hx with ⟨a, c, h, _⟩ | ⟨b, o, cap, h, _⟩
      · exact ⟨a, c, h⟩
      · exact ⟨_, _, h⟩
    obtain ⟨a, c, rfl⟩ := hx'
    obtain ⟨w', hr, rfl⟩ := run_app0_none (P := P) (ty := ty) ht hi hv rfl
    exact ⟨v, w, hr, by simpa using hv, Only.refl _ _, fun b hb => .inl hb⟩
  · have hpos : 0 < ys.length := by cases ys with | nil => exact absurd rfl hys | cons a b => simp
    rcases hx with ⟨a, c, h, h0⟩ | ⟨g2, o2, c2, rfl, hcell⟩
    · exact absurd h0 hys
    have hnews : ∀ j q, ys[j]? = some q → w.cell? ((⟨g2, o2, none⟩ : Addr).add j) = some q := by
      intro j q hj
      rw [add_at]; exact hcell j q hj
    obtain ⟨v', w', hr, hO, hG, _⟩ := run_append_own (P := P) w 0 t ty e i z 1 bytes ht hi z0 z1 z2 hzs (by decide) v xs.length xs hv ⟨g2, o2, none⟩ ys.length c2 ys (by simp) hnews hu hn hb (Nat.zero_le _)
    refine ⟨v', w', hr, by simpa using hO, grown_only hG _ (fun k h => h), ?_⟩
    rcases hv.2 with ⟨rfl, h0⟩ | ⟨g, cap, cur, rfl, _, hg, hnc, hcm, hcs, htake⟩
    · have hxs : xs = [] := List.eq_nil_of_length_eq_zero h0
      subst hxs
      have h2 := run_append_nil (P := P) w t ty e i z ht hi z0 ⟨g2, o2, none⟩ ys.length c2 ys (by simp [z1]) hnews (by omega) (by unfold maxLen at hn; simp at hn; omega) (by rw [z2]; simp at hb; omega)
      rw [hr] at h2
      injection h2 with e1
      subst e1
      exact fun b hb => .inr (by simp [Value.ownBlock] at hb; omega)
    · by_cases hroom : xs.length + ys.length ≤ cap
      · have h2 := run_append_room (P := P) w t ty e i ht hi g xs.length cap cur hg ⟨g2, o2, none⟩ ys.length c2 ys (by simp [z1]) hnews hu hroom (by rw [z1]; simp; omega)
        rw [hr] at h2
        injection h2 with e1
        subst e1
        exact fun b hb => .inl (by simpa [Value.ownBlock] using hb)
      · have holds : ∀ j q, xs[j]? = some q → w.cell? ((⟨g, 0, none⟩ : Addr).add j) = some q := World.ownsRow.cells hv (g := g) rfl
        have h2 := run_append_grow (P := P) w t ty e i z ht hi z0 ⟨g, 0, none⟩ xs.length cap xs (by simp [z1]) holds ⟨g2, o2, none⟩ ys.length c2 ys (by simp [z1]) hnews (by omega) (by unfold maxLen at hn; omega) (growslice_fits (by omega) (by rw [z2]; exact hb))
        rw [hr] at h2
        injection h2 with e1
        subst e1
        exact fun b hb => .inr (by simp [Value.ownBlock] at hb; omega)
/-- 'all = append(all, x...)'. -/
theorem SL.append_own {e ri : Nat} {a1 a2 : Operand} {vx z : Value} {xs ys : List Value} {bytes : Nat} {q : Option Addr} {n c : Nat} (hg : o.guard = none) (hd : o.dst = some d) (hn : d < X.n) (ho : o.op = .call { callee := .builtin .append, args := #[a1, a2], argTypes := #[t, t] })
    (ht : P.underlying t = some (.slice e)) (hz : (P.info? e).map (fun i => (i.zero, i.size, i.bytes)) = some (some z, 1, bytes)) (hzs : z.cells.size = 1) (hu : ∀ u ∈ ys, u.oneCell' = true) (h1 : evM m a1 = some (.slice q n c)) (h2 : evM m a2 = some vx) (hi : l[ri]? = some (rRow (.slice q n c) xs e)) (hx : ∀ w, Inv X w l → CellsAt w vx ys)
    (hb : (xs.length + ys.length) * bytes ≤ 140737488355328) (hl : xs.length + ys.length ≤ maxLen) (hS : ∀ b, (Value.slice q n c).ownBlock = some b → X.S b ∨ X.w0.heap.size ≤ b)
    (k : ∀ (q' : Option Addr) (c' : Nat), (∀ b, (Value.slice q' (xs ++ ys).length c').ownBlock = some b → X.S b ∨ X.w0.heap.size ≤ b) → SL P X ops Q rest ((d, .slice q' (xs ++ ys).length c') :: m) (l.set ri (rRow (.slice q' (xs ++ ys).length c') (xs ++ ys) e))) : SL P X ops Q (o :: rest) m l := fun a w hf hI =>
  wpList_plain hg fun K' hK => by
    obtain ⟨v', w', hr, hO, hU, hN⟩ := run_appOwn (P := P) (ty := o.type) ht hz hzs hu (hI.1.get hi) (hx w hI) hb hl
    unfold Oper.wp
    rw [run_call_app ho (hf.ev h1) (hf.ev h2) hr]
    simp only [Oper.upon_value, hd]
    obtain ⟨q', c', rfl⟩ : ∃ q' c', v' = .slice q' (xs ++ ys).length c' := by
      rcases hO.2 with ⟨h0, h0'⟩ | ⟨g, cap, cur, rfl, _⟩
      · exact ⟨none, 0, by rw [h0, h0']⟩
      · exact ⟨some ⟨g, 0, none⟩, cap, rfl⟩
    refine hK _ _ (k q' c' (fun b hb => ?_) _ _ (hf.put hn _) (hI.upd hi hU hS hO (fun b hb => hN b hb)))
    rcases hN b hb with h | h
    · exact hS b h
    · exact .inr (Nat.le_trans hI.2.size h)
/-- What slices.Grow(nil, n) leaves. -/
theorem grown_row {w : World} {e : TypeId} {z : Value} {n G : Nat} (hz1 : z.cells.size = 1) (hG : n ≤ G) (hGm : G ≤ maxLen) : (w.drew.alloc (.cells (#[] ++ Builtin.zeroCells z.cells n ++ Builtin.zeroCells z.cells (G - n)) e)).ownsRow 0 e 1 (.slice (some ⟨w.heap.size, 0, none⟩) 0 G) ([] : List Value).length [] := by
  refine ⟨by simp, .inr ⟨w.heap.size, G, _, rfl, Nat.zero_le _, heap_alloc_new w.drew _, Nat.zero_le _, hGm, ?_, by simp⟩⟩
  simp only [Array.size_append, size_zeroCells, hz1]
  simp; omega
end
end Go.Proofs.Ytpgnklmmjdkhiaa

/-
  The light machine: pieces of bytes; what the memory tells. No program is named here.
-/
namespace Go.Proofs.Ytpgnklmmjdkhiaa
open Go.RowKit
theorem BytesAt.slice {w : World} {q : Option Addr} {n c : Nat} {f : List UInt8} (l0 h0 m0 : Nat) (h : BytesAt w (.slice q n c) f) (h1 : l0 ≤ h0) (h2 : h0 ≤ n) (h3 : h0 ≤ m0) (h4 : m0 ≤ c) :
    BytesAt w (.slice (if m0 = l0 then q else q.map (·.add (l0 * 1))) (h0 - l0) (m0 - l0)) ((f.drop l0).take (h0 - l0)) := by
  have hcap : q = none → c = 0 := by
    rcases h with ⟨a, c', e, hn, _⟩ | ⟨b, o, cap, e, _⟩
    · simp only [Value.slice.injEq] at e
      obtain ⟨rfl, _, rfl⟩ := e
      exact hn
    · simp only [Value.slice.injEq] at e
      rw [e.1]; intro h; cases h
  by_cases hz : h0 = l0
  · subst hz
    refine .inl ⟨_, _, by rw [Nat.sub_self], fun e => ?_, by rw [Nat.sub_self, List.take_zero]⟩
    split at e
    · have := hcap e; omega
    · have := hcap (by simpa using e); omega
  · rcases h with ⟨a, c', e, _, rfl⟩ | ⟨b, o, cap, e, k1, k2, k3⟩
    · simp only [Value.slice.injEq] at e; omega
    · simp only [Value.slice.injEq] at e
      obtain ⟨rfl, rfl, rfl⟩ := e
      have hl : ((f.drop l0).take (h0 - l0)).length = h0 - l0 := by simp; omega
      refine .inr ⟨b, o + l0, m0 - l0, ?_, by omega, by omega, fun j hj => ?_⟩
      · rw [if_neg (by omega), hl]
        simp only [Option.map_some, Value.slice.injEq, Option.some.injEq, and_self, and_true]
        unfold Addr.add; split
        · simp_all
        · simp
      · have hj' : j < h0 - l0 := by rw [hl] at hj; exact hj
        rw [show o + l0 + j = o + (l0 + j) by omega, k3 (l0 + j) (by omega)]
        simp
/-- Bytes, none. -/
theorem Inv.nilMine {X : Cx} {w : World} {l : List Res} (e : TypeId) (h : Inv X w l) : Inv X w (l ++ [rMine (.slice none 0 0) [] e]) := by
  refine ⟨⟨fun s hs => ?_, List.pairwise_append.2 ⟨h.1.2, List.pairwise_singleton _ _, fun a _ b hb k _ h2 => ?_⟩⟩, h.2⟩
  · rcases List.mem_append.1 hs with hs | hs
    · exact h.1.1 s hs
    · simp at hs; subst hs; exact ownb_nil w e
  · simp at hb; subst hb; simp [rMine, Value.ownBlock] at h2
theorem own_le {w : World} {e : TypeId} {q : Option Addr} {n c : Nat} {f : List UInt8} (h : OwnBytes w 0 e (.slice q n c) f) : n = f.length ∧ f.length ≤ c := by
  rcases h.2 with ⟨h1, h0⟩ | ⟨g, cap, cur, hv, _, _, hn, _⟩
  · simp only [Value.slice.injEq] at h1; omega
  · simp only [Value.slice.injEq] at hv
    obtain ⟨_, rfl, rfl⟩ := hv
    exact ⟨rfl, hn⟩
/-- What a slice of bytes is cut to: from k on. -/
abbrev cutV (q : Option Addr) (n c k : Nat) : Value := .slice (if c = k then q else q.map (·.add (k * 1))) (n - k) (c - k)
section
variable {P : Program} {Z : Rd} {X : Cx} {Q : Exit → Act → World → Prop} {m : List (Nat × Value)} {l : List Res} {p : Prop}
theorem SI.fact {c : Code} (hf : ∀ w, Inv X w l → p) (h : p → SI P Z X c Q m l) : SI P Z X c Q m l := fun a w h1 h2 => h (hf w h2) a w h1 h2
theorem SC.factC {c : Code} (hf : ∀ w, Inv X w l → p) (h : p → SC P X c Q m l) : SC P X c Q m l := fun a w h1 h2 => h (hf w h2) a w h1 h2
theorem SL.fact {ops : Array Oper} {rest : List Oper} (hf : ∀ w, Inv X w l → p) (h : p → SL P X ops Q rest m l) : SL P X ops Q rest m l := fun a w h1 h2 => h (hf w h2) a w h1 h2
variable {ops : Array Oper} {rest : List Oper} {o : Oper} {d : Nat} {t : TypeId}
theorem SL.append_mineB {e ri : Nat} {a1 a2 : Operand} {vx : Value} {f h : List UInt8} {q : Option Addr} {n c : Nat} (hg : o.guard = none) (hd : o.dst = some d) (hn : d < X.n) (ho : o.op = .call { callee := .builtin .append, args := #[a1, a2], argTypes := #[t, t] })
    (ht : P.underlying t = some (.slice e)) (hz : (P.info? e).map (fun i => (i.zero, i.size, i.bytes)) = some (some (.int .u8 0), 1, 1)) (h1 : evM m a1 = some (.slice q n c)) (h2 : evM m a2 = some vx) (hi : l[ri]? = some (rMine (.slice q n c) f e)) (hx : ∀ w, Inv X w l → BytesAt w vx h)
    (hl : f.length + h.length ≤ 1000000) (hS : ∀ b, (Value.slice q n c).ownBlock = some b → X.S b ∨ X.w0.heap.size ≤ b)
    (k : ∀ (q' : Option Addr) (c' : Nat), (∀ b, (Value.slice q' (f ++ h).length c').ownBlock = some b → (Value.slice q n c).ownBlock = some b ∨ X.w0.heap.size ≤ b) → SL P X ops Q rest ((d, .slice q' (f ++ h).length c') :: m) (l.set ri (rMine (.slice q' (f ++ h).length c') (f ++ h) e))) : SL P X ops Q (o :: rest) m l := fun a w hf hI =>
  wpList_plain hg fun K' hK => by
    have hM : OwnBytes w 0 e (.slice q n c) f := hI.1.get hi
    have hM' : w.ownsRow 0 e 1 (.slice q n c) (f.map bv).length (f.map bv) := by unfold OwnBytes at hM; simpa using hM
    obtain ⟨v', w', hr, hO, hU, hN⟩ := run_appOwn (P := P) (ty := o.type) ht hz rfl (ys := h.map bv) (fun u hu => by obtain ⟨x, _, rfl⟩ := List.mem_map.1 hu; rfl) hM' (hx w hI).cells (by simp; omega) (by unfold maxLen; simp; omega)
    unfold Oper.wp
    rw [run_call_app ho (hf.ev h1) (hf.ev h2) hr]
    simp only [Oper.upon_value, hd]
    have hO' : OwnBytes w' 0 e v' (f ++ h) := by unfold OwnBytes; simpa using hO
    obtain ⟨q', c', rfl⟩ : ∃ q' c', v' = .slice q' (f ++ h).length c' := by
      obtain ⟨a', c', e1, _⟩ := hO'.form
      exact ⟨a', c', e1⟩
    refine hK _ _ (k q' c' (fun b hb => ?_) _ _ (hf.put hn _) (hI.upd hi hU hS hO' (fun b hb => hN b hb)))
    rcases hN b hb with h | h
    · exact .inl h
    · exact .inr (Nat.le_trans hI.2.size h)
end
abbrev cut2V (q : Option Addr) (n c k h : Nat) : Value := .slice (if c - k = 0 then (if c = k then q else q.map (·.add (k * 1))) else (if c = k then q else q.map (·.add (k * 1))).map (·.add (0 * 1))) (h - 0) (c - k - 0)
theorem cut2_bytes {w : World} {e : TypeId} {q : Option Addr} {n c k h : Nat} {f : List UInt8} (ho : OwnBytes w 0 e (.slice q n c) f) (hl : f.length ≤ 1000000) (hk : k + h ≤ n) : BytesAt w (cut2V q n c k h) ((f.drop k).take h) := by
  obtain ⟨rfl, hc⟩ := own_le ho
  have h1 := (ho.bytes (by omega)).slice k f.length c (by omega) (Nat.le_refl _) hc (Nat.le_refl _)
  have h2 := h1.slice 0 h (c - k) (Nat.zero_le _) (by omega) (by omega) (Nat.le_refl _)
  rw [List.drop_zero, Nat.sub_zero, List.take_take, Nat.min_eq_left (by omega)] at h2
  exact h2
end Go.Proofs.Ytpgnklmmjdkhiaa

/-
  The pieces that wait, gone over.
-/
namespace Go.Proofs.Ytpgnklmmjdkhiaa
open Go.RowKit
set_option maxRecDepth 100000
set_option maxHeartbeats 4000000
theorem wait0_any {w : World} {d : Nat} : Calls Try.prog 22 #[pt d 0] w fun e w' => ∃ b, e = .returned (.func (.func 32) #[] #[pt b 0]) ∧ w.heap.size ≤ b ∧ Blk w' b [pt d 0] 29 ∧ Only (fun _ => False) w w' := by
  refine calls_sc (l0 := []) (args := [pt d 0]) (fun _ => False) Try.func22 rfl 4 Try.ntmps22 (le_b rfl) ⟨⟨by simp, List.Pairwise.nil⟩, Only.refl _ _⟩ ?_
  show SC _ _ _ _ [(0, pt d 0)] []
  refine SC.seq ?_
  refine SC.region ?_
  refine SL.box (c := [pt d 0]) rfl rfl (lt_b rfl) rfl rfl rfl fun b1 hb1 => ?_
  refine SL.ru rfl rfl (lt_b rfl) (ru_assign rfl rfl) ?_
  refine SL.nil ?_
  refine SC.of_SE ?_
  refine SC.norm [(1, pt b1 0), (2, Value.nilFunc)] [rBlk b1 [pt d 0] 29] ⟨rfl, rfl, trivial⟩ rfl ?_
  refine SC.seq ?_
  refine SC.region ?_
  refine SL.ru rfl rfl (lt_b rfl) (ru_makeFunc (v1 := []) (v2 := [pt b1 0]) rfl rfl rfl) ?_
  refine SL.ru rfl rfl (lt_b rfl) (ru_assign rfl rfl) ?_
  refine SL.nil ?_
  refine SC.of_SE ?_
  refine SC.norm [(2, Value.func (.func 32) #[] #[pt b1 0])] [rBlk b1 [pt d 0] 29] ⟨rfl, trivial⟩ rfl ?_
  refine SC.ret ?_
  refine SE.res (.inl rfl) (res1 Try.results22 rfl) fun w1 hI => ⟨b1, rfl, hb1, hI.1.get (i := 0) rfl, hI.2⟩

abbrev stopL (r : Loop) : Loop := { r with state := .done, pending := some (.exit 0) }
abbrev waitR (bw Lk d p ab n c1 : Nat) (q1 : Option Addr) (qv2 : Value) (nxt hv last : Int) (gone : Bool) (rs : List Pc) (L : List Bf) (G : List Res) (r : Loop) : List Res := [rBlk bw [pt d 0] 29, rLoop Lk r, rBlk d [pt p 0, Value.slice q1 n c1, qv2, iw nxt, iw hv, iw last, bo gone] 52, rRowN (.slice q1 n c1) (pRows (rs)) 61 5, rPool p ab L, rPk G]
theorem wait_any {γ : Type} {w : World} {S : Nat → Prop} {bw Lk d p ab n c1 : Nat} {q1 : Option Addr} {qv2 : Value} {nxt hv last : Int} {gone : Bool} {r : Loop} (rowsK : Nat → List Pc) (LK : Nat → List Bf) (G : Nat → γ → List Res) (pp : Nat → Bool → γ → Prop) (g0 : γ) (hn : n ≤ 1000000) (hps : 2 = r.params.size)
    (hlen : ∀ k, (rowsK k).length = n) (hsk : ∀ k x, k < n → (rowsK k)[k]? = some x → 0 ≤ x.skip ∧ x.skip ≤ (seeF (LK k) x.buf).1.data.length) (h : Sep w (waitR bw Lk d p ab n c1 q1 qv2 nxt hv last gone (rowsK 0) (LK 0) (G 0 g0) r)) (hp : pp 0 true g0)
    (round : ∀ (k : Nat) (g : γ) (x : Pc) (qd : Option Addr) (cd : Nat) (W : World), k < n → (rowsK k)[k]? = some x → pp k true g → (seeF (LK k) x.buf).1.data.length ≤ cd → Inv ⟨45, w, S⟩ W ((waitR bw Lk d p ab n c1 q1 qv2 nxt hv last gone (rowsK k) (LK k) (G k g) r) ++ [rMine (.slice qd (seeF (LK k) x.buf).1.data.length cd) (seeF (LK k) x.buf).1.data 5]) →
      RoundIn Fence.wide 0 Try.prog Lk r.fn ((r.params.zip #[pt (rowB q1) (k * 5), cutV qd (seeF (LK k) x.buf).1.data.length cd x.skip.toNat]).foldl (fun t (p, v) => t.setIfInBounds p v) r.tmps) r.assign r.body W fun e W' => ∃ z : γ × Bool, e = .returned (.bool z.2) ∧ Inv ⟨45, w, S⟩ W' (cond z.2 (waitR bw Lk d p ab n c1 q1 qv2 nxt hv last gone (rowsK (k + 1)) (LK (k + 1)) (G (k + 1) z.1) r) (waitR bw Lk d p ab n c1 q1 qv2 nxt hv last gone (rowsK k) (LK k) (G k z.1) (stopL r))) ∧ pp (cond z.2 (k + 1) k) z.2 z.1) :
    Calls Try.prog 32 #[.func (.yield Lk) #[] #[], pt bw 0] w fun e w' => (∃ v, e = .returned v) ∧ ∃ k g b, (b = true → k = n) ∧ k ≤ n ∧ pp k b g ∧ Inv ⟨45, w, S⟩ w' (waitR bw Lk d p ab n c1 q1 qv2 nxt hv last gone (rowsK k) (LK k) (G k g) (cond b r (stopL r))) := by
  refine calls_si (l0 := (waitR bw Lk d p ab n c1 q1 qv2 nxt hv last gone (rowsK 0) (LK 0) (G 0 g0) r)) (args := [.func (.yield Lk) #[] #[], pt bw 0]) S Try.func32 rfl 45 Try.ntmps32 (le_b rfl) ⟨h, Only.refl _ _⟩ (fun _ h => by obtain ⟨⟨_, h⟩, _⟩ := h; cases h) fun ho => ?_
  show SI _ _ _ _ _ [(0, .func (.yield Lk) #[] #[]), (1, pt bw 0)] _
  refine SI.seq ?_
  refine SI.of_SG (by exact fun a w h => ho a w h) (by kernel_rfl) (SG.region ?_)
  refine SL.ru rfl rfl (lt_b rfl) (ru_load (i := 0) ts29 rfl rfl rfl rfl) ?_
  refine SL.ru rfl rfl (lt_b rfl) (ru_nilCheck rfl rfl) ?_
  refine SL.ru rfl rfl (lt_b rfl) (ru_fieldAddr (o2 := 1) fd52_1 rfl rfl rfl) ?_
  refine SL.ru rfl rfl (lt_b rfl) (ru_load (i := 2) ts50 rfl rfl rfl rfl) ?_
  refine SL.ru rfl rfl (lt_b rfl) (ru_len Try.underlying50 rfl rfl) ?_
  refine SL.ru rfl rfl (lt_b rfl) (ru_move rfl rfl) ?_
  refine SL.nil ?_
  refine SI.of_SE ?_
  refine SI.norm [(0, Value.func (.yield Lk) #[] #[]), (1, pt bw 0), (11, iw (n : Int)), (12, iw 0)] [rBlk bw [pt d 0] 29, rLoop Lk r, rBlk d [pt p 0, Value.slice q1 n c1, qv2, iw nxt, iw hv, iw last, bo gone] 52, rRowN (.slice q1 n c1) (pRows (rowsK 0)) 61 5, rPool p ab (LK 0), rPk (G 0 g0)] ⟨rfl, rfl, rfl, rfl, trivial⟩ rfl ?_
  refine SI.block ?_
  refine SI.loop (γ := γ) (fun nn _ => [(0, Value.func (.yield Lk) #[] #[]), (1, pt bw 0), (11, iw (n : Int)), (12, iw ((n : Int) - (nn : Int)))]) (fun nn g => [rBlk bw [pt d 0] 29, rLoop Lk r, rBlk d [pt p 0, Value.slice q1 n c1, qv2, iw nxt, iw hv, iw last, bo gone] 52, rRowN (.slice q1 n c1) (pRows (rowsK (((n : Int) - (nn : Int)).toNat))) 61 5, rPool p ab (LK (((n : Int) - (nn : Int)).toNat)), rPk (G (((n : Int) - (nn : Int)).toNat) g)]) (fun nn g => nn ≤ n ∧ pp ((n : Int) - (nn : Int)).toNat true g) n g0 ⟨Nat.le_refl _, by rw [Int.sub_self]; exact hp⟩ ⟨rfl, rfl, rfl, (congrArg (fun x => some (iw x)) (show (0 : Int) = (n : Int) - ((n : Nat) : Int) by omega)), trivial⟩ (by rw [Int.sub_self]; rfl) ?_
  rintro nn g ⟨hn, hg⟩
  rcases Nat.eq_zero_or_pos nn with h0 | h0
  · skip
    refine SI.seq ?_
    refine SI.of_SG (by exact fun a w h => ho a w h) (by kernel_rfl) (SG.region ?_)
    refine SL.ru rfl rfl (lt_b rfl) (ru_lt (b := (decide ((((n : Int) - (nn : Int)) : Int) < (n : Int)))) rfl rfl rfl rfl) ?_
    refine SL.nil ?_
    refine SI.of_SE ?_
    refine SI.norm [(0, Value.func (.yield Lk) #[] #[]), (1, pt bw 0), (11, iw (n : Int)), (12, iw ((n : Int) - (nn : Int))), (13, bo (decide ((((n : Int) - (nn : Int)) : Int) < (n : Int))))] [rBlk bw [pt d 0] 29, rLoop Lk r, rBlk d [pt p 0, Value.slice q1 n c1, qv2, iw nxt, iw hv, iw last, bo gone] 52, rRowN (.slice q1 n c1) (pRows (rowsK (((n : Int) - (nn : Int)).toNat))) 61 5, rPool p ab (LK (((n : Int) - (nn : Int)).toNat)), rPk (G (((n : Int) - (nn : Int)).toNat) g)] ⟨rfl, rfl, rfl, rfl, rfl, trivial⟩ rfl ?_
    refine SI.seq ?_
    refine SI.no (show some (Value.bool (decide ((((n : Int) - (nn : Int)) : Int) < (n : Int)))) = some (Value.bool false) from congrArg (fun x => some (Value.bool x)) (decide_eq_false (by omega))) ?_
    refine SI.exit ?_
    refine SF.passe ?_
    refine SF.passe ?_
    refine SF.blke ?_
    have e9 : ((n : Int) - (nn : Int)).toNat = n := by omega
    rw [e9] at hg
    refine SF.res rfl (.inr rfl) (res0 Try.results32) fun w1 hI => ⟨⟨_, rfl⟩, n, g, true, (fun _ => rfl), Nat.le_refl _, hg, by rw [e9] at hI; exact hI⟩
  · skip
    have hkn : ((n : Int) - (nn : Int)).toNat < n := by omega
    obtain ⟨x, hx⟩ : ∃ x, (rowsK ((n : Int) - (nn : Int)).toNat)[((n : Int) - (nn : Int)).toNat]? = some x := ⟨_, List.getElem?_eq_getElem (by rw [hlen]; exact hkn)⟩
    obtain ⟨hs0, hs1⟩ := hsk _ x hkn hx
    refine SI.seq ?_
    refine SI.of_SG (by exact fun a w h => ho a w h) (by kernel_rfl) (SG.region ?_)
    refine SL.ru rfl rfl (lt_b rfl) (ru_lt (b := (decide ((((n : Int) - (nn : Int)) : Int) < (n : Int)))) rfl rfl rfl rfl) ?_
    refine SL.nil ?_
    refine SI.of_SE ?_
    refine SI.norm [(0, Value.func (.yield Lk) #[] #[]), (1, pt bw 0), (11, iw (n : Int)), (12, iw ((n : Int) - (nn : Int))), (13, bo (decide ((((n : Int) - (nn : Int)) : Int) < (n : Int))))] [rBlk bw [pt d 0] 29, rLoop Lk r, rBlk d [pt p 0, Value.slice q1 n c1, qv2, iw nxt, iw hv, iw last, bo gone] 52, rRowN (.slice q1 n c1) (pRows (rowsK (((n : Int) - (nn : Int)).toNat))) 61 5, rPool p ab (LK (((n : Int) - (nn : Int)).toNat)), rPk (G (((n : Int) - (nn : Int)).toNat) g)] ⟨rfl, rfl, rfl, rfl, rfl, trivial⟩ rfl ?_
    refine SI.seq ?_
    refine SI.yes (show some (Value.bool (decide ((((n : Int) - (nn : Int)) : Int) < (n : Int)))) = some (Value.bool true) from congrArg (fun x => some (Value.bool x)) (decide_eq_true (by omega))) ?_
    refine SI.skip ?_
    refine SI.of_SE ?_
    refine SI.norm [(0, Value.func (.yield Lk) #[] #[]), (1, pt bw 0), (11, iw (n : Int)), (12, iw ((n : Int) - (nn : Int)))] [rBlk bw [pt d 0] 29, rLoop Lk r, rBlk d [pt p 0, Value.slice q1 n c1, qv2, iw nxt, iw hv, iw last, bo gone] 52, rRowN (.slice q1 n c1) (pRows (rowsK (((n : Int) - (nn : Int)).toNat))) 61 5, rPool p ab (LK (((n : Int) - (nn : Int)).toNat)), rPk (G (((n : Int) - (nn : Int)).toNat) g)] ⟨rfl, rfl, rfl, rfl, trivial⟩ rfl ?_
    refine SI.seq ?_
    refine SI.block ?_
    refine SI.seq ?_
    refine SI.of_SG (by exact fun a w h => ho a w h) (by kernel_rfl) (SG.region ?_)
    refine SL.ru rfl rfl (lt_b rfl) (ru_move rfl rfl) ?_
    refine SL.ru rfl rfl (lt_b rfl) (ru_assign rfl rfl) ?_
    refine SL.nil ?_
    refine SI.of_SE ?_
    refine SI.norm [(0, Value.func (.yield Lk) #[] #[]), (1, pt bw 0), (3, iw ((n : Int) - (nn : Int))), (11, iw (n : Int)), (12, iw ((n : Int) - (nn : Int)))] [rBlk bw [pt d 0] 29, rLoop Lk r, rBlk d [pt p 0, Value.slice q1 n c1, qv2, iw nxt, iw hv, iw last, bo gone] 52, rRowN (.slice q1 n c1) (pRows (rowsK (((n : Int) - (nn : Int)).toNat))) 61 5, rPool p ab (LK (((n : Int) - (nn : Int)).toNat)), rPk (G (((n : Int) - (nn : Int)).toNat) g)] ⟨rfl, rfl, rfl, rfl, rfl, trivial⟩ rfl ?_
    refine SI.seq ?_
    refine SI.of_SG (by exact fun a w h => ho a w h) (by kernel_rfl) (SG.region ?_)
    refine SL.ru rfl rfl (lt_b rfl) (ru_load (i := 0) ts29 rfl rfl rfl rfl) ?_
    refine SL.ru rfl rfl (lt_b rfl) (ru_nilCheck rfl rfl) ?_
    refine SL.ru rfl rfl (lt_b rfl) (ru_fieldAddr (o2 := 1) fd52_1 rfl rfl rfl) ?_
    refine SL.ru rfl rfl (lt_b rfl) (ru_load (i := 2) ts50 rfl rfl rfl rfl) ?_
    refine SL.ru rfl rfl (lt_b rfl) (ru_move rfl rfl) ?_
    refine SL.ru rfl rfl (lt_b rfl) (ru_index_rowN (ri := 3) si50 rfl rfl rfl rfl (by omega) (by omega)) ?_
    refine SL.ru rfl rfl (lt_b rfl) (ru_assign rfl rfl) ?_
    refine SL.nil ?_
    refine SI.of_SE ?_
    refine SI.norm [(0, Value.func (.yield Lk) #[] #[]), (1, pt bw 0), (4, Value.pointer (some ⟨rowB q1, ((n : Int) - (nn : Int)).toNat * 5, none⟩)), (11, iw (n : Int)), (12, iw ((n : Int) - (nn : Int)))] [rBlk bw [pt d 0] 29, rLoop Lk r, rBlk d [pt p 0, Value.slice q1 n c1, qv2, iw nxt, iw hv, iw last, bo gone] 52, rRowN (.slice q1 n c1) (pRows (rowsK (((n : Int) - (nn : Int)).toNat))) 61 5, rPool p ab (LK (((n : Int) - (nn : Int)).toNat)), rPk (G (((n : Int) - (nn : Int)).toNat) g)] ⟨rfl, rfl, rfl, rfl, rfl, trivial⟩ rfl ?_
    refine SI.seq ?_
    refine SI.of_SG (by exact fun a w h => ho a w h) (by kernel_rfl) (SG.region_mk_tailE [(13, 11)] 13 [(8, Mk.see ⟨45, w, S⟩ (seeF (LK (((n : Int) - (nn : Int)).toNat)) x.buf).1.refs (seeF (LK (((n : Int) - (nn : Int)).toNat)) x.buf).1.head (seeF (LK (((n : Int) - (nn : Int)).toNat)) x.buf).1.data (seeF (LK (((n : Int) - (nn : Int)).toNat)) x.buf).2 5), (12, Mk.blk ⟨45, w, S⟩ [iw 0, Value.slice none 0 0, Value.slice none 0 0] 75)] [(9, [8]), (10, [8]), (11, [8])] rfl rfl (by kernel_rfl) (by kernel_rfl) (by kernel_rfl) (by kernel_rfl) ?_)
    refine SM.ru rfl rfl rfl (w_all rfl) rfl (lt_b rfl) (ru_load (i := 0) ts29 rfl rfl rfl rfl) ?_
    refine SM.ru rfl rfl rfl (w_all rfl) rfl (lt_b rfl) (ru_nilCheck rfl rfl) ?_
    refine SM.ru rfl rfl rfl (w_all rfl) rfl (lt_b rfl) (ru_fieldAddr (o2 := 0) fd52_0 rfl rfl rfl) ?_
    refine SM.ru rfl rfl rfl (w_all rfl) rfl (lt_b rfl) (ru_load (i := 2) ts25 rfl rfl rfl rfl) ?_
    refine SM.ru rfl rfl rfl (w_all rfl) rfl (lt_b rfl) (ru_move rfl rfl) ?_
    refine SM.ru rfl rfl rfl (w_all rfl) rfl (lt_b rfl) (ru_nilCheck rfl rfl) ?_
    refine SM.ru rfl rfl rfl (w_all rfl) rfl (lt_b rfl) (ru_fieldAddr (o2 := ((n : Int) - (nn : Int)).toNat * 5 + 1) fd61_1 rfl rfl rfl) ?_
    refine SM.ru rfl rfl rfl (w_all rfl) rfl (lt_b rfl) (ru_load_rowN (ri := 3) (i := ((n : Int) - (nn : Int)).toNat) (k := 1) (r := [iw x.off, iw x.buf, iw x.skip, iw x.size, bo x.fin]) ts3 rfl rfl rfl (by rw [List.getElem?_map, hx]; rfl) (by decide) rfl) ?_
    refine SM.mkcall (s := Mk.see ⟨45, w, S⟩ (seeF (LK (((n : Int) - (nn : Int)).toNat)) x.buf).1.refs (seeF (LK (((n : Int) - (nn : Int)).toNat)) x.buf).1.head (seeF (LK (((n : Int) - (nn : Int)).toNat)) x.buf).1.data (seeF (LK (((n : Int) - (nn : Int)).toNat)) x.buf).2 5) rfl rfl rfl rfl (w_all rfl) rfl (lt_b rfl) rfl rfl rfl co29 rfl rfl (fun l' w hI => (see_any (hI.1.get (i := 4) rfl) x.buf).mono fun e w2 ⟨qh, ch, qd, cd, h1, h2, h3, h4, h5, h6, h7⟩ => ⟨_, h1, ⟨qh, ch, qd, cd, fun b hb => Nat.le_trans hI.2.size (h4 b hb), fun b hb => Nat.le_trans hI.2.size (h5 b hb), rfl⟩, hI.saw2 h2 h3 h4 h5 h6 h7⟩) ?_
    rintro _ ⟨qh1, ch2, qd3, cd4, hqh1, hqd3, rfl⟩
    refine SM.ru rfl rfl rfl (w_all rfl) rfl (lt_b rfl) (ru_move rfl rfl) ?_
    refine SM.ru rfl rfl rfl (w_all rfl) rfl (lt_b rfl) (ru_extract rfl rfl rfl) ?_
    refine SM.ru rfl rfl rfl (w_all rfl) rfl (lt_b rfl) (ru_extract rfl rfl rfl) ?_
    refine SM.alloca rfl rfl rfl rfl (w_all rfl) rfl (lt_b rfl) rfl ta75 rfl fun b5 hb5 => ?_
    refine SM.nilL (l' := [rBlk bw [pt d 0] 29, rLoop Lk r, rBlk d [pt p 0, Value.slice q1 n c1, qv2, iw nxt, iw hv, iw last, bo gone] 52, rRowN (.slice q1 n c1) (pRows (rowsK (((n : Int) - (nn : Int)).toNat))) 61 5, rPool p ab (LK (((n : Int) - (nn : Int)).toNat)), rPk (G (((n : Int) - (nn : Int)).toNat) g), rMine (.slice qh1 ((seeF (LK (((n : Int) - (nn : Int)).toNat)) x.buf).1.head.length) ch2) ((seeF (LK (((n : Int) - (nn : Int)).toNat)) x.buf).1.head) 5, rMine (.slice qd3 ((seeF (LK (((n : Int) - (nn : Int)).toNat)) x.buf).1.data.length) cd4) ((seeF (LK (((n : Int) - (nn : Int)).toNat)) x.buf).1.data) 5, rBlk b5 [iw 0, Value.slice none 0 0, Value.slice none 0 0] 75]) rfl ?_
    refine SL.storea (i := 8) (vs := [iw ((seeF (LK (((n : Int) - (nn : Int)).toNat)) x.buf).1.refs : Int), Value.slice qh1 ((seeF (LK (((n : Int) - (nn : Int)).toNat)) x.buf).1.head.length) ch2, Value.slice qd3 ((seeF (LK (((n : Int) - (nn : Int)).toNat)) x.buf).1.data.length) cd4]) (c' := [iw ((seeF (LK (((n : Int) - (nn : Int)).toNat)) x.buf).1.refs : Int), Value.slice qh1 ((seeF (LK (((n : Int) - (nn : Int)).toNat)) x.buf).1.head.length) ch2, Value.slice qd3 ((seeF (LK (((n : Int) - (nn : Int)).toNat)) x.buf).1.data.length) cd4]) rfl rfl ta75 rfl rfl rfl rfl rfl rfl (le_b rfl) (.inr hb5) rfl ?_
    refine SL.ru rfl rfl (lt_b rfl) (ru_assign rfl rfl) ?_
    refine SL.nil ?_
    refine SF.onlyN ?_
    refine SI.of_SE ?_
    refine SI.norm [(0, Value.func (.yield Lk) #[] #[]), (1, pt bw 0), (4, Value.pointer (some ⟨rowB q1, ((n : Int) - (nn : Int)).toNat * 5, none⟩)), (5, pt b5 0), (11, iw (n : Int)), (12, iw ((n : Int) - (nn : Int)))] [rBlk bw [pt d 0] 29, rLoop Lk r, rBlk d [pt p 0, Value.slice q1 n c1, qv2, iw nxt, iw hv, iw last, bo gone] 52, rRowN (.slice q1 n c1) (pRows (rowsK (((n : Int) - (nn : Int)).toNat))) 61 5, rPool p ab (LK (((n : Int) - (nn : Int)).toNat)), rPk (G (((n : Int) - (nn : Int)).toNat) g), rMine (.slice qh1 ((seeF (LK (((n : Int) - (nn : Int)).toNat)) x.buf).1.head.length) ch2) ((seeF (LK (((n : Int) - (nn : Int)).toNat)) x.buf).1.head) 5, rMine (.slice qd3 ((seeF (LK (((n : Int) - (nn : Int)).toNat)) x.buf).1.data.length) cd4) ((seeF (LK (((n : Int) - (nn : Int)).toNat)) x.buf).1.data) 5, rBlk b5 [iw ((seeF (LK (((n : Int) - (nn : Int)).toNat)) x.buf).1.refs : Int), Value.slice qh1 ((seeF (LK (((n : Int) - (nn : Int)).toNat)) x.buf).1.head.length) ch2, Value.slice qd3 ((seeF (LK (((n : Int) - (nn : Int)).toNat)) x.buf).1.data.length) cd4] 75] ⟨rfl, rfl, rfl, rfl, rfl, rfl, trivial⟩ rfl ?_
    refine SI.seq ?_
    refine SI.fact (fun w hI => own_le (hI.1.get (i := 7) rfl)) fun hcd => ?_
    refine SI.region_head 9 (by exact fun a w h => ho a w h) (by kernel_rfl) (by kernel_rfl) (by kernel_rfl) ?_
    refine SQ.ru rfl rfl (lt_b rfl) (ru_move rfl rfl) ?_
    refine SQ.ru rfl rfl (lt_b rfl) (ru_move rfl rfl) ?_
    refine SQ.ru rfl rfl (lt_b rfl) (ru_fieldAddr (o2 := 2) fd75_2 rfl rfl rfl) ?_
    refine SQ.ru rfl rfl (lt_b rfl) (ru_load (i := 8) ts22 rfl rfl rfl rfl) ?_
    refine SQ.ru rfl rfl (lt_b rfl) (ru_move rfl rfl) ?_
    refine SQ.ru rfl rfl (lt_b rfl) (ru_nilCheck rfl rfl) ?_
    refine SQ.ru rfl rfl (lt_b rfl) (ru_fieldAddr (o2 := ((n : Int) - (nn : Int)).toNat * 5 + 2) fd61_2 rfl rfl rfl) ?_
    refine SQ.ru rfl rfl (lt_b rfl) (ru_load_rowN (ri := 3) (i := ((n : Int) - (nn : Int)).toNat) (k := 2) (r := [iw x.off, iw x.buf, iw x.skip, iw x.size, bo x.fin]) ts3 rfl rfl rfl (by rw [List.getElem?_map, hx]; rfl) (by decide) rfl) ?_
    refine SQ.ru rfl rfl (lt_b rfl) (ru_sliceV (size := 1) (l0 := x.skip.toNat) (h0 := (seeF (LK (((n : Int) - (nn : Int)).toNat)) x.buf).1.data.length) (m0 := cd4) (v := cutV qd3 ((seeF (LK (((n : Int) - (nn : Int)).toNat)) x.buf).1.data.length) cd4 x.skip.toNat) rfl si22 rfl rfl rfl rfl (show some (iw x.skip) = some (iw ((x.skip.toNat : Nat) : Int)) by rw [Int.toNat_of_nonneg hs0]) (by simp) (by omega) (by omega) (by omega)) ?_
    refine SQ.nilI ?_
    refine SLI.yield (ζ := γ × Bool) (fun z => .bool z.2) (fun z => cond z.2 [rBlk bw [pt d 0] 29, rLoop Lk r, rBlk d [pt p 0, Value.slice q1 n c1, qv2, iw nxt, iw hv, iw last, bo gone] 52, rRowN (.slice q1 n c1) (pRows (rowsK (((n : Int) - (nn : Int)).toNat + 1))) 61 5, rPool p ab (LK (((n : Int) - (nn : Int)).toNat + 1)), rPk (G (((n : Int) - (nn : Int)).toNat + 1) z.1)] [rBlk bw [pt d 0] 29, rLoop Lk (stopL r), rBlk d [pt p 0, Value.slice q1 n c1, qv2, iw nxt, iw hv, iw last, bo gone] 52, rRowN (.slice q1 n c1) (pRows (rowsK (((n : Int) - (nn : Int)).toNat))) 61 5, rPool p ab (LK (((n : Int) - (nn : Int)).toNat)), rPk (G (((n : Int) - (nn : Int)).toNat) z.1)]) (fun z => pp (cond z.2 (((n : Int) - (nn : Int)).toNat + 1) ((n : Int) - (nn : Int)).toNat) z.2 z.1) (j := 1) rfl rfl rfl rfl rfl rfl hps rfl (lt_b rfl) (fun w hI => (round ((n : Int) - (nn : Int)).toNat g x qd3 cd4 w hkn hx hg hcd.2 (hI.reo [0, 1, 2, 3, 4, 5, 7] (by decide))).mono fun e w2 ⟨z, h1, h2, h3⟩ => ⟨z, h1, by cases hz : z.2 <;> (rw [hz] at h2; exact h2), h3⟩) ?_
    rintro ⟨g2, b2⟩ hg2
    cases b2
    · skip
      refine SLI.norm [(0, Value.func (.yield Lk) #[] #[]), (1, pt bw 0), (11, iw (n : Int)), (12, iw ((n : Int) - (nn : Int))), (42, bo false)] [rBlk bw [pt d 0] 29, rLoop Lk (stopL r), rBlk d [pt p 0, Value.slice q1 n c1, qv2, iw nxt, iw hv, iw last, bo gone] 52, rRowN (.slice q1 n c1) (pRows (rowsK (((n : Int) - (nn : Int)).toNat))) 61 5, rPool p ab (LK (((n : Int) - (nn : Int)).toNat)), rPk (G (((n : Int) - (nn : Int)).toNat) g2)] ⟨rfl, rfl, rfl, rfl, rfl, trivial⟩ rfl ?_
      refine SLI.head 1 (by exact fun a w h => ho a w h) (by kernel_rfl) ?_
      refine SL.ru rfl rfl (lt_b rfl) (ru_not (c := true) rfl rfl rfl) ?_
      refine SL.nil ?_
      refine SF.list ?_
      refine SLI.nil ?_
      refine SI.of_SE ?_
      refine SI.norm [(0, Value.func (.yield Lk) #[] #[]), (1, pt bw 0), (11, iw (n : Int)), (12, iw ((n : Int) - (nn : Int))), (43, bo true)] [rBlk bw [pt d 0] 29, rLoop Lk (stopL r), rBlk d [pt p 0, Value.slice q1 n c1, qv2, iw nxt, iw hv, iw last, bo gone] 52, rRowN (.slice q1 n c1) (pRows (rowsK (((n : Int) - (nn : Int)).toNat))) 61 5, rPool p ab (LK (((n : Int) - (nn : Int)).toNat)), rPk (G (((n : Int) - (nn : Int)).toNat) g2)] ⟨rfl, rfl, rfl, rfl, rfl, trivial⟩ rfl ?_
      refine SI.yes rfl ?_
      refine SI.ret ?_
      refine SF.blkr ?_
      refine SF.passr ?_
      refine SF.passr ?_
      refine SF.blkr ?_
      refine SF.res rfl (.inl rfl) (res0 Try.results32) fun w1 hI => ⟨⟨_, rfl⟩, _, g2, false, (fun h => by cases h), Nat.le_of_lt hkn, hg2, hI⟩
    · skip
      refine SLI.norm [(0, Value.func (.yield Lk) #[] #[]), (1, pt bw 0), (11, iw (n : Int)), (12, iw ((n : Int) - (nn : Int))), (42, bo true)] [rBlk bw [pt d 0] 29, rLoop Lk r, rBlk d [pt p 0, Value.slice q1 n c1, qv2, iw nxt, iw hv, iw last, bo gone] 52, rRowN (.slice q1 n c1) (pRows (rowsK (((n : Int) - (nn : Int)).toNat + 1))) 61 5, rPool p ab (LK (((n : Int) - (nn : Int)).toNat + 1)), rPk (G (((n : Int) - (nn : Int)).toNat + 1) g2)] ⟨rfl, rfl, rfl, rfl, rfl, trivial⟩ rfl ?_
      refine SLI.head 1 (by exact fun a w h => ho a w h) (by kernel_rfl) ?_
      refine SL.ru rfl rfl (lt_b rfl) (ru_not (c := false) rfl rfl rfl) ?_
      refine SL.nil ?_
      refine SF.list ?_
      refine SLI.nil ?_
      refine SI.of_SE ?_
      refine SI.norm [(0, Value.func (.yield Lk) #[] #[]), (1, pt bw 0), (11, iw (n : Int)), (12, iw ((n : Int) - (nn : Int))), (43, bo false)] [rBlk bw [pt d 0] 29, rLoop Lk r, rBlk d [pt p 0, Value.slice q1 n c1, qv2, iw nxt, iw hv, iw last, bo gone] 52, rRowN (.slice q1 n c1) (pRows (rowsK (((n : Int) - (nn : Int)).toNat + 1))) 61 5, rPool p ab (LK (((n : Int) - (nn : Int)).toNat + 1)), rPk (G (((n : Int) - (nn : Int)).toNat + 1) g2)] ⟨rfl, rfl, rfl, rfl, rfl, trivial⟩ rfl ?_
      refine SI.no rfl ?_
      refine SI.skip ?_
      refine SF.blkn ?_
      refine SI.of_SE ?_
      refine SI.norm [(0, Value.func (.yield Lk) #[] #[]), (1, pt bw 0), (11, iw (n : Int)), (12, iw ((n : Int) - (nn : Int)))] [rBlk bw [pt d 0] 29, rLoop Lk r, rBlk d [pt p 0, Value.slice q1 n c1, qv2, iw nxt, iw hv, iw last, bo gone] 52, rRowN (.slice q1 n c1) (pRows (rowsK (((n : Int) - (nn : Int)).toNat + 1))) 61 5, rPool p ab (LK (((n : Int) - (nn : Int)).toNat + 1)), rPk (G (((n : Int) - (nn : Int)).toNat + 1) g2)] ⟨rfl, rfl, rfl, rfl, trivial⟩ rfl ?_
      refine SI.of_SG (by exact fun a w h => ho a w h) (by kernel_rfl) (SG.region ?_)
      refine SL.ru rfl rfl (lt_b rfl) (ru_add (r := (IntKind.i64.wrap (((n : Int) - (nn : Int)) + 1))) rfl rfl rfl rfl) ?_
      refine SL.ru rfl rfl (lt_b rfl) (ru_move rfl rfl) ?_
      refine SL.nil ?_
      have e9 : ((n : Int) - ((nn - 1 : Nat) : Int)).toNat = ((n : Int) - (nn : Int)).toNat + 1 := by omega
      refine SF.again (nn - 1) g2 (by omega) ⟨by omega, by rw [e9]; exact hg2⟩ ⟨rfl, rfl, rfl, (congrArg (fun x => some (iw x)) (show IntKind.i64.wrap (((n : Int) - (nn : Int)) + 1) = (n : Int) - ((nn - 1 : Nat) : Int) by rw [IntKind.wrap_i64]; omega)), trivial⟩ (by rw [e9])

end Go.Proofs.Ytpgnklmmjdkhiaa

/-
  A region that draws its order: stores, and loads that all come ahead of them (those that wait for an operation have not been when it comes). After XSpread, with that said. No program is named here.
-/
namespace Go.Proofs.Ytpgnklmmjdkhiaa
open Go.RowKit
section
variable {P : Program} {ops : Array Oper} {md : Region.Mode} {sp : List Nat} {wt : Nat → List Nat} {C : (Nat → Bool) → World → Prop}
def spreadAtW (P : Program) (sp : List Nat) (wt : Nat → List Nat) (C : (Nat → Bool) → World → Prop) (i : Nat) (o : Oper) (a : Act) (v : Value) : Prop :=
  ∀ D w, C D w → (i ∈ sp → D i = false) → (∀ j ∈ wt i, D j = false) → spreadUpon P (C (doneSet sp i D)) v ((execOp a.eval o).run P w)

/-- The walk in the order of the text. -/
def wpSpreadW (P : Program) (ops : Array Oper) (sp : List Nat) (wt : Nat → List Nat) (C : (Nat → Bool) → World → Prop) (Q : Act → Prop) : Nat → List Oper → Act → Prop
  | _, [], a => Q a
  | k, o :: rest, a => if Region.wanted o (yielded ops a.tmps) then ∃ v, spreadAtW P sp wt C k o a v ∧ wpSpreadW P ops sp wt C Q (k + 1) rest (a.put o.dst v) else wpSpreadW P ops sp wt C Q (k + 1) rest (a.put o.dst undef)

def sprOpW (P : Program) (ops : Array Oper) (sp : List Nat) (wt : Nat → List Nat) (C : (Nat → Bool) → World → Prop) (i : Nat) (K : Act → Prop) (a : Act) : Prop :=
  match ops[i]? with
  | none => K a
  | some o => if Region.wanted o (yielded ops a.tmps) then ∃ v, spreadAtW P sp wt C i o a v ∧ K (a.put o.dst v) else K (a.put o.dst undef)

theorem sprOp_monoW {i : Nat} {a : Act} {K K' : Act → Prop} (h : ∀ a, K a → K' a) (hh : sprOpW P ops sp wt C i K a) : sprOpW P ops sp wt C i K' a := by
  unfold sprOpW at *
  split
  · exact h _ (by simpa [*] using hh)
  · rename_i o ho
    simp only [ho] at hh
    split
    · rename_i hw; simp only [hw, if_true] at hh; obtain ⟨v, h1, h2⟩ := hh; exact ⟨v, h1, h _ h2⟩
    · rename_i hw; simp only [hw] at hh; exact h _ hh

def wpAnySprW (P : Program) (md : Region.Mode) (ops : Array Oper) (sp : List Nat) (wt : Nat → List Nat) (C : (Nat → Bool) → World → Prop) (Q : Act → Prop) : Nat → Array Bool → Act → Prop
  | 0, listed, a => Region.ready md ops listed = [] ∧ Q a
  | fuel + 1, listed, a =>
    (Region.ready md ops listed = [] → Q a) ∧
    ∀ i ∈ Region.ready md ops listed, sprOpW P ops sp wt C i (wpAnySprW P md ops sp wt C Q fuel (listed.setIfInBounds i true)) a

theorem wpAny_of_sprW (hww : ∀ (i : Nat) (listed : Array Bool), listed.size = ops.size → ShutM md ops listed → listed.getD i true = false → ∀ j ∈ wt i, j ∈ sp ∧ j < ops.size ∧ listed.getD j true = false) {Q : Act → Prop} {Q' : Exit → Act → World → Prop} (hg : ∀ i ∈ sp, ∀ o, ops[i]? = some o → o.guard = none) (hQ : ∀ a listed D w, Region.ready md ops listed = [] → Flags ops sp listed D → C D w → Q a → Q' .normal a w) :
    ∀ (fuel : Nat) (listed : Array Bool) (a : Act) (D : Nat → Bool) (w : World), ShutM md ops listed → Flags ops sp listed D → C D w → wpAnySprW P md ops sp wt C Q fuel listed a → wpAny P md ops Q' fuel listed a w
  | 0, listed, _, D, _, _, hf, hw, h => ⟨h.1, hQ _ listed D _ h.1 hf hw h.2⟩
  | fuel + 1, listed, a, D, w, hsh, hf, hw, h => ⟨fun h0 => hQ _ listed D _ h0 hf hw (h.1 h0), fun i hi => by
      have h2 := h.2 i hi
      have hun := (mem_ready.1 hi).1
      unfold sprOpW at h2
      unfold wpOp
      split
      · rename_i ho
        obtain ⟨_, o, ho', _⟩ := mem_ready.1 hi
        rw [ho] at ho'; cases ho'
      · rename_i o ho
        simp only [ho] at h2
        have hlt : i < ops.size := (Array.getElem?_eq_some_iff.1 ho).1
        split
        · rename_i hwt
          simp only [hwt, if_true] at h2
          obtain ⟨v, h3, h4⟩ := h2
          left
          have h5 := h3 D w hw (fun hs => by rw [hf.2 i hs hlt]; exact hun) (fun j hj => by obtain ⟨h1, h2, h6⟩ := hww i listed hf.1 hsh hun j hj; rw [hf.2 j h1 h2]; exact h6)
          unfold Oper.wp
          generalize (execOp a.eval o).run P w = r at *
          cases r with
          | ok n w' =>
            cases n <;> simp only [spreadUpon] at h5 <;> simp only [Oper.upon]
            case value u => rw [h5.1]; exact wpAny_of_sprW hww hg hQ fuel _ _ _ _ (hsh.set hi) (hf.step i) h5.2 h4
            case skip => rw [← h5.1]; exact wpAny_of_sprW hww hg hQ fuel _ _ _ _ (hsh.set hi) (hf.step i) h5.2 h4
            case enter f args => exact h5.mono fun e w'' ⟨he, hc⟩ => by subst he; exact wpAny_of_sprW hww hg hQ fuel _ _ _ _ (hsh.set hi) (hf.step i) hc h4
          | halt x w' => simp only [spreadUpon] at h5
        · rename_i hwt
          simp only [hwt] at h2
          have hns : i ∉ sp := fun hs => hwt (by simp [Region.wanted, hg i hs o ho])
          have hf' := hf.step (sp := sp) i
          unfold doneSet at hf'
          rw [if_neg hns] at hf'
          exact wpAny_of_sprW hww hg hQ fuel _ _ _ _ (hsh.set hi) hf' hw h2⟩

/-- In state a, operation o (number i) comes to v. -/
def SprYieldsW (P : Program) (ops : Array Oper) (sp : List Nat) (wt : Nat → List Nat) (C : (Nat → Bool) → World → Prop) (i : Nat) (o : Oper) (v : Value) (a : Act) : Prop :=
  (Region.wanted o (yielded ops a.tmps) = true ∧ spreadAtW P sp wt C i o a v) ∨ (Region.wanted o (yielded ops a.tmps) = false ∧ v = undef)

theorem SprYieldsW.op {i : Nat} {o : Oper} {v : Value} {a : Act} (hi : ops[i]? = some o) (hy : SprYieldsW P ops sp wt C i o v a) {K : Act → Prop} (h : K (a.put o.dst v)) : sprOpW P ops sp wt C i K a := by
  unfold sprOpW
  simp only [hi]
  rcases hy with ⟨hw, hv⟩ | ⟨hw, rfl⟩
  · simp only [hw, if_true]; exact ⟨v, hv, h⟩
  · simp only [hw, Bool.false_eq_true, if_false]; exact h

theorem SprYieldsW.of_same {i : Nat} {o : Oper} {v : Value} {a a' : Act} (hy : SprYieldsW P ops sp wt C i o v a) (he : execOp a'.eval o = execOp a.eval o)
    (hw : Region.wanted o (yielded ops a'.tmps) = Region.wanted o (yielded ops a.tmps)) : SprYieldsW P ops sp wt C i o v a' := by
  unfold SprYieldsW spreadAtW at *
  rw [he, hw]
  exact hy

theorem sprYields_of_opW {i : Nat} {o : Oper} {a : Act} {K : Act → Prop} (hi : ops[i]? = some o) (h : sprOpW P ops sp wt C i K a) : ∃ v, SprYieldsW P ops sp wt C i o v a ∧ K (a.put o.dst v) := by
  unfold sprOpW at h
  simp only [hi] at h
  by_cases hw : Region.wanted o (yielded ops a.tmps) = true
  · simp only [hw, if_true] at h
    obtain ⟨v, h1, h2⟩ := h
    exact ⟨v, .inl ⟨hw, h1⟩, h2⟩
  · simp only [hw] at h
    exact ⟨undef, .inr ⟨by simpa using hw, rfl⟩, h⟩

theorem sprOp_putW {i j : Nat} {oi oj : Oper} {v : Value} (hj : ops[j]? = some oj) (hap : oi.apart ops oj = true)
    (hsi : ∀ cs b, oi.op ≠ .select cs b) (hsj : ∀ cs b, oj.op ≠ .select cs b) {K : Act → Prop} {a : Act}
    (hy : SprYieldsW P ops sp wt C i oi v a) (h : sprOpW P ops sp wt C j K (a.put oi.dst v)) :
    sprOpW P ops sp wt C j (fun a' => SprYieldsW P ops sp wt C i oi v a' ∧ K (a'.put oi.dst v)) a := by
  obtain ⟨h1, h2, h3⟩ := Oper.apart_spec hap
  have keep : ∀ (a : Act), SprYieldsW P ops sp wt C i oi v a → ∀ u, SprYieldsW P ops sp wt C i oi v (a.put oj.dst u) := fun a hy u =>
    hy.of_same (execOp_put oi hsi a oj.dst u h3) (wanted_put oi a oj.dst u h3)
  unfold sprOpW at *
  simp only [hj] at *
  rw [wanted_put oj a oi.dst v h1] at h
  split
  · rename_i hw
    simp only [hw, if_true] at h
    obtain ⟨u, hu, hn⟩ := h
    refine ⟨u, fun D w hD hs hwt => ?_, keep a hy u, by rw [← Act.put_comm a v u h2]; exact hn⟩
    have := hu D w hD hs hwt
    rwa [execOp_put oj hsj a oi.dst v h1] at this
  · rename_i hw
    simp only [hw] at h
    exact ⟨keep a hy _, by rw [← Act.put_comm a v undef h2]; exact h⟩

theorem wpAnySpr_firstW {Q : Act → Prop} {i : Nat} {oi : Oper} {v : Value} (hi : ops[i]? = some oi) (hsel : ∀ (j : Nat) (o : Oper) cs b, ops[j]? = some o → o.op ≠ .select cs b) :
    ∀ (fuel : Nat) (listed : Array Bool) (a : Act),
      (∀ j oj, ops[j]? = some oj → j ≠ i → listed.getD j true = false → (∀ e ∈ oj.after, Region.binds md e = true → e.on ≠ i) → oi.apart ops oj = true) →
      i ∈ Region.ready md ops listed → SprYieldsW P ops sp wt C i oi v a →
      wpAnySprW P md ops sp wt C Q fuel (listed.setIfInBounds i true) (a.put oi.dst v) → wpAnySprW P md ops sp wt C Q (fuel + 1) listed a := by
  intro fuel
  induction fuel with
  | zero =>
    intro listed a _ hr hy H
    refine ⟨fun h => (by rw [h] at hr; cases hr), fun j hj => ?_⟩
    by_cases hji : j = i
    · subst hji; exact hy.op hi H
    · have := ready_mono hj hji
      rw [H.1] at this
      cases this
  | succ fuel ih =>
    intro listed a hfree hr hy H
    refine ⟨fun h => (by rw [h] at hr; cases hr), fun j hj => ?_⟩
    by_cases hji : j = i
    · subst hji; exact hy.op hi H
    · have h1 := H.2 j (ready_mono hj hji)
      obtain ⟨hjun, oj, hoj, hall⟩ := mem_ready.1 hj
      have hnot : ∀ e ∈ oj.after, Region.binds md e = true → e.on ≠ i := fun e he hb heq => by
        have h1 := hall e he hb
        have h0 := (mem_ready.1 hr).1
        rw [heq, getD_both h0] at h1
        cases h1
      have h2 := sprOp_putW hoj (hfree j oj hoj hji hjun hnot) (fun cs b => hsel i oi cs b hi) (fun cs b => hsel j oj cs b hoj) hy h1
      have hfree' : ∀ k ok, ops[k]? = some ok → k ≠ i → (listed.setIfInBounds j true).getD k true = false →
          (∀ e ∈ ok.after, Region.binds md e = true → e.on ≠ i) → oi.apart ops ok = true := fun k ok hk hki hun hno => by
        refine hfree k ok hk hki ?_ hno
        by_cases hjk : j = k
        · subst hjk; exact hjun
        · rw [getD_set_ne true hjk] at hun; exact hun
      refine sprOp_monoW (fun a' h3 => ih (listed.setIfInBounds j true) a' hfree' (ready_mono hr (Ne.symm hji)) h3.1 ?_) h2
      rw [Array.setIfInBounds_comm _ _ hji]
      exact h3.2

theorem wpAnySpr_lexW {Q : Act → Prop} (hs : Region.noSelect ops = true) : ∀ (l : List Oper) (k : Nat) (listed : Array Bool) (a : Act), (∀ j, l[j]? = ops[k + j]?) →
    Region.lexFrom md ops l.length k listed = true → wpSpreadW P ops sp wt C Q k l a → wpAnySprW P md ops sp wt C Q l.length listed a
  | [], _, _, _, _, hB, h => ⟨by simpa [Region.lexFrom] using hB, h⟩
  | o :: l, k, listed, a, hl, hB, h => by
    have h0 : ops[k]? = some o := by simpa using (hl 0).symm
    simp only [List.length_cons, Region.lexFrom, Bool.and_eq_true] at hB
    obtain ⟨⟨hr, hf⟩, hB'⟩ := hB
    have hst : sprOpW P ops sp wt C k (wpSpreadW P ops sp wt C Q (k + 1) l) a := by unfold sprOpW; simp only [h0]; exact h
    obtain ⟨v, hy, hK⟩ := sprYields_of_opW h0 hst
    exact wpAnySpr_firstW h0 (Region.noSelect_spec hs) l.length listed a (Region.free_spec h0 hf) (by simpa using hr) hy
      (wpAnySpr_lexW hs l (k + 1) _ _ (fun j => by have := hl (j + 1); simpa [Nat.add_assoc, Nat.add_comm 1 j] using this) hB' hK)


/-- Who waits for whom. -/
def wtB (md : Region.Mode) (ops : Array Oper) (sp : List Nat) (ws : List (Nat × List Nat)) : Bool := ws.all fun x => x.2.all fun j => sp.contains j && decide (j < ops.size) && reachB md ops 3 j x.1
theorem wt_of {ws : List (Nat × List Nat)} (h : wtB md ops sp ws = true) : ∀ (i : Nat) (listed : Array Bool), listed.size = ops.size → ShutM md ops listed → listed.getD i true = false → ∀ j ∈ depOf ws i, j ∈ sp ∧ j < ops.size ∧ listed.getD j true = false := by
  intro i listed hsz hs hi j hj
  have key : ∃ x ∈ ws, x.1 = i ∧ j ∈ x.2 := by
    clear h
    induction ws with
    | nil => simp [depOf] at hj
    | cons x r ih =>
      obtain ⟨k, js⟩ := x
      simp only [depOf] at hj
      cases hb : Nat.beq k i
      · rw [hb] at hj
        obtain ⟨x, hx, h1⟩ := ih hj
        exact ⟨x, List.mem_cons_of_mem _ hx, h1⟩
      · rw [hb] at hj
        exact ⟨_, List.mem_cons_self, Nat.eq_of_beq_eq_true hb, hj⟩
  obtain ⟨x, hx, rfl, hjx⟩ := key
  have h1 := List.all_eq_true.1 (List.all_eq_true.1 h x hx) j hjx
  simp only [Bool.and_eq_true, decide_eq_true_eq] at h1
  obtain ⟨⟨h1, h2⟩, h3⟩ := h1
  refine ⟨by simpa using h1, h2, ?_⟩
  cases hl : listed.getD j true with
  | false => rfl
  | true =>
    exfalso
    have ho : ops[j]? = some ops[j] := by simp [h2]
    have hf : listed.getD j false = true := by
      have hlt : j < listed.size := by omega
      simp only [Array.getD, hlt, dif_pos] at hl ⊢; exact hl
    have := getD_tf (reach_listed hs 3 j x.1 _ ho (hs j _ ho hf) h3)
    rw [hi] at this; cases this
end
section
variable (P : Program) (X : Cx)
def SSW (ops : Array Oper) (sp : List Nat) (ws : List (Nat × List Nat)) (C : (Nat → Bool) → World → Prop) (K : Act → Prop) (k : Nat) (rest : List Oper) (m : List (Nat × Value)) : Prop := ∀ a, Fr X.n a m → wpSpreadW P ops sp (depOf ws) C K k rest a
end
section
variable {P : Program} {X : Cx} {ops : Array Oper} {sp : List Nat} {ws : List (Nat × List Nat)} {C : (Nat → Bool) → World → Prop} {K : Act → Prop} {Q : Exit → Act → World → Prop} {k : Nat} {rest : List Oper} {o : Oper} {m : List (Nat × Value)} {l : List Res} {v : Value} {d : Nat}
theorem SSW.ru (l : List Res) (hC : ∀ D w, C D w → (∀ j ∈ depOf ws k, D j = false) → Inv X w l) (hk : sp.contains k = false) (hg : o.guard = none) (hd : o.dst = some d) (hn : d < X.n) (hr : Ru P X o m l v) (h : SSW P X ops sp ws C K (k + 1) rest ((d, v) :: m)) : SSW P X ops sp ws C K k (o :: rest) m := fun a hf => by
  unfold wpSpreadW
  rw [if_pos (by simp [Region.wanted, hg])]
  refine ⟨v, fun D w hD _ hwt => ?_, ?_⟩
  · rw [hr a w hf (hC D w hD hwt)]
    have : doneSet sp k D = D := by unfold doneSet; rw [if_neg (by simpa using hk)]
    rw [this]
    exact ⟨rfl, hD⟩
  · rw [hd]; exact h _ (hf.put hn v)
theorem cell_of_flat {rs : List (List Value)} {size i k' : Nat} {r : List Value} (h : ∀ r ∈ rs, r.length = size) (hr : rs[i]? = some r) (hk : k' < size) : i * size + k' < rs.length * size := by
  have hil : i < rs.length := (List.getElem?_eq_some_iff.1 hr).1
  have : (i + 1) * size ≤ rs.length * size := Nat.mul_le_mul_right _ hil
  rw [Nat.add_mul, Nat.one_mul] at this; omega
/-- One cell of a struct in a row is set. -/
theorem rowN_set {w : World} {q : Option Addr} {n c size i k' : Nat} {rs : List (List Value)} {r : List Value} {e : TypeId} (h : RowsN w (.slice q n c) rs e size) (hr : rs[i]? = some r) (hk : k' < size) (hv : v.oneCell' = true) {t : TypeId} {z : Value} (ht : TySc P t z) :
    (storeVar t ⟨rowB q, i * size + k', none⟩ v).run P w = .ok () (w.setCell ⟨rowB q, i * size + k', none⟩ v) ∧ RowsN (w.setCell ⟨rowB q, i * size + k', none⟩ v) (.slice q n c) (rs.set i (r.set k' v)) e size ∧ Only (fun b => (Value.slice q n c).ownBlock = some b) w (w.setCell ⟨rowB q, i * size + k', none⟩ v) := by
  have hlt := cell_of_flat h.1 hr hk
  obtain ⟨rfl, h2⟩ := rowN_form h
  have hil : i < rs.length := (List.getElem?_eq_some_iff.1 hr).1
  obtain ⟨g, cur, rfl, h3, h4, h5, h6, h7⟩ := h2 (by omega)
  have hcs : rs.length * size ≤ cur.size := by rw [h6]; exact Nat.mul_le_mul_right _ h4
  have hb : Blk w g cur.toList e := by unfold Blk; simpa using h3
  have hcell : w.cell? ⟨g, i * size + k', none⟩ = some (cur.toList[i * size + k']'(by rw [Array.length_toList]; omega)) := by rw [hb.cell]; exact List.getElem?_eq_getElem _
  have hvc : v.cells = #[v] := by cases v <;> first | rfl | simp [Value.oneCell'] at hv
  refine ⟨?_, ⟨?_, ?_, .inr ⟨g, c, (cur.toList.set (i * size + k') v).toArray, by rw [List.length_set], Nat.zero_le _, hb.set _ v, by rw [List.length_set]; exact h4, h5, by simp [h6], ?_⟩⟩, ?_⟩
  · show (storeVar t ⟨g, i * size + k', none⟩ v).run P w = .ok () (w.setCell ⟨g, i * size + k', none⟩ v)
    unfold storeVar
    rw [hvc, Sem.run_bind, (ht.run w).2.1]
    simp only [Result.andThen_ok, List.size_toArray, List.length_cons, List.length_nil, Nat.zero_add, ne_eq, not_true, if_false, storeCells]
    have ha : (⟨g, i * size + k', none⟩ : Addr).add 0 = ⟨g, i * size + k', none⟩ := rfl
    rw [Sem.run_bind, ha, run_store P w _ v _ hv, hcell]
    simp [hb.fz, Result.andThen]
  · intro r' hr'
    rcases List.mem_or_eq_of_mem_set hr' with hm | rfl
    · exact h.1 r' hm
    · rw [List.length_set]; exact h.1 r (List.mem_of_getElem? hr)
  · rw [← flat_set h.1 hr hk v, List.length_set, List.length_set]; exact h.2.1
  · rw [List.length_set, ← flat_set h.1 hr hk v, ← h7, List.take_set]
  · exact Only.st (S := fun b => (Value.slice (some ⟨g, 0, none⟩) rs.length c).ownBlock = some b) (Only.refl _ _) rfl _ _
theorem SSW.store_rowN {lD : (Nat → Bool) → List Res} {t : TypeId} {x y : Operand} {i j k' n c size : Nat} {q : Option Addr} {z : Value} {e : TypeId} (cD : (Nat → Bool) → List (List Value)) (rD : (Nat → Bool) → List Value) (hk : sp.contains k = true) (hg : o.guard = none) (hd : o.dst = none) (ht : TySc P t z) (ho : o.op = .store t x y) (hx : evM m x = some (.pointer (some ⟨rowB q, j * size + k', none⟩)))
    (hy : evM m y = some v) (hv : v.oneCell' = true) (hi : ∀ D, D k = false → (lD D)[i]? = some (rRowN (.slice q n c) (cD D) e size)) (hr : ∀ D, D k = false → (cD D)[j]? = some (rD D)) (hks : k' < size) (hS : ∀ b, (Value.slice q n c).ownBlock = some b → X.S b ∨ X.w0.heap.size ≤ b)
    (hl : ∀ D : Nat → Bool, D k = false → (lD D).set i (rRowN (.slice q n c) ((cD D).set j ((rD D).set k' v)) e size) = lD (fun j => if j = k then true else D j)) (h : SSW P X ops sp ws (fun D w => Inv X w (lD D)) K (k + 1) rest m) : SSW P X ops sp ws (fun D w => Inv X w (lD D)) K k (o :: rest) m := fun a hf => by
  have hs : k ∈ sp := by simpa using hk
  unfold wpSpreadW
  rw [if_pos (by simp [Region.wanted, hg])]
  refine ⟨undef, fun D w hI hf' _ => ?_, ?_⟩
  · have hDk := hf' hs
    obtain ⟨h1, h2, h3⟩ := rowN_set (P := P) (v := v) (show RowsN w (.slice q n c) (cD D) e size from hI.1.get (hi D hDk)) (hr D hDk) hks hv ht
    unfold execOp; rw [ho]
    simp only [hf.ev hx, hf.ev hy, Instr.storeAt, Instr.sureAddr, Sem.run_bind, Sem.run_pure, Result.andThen_ok, h1]
    refine ⟨rfl, ?_⟩
    unfold doneSet
    rw [if_pos hs, ← hl D hDk]
    exact hI.upd (hi D hDk) h3 hS h2 (fun b' hb' => .inl hb')
  · rw [hd]; exact h a hf
/-- A call that turns what is known. -/
theorem SSW.turn {lD : (Nat → Bool) → List Res} {f : FuncId} {fs cs vals : List Value} {c : Operand} {args : List Operand} {aT : Array TypeId} (v : Value) (hk : sp.contains k = true) (hg : o.guard = none)
    (ho : o.op = .call { callee := .value c, args := args.toArray, argTypes := aT }) (hok : CallOk P f) (hc : evM m c = some (.func (.func f) fs.toArray cs.toArray)) (ha : evL m args = some vals) (hd : o.dst = some d) (hn : d < X.n)
    (H : ∀ (D : Nat → Bool) w, Inv X w (lD D) → D k = false → (∀ j ∈ depOf ws k, D j = false) → Calls P f (fs ++ vals ++ cs).toArray w fun e w' => e = .returned v ∧ Inv X w' (lD (fun j => if j = k then true else D j)))
    (h : SSW P X ops sp ws (fun D w => Inv X w (lD D)) K (k + 1) rest ((d, v) :: m)) : SSW P X ops sp ws (fun D w => Inv X w (lD D)) K k (o :: rest) m := fun a hf => by
  have hs : k ∈ sp := by simpa using hk
  unfold wpSpreadW
  rw [if_pos (by simp [Region.wanted, hg])]
  refine ⟨v, fun D w hI hf' hwt => ?_, ?_⟩
  · rw [call_enter ho hok hc ha hf w]
    have := H D w hI (hf' hs) hwt
    unfold doneSet
    rw [if_pos hs]
    exact this
  · rw [hd]; exact h _ (hf.put hn v)
theorem SSW.storeB {lD : (Nat → Bool) → List Res} {t : TypeId} {x y : Operand} {i b o' : Nat} {z : Value} {T : TypeId} (cD : (Nat → Bool) → List Value) (hk : sp.contains k = true) (hg : o.guard = none) (hd : o.dst = none) (ht : TySc P t z) (ho : o.op = .store t x y) (hx : evM m x = some (.pointer (some ⟨b, o', none⟩)))
    (hy : evM m y = some v) (hv : v.oneCell' = true) (hi : ∀ D, D k = false → (lD D)[i]? = some (rBlk b (cD D) T)) (hlen : ∀ D, o' < (cD D).length) (hS : X.S b ∨ X.w0.heap.size ≤ b)
    (hl : ∀ D : Nat → Bool, D k = false → (lD D).set i (rBlk b ((cD D).set o' v) T) = lD (fun j => if j = k then true else D j)) (h : SSW P X ops sp ws (fun D w => Inv X w (lD D)) K (k + 1) rest m) : SSW P X ops sp ws (fun D w => Inv X w (lD D)) K k (o :: rest) m := fun a hf => by
  have hs : k ∈ sp := by simpa using hk
  unfold wpSpreadW
  rw [if_pos (by simp [Region.wanted, hg])]
  refine ⟨undef, fun D w hI hf' _ => ?_, ?_⟩
  · have hDk := hf' hs
    have hb : Blk w b (cD D) T := hI.1.get (hi D hDk)
    have hcell : w.cell? ⟨b, o', none⟩ = some ((cD D)[o']'(hlen D)) := by rw [hb.cell]; exact List.getElem?_eq_getElem (hlen D)
    have hvc : v.cells = #[v] := by cases v <;> first | rfl | simp [Value.oneCell'] at hv
    have hst : (storeVar t ⟨b, o', none⟩ v).run P w = .ok () (w.setCell ⟨b, o', none⟩ v) := by
      unfold storeVar
      rw [hvc, Sem.run_bind, (ht.run w).2.1]
      simp only [Result.andThen_ok, List.size_toArray, List.length_cons, List.length_nil, Nat.zero_add, ne_eq, not_true, if_false, storeCells]
      have ha : (⟨b, o', none⟩ : Addr).add 0 = ⟨b, o', none⟩ := rfl
      rw [Sem.run_bind, ha, run_store P w _ v _ hv, hcell]
      simp [hb.fz, Result.andThen]
    unfold execOp; rw [ho]
    simp only [hf.ev hx, hf.ev hy, Instr.storeAt, Instr.sureAddr, Sem.run_bind, Sem.run_pure, Result.andThen_ok, hst]
    refine ⟨rfl, ?_⟩
    unfold doneSet
    rw [if_pos hs, ← hl D hDk]
    exact hI.upd (hi D hDk) (Only.st (S := fun k => k = b) (Only.refl _ _) rfl _ _) (fun b' hb' => by cases hb'; exact hS) (hb.set o' v) (fun b' hb' => .inl hb')
  · rw [hd]; exact h a hf
theorem SSW.nilD {lD : (Nat → Bool) → List Res} {l' : List Res} {j : Nat} (hl : ∀ D : Nat → Bool, (∀ i ∈ sp, D i = true) → lD D = l') (h : SE X Q .normal m l') : SSW P X ops sp ws C (fun a' => ∀ D w', (∀ i ∈ sp, D i = true) → Inv X w' (lD D) → Q .normal a' w') j [] m := fun a hf => by
  unfold wpSpreadW
  intro D w' hD hC
  rw [hl D hD] at hC
  exact h a w' hf hC
theorem none_inv {lD : (Nat → Bool) → List Res} : ∀ (D : Nat → Bool) w, Inv X w (lD D) → (∀ j ∈ depOf ws k, D j = false) → Inv X w [] := fun D w h _ => ⟨⟨by simp, List.Pairwise.nil⟩, h.2⟩
theorem row_self {α : Type} {rs : List α} {i : Nat} {r : α} (h : rs[i]? = some r) : rs.set i r = rs := by
  apply List.ext_getElem?
  intro j
  rw [List.getElem?_set]
  split
  · rename_i e; subst e
    split
    · exact h.symm
    · rename_i hn; rw [List.getElem?_eq_none (by omega)]
  · rfl
theorem SG.region_spW {L : List Oper} (sp : List Nat) (ws : List (Nat × List Nat)) (lD : (Nat → Bool) → List Res) (hm : P.follows .mixedOrders = true) (hB : Region.lexB .any L.toArray = true) (hb : backB L.toArray = true)
    (hg : (sp.all fun i => ((L[i]?).map (fun o => o.guard.isNone)).getD false) = true) (hw : wtB .any L.toArray sp ws = true) (h0 : l = lD (fun _ => false))
    (h : SSW P X L.toArray sp ws (fun D w => Inv X w (lD D)) (fun a' => ∀ D w', (∀ i ∈ sp, D i = true) → Inv X w' (lD D) → Q .normal a' w') 0 L m) : SG P X true L Q m l := fun a w hf hi => by
  refine ⟨hm, ?_⟩
  simp only [Region.lexB, Bool.and_eq_true] at hB
  have hg' : ∀ i ∈ sp, i < L.length ∧ ∀ o, L.toArray[i]? = some o → o.guard = none := by
    intro i hi
    have := List.all_eq_true.1 hg i hi
    cases ho : L[i]? with
    | none => rw [ho] at this; simp at this
    | some o =>
      rw [ho] at this
      refine ⟨(List.getElem?_eq_some_iff.1 ho).1, fun o' ho' => ?_⟩
      have e : L[i]? = some o' := by simpa using ho'
      rw [ho] at e; cases e
      simpa using this
  refine wpAny_of_sprW (wt := depOf ws) (sp := sp) (C := fun D w => Inv X w (lD D)) (wt_of hw) (Q := fun a' => ∀ D w', (∀ i ∈ sp, D i = true) → Inv X w' (lD D) → Q .normal a' w') (fun i hi o ho => (hg' i hi).2 o ho) (fun a' listed D w' hr hf hC' h => ?_) _ _ _ (fun _ => false) _ shut0 ?_ (by have := hi.draw1; rw [h0] at this; exact this) ?_
  · refine h D w' (fun i hi => ?_) hC'
    have hlt : i < L.toArray.size := by simpa using (hg' i hi).1
    rw [hf.2 i hi hlt]
    exact all_listed hb hf.1 hr i hlt
  · refine ⟨by simp, fun i _ hlt => ?_⟩
    have hlt' : i < L.length := by simpa using hlt
    simp [hlt']
  · have := wpAnySpr_lexW (sp := sp) (wt := depOf ws) (C := fun D w => Inv X w (lD D)) (md := .any) hB.1 L 0 (Array.replicate L.toArray.size false) a (by simp) (by simpa using hB.2) (h a hf)
    simpa using this
end
end Go.Proofs.Ytpgnklmmjdkhiaa
