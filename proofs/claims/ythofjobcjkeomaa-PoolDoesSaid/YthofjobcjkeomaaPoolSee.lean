/-
  See, Get and New of a pool, for every input.
-/
import Derived.Test.YthofjobcjkeomaaPoolApp
import Derived.Deep.DeepCutAuto
namespace Go.Proofs.Ythofjobcjkeomaa
open Go.RowKit
set_option maxRecDepth 100000
set_option maxHeartbeats 4000000

/-- Bytes that are zero. -/
def zbytes (n : Nat) : List Value := List.replicate n (.int .u8 0)

theorem run_make_bytes (n : Nat) (hn : n ≤ 140737488351232) (w : World) :
    (Instr.makeSlice 29 (.int .i64 (n : Int)) (.int .i64 (n : Int))).run Try.prog w = .ok (.slice (some ⟨w.heap.size, 0, none⟩) n n) (w.alloc (.cells (zbytes n).toArray 5)) := by
  obtain ⟨i, hi, hz, h1, h2⟩ : ∃ i, Try.prog.info? 5 = some i ∧ i.zero = some (.int .u8 0) ∧ i.size = 1 ∧ i.bytes = 1 := by
    have hq : (Try.prog.info? 5).map (fun i => (i.zero, i.size, i.bytes)) = some (some (.int .u8 0), 1, 1) := by kernel_rfl
    cases hi : Try.prog.info? 5 with
    | none => rw [hi] at hq; simp at hq
    | some i => rw [hi] at hq; simp at hq; exact ⟨i, rfl, hq.1, hq.2.1, hq.2.2⟩
  have := run_make (P := Try.prog) w 29 5 i _ Try.underlying29 hi hz .i64 .i64 (n : Int) (n : Int) (by omega) (by omega) (by rw [h2]; omega) (by omega)
  rw [this]
  simp only [Int.toNat_natCast, h1, Nat.mul_one]
  have e : madeCells (Value.int .u8 0).cells n = (zbytes n).toArray := by
    apply Array.ext_getElem?
    intro j
    simp only [madeCells, zbytes, Value.cells]
    by_cases hj : j < n
    · simp [hj, Nat.mod_one]
    · simp [hj]
  rw [e]

/-- What See of a buffer in use comes to: two new lists of bytes. -/
def SeePost (w : World) (b : Bf) (e : Ending) (w' : World) : Prop :=
  ∃ bh bd, e = .returned (.tuple #[.agg #[.int .i64 (b.refs : Int), .slice (some ⟨bh, 0, none⟩) b.head.length b.head.length, .slice (some ⟨bd, 0, none⟩) b.data.length b.data.length], .int .i64 0]) ∧
    Blk w' bh (b.head.map bv) 5 ∧ Blk w' bd (b.data.map bv) 5 ∧ bh ≠ bd ∧ w.heap.size ≤ bh ∧ w.heap.size ≤ bd ∧ Only (fun _ => False) w w'

/-- What stands in the midst of See. -/
def SeeMid (w : World) (b : Bf) (v : Value) (wc : World) : Prop :=
  ∃ bx bh bd, v = .pointer (some ⟨bx, 0, none⟩) ∧ Blk wc bx [.int .i64 (b.refs : Int), .slice (some ⟨bh, 0, none⟩) b.head.length b.head.length, .slice (some ⟨bd, 0, none⟩) b.data.length b.data.length] 36 ∧
    Blk wc bh (zbytes b.head.length) 5 ∧ Blk wc bd (zbytes b.data.length) 5 ∧ Blk wc w.heap.size [.int .i64 0, .slice none 0 0, .slice none 0 0] 36 ∧
    w.heap.size < bh ∧ w.heap.size < bd ∧ w.heap.size < bx ∧ bh ≠ bd ∧ bh ≠ bx ∧ bd ≠ bx ∧ Only (fun _ => False) w wc

theorem Raw.memBytes {w : World} {ab o : Nat} {c : List Value} {T : TypeId} {refs : Int} {mem : List UInt8} {hd sz fr : Int} (H : Raw c o refs mem hd sz fr) (hc : Blk w ab c T) : BytesAt w (.slice (some ⟨ab, o + 1, none⟩) 392 392) mem := by
  have hm := H.len
  refine .inr ⟨ab, o + 1, 392, by rw [hm], by omega, by omega, fun j hj => ?_⟩
  rw [hc.cell, H.m j hj]

theorem see_in {w : World} {p ab : Nat} {L : List Bf} (h : PoolAt w p ab L) {k : Nat} {b : Bf} (hk : L[k]? = some b) (hr : 0 < b.refs) :
    Calls Try.prog 11 #[.pointer (some ⟨p, 0, none⟩), .int .i64 (k : Int)] w (SeePost w b) := by
  obtain ⟨c, hc, hcl, hcb⟩ := h.2.2.2.2
  have hkl : k < L.length := (List.getElem?_eq_some_iff.1 hk).1
  obtain ⟨mem, fr, hraw, hrel⟩ := (hcb k b hk).raw (by omega)
  have g0 : w.cell? ⟨ab, k * 396, none⟩ = some (.int .i64 (b.refs : Int)) := by rw [hc.cell]; exact hraw.r
  have g1 : w.cell? ⟨ab, k * 396 + 393, none⟩ = some (.int .i64 (b.head.length : Int)) := by rw [hc.cell]; exact hraw.h
  have g2 : w.cell? ⟨ab, k * 396 + 394, none⟩ = some (.int .i64 (b.data.length : Int)) := by rw [hc.cell]; exact hraw.s
  have hlt := hc.lt
  have hlt1 : ab < w.heap.size + 1 := by omega
  have hlt2 : ab < w.heap.size + 1 + 1 := by omega
  have hlt3 : ab < w.heap.size + 1 + 1 + 1 := by omega
  have m1 := run_make_bytes b.head.length (by have := hrel.2.2.1; omega)
  have m2 := run_make_bytes b.data.length (by have := hrel.2.2.2; omega)
  have hb1 : b.head.length ≤ 104 := hrel.2.2.1
  have hb2 : fr + b.data.length ≤ 288 := hrel.2.2.2
  have H := Lib.hid (And.intro h (And.intro hk (And.intro hc (And.intro hraw hrel))))
  have hU : ∀ o, Calls Try.prog 23 #[.pointer (some ⟨p, 0, none⟩), .int .i64 (k : Int)] (w.alloc o) fun e w' => e = .returned (.pointer (some ⟨ab, k * 396, none⟩)) ∧ w.alloc o = w' := fun o => used_in (h.alloc o) hk hr
  have HU := Lib.hid hU
  clear hU hraw hrel hc hk h hr hcb
  go_enter Try.func11, Try.ntmps11
  go_wp2_with (go_at_call 23; refine (HU.out _).mono ?_; rintro e w' ⟨rfl, rfl⟩)
  go_cut [7] (SeeMid w b)
  case first =>
    go_region
    all_goals go_wp2
    all_goals go_meet
    all_goals
      apply Exists.intro
      apply Exists.intro
      apply Exists.intro
      refine ⟨rfl, ?_, ?_, ?_, ?_, ?_, ?_, ?_, ?_, ?_, ?_, Only.drew (Only.alloc (Only.alloc (Only.alloc (Only.alloc (Only.refl _ _) _) _) _) _)⟩
      · repeat (first | exact Blk.at_new (by simp) rfl | refine Blk.alloc ?_ _ | refine Blk.drew ?_)
      · repeat (first | exact Blk.at_new (by simp) rfl | refine Blk.alloc ?_ _ | refine Blk.drew ?_)
      · repeat (first | exact Blk.at_new (by simp) rfl | refine Blk.alloc ?_ _ | refine Blk.drew ?_)
      · repeat (first | exact Blk.at_new (by simp) rfl | refine Blk.alloc ?_ _ | refine Blk.drew ?_)
      all_goals omega
  case rest =>
    obtain ⟨bx, bh, bd, rfl, q1, q2, q3, q4, n1, n2, n3, n4, n5, n6, qO⟩ := hcut
    have x1 : wc.cell? ⟨bx, 1, none⟩ = some (.slice (some ⟨bh, 0, none⟩) b.head.length b.head.length) := by rw [q1.cell]; rfl
    have H1 := Lib.hid (And.intro q1 (And.intro q2 (And.intro q3 (And.intro q4 qO))))
    clear q1 q2 q3 q4 qO m1 m2 g0
    go_wp2
    refine wp_region_quiet_tail_lit 6 (by kernel_rfl) (by kernel_rfl) ?_
    simp only [List.take_succ_cons, List.take_zero, List.drop_succ_cons, List.drop_zero]
    repeat (quiet_step (fail))
    refine wpQuiet_nil ?_
    intro qa
    refine wpList_copy_blk (by rfl) (.tmp 30) (.tmp 34) 29 29 (by rfl) 5 Try.underlying29 (by kernel_rfl) bh 0 b.head.length b.head.length (by rfl) mem ?d1 (zbytes b.head.length) 5 ?d2 ?d3 ?_
    case d1 =>
      obtain ⟨h, hk, hc, hraw, hrel⟩ := H.out
      obtain ⟨q1, q2, q3, q4, qO⟩ := H1.out
      exact hraw.memBytes (w := wc.drewN qa) (qO.blk hc (fun h => h))
    case d2 => exact H1.out.2.1
    case d3 => simp [zbytes]
    intro w1 hb1 ho1
    have X1 : Blk w1 bh (b.head.map bv) 5 := by
      have e : Go.splice (zbytes b.head.length) 0 ((mem.take b.head.length).map bv) = b.head.map bv := by
        rw [← H.out.2.2.2.2.1]; simp [Go.splice, zbytes]
      rwa [e] at hb1
    have x2 : w1.cell? ⟨bx, 2, none⟩ = some (.slice (some ⟨bd, 0, none⟩) b.data.length b.data.length) := by
      rw [(ho1.blk (c := [_, _, _]) (Blk.drewN H1.out.1 qa) (fun e => n5 e.symm)).cell]; rfl
    have c1 : w1.cell? ⟨ab, k * 396 + 394, none⟩ = some (.int .i64 (b.data.length : Int)) := by
      rw [(ho1.blk (Blk.drewN (H1.out.2.2.2.2.blk H.out.2.2.1 (fun h => h)) qa) (fun e => by omega)).cell]; exact H.out.2.2.2.1.s
    have c2 : w1.cell? ⟨ab, k * 396 + 395, none⟩ = some (.int .i64 (fr : Int)) := by
      rw [(ho1.blk (Blk.drewN (H1.out.2.2.2.2.blk H.out.2.2.1 (fun h => h)) qa) (fun e => by omega)).cell]; exact H.out.2.2.2.1.f
    have HX := Lib.hid (And.intro X1 ho1)
    clear X1 hb1 ho1 x1
    refine wpList_nil ?_
    go_wp2
    refine wp_region_quiet_tail_lit 4 (by kernel_rfl) (by kernel_rfl) ?_
    simp only [List.take_succ_cons, List.take_zero, List.drop_succ_cons, List.drop_zero]
    repeat (quiet_step ((go_at_call 24; exact Calls.quiet_of (data_any (fr := fr) (n := b.data.length) c1 c2 hb2))))
    refine wpQuiet_nil ?_
    intro qb
    refine wpList_copy_blk (by rfl) (.tmp 37) (.tmp 39) 29 29 (by rfl) 5 Try.underlying29 (by kernel_rfl) bd 0 b.data.length b.data.length (by rfl) b.data ?f1 (zbytes b.data.length) 5 ?f2 ?f3 ?_
    case f1 =>
      have hB := HX.out.2.blk (Blk.drewN (H1.out.2.2.2.2.blk H.out.2.2.1 (fun h => h)) qa) (fun e => by omega)
      exact Raw.bytes (w := w1.drewN qb) hB H.out.2.2.2.1 H.out.2.2.2.2.2.1 hb2
    case f2 => exact HX.out.2.blk (Blk.drewN H1.out.2.2.1 qa) (fun e => n4 e.symm)
    case f3 => simp [zbytes]
    intro w2 hb2' ho2
    have X2 : Blk w2 bd (b.data.map bv) 5 := by
      have e : Go.splice (zbytes b.data.length) 0 ((b.data.take b.data.length).map bv) = b.data.map bv := by
        rw [List.take_length]; simp [Go.splice, zbytes]
      rwa [e] at hb2'
    have Y1 : Blk w2 bh (b.head.map bv) 5 := ho2.blk (Blk.drewN HX.out.1 qb) n4
    have Y2 : Blk w2 bx [.int .i64 (b.refs : Int), .slice (some ⟨bh, 0, none⟩) b.head.length b.head.length, .slice (some ⟨bd, 0, none⟩) b.data.length b.data.length] 36 :=
      ho2.blk (Blk.drewN (HX.out.2.blk (Blk.drewN H1.out.1 qa) (fun e => n5 e.symm)) qb) (fun e => n6 e.symm)
    have Y3 : Blk w2 w.heap.size [.int .i64 0, .slice none 0 0, .slice none 0 0] 36 :=
      ho2.blk (Blk.drewN (HX.out.2.blk (Blk.drewN H1.out.2.2.2.1 qa) (fun e => by omega)) qb) (fun e => by omega)
    have YO : Only (fun _ => False) w w2 :=
      ((H1.out.2.2.2.2.trans' (S' := fun b => b = bh) ((Only.drewN (Only.refl _ _) qa).trans HX.out.2) (fun b e => .inr (by omega))).trans' (S' := fun b => b = bd) ((Only.drewN (Only.refl _ _) qb).trans ho2) (fun b e => .inr (by omega)))
    have z0 : w2.cell? ⟨bx, 0, none⟩ = some (.int .i64 (b.refs : Int)) := by rw [Y2.cell]; rfl
    have z1 : w2.cell? ⟨bx, 1, none⟩ = some (.slice (some ⟨bh, 0, none⟩) b.head.length b.head.length) := by rw [Y2.cell]; rfl
    have z2 : w2.cell? ⟨bx, 2, none⟩ = some (.slice (some ⟨bd, 0, none⟩) b.data.length b.data.length) := by rw [Y2.cell]; rfl
    have y0 : w2.cell? ⟨w.heap.size, 0, none⟩ = some (.int .i64 0) := by rw [Y3.cell]; rfl
    have y1 : w2.cell? ⟨w.heap.size, 1, none⟩ = some (.slice none 0 0) := by rw [Y3.cell]; rfl
    have y2 : w2.cell? ⟨w.heap.size, 2, none⟩ = some (.slice none 0 0) := by rw [Y3.cell]; rfl
    have yz := fun o => Y3.fz o
    have HY := Lib.hid (And.intro X2 (And.intro Y1 (And.intro Y3 YO)))
    clear X2 hb2' ho2 Y1 Y2 Y3 YO c1 c2 x2
    refine wpList_nil ?_
    go_wp2
    obtain ⟨X2, Y1, Y3, YO⟩ := HY.out
    have o1 : Only (fun _ => False) w (((w2.setCell ⟨w.heap.size, 0, none⟩ (.int .i64 (b.refs : Int))).setCell ⟨w.heap.size, 1, none⟩ (.slice (some ⟨bh, 0, none⟩) b.head.length b.head.length)).setCell ⟨w.heap.size, 2, none⟩ (.slice (some ⟨bd, 0, none⟩) b.data.length b.data.length)) :=
      Only.setCell (Only.setCell (Only.setCell YO (.inr (Nat.le_refl _)) _) (.inr (Nat.le_refl _)) _) (.inr (Nat.le_refl _)) _
    have hBh : Blk (((w2.setCell ⟨w.heap.size, 0, none⟩ (.int .i64 (b.refs : Int))).setCell ⟨w.heap.size, 1, none⟩ (.slice (some ⟨bh, 0, none⟩) b.head.length b.head.length)).setCell ⟨w.heap.size, 2, none⟩ (.slice (some ⟨bd, 0, none⟩) b.data.length b.data.length)) bh (b.head.map bv) 5 :=
      ((Y1.set_ne (by simp; omega) _).set_ne (by simp; omega) _).set_ne (by simp; omega) _
    have hBd : Blk (((w2.setCell ⟨w.heap.size, 0, none⟩ (.int .i64 (b.refs : Int))).setCell ⟨w.heap.size, 1, none⟩ (.slice (some ⟨bh, 0, none⟩) b.head.length b.head.length)).setCell ⟨w.heap.size, 2, none⟩ (.slice (some ⟨bd, 0, none⟩) b.data.length b.data.length)) bd (b.data.map bv) 5 :=
      ((X2.set_ne (by simp; omega) _).set_ne (by simp; omega) _).set_ne (by simp; omega) _
    have hP : SeePost w b (.returned (.tuple #[.agg #[.int .i64 (b.refs : Int), .slice (some ⟨bh, 0, none⟩) b.head.length b.head.length, .slice (some ⟨bd, 0, none⟩) b.data.length b.data.length], .int .i64 0]))
        (((w2.setCell ⟨w.heap.size, 0, none⟩ (.int .i64 (b.refs : Int))).setCell ⟨w.heap.size, 1, none⟩ (.slice (some ⟨bh, 0, none⟩) b.head.length b.head.length)).setCell ⟨w.heap.size, 2, none⟩ (.slice (some ⟨bd, 0, none⟩) b.data.length b.data.length)) :=
      ⟨bh, bd, rfl, hBh, hBd, n4, by omega, by omega, o1⟩
    clear X2 Y1 Y3 YO o1 hBh hBd
    exact bodyPost_ret (v := .tuple #[.agg #[.int .i64 (b.refs : Int), .slice (some ⟨bh, 0, none⟩) b.head.length b.head.length, .slice (some ⟨bd, 0, none⟩) b.data.length b.data.length], .int .i64 0]) (by simp [results, Try.results11, go_sem, y0, y1, y2]) rfl hP

theorem see_no {w : World} {p ab : Nat} {L : List Bf} (h : PoolAt w p ab L) {id : Int} (hn : ¬ Used L id) :
    Calls Try.prog 11 #[.pointer (some ⟨p, 0, none⟩), .int .i64 id] w fun e w' => e = .returned (.tuple #[.agg #[.int .i64 0, .slice none 0 0, .slice none 0 0], .int .i64 7]) ∧ Only (fun _ => False) w w' := by
  have hU : ∀ o, Calls Try.prog 23 #[.pointer (some ⟨p, 0, none⟩), .int .i64 id] (w.alloc o) fun e w' => e = .returned (.pointer none) ∧ w.alloc o = w' := fun o => used_no (h.alloc o) hn
  have HU := Lib.hid hU
  clear hU h
  go_enter Try.func11, Try.ntmps11
  go_wp2_with (go_at_call 23; refine (HU.out _).mono ?_; rintro e w' ⟨rfl, rfl⟩)
  exact bodyPost_ret (v := .tuple #[.agg #[.int .i64 0, .slice none 0 0, .slice none 0 0], .int .i64 7]) (by simp [results, Try.results11, go_sem]) rfl ⟨rfl, Only.alloc (Only.refl _ _) _⟩

end Go.Proofs.Ythofjobcjkeomaa
