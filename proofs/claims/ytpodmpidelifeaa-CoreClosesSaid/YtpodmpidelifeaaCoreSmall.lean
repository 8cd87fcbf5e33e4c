/-
  How connections begin, are ended and shut: what the program's functions answer, for every input.
-/
import Derived.Test.YtpodmpidelifeaaCoreChain
import Derived.Laws.ResultCell
namespace Go.Proofs.Ytpodmpidelifeaa
open Go.RowKit
set_option maxRecDepth 100000
set_option maxHeartbeats 2000000

def activeF (a : Int) : Ctl := ⟨1, ft a, ft a, (ft a + 1) % 4294967296, false, 0, 0, 0, 0, 0, 0⟩
def zc : Ctl := ⟨0, 0, 0, 0, false, 0, 0, 0, 0, 0, 0⟩

section
variable {w : World} {c : Ctl} {s : Seg}
theorem active_any (w : World) (a : Int) : Calls Try.prog 13 #[.int .i64 a] w fun e w' => e = .returned (.agg (activeF a).cs.toArray) ∧ Only (fun _ => False) w w' := by
  go_enter Try.func13, Try.ntmps13
  go_wp2_with (go_at_call 29; refine (first_any _ _).mono ?_; rintro e w' ⟨rfl, rfl⟩)
  exact bodyPost_ret (v := .agg (activeF a).cs.toArray) (by simp [results, Try.results13, go_sem, activeF]) rfl ⟨rfl, (Only.refl _ _).alloc _⟩

/-- Does a segment ask for a connection, and say nothing else? -/
def asks (s : Seg) : Bool := bits .and .i64 s.fl 23 == 2
def passF (s : Seg) (now : Int) : Ctl := ⟨2, ft now, ft now, (ft now + 1) % 4294967296, false, s.wnd, s.sq, ft now, s.sq, (s.sq + 1) % 4294967296, (s.sq + 1) % 4294967296⟩
theorem passive_yes (w : World) (now : Int) (h : asks s = true) : Calls Try.prog 14 #[.agg s.cs.toArray, .int .i64 now] w fun e w' => e = .returned (.tuple #[.agg (passF s now).cs.toArray, .int .i64 0]) ∧ Only (fun _ => False) w w' := by
  have d0 : (bits .and .i64 s.fl 23 != 2) = false := by simpa [asks] using h
  clear h
  go_enter Try.func14, Try.ntmps14
  go_wp2_with fail
  refine (active_any _ _).mono ?_
  rintro e w1 ⟨rfl, hO⟩
  have hO1 : Only (fun _ => False) w w1 := (((Only.refl _ w).alloc _).alloc _).trans hO
  have hlt : w.heap.size + 1 < w1.heap.size := by have := hO.size; simp at this; omega
  have hS : Blk w1 w.heap.size s.cs 28 := hO.blk ((Blk.new w s.cs _).alloc _) id
  have hR : Blk w1 (w.heap.size + 1) zc.cs 24 := hO.blk (Blk.at_new (by simp) rfl) id
  have s2 : ∀ X, (w1.alloc X).cell? ⟨w.heap.size, 2, none⟩ = some (.int .u32 s.sq) := fun X => sq_cell (hS.alloc X)
  have s5 : ∀ X, (w1.alloc X).cell? ⟨w.heap.size, 5, none⟩ = some (.int .i64 s.wnd) := fun X => wnd_cell (hS.alloc X)
  have HH := Lib.hid (And.intro hR hO1)
  clear hS hR hO hO1
  go_wp2
  go_region
  go_wp2
  go_region
  go_wp2_with (refine wpList_store_row (by rfl) 24 (.tmp 4) (.tmp 35) (by rfl) (w.heap.size + 1) (passF s now).cs.toArray (by rfl) (by rfl) 24 zc.cs.toArray (((HH.out.1.alloc _).drew).drew) (by kernel_rfl) (by rfl) (by simp [Ctl.cs, Value.oneCell']) ?_)
  refine bodyPost_ret (v := .tuple #[.agg (passF s now).cs.toArray, .int .i64 0]) ?_ rfl ⟨rfl, ?_⟩
  · exact res_row_tmp (P := Try.prog) (p := 4) (u := 5) (ty := 24) Try.results14 _ _ (w.heap.size + 1) 24 (passF s now).cs.toArray (0, 0) _ (by rfl) (setRow_heap _ _ _ _ _ _ (((HH.out.1.alloc _).drew).drew)) Try.underlying24 rfl (by kernel_rfl)
  · exact Only.step (((HH.out.2.alloc _).drew).drew) (Only.row _ _ _) (by intro k hk; omega)
theorem passive_no (w : World) (now : Int) (h : asks s = false) : Calls Try.prog 14 #[.agg s.cs.toArray, .int .i64 now] w fun e w' => e = .returned (.tuple #[.agg zc.cs.toArray, .int .i64 1]) ∧ Only (fun _ => False) w w' := by
  have d0 : (bits .and .i64 s.fl 23 != 2) = true := by simpa [asks] using h
  clear h
  go_enter Try.func14, Try.ntmps14
  go_wp2
  exact bodyPost_ret (v := .tuple #[.agg zc.cs.toArray, .int .i64 1]) (by simp [results, Try.results14, go_sem, zc]) rfl ⟨rfl, ((Only.refl _ _).alloc _).alloc _⟩

def endedSt (c : Ctl) : Int := if c.st = 2 then 6 else if c.st = 3 then 6 else if c.st = 4 then 7 else if c.st = 5 then 9 else c.st
def endedF (c : Ctl) : Ctl := { c with st := endedSt c, rcv := (c.rcv + 1) % 4294967296, adv := if 0 < df ((c.rcv + 1) % 4294967296) c.adv then (c.adv + 1) % 4294967296 else c.adv }
theorem ended_any (w : World) (c : Ctl) : Calls Try.prog 19 #[.agg c.cs.toArray] w fun e w' => e = .returned (.agg (endedF c).cs.toArray) ∧ Only (fun _ => False) w w' := by
  by_cases c2 : c.st = 2
  · have HS := Lib.hid (show endedSt c = 6 by simp [endedSt, c2])
    have d2 : (c.st == 2) = true := by simp [c2]
    have d3 : (c.st == 3) = false := by simp; omega
    have d4 : (c.st == 4) = false := by simp; omega
    have d5 : (c.st == 5) = false := by simp; omega
    clear c2
    by_cases hd : 0 < df ((c.rcv + 1) % 4294967296) c.adv
    · have HF := Lib.hid (show endedF c = { c with st := 6, rcv := (c.rcv + 1) % 4294967296, adv := (c.adv + 1) % 4294967296 } by unfold endedF; rw [HS.out, if_pos hd])
      go_enter Try.func19, Try.ntmps19
      go_wp2_with (go_at_call 32; refine (diff_any _ _ _).mono ?_; rintro e w' ⟨rfl, rfl⟩)
      refine bodyPost_ret (v := .agg (endedF c).cs.toArray) ?_ rfl ⟨rfl, ((Only.refl _ _).alloc _).alloc _⟩
      rw [HF.out]
      simp [results, Try.results19, go_sem]
    · have HF := Lib.hid (show endedF c = { c with st := 6, rcv := (c.rcv + 1) % 4294967296, adv := c.adv } by unfold endedF; rw [HS.out, if_neg hd])
      go_enter Try.func19, Try.ntmps19
      go_wp2_with (go_at_call 32; refine (diff_any _ _ _).mono ?_; rintro e w' ⟨rfl, rfl⟩)
      refine bodyPost_ret (v := .agg (endedF c).cs.toArray) ?_ rfl ⟨rfl, ((Only.refl _ _).alloc _).alloc _⟩
      rw [HF.out]
      simp [results, Try.results19, go_sem]
  · by_cases c3 : c.st = 3
    · have HS := Lib.hid (show endedSt c = 6 by simp [endedSt, c2, c3])
      have d2 : (c.st == 2) = false := by simp; omega
      have d3 : (c.st == 3) = true := by simp [c3]
      have d4 : (c.st == 4) = false := by simp; omega
      have d5 : (c.st == 5) = false := by simp; omega
      clear c2 c3
      by_cases hd : 0 < df ((c.rcv + 1) % 4294967296) c.adv
      · have HF := Lib.hid (show endedF c = { c with st := 6, rcv := (c.rcv + 1) % 4294967296, adv := (c.adv + 1) % 4294967296 } by unfold endedF; rw [HS.out, if_pos hd])
        go_enter Try.func19, Try.ntmps19
        go_wp2_with (go_at_call 32; refine (diff_any _ _ _).mono ?_; rintro e w' ⟨rfl, rfl⟩)
        refine bodyPost_ret (v := .agg (endedF c).cs.toArray) ?_ rfl ⟨rfl, ((Only.refl _ _).alloc _).alloc _⟩
        rw [HF.out]
        simp [results, Try.results19, go_sem]
      · have HF := Lib.hid (show endedF c = { c with st := 6, rcv := (c.rcv + 1) % 4294967296, adv := c.adv } by unfold endedF; rw [HS.out, if_neg hd])
        go_enter Try.func19, Try.ntmps19
        go_wp2_with (go_at_call 32; refine (diff_any _ _ _).mono ?_; rintro e w' ⟨rfl, rfl⟩)
        refine bodyPost_ret (v := .agg (endedF c).cs.toArray) ?_ rfl ⟨rfl, ((Only.refl _ _).alloc _).alloc _⟩
        rw [HF.out]
        simp [results, Try.results19, go_sem]
    · by_cases c4 : c.st = 4
      · have HS := Lib.hid (show endedSt c = 7 by simp [endedSt, c2, c3, c4])
        have d2 : (c.st == 2) = false := by simp; omega
        have d3 : (c.st == 3) = false := by simp; omega
        have d4 : (c.st == 4) = true := by simp [c4]
        have d5 : (c.st == 5) = false := by simp; omega
        clear c2 c3 c4
        by_cases hd : 0 < df ((c.rcv + 1) % 4294967296) c.adv
        · have HF := Lib.hid (show endedF c = { c with st := 7, rcv := (c.rcv + 1) % 4294967296, adv := (c.adv + 1) % 4294967296 } by unfold endedF; rw [HS.out, if_pos hd])
          go_enter Try.func19, Try.ntmps19
          go_wp2_with (go_at_call 32; refine (diff_any _ _ _).mono ?_; rintro e w' ⟨rfl, rfl⟩)
          refine bodyPost_ret (v := .agg (endedF c).cs.toArray) ?_ rfl ⟨rfl, ((Only.refl _ _).alloc _).alloc _⟩
          rw [HF.out]
          simp [results, Try.results19, go_sem]
        · have HF := Lib.hid (show endedF c = { c with st := 7, rcv := (c.rcv + 1) % 4294967296, adv := c.adv } by unfold endedF; rw [HS.out, if_neg hd])
          go_enter Try.func19, Try.ntmps19
          go_wp2_with (go_at_call 32; refine (diff_any _ _ _).mono ?_; rintro e w' ⟨rfl, rfl⟩)
          refine bodyPost_ret (v := .agg (endedF c).cs.toArray) ?_ rfl ⟨rfl, ((Only.refl _ _).alloc _).alloc _⟩
          rw [HF.out]
          simp [results, Try.results19, go_sem]
      · by_cases c5 : c.st = 5
        · have HS := Lib.hid (show endedSt c = 9 by simp [endedSt, c2, c3, c4, c5])
          have d2 : (c.st == 2) = false := by simp; omega
          have d3 : (c.st == 3) = false := by simp; omega
          have d4 : (c.st == 4) = false := by simp; omega
          have d5 : (c.st == 5) = true := by simp [c5]
          clear c2 c3 c4 c5
          by_cases hd : 0 < df ((c.rcv + 1) % 4294967296) c.adv
          · have HF := Lib.hid (show endedF c = { c with st := 9, rcv := (c.rcv + 1) % 4294967296, adv := (c.adv + 1) % 4294967296 } by unfold endedF; rw [HS.out, if_pos hd])
            go_enter Try.func19, Try.ntmps19
            go_wp2_with (go_at_call 32; refine (diff_any _ _ _).mono ?_; rintro e w' ⟨rfl, rfl⟩)
            refine bodyPost_ret (v := .agg (endedF c).cs.toArray) ?_ rfl ⟨rfl, ((Only.refl _ _).alloc _).alloc _⟩
            rw [HF.out]
            simp [results, Try.results19, go_sem]
          · have HF := Lib.hid (show endedF c = { c with st := 9, rcv := (c.rcv + 1) % 4294967296, adv := c.adv } by unfold endedF; rw [HS.out, if_neg hd])
            go_enter Try.func19, Try.ntmps19
            go_wp2_with (go_at_call 32; refine (diff_any _ _ _).mono ?_; rintro e w' ⟨rfl, rfl⟩)
            refine bodyPost_ret (v := .agg (endedF c).cs.toArray) ?_ rfl ⟨rfl, ((Only.refl _ _).alloc _).alloc _⟩
            rw [HF.out]
            simp [results, Try.results19, go_sem]
        · have HS := Lib.hid (show endedSt c = c.st by simp [endedSt, c2, c3, c4, c5])
          have d2 : (c.st == 2) = false := by simp; omega
          have d3 : (c.st == 3) = false := by simp; omega
          have d4 : (c.st == 4) = false := by simp; omega
          have d5 : (c.st == 5) = false := by simp; omega
          clear c2 c3 c4 c5
          by_cases hd : 0 < df ((c.rcv + 1) % 4294967296) c.adv
          · have HF := Lib.hid (show endedF c = { c with st := c.st, rcv := (c.rcv + 1) % 4294967296, adv := (c.adv + 1) % 4294967296 } by unfold endedF; rw [HS.out, if_pos hd])
            go_enter Try.func19, Try.ntmps19
            go_wp2_with (go_at_call 32; refine (diff_any _ _ _).mono ?_; rintro e w' ⟨rfl, rfl⟩)
            refine bodyPost_ret (v := .agg (endedF c).cs.toArray) ?_ rfl ⟨rfl, ((Only.refl _ _).alloc _).alloc _⟩
            rw [HF.out]
            simp [results, Try.results19, go_sem]
          · have HF := Lib.hid (show endedF c = { c with st := c.st, rcv := (c.rcv + 1) % 4294967296, adv := c.adv } by unfold endedF; rw [HS.out, if_neg hd])
            go_enter Try.func19, Try.ntmps19
            go_wp2_with (go_at_call 32; refine (diff_any _ _ _).mono ?_; rintro e w' ⟨rfl, rfl⟩)
            refine bodyPost_ret (v := .agg (endedF c).cs.toArray) ?_ rfl ⟨rfl, ((Only.refl _ _).alloc _).alloc _⟩
            rw [HF.out]
            simp [results, Try.results19, go_sem]

def shutF (c : Ctl) : Ctl × Int :=
  if c.fs then (zc, 212) else if c.st = 3 ∨ c.st = 2 then ({ c with st := 4, fs := true, nxt := (c.nxt + 1) % 4294967296 }, 0)
  else if c.st = 6 then ({ c with st := 8, fs := true, nxt := (c.nxt + 1) % 4294967296 }, 0) else (zc, 212)
theorem shut_any (w : World) (c : Ctl) : Calls Try.prog 16 #[.agg c.cs.toArray] w fun e w' => e = .returned (.tuple #[.agg (shutF c).1.cs.toArray, .int .i64 (shutF c).2]) ∧ Only (fun _ => False) w w' := by
  cases f1 : c.fs
  · by_cases c3 : c.st = 3
    · have HF := Lib.hid (show shutF c = ({ c with st := 4, fs := true, nxt := (c.nxt + 1) % 4294967296 }, 0) by simp [shutF, f1, c3])
      have d3 : (c.st == 3) = true := by simp [c3]
      have d2 : (c.st == 2) = false := by simp; omega
      have d6 : (c.st == 6) = false := by simp; omega
      clear c3
      go_enter Try.func16, Try.ntmps16
      go_wp2
      refine bodyPost_ret (v := .tuple #[.agg (shutF c).1.cs.toArray, .int .i64 (shutF c).2]) ?_ rfl ⟨rfl, ((Only.refl _ _).alloc _).alloc _⟩
      rw [HF.out]
      simp [results, Try.results16, go_sem, zc]
    · by_cases c2 : c.st = 2
      · have HF := Lib.hid (show shutF c = ({ c with st := 4, fs := true, nxt := (c.nxt + 1) % 4294967296 }, 0) by simp [shutF, f1, c2])
        have d3 : (c.st == 3) = false := by simp; omega
        have d2 : (c.st == 2) = true := by simp [c2]
        have d6 : (c.st == 6) = false := by simp; omega
        clear c2 c3
        go_enter Try.func16, Try.ntmps16
        go_wp2
        refine bodyPost_ret (v := .tuple #[.agg (shutF c).1.cs.toArray, .int .i64 (shutF c).2]) ?_ rfl ⟨rfl, ((Only.refl _ _).alloc _).alloc _⟩
        rw [HF.out]
        simp [results, Try.results16, go_sem, zc]
      · by_cases c6 : c.st = 6
        · have HF := Lib.hid (show shutF c = ({ c with st := 8, fs := true, nxt := (c.nxt + 1) % 4294967296 }, 0) by simp [shutF, f1, c6])
          have d3 : (c.st == 3) = false := by simp; omega
          have d2 : (c.st == 2) = false := by simp; omega
          have d6 : (c.st == 6) = true := by simp [c6]
          clear c2 c3 c6
          go_enter Try.func16, Try.ntmps16
          go_wp2
          refine bodyPost_ret (v := .tuple #[.agg (shutF c).1.cs.toArray, .int .i64 (shutF c).2]) ?_ rfl ⟨rfl, ((Only.refl _ _).alloc _).alloc _⟩
          rw [HF.out]
          simp [results, Try.results16, go_sem, zc]
        · have HF := Lib.hid (show shutF c = (zc, 212) by simp [shutF, f1, c2, c3, c6])
          have d3 : (c.st == 3) = false := by simp; omega
          have d2 : (c.st == 2) = false := by simp; omega
          have d6 : (c.st == 6) = false := by simp; omega
          clear c2 c3 c6
          go_enter Try.func16, Try.ntmps16
          go_wp2
          refine bodyPost_ret (v := .tuple #[.agg (shutF c).1.cs.toArray, .int .i64 (shutF c).2]) ?_ rfl ⟨rfl, ((Only.refl _ _).alloc _).alloc _⟩
          rw [HF.out]
          simp [results, Try.results16, go_sem, zc]
  · have HF := Lib.hid (show shutF c = (zc, 212) by simp [shutF, f1])
    go_enter Try.func16, Try.ntmps16
    go_wp2
    refine bodyPost_ret (v := .tuple #[.agg (shutF c).1.cs.toArray, .int .i64 (shutF c).2]) ?_ rfl ⟨rfl, ((Only.refl _ _).alloc _).alloc _⟩
    rw [HF.out]
    simp [results, Try.results16, go_sem, zc]
end
end Go.Proofs.Ytpodmpidelifeaa
