/-
  What the document's Ended and Shut answer, for every input.
-/
import Derived.Test.YtpodmpidelifeaaCoreRef
namespace Go.Proofs.Ytpodmpidelifeaa
open Go.RowKit
set_option maxRecDepth 100000
set_option maxHeartbeats 2000000
section
variable {w : World} {c : Ctl} {s : Seg}
theorem rended_any (w : World) (c : Ctl) (ha : 0 ≤ c.adv ∧ c.adv < 4294967296) : Calls Try.prog 20 #[.agg c.cs.toArray] w fun e w' => e = .returned (.agg (endedF c).cs.toArray) ∧ Only (fun _ => False) w w' := by
  by_cases c2 : c.st = 2
  · have HS := Lib.hid (show endedSt c = 6 by simp [endedSt, c2])
    have d2 : (c.st == 2) = true := by simp [c2]
    have d3 : (c.st == 3) = false := by simp; omega
    have d4 : (c.st == 4) = false := by simp; omega
    have d5 : (c.st == 5) = false := by simp; omega
    clear c2
    by_cases hd : 0 < df ((c.rcv + 1) % 4294967296) c.adv
    · have HF := Lib.hid (show endedF c = { c with st := 6, rcv := (c.rcv + 1) % 4294967296, adv := (c.adv + 1) % 4294967296 } by unfold endedF; rw [HS.out, if_pos hd])
      go_enter Try.func20, Try.ntmps20
      go_wp2_with (go_at_call 9; refine (rdiff_any _ _ _ (by omega) (by omega)).mono ?_; rintro e w' ⟨rfl, rfl⟩)
      refine bodyPost_ret (v := .agg (endedF c).cs.toArray) ?_ rfl ⟨rfl, ((Only.refl _ _).alloc _).alloc _⟩
      rw [HF.out]
      simp [results, Try.results20, go_sem]
    · have HF := Lib.hid (show endedF c = { c with st := 6, rcv := (c.rcv + 1) % 4294967296, adv := c.adv } by unfold endedF; rw [HS.out, if_neg hd])
      go_enter Try.func20, Try.ntmps20
      go_wp2_with (go_at_call 9; refine (rdiff_any _ _ _ (by omega) (by omega)).mono ?_; rintro e w' ⟨rfl, rfl⟩)
      refine bodyPost_ret (v := .agg (endedF c).cs.toArray) ?_ rfl ⟨rfl, ((Only.refl _ _).alloc _).alloc _⟩
      rw [HF.out]
      simp [results, Try.results20, go_sem]
  · by_cases c3 : c.st = 3
    · have HS := Lib.hid (show endedSt c = 6 by simp [endedSt, c2, c3])
      have d2 : (c.st == 2) = false := by simp; omega
      have d3 : (c.st == 3) = true := by simp [c3]
      have d4 : (c.st == 4) = false := by simp; omega
      have d5 : (c.st == 5) = false := by simp; omega
      clear c2 c3
      by_cases hd : 0 < df ((c.rcv + 1) % 4294967296) c.adv
      · have HF := Lib.hid (show endedF c = { c with st := 6, rcv := (c.rcv + 1) % 4294967296, adv := (c.adv + 1) % 4294967296 } by unfold endedF; rw [HS.out, if_pos hd])
        go_enter Try.func20, Try.ntmps20
        go_wp2_with (go_at_call 9; refine (rdiff_any _ _ _ (by omega) (by omega)).mono ?_; rintro e w' ⟨rfl, rfl⟩)
        refine bodyPost_ret (v := .agg (endedF c).cs.toArray) ?_ rfl ⟨rfl, ((Only.refl _ _).alloc _).alloc _⟩
        rw [HF.out]
        simp [results, Try.results20, go_sem]
      · have HF := Lib.hid (show endedF c = { c with st := 6, rcv := (c.rcv + 1) % 4294967296, adv := c.adv } by unfold endedF; rw [HS.out, if_neg hd])
        go_enter Try.func20, Try.ntmps20
        go_wp2_with (go_at_call 9; refine (rdiff_any _ _ _ (by omega) (by omega)).mono ?_; rintro e w' ⟨rfl, rfl⟩)
        refine bodyPost_ret (v := .agg (endedF c).cs.toArray) ?_ rfl ⟨rfl, ((Only.refl _ _).alloc _).alloc _⟩
        rw [HF.out]
        simp [results, Try.results20, go_sem]
    · by_cases c4 : c.st = 4
      · have HS := Lib.hid (show endedSt c = 7 by simp [endedSt, c2, c3, c4])
        have d2 : (c.st == 2) = false := by simp; omega
        have d3 : (c.st == 3) = false := by simp; omega
        have d4 : (c.st == 4) = true := by simp [c4]
        have d5 : (c.st == 5) = false := by simp; omega
        clear c2 c3 c4
        by_cases hd : 0 < df ((c.rcv + 1) % 4294967296) c.adv
        · have HF := Lib.hid (show endedF c = { c with st := 7, rcv := (c.rcv + 1) % 4294967296, adv := (c.adv + 1) % 4294967296 } by unfold endedF; rw [HS.out, if_pos hd])
          go_enter Try.func20, Try.ntmps20
          go_wp2_with (go_at_call 9; refine (rdiff_any _ _ _ (by omega) (by omega)).mono ?_; rintro e w' ⟨rfl, rfl⟩)
          refine bodyPost_ret (v := .agg (endedF c).cs.toArray) ?_ rfl ⟨rfl, ((Only.refl _ _).alloc _).alloc _⟩
          rw [HF.out]
          simp [results, Try.results20, go_sem]
        · have HF := Lib.hid (show endedF c = { c with st := 7, rcv := (c.rcv + 1) % 4294967296, adv := c.adv } by unfold endedF; rw [HS.out, if_neg hd])
          go_enter Try.func20, Try.ntmps20
          go_wp2_with (go_at_call 9; refine (rdiff_any _ _ _ (by omega) (by omega)).mono ?_; rintro e w' ⟨rfl, rfl⟩)
          refine bodyPost_ret (v := .agg (endedF c).cs.toArray) ?_ rfl ⟨rfl, ((Only.refl _ _).alloc _).alloc _⟩
          rw [HF.out]
          simp [results, Try.results20, go_sem]
      · by_cases c5 : c.st = 5
        · have HS := Lib.hid (show endedSt c = 9 by simp [endedSt, c2, c3, c4, c5])
          have d2 : (c.st == 2) = false := by simp; omega
          have d3 : (c.st == 3) = false := by simp; omega
          have d4 : (c.st == 4) = false := by simp; omega
          have d5 : (c.st == 5) = true := by simp [c5]
          clear c2 c3 c4 c5
          by_cases hd : 0 < df ((c.rcv + 1) % 4294967296) c.adv
          · have HF := Lib.hid (show endedF c = { c with st := 9, rcv := (c.rcv + 1) % 4294967296, adv := (c.adv + 1) % 4294967296 } by unfold endedF; rw [HS.out, if_pos hd])
            go_enter Try.func20, Try.ntmps20
            go_wp2_with (go_at_call 9; refine (rdiff_any _ _ _ (by omega) (by omega)).mono ?_; rintro e w' ⟨rfl, rfl⟩)
            refine bodyPost_ret (v := .agg (endedF c).cs.toArray) ?_ rfl ⟨rfl, ((Only.refl _ _).alloc _).alloc _⟩
            rw [HF.out]
            simp [results, Try.results20, go_sem]
          · have HF := Lib.hid (show endedF c = { c with st := 9, rcv := (c.rcv + 1) % 4294967296, adv := c.adv } by unfold endedF; rw [HS.out, if_neg hd])
            go_enter Try.func20, Try.ntmps20
            go_wp2_with (go_at_call 9; refine (rdiff_any _ _ _ (by omega) (by omega)).mono ?_; rintro e w' ⟨rfl, rfl⟩)
            refine bodyPost_ret (v := .agg (endedF c).cs.toArray) ?_ rfl ⟨rfl, ((Only.refl _ _).alloc _).alloc _⟩
            rw [HF.out]
            simp [results, Try.results20, go_sem]
        · have HS := Lib.hid (show endedSt c = c.st by simp [endedSt, c2, c3, c4, c5])
          have d2 : (c.st == 2) = false := by simp; omega
          have d3 : (c.st == 3) = false := by simp; omega
          have d4 : (c.st == 4) = false := by simp; omega
          have d5 : (c.st == 5) = false := by simp; omega
          clear c2 c3 c4 c5
          by_cases hd : 0 < df ((c.rcv + 1) % 4294967296) c.adv
          · have HF := Lib.hid (show endedF c = { c with st := c.st, rcv := (c.rcv + 1) % 4294967296, adv := (c.adv + 1) % 4294967296 } by unfold endedF; rw [HS.out, if_pos hd])
            go_enter Try.func20, Try.ntmps20
            go_wp2_with (go_at_call 9; refine (rdiff_any _ _ _ (by omega) (by omega)).mono ?_; rintro e w' ⟨rfl, rfl⟩)
            refine bodyPost_ret (v := .agg (endedF c).cs.toArray) ?_ rfl ⟨rfl, ((Only.refl _ _).alloc _).alloc _⟩
            rw [HF.out]
            simp [results, Try.results20, go_sem]
          · have HF := Lib.hid (show endedF c = { c with st := c.st, rcv := (c.rcv + 1) % 4294967296, adv := c.adv } by unfold endedF; rw [HS.out, if_neg hd])
            go_enter Try.func20, Try.ntmps20
            go_wp2_with (go_at_call 9; refine (rdiff_any _ _ _ (by omega) (by omega)).mono ?_; rintro e w' ⟨rfl, rfl⟩)
            refine bodyPost_ret (v := .agg (endedF c).cs.toArray) ?_ rfl ⟨rfl, ((Only.refl _ _).alloc _).alloc _⟩
            rw [HF.out]
            simp [results, Try.results20, go_sem]
theorem rshut_any (w : World) (c : Ctl) : Calls Try.prog 17 #[.agg c.cs.toArray] w fun e w' => e = .returned (.tuple #[.agg (shutF c).1.cs.toArray, .int .i64 (shutF c).2]) ∧ Only (fun _ => False) w w' := by
  cases f1 : c.fs
  · by_cases c3 : c.st = 3
    · have HF := Lib.hid (show shutF c = ({ c with st := 4, fs := true, nxt := (c.nxt + 1) % 4294967296 }, 0) by simp [shutF, f1, c3])
      have d3 : (c.st == 3) = true := by simp [c3]
      have n3 : (c.st != 3) = false := by rw [bne, d3]; rfl
      have d2 : (c.st == 2) = false := by simp; omega
      have n2 : (c.st != 2) = true := by rw [bne, d2]; rfl
      have d6 : (c.st == 6) = false := by simp; omega
      have n6 : (c.st != 6) = true := by rw [bne, d6]; rfl
      clear c3
      go_enter Try.func17, Try.ntmps17
      go_wp2
      refine bodyPost_ret (v := .tuple #[.agg (shutF c).1.cs.toArray, .int .i64 (shutF c).2]) ?_ rfl ⟨rfl, ((Only.refl _ _).alloc _).alloc _⟩
      rw [HF.out]
      simp [results, Try.results17, go_sem, zc]
    · by_cases c2 : c.st = 2
      · have HF := Lib.hid (show shutF c = ({ c with st := 4, fs := true, nxt := (c.nxt + 1) % 4294967296 }, 0) by simp [shutF, f1, c2])
        have d3 : (c.st == 3) = false := by simp; omega
        have n3 : (c.st != 3) = true := by rw [bne, d3]; rfl
        have d2 : (c.st == 2) = true := by simp [c2]
        have n2 : (c.st != 2) = false := by rw [bne, d2]; rfl
        have d6 : (c.st == 6) = false := by simp; omega
        have n6 : (c.st != 6) = true := by rw [bne, d6]; rfl
        clear c2 c3
        go_enter Try.func17, Try.ntmps17
        go_wp2
        refine bodyPost_ret (v := .tuple #[.agg (shutF c).1.cs.toArray, .int .i64 (shutF c).2]) ?_ rfl ⟨rfl, ((Only.refl _ _).alloc _).alloc _⟩
        rw [HF.out]
        simp [results, Try.results17, go_sem, zc]
      · by_cases c6 : c.st = 6
        · have HF := Lib.hid (show shutF c = ({ c with st := 8, fs := true, nxt := (c.nxt + 1) % 4294967296 }, 0) by simp [shutF, f1, c6])
          have d3 : (c.st == 3) = false := by simp; omega
          have n3 : (c.st != 3) = true := by rw [bne, d3]; rfl
          have d2 : (c.st == 2) = false := by simp; omega
          have n2 : (c.st != 2) = true := by rw [bne, d2]; rfl
          have d6 : (c.st == 6) = true := by simp [c6]
          have n6 : (c.st != 6) = false := by rw [bne, d6]; rfl
          clear c2 c3 c6
          go_enter Try.func17, Try.ntmps17
          go_wp2
          refine bodyPost_ret (v := .tuple #[.agg (shutF c).1.cs.toArray, .int .i64 (shutF c).2]) ?_ rfl ⟨rfl, ((Only.refl _ _).alloc _).alloc _⟩
          rw [HF.out]
          simp [results, Try.results17, go_sem, zc]
        · have HF := Lib.hid (show shutF c = (zc, 212) by simp [shutF, f1, c2, c3, c6])
          have d3 : (c.st == 3) = false := by simp; omega
          have n3 : (c.st != 3) = true := by rw [bne, d3]; rfl
          have d2 : (c.st == 2) = false := by simp; omega
          have n2 : (c.st != 2) = true := by rw [bne, d2]; rfl
          have d6 : (c.st == 6) = false := by simp; omega
          have n6 : (c.st != 6) = true := by rw [bne, d6]; rfl
          clear c2 c3 c6
          go_enter Try.func17, Try.ntmps17
          go_wp2
          refine bodyPost_ret (v := .tuple #[.agg (shutF c).1.cs.toArray, .int .i64 (shutF c).2]) ?_ rfl ⟨rfl, ((Only.refl _ _).alloc _).alloc _⟩
          rw [HF.out]
          simp [results, Try.results17, go_sem, zc]
  · have HF := Lib.hid (show shutF c = (zc, 212) by simp [shutF, f1])
    go_enter Try.func17, Try.ntmps17
    go_wp2
    refine bodyPost_ret (v := .tuple #[.agg (shutF c).1.cs.toArray, .int .i64 (shutF c).2]) ?_ rfl ⟨rfl, ((Only.refl _ _).alloc _).alloc _⟩
    rw [HF.out]
    simp [results, Try.results17, go_sem, zc]
end
end Go.Proofs.Ytpodmpidelifeaa
