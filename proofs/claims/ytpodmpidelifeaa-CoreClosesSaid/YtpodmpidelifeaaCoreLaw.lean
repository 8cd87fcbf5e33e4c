/-
  Plain facts on what a segment means: by cases.
-/
import Derived.Test.YtpodmpidelifeaaCoreOk
import Derived.IntWalk
namespace Go.Proofs.Ytpodmpidelifeaa
open Go.RowKit
section
variable {c : Ctl} {s : Seg} {v : Vd}
theorem judge_shape (h1 : ¬ c.st = 1) :
    (fitsB c s = false ∧ judgeF c s = (if hb s.fl 4 then v0 c else { v0 c with reply := 1 })) ∨
    (fitsB c s = true ∧ hb s.fl 4 = true ∧ ((s.sq = c.rcv ∧ judgeF c s = { v0 c with ended := if c.st = 2 then 215 else 216 }) ∨ (s.sq ≠ c.rcv ∧ judgeF c s = { v0 c with reply := 1 }))) ∨
    (fitsB c s = true ∧ hb s.fl 4 = false ∧ ((hb s.fl 2 = true ∧ judgeF c s = { v0 c with reply := 1 }) ∨ (hb s.fl 2 = false ∧ hb s.fl 16 = false ∧ judgeF c s = v0 c))) ∨
    (fitsB c s = true ∧ hb s.fl 4 = false ∧ hb s.fl 2 = false ∧ hb s.fl 16 = true ∧ judgeF c s = if (acksF c s (v0 c)).1 = 1 then (acksF c s (v0 c)).2 else (takesF c s (acksF c s (v0 c)).2).2) := by
  unfold judgeF
  rw [if_neg h1]
  unfold stepsF
  simp only [runF]
  cases hf : fitsB c s
  · left
    refine ⟨rfl, ?_⟩
    cases hr : hb s.fl 4 <;> simp [fitsF, hf, hr]
  · right
    have e1 : fitsF c s (v0 c) = (0, v0 c) := by simp [fitsF, hf]
    cases hr : hb s.fl 4
    · right
      have e2 : resetsF c s (v0 c) = (0, v0 c) := by simp [resetsF, hr]
      cases hy : hb s.fl 2
      · cases ha : hb s.fl 16
        · left; refine ⟨rfl, rfl, .inr ⟨rfl, rfl, ?_⟩⟩
          simp [e1, e2, beginsF, hy, ha]
        · right; refine ⟨rfl, rfl, rfl, rfl, ?_⟩
          have e3 : beginsF s (v0 c) = (0, v0 c) := by simp [beginsF, hy, ha]
          simp only [e1, e2, e3]
          simp
      · left; refine ⟨rfl, rfl, .inl ⟨rfl, ?_⟩⟩
        simp [e1, e2, beginsF, hy]
    · left
      refine ⟨rfl, rfl, ?_⟩
      by_cases hq : s.sq = c.rcv
      · left; refine ⟨hq, ?_⟩
        by_cases h2 : c.st = 2 <;> simp [e1, resetsF, hr, hq, h2]
      · right; refine ⟨hq, ?_⟩
        simp [e1, resetsF, hr, hq]
/-- One that asked is answered. -/
def accV (c : Ctl) (s : Seg) : Vd := ⟨⟨3, c.iss, s.ak, c.nxt, c.fs, s.wnd, s.sq, s.ak, c.irs, c.rcv, c.adv⟩, 0, 0, true, false, 0, 0, false⟩
/-- What is kept by the acknowledgement. -/
theorem acks_shape (h1 : ¬ c.st = 1) :
    ((acksF c s (v0 c)).1 = 1 ∧ ((c.st = 2 ∧ s.ak ≠ c.nxt ∧ (acksF c s (v0 c)).2 = { v0 c with reply := 2 }) ∨ (¬ c.st = 2 ∧ (0 < df s.ak c.nxt ∨ 65535 < df c.una s.ak) ∧ (acksF c s (v0 c)).2 = { v0 c with reply := 1 }))) ∨
    ((c.st = 2 ∧ s.ak = c.nxt ∧ acksF c s (v0 c) = (0, accV c s)) ∨
     (¬ c.st = 2 ∧ df s.ak c.nxt ≤ 0 ∧ df c.una s.ak ≤ 65535 ∧ acksF c s (v0 c) = ackF3 c (ackV2 c s (ackV1 c s (v0 c))))) := by
  unfold acksF
  by_cases h2 : c.st = 2
  · by_cases ha : s.ak = c.nxt
    · right; left; refine ⟨h2, ha, ?_⟩
      simp [h2, ha, v0, accV]
    · left; simp [h2, ha]
  · by_cases hb' : 0 < df s.ak c.nxt ∨ 65535 < df c.una s.ak
    · left; simp only [h2, hb', if_false, if_true]; simp [hb']
    · right; right
      refine ⟨h2, by omega, by omega, ?_⟩
      simp [h2, hb']
/-- What an acknowledgement leaves as it was. -/
structure Kept (c : Ctl) (v : Vd) : Prop where
  nxt : v.next.nxt = c.nxt
  rcv : v.next.rcv = c.rcv
  adv : v.next.adv = c.adv
  iss : v.next.iss = c.iss
  irs : v.next.irs = c.irs
  take : v.take = 0
  skip : v.skip = 0
  fin : v.fin = false
theorem ackV1_kept : Kept c (ackV1 c s (v0 c)) := by unfold ackV1; split <;> (try split) <;> exact ⟨rfl, rfl, rfl, rfl, rfl, rfl, rfl, rfl⟩
theorem ackV2_kept (h : Kept c v) : Kept c (ackV2 c s v) := by obtain ⟨h1, h2, h3, h4, h5, h6, h7, h8⟩ := h; unfold ackV2; split <;> exact ⟨h1, h2, h3, h4, h5, h6, h7, h8⟩
theorem ackF3_kept (h : Kept c v) : Kept c (ackF3 c v).2 := by obtain ⟨h1, h2, h3, h4, h5, h6, h7, h8⟩ := h; unfold ackF3; split <;> (try split) <;> (try split) <;> (try split) <;> exact ⟨h1, h2, h3, h4, h5, h6, h7, h8⟩
theorem ackV2_una : (ackV2 c s v).next.una = v.next.una ∧ (ackV2 c s v).acked = v.acked ∧ (ackV2 c s v).reply = v.reply ∧ (ackV2 c s v).ended = v.ended := by unfold ackV2; split <;> exact ⟨rfl, rfl, rfl, rfl⟩
theorem ackF3_una : (ackF3 c v).2.next.una = v.next.una ∧ (ackF3 c v).2.acked = v.acked ∧ (ackF3 c v).2.reply = v.reply ∧ ((ackF3 c v).2.ended = v.ended ∨ (ackF3 c v).2.ended = 218) := by unfold ackF3; split <;> (try split) <;> (try split) <;> (try split) <;> simp
theorem ackV1_una : (0 < df s.ak c.una ∧ (ackV1 c s (v0 c)).next.una = s.ak ∧ (ackV1 c s (v0 c)).acked = true ∨ ¬ 0 < df s.ak c.una ∧ (ackV1 c s (v0 c)).next.una = c.una ∧ (ackV1 c s (v0 c)).acked = false) ∧ (ackV1 c s (v0 c)).reply = 0 ∧ (ackV1 c s (v0 c)).ended = 0 := by
  unfold ackV1
  by_cases h : 0 < df s.ak c.una
  · rw [if_pos h]; exact ⟨.inl ⟨h, rfl, rfl⟩, rfl, rfl⟩
  · rw [if_neg h]; split <;> exact ⟨.inr ⟨h, rfl, rfl⟩, rfl, rfl⟩
/-- The bytes: what is taken of them. -/
theorem takes_shape : (takesF c s v).2.next = v.next ∧ (takesF c s v).2.acked = v.acked ∧ (takesF c s v).2.reply = v.reply ∧ (takesF c s v).2.ended = v.ended ∧
    (((takesF c s v).2.take = v.take ∧ (takesF c s v).2.skip = v.skip ∧ (takesF c s v).2.fin = v.fin) ∨ ((takesF c s v).2.take = takeF c s ∧ (takesF c s v).2.skip = skipF c s)) := by
  unfold takesF; split <;> simp
end
theorem i64w {n : Int} (h : -9223372036854775808 ≤ n ∧ n ≤ 9223372036854775807) : IntKind.i64.wrap n = n := by rw [IntKind.wrap_i64]; omega
theorem rst_is (fl : Int) (h : 0 ≤ fl ∧ fl ≤ 31) : ((Int.tmod (IntKind.i64.wrap (Int.tdiv fl 4)) 2 : Int) == 1) = hb fl 4 := by
  obtain ⟨n, hn, rfl⟩ : ∃ n : Nat, n < 32 ∧ fl = (n : Int) := ⟨fl.toNat, by omega, by omega⟩
  have : ∀ k : Fin 32, ((Int.tmod (IntKind.i64.wrap (Int.tdiv (k.val : Int) 4)) 2 : Int) == 1) = hb (k.val : Int) 4 := by decide +kernel
  exact this ⟨n, hn⟩
end Go.Proofs.Ytpodmpidelifeaa
