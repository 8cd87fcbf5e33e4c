/-
  CoreBlind's plain law.
-/
import Derived.Test.YtpodmpidelifeaaCoreLaw
namespace Go.Proofs.Ytpodmpidelifeaa
open Go.RowKit
section
variable {c : Ctl} {s : Seg}
theorem hb_4_4 : hb 4 4 = true := by decide
theorem hb_2_4 : hb 2 4 = false := by decide
theorem hb_2_2 : hb 2 2 = true := by decide
theorem hb_16_4 : hb 16 4 = false := by decide
theorem hb_16_2 : hb 16 2 = false := by decide
theorem hb_16_16 : hb 16 16 = true := by decide
theorem blind_g {f w st : Int} (h : ((((decide ((f : Int) < 0)) || (decide ((w : Int) < 1))) || (decide ((st : Int) < 3))) || (decide ((9 : Int) < st))) = false) : 0 ≤ f ∧ 1 ≤ w ∧ 3 ≤ st ∧ st ≤ 9 := by
  simp only [Bool.or_eq_false_iff, decide_eq_false_iff_not] at h; omega
theorem blind_up {seq W rcv : Int} (hs : U32 seq) (hr : U32 rcv) (h1 : 1 ≤ W) (h2 : W ≤ 2147483647) : up ((rcv + (Int.tmod seq (W % 4294967296))) % 4294967296) rcv < W := by
  unfold U32 at *
  have e : W % 4294967296 = W := by omega
  rw [e, Int.tmod_eq_emod_of_nonneg hs.1]
  have a := Int.emod_nonneg seq (show W ≠ 0 by omega)
  have b := Int.emod_lt_of_pos seq (show 0 < W by omega)
  unfold up; omega
theorem blind_judge (h1 : 1 ≤ df c.adv c.rcv) (h3 : 3 ≤ c.st) (hu : up s.sq c.rcv < df c.adv c.rcv)
    (h : (hb s.fl 4 = true ∧ s.sq ≠ c.rcv) ∨ (hb s.fl 4 = false ∧ hb s.fl 2 = true) ∨ (hb s.fl 4 = false ∧ hb s.fl 2 = false ∧ hb s.fl 16 = true ∧ 0 < df s.ak c.nxt)) : judgeF c s = { v0 c with reply := 1 } := by
  have hwn : wn c = df c.adv c.rcv := by unfold wn; omega
  have hin : inB c s.sq = true := by unfold inB; rw [hwn]; simpa using hu
  have hf : fitsB c s = true := by
    unfold fitsB
    rw [hin]
    split
    · rw [if_neg (by omega)]
    · rfl
  rcases judge_shape (c := c) (s := s) (by omega) with ⟨k, _⟩ | ⟨_, k, hh⟩ | ⟨_, k, hh⟩ | ⟨_, k1, k2, k3, e⟩
  · rw [hf] at k; cases k
  · rcases hh with ⟨hq, e⟩ | ⟨hq, e⟩
    · rcases h with ⟨_, h⟩ | ⟨h, _⟩ | ⟨h, _⟩
      · exact absurd hq h
      · rw [k] at h; cases h
      · rw [k] at h; cases h
    · exact e
  · rcases hh with ⟨_, e⟩ | ⟨a, b, e⟩
    · exact e
    · rcases h with ⟨h, _⟩ | ⟨_, h⟩ | ⟨_, _, h, _⟩
      · rw [k] at h; cases h
      · rw [a] at h; cases h
      · rw [b] at h; cases h
  · rw [e]
    rcases h with ⟨h, _⟩ | ⟨_, h⟩ | ⟨_, _, _, h⟩
    · rw [k1] at h; cases h
    · rw [k2] at h; cases h
    · rcases acks_shape (c := c) (s := s) (by omega) with ⟨a1, hh⟩ | ⟨h2, _⟩ | ⟨_, h3, _⟩
      · rw [if_pos a1]
        rcases hh with ⟨h2, _⟩ | ⟨_, _, e2⟩
        · omega
        · exact e2
      · omega
      · omega
theorem ne_of {a b : Int} (h : (a == b) = false) : a ≠ b := by simpa using h
theorem blind_leaf {v1 : Vd} (hv : judgeF c s = v1) (h1 : 1 ≤ df c.adv c.rcv) (h3 : 3 ≤ c.st) (hu : up s.sq c.rcv < df c.adv c.rcv)
    (h : (hb s.fl 4 = true ∧ s.sq ≠ c.rcv) ∨ (hb s.fl 4 = false ∧ hb s.fl 2 = true) ∨ (hb s.fl 4 = false ∧ hb s.fl 2 = false ∧ hb s.fl 16 = true ∧ 0 < df s.ak c.nxt)) :
    ((((((ctlEq v1.next c) && ((v1.reply : Int) == 1)) && ((v1.ended : Int) == 0)) && ((v1.take : Int) == 0)) && (!v1.fin)) && (!v1.acked)) = true := by
  rw [blind_judge h1 h3 hu h] at hv
  subst hv
  simp [ctlEq, v0]
theorem blind_ack {n a : Int} (hn : U32 n) (ha : U32 a) : 0 < df ((((n + 1) % 4294967296) + (Int.tmod a 1000000)) % 4294967296) n := by
  unfold U32 at *
  rw [Int.tmod_eq_emod_of_nonneg ha.1]
  unfold df wrap64 wrap32; omega
end
end Go.Proofs.Ytpodmpidelifeaa
