/-
  Plain: what the segments of a connection's beginning and end mean.
-/
import Derived.Test.YtpodmpidelifeaaCoreLaw
namespace Go.Proofs.Ytpodmpidelifeaa
open Go.RowKit
section
variable {c : Ctl} {s : Seg}
theorem hb18_16 : hb 18 16 = true := by decide
theorem hb18_4 : hb 18 4 = false := by decide
theorem hb18_2 : hb 18 2 = true := by decide
theorem hb2_16 : hb 2 16 = false := by decide
theorem hb2_4 : hb 2 4 = false := by decide
theorem hb2_2 : hb 2 2 = true := by decide
theorem hb16_16 : hb 16 16 = true := by decide
theorem hb16_4 : hb 16 4 = false := by decide
theorem hb16_2 : hb 16 2 = false := by decide
theorem hb16_1 : hb 16 1 = false := by decide
theorem hb17_16 : hb 17 16 = true := by decide
theorem hb17_4 : hb 17 4 = false := by decide
theorem hb17_2 : hb 17 2 = false := by decide
theorem hb17_1 : hb 17 1 = true := by decide
theorem fb16 : fb 16 = 0 := by decide
theorem fb17 : fb 17 = 1 := by decide
theorem fb18 : fb 18 = 0 := by decide

theorem asks2 (h : s.fl = 2) : asks s = true := by unfold asks; rw [h]; decide
theorem j_first (h1 : c.st = 1) (hf : s.fl = 18) (ha : s.ak = c.nxt) : judgeF c s = ⟨⟨3, c.iss, s.ak, c.nxt, c.fs, s.wnd, s.sq, s.ak, s.sq, (s.sq + 1) % 4294967296, (s.sq + 1) % 4294967296⟩, 1, 0, true, false, 0, 0, false⟩ := by
  unfold judgeF firstF
  rw [if_pos h1]
  simp [hf, hb18_16, hb18_4, hb18_2, ha, v0]
theorem j_syn (h1 : c.st = 1) (hf : s.fl = 2) : judgeF c s = ⟨⟨2, c.iss, c.una, c.nxt, c.fs, s.wnd, s.sq, c.iss, s.sq, (s.sq + 1) % 4294967296, (s.sq + 1) % 4294967296⟩, 3, 0, false, false, 0, 0, false⟩ := by
  unfold judgeF firstF
  rw [if_pos h1]
  simp [hf, hb2_16, hb2_4, hb2_2, v0]
theorem j_out (h1 : ¬ c.st = 1) (hf : s.fl = 18) (hd : s.dn = 0) (hw : c.adv = c.rcv) : judgeF c s = ⟨c, 1, 0, false, false, 0, 0, false⟩ := by
  have hwn : wn c = 0 := by unfold wn; rw [hw]; unfold df wrap64 wrap32; simp
  have hfit : fitsB c s = false := by
    have hsz : sz s = 1 := by unfold sz; rw [hd, hf, fb18, hb18_2]; rfl
    have hno : ∀ n, inB c n = false := by intro n; unfold inB; rw [hwn]; have := up_bd n c.rcv; simp; omega
    unfold fitsB; rw [hsz, hno, hno]; rfl
  rcases judge_shape (c := c) (s := s) h1 with ⟨_, e⟩ | ⟨k, _⟩ | ⟨k, _⟩ | ⟨k, _⟩
  · rw [e, hf, hb18_4]; rfl
  · rw [hfit] at k; cases k
  · rw [hfit] at k; cases k
  · rw [hfit] at k; cases k
theorem up_self (a : Int) : up a a = 0 := by unfold up; simp
theorem fits_at (hr : U32 c.rcv) (hq : s.sq = c.rcv) (hd : s.dn = 0) (hl : 0 ≤ df c.adv c.rcv) (hz : sz s = 0 ∨ 0 < df c.adv c.rcv) : fitsB c s = true := by
  have hwn : wn c = df c.adv c.rcv := by unfold wn; omega
  unfold fitsB
  rw [hwn]
  by_cases h0 : df c.adv c.rcv = 0
  · rw [if_pos (by omega), if_pos h0, hq]; simp
  · have hin : inB c s.sq = true := by unfold inB; rw [hwn, hq, up_self]; simp; omega
    rw [hin]
    split <;> simp [h0]
theorem takes_none (hd : s.dn = 0) {v : Vd} (hv : v.skip = 0) (ht : v.take = 0) (hf : v.fin = false) (h1 : hb s.fl 1 = false) : (takesF c s v).2 = v := by
  have hs : skipF c s = 0 := by unfold skipF; rw [hd]; omega
  have htk : takeF c s = 0 := by unfold takeF; split <;> first | rfl | (rw [hs, hd]; omega)
  have hfn : finF c s = false := by unfold finF; rw [h1]; rfl
  unfold takesF
  split
  · obtain ⟨n, a, b, d, e, f, g, h⟩ := v
    simp only at hv ht hf
    subst hv ht hf
    rw [hs, htk, hfn]
  · rfl
theorem takes_fin (hd : s.dn = 0) {v : Vd} (hq : s.sq = c.rcv) (hw : 0 < df c.adv c.rcv) (hr : U32 c.rcv) (h1 : hb s.fl 1 = true) (hst : v.next.st = 3 ∨ v.next.st = 4 ∨ v.next.st = 5) : (takesF c s v).2 = { v with skip := 0, take := 0, fin := true } := by
  have hs : skipF c s = 0 := by unfold skipF; rw [hd]; omega
  have htk : takeF c s = 0 := by unfold takeF; split <;> first | rfl | (rw [hs, hd]; omega)
  have hwn : wn c = df c.adv c.rcv := by unfold wn; omega
  have hfn : finF c s = true := by
    unfold finF inB
    rw [h1, hs, htk, hd, hwn, hq]
    unfold U32 at hr
    have : (c.rcv + ((0 : Nat) : Int)) % 4294967296 = c.rcv := by omega
    rw [this, up_self]
    simpa using hw
  unfold takesF
  rw [if_pos hst, hs, htk, hfn]
theorem j_acc (h1 : c.st = 2) (hf : s.fl = 16) (hd : s.dn = 0) (hq : s.sq = c.rcv) (hr : U32 c.rcv) (ha : s.ak = c.nxt) (hw : 0 ≤ df c.adv c.rcv) : judgeF c s = accV c s := by
  have hsz : sz s = 0 := by unfold sz; rw [hd, hf, fb16, hb16_2]; rfl
  have hfit := fits_at hr hq hd hw (.inl hsz)
  rcases judge_shape (c := c) (s := s) (by omega) with ⟨k, _⟩ | ⟨_, k, _⟩ | ⟨_, _, k⟩ | ⟨_, _, _, _, e⟩
  · rw [hfit] at k; cases k
  · rw [hf, hb16_4] at k; cases k
  · rw [hf, hb16_2, hb16_16] at k; simp at k
  · rw [e]
    rcases acks_shape (c := c) (s := s) (by omega) with ⟨_, ⟨_, k, _⟩ | ⟨k, _⟩⟩ | ⟨_, _, e2⟩ | ⟨k, _⟩
    · exact absurd ha k
    · exact absurd h1 k
    · rw [e2, if_neg (by simp)]
      exact takes_none hd rfl rfl rfl (by rw [hf]; exact hb16_1)
    · exact absurd h1 k
/-- An acknowledgement that is on its way in an open connection, without bytes. -/
theorem j_ack (h1 : ¬ c.st = 1) (h2 : ¬ c.st = 2) (f4 : hb s.fl 4 = false) (f2 : hb s.fl 2 = false) (f16 : hb s.fl 16 = true) (hd : s.dn = 0) (hq : s.sq = c.rcv) (hr : U32 c.rcv) (hw : 0 < df c.adv c.rcv)
    (h3 : df s.ak c.nxt ≤ 0) (h4 : df c.una s.ak ≤ 65535) : judgeF c s = if (ackF3 c (ackV2 c s (ackV1 c s (v0 c)))).1 = 1 then (ackF3 c (ackV2 c s (ackV1 c s (v0 c)))).2 else (takesF c s (ackF3 c (ackV2 c s (ackV1 c s (v0 c)))).2).2 := by
  have hfit := fits_at hr hq hd (by omega) (.inr hw)
  rcases judge_shape (c := c) (s := s) h1 with ⟨k, _⟩ | ⟨_, k, _⟩ | ⟨_, _, k⟩ | ⟨_, _, _, _, e⟩
  · rw [hfit] at k; cases k
  · rw [f4] at k; cases k
  · rw [f2, f16] at k; simp at k
  · rw [e]
    rcases acks_shape (c := c) (s := s) h1 with ⟨_, ⟨k, _⟩ | ⟨_, k, _⟩⟩ | ⟨k, _⟩ | ⟨_, _, _, e2⟩
    · exact absurd k h2
    · omega
    · exact absurd k h2
    · rw [e2]
/-- What the acknowledgement leaves, where it is a newer one. -/
def newV (c : Ctl) (s : Seg) (acked : Bool) : Vd := ⟨⟨c.st, c.iss, s.ak, c.nxt, c.fs, s.wnd, s.sq, s.ak, c.irs, c.rcv, c.adv⟩, 0, 0, acked, false, 0, 0, false⟩
theorem df_eq {a b : Int} (ha : U32 a) (hb : U32 b) (h : df a b = 0) : a = b := by
  unfold U32 at *; unfold df wrap64 wrap32 at h; omega
theorem ack_new (hn : 0 < df s.sq c.wl1 ∨ (s.sq = c.wl1 ∧ 0 ≤ df s.ak c.wl2)) (h : 0 < df s.ak c.una) : ackV2 c s (ackV1 c s (v0 c)) = newV c s true := by
  have e : ackV1 c s (v0 c) = { v0 c with next := { c with una := s.ak }, acked := true } := by unfold ackV1; rw [if_pos h]; rfl
  have hself : df s.ak s.ak = 0 := by unfold df wrap64 wrap32; simp
  rw [e]
  unfold ackV2
  rw [if_pos]
  · rfl
  · unfold newer
    rcases hn with hn | ⟨h1, h2⟩
    · simp [hself, hn]
    · simp [hself, h1, h2]
theorem ack_same (hn : 0 < df s.sq c.wl1 ∨ (s.sq = c.wl1 ∧ 0 ≤ df s.ak c.wl2)) (h : s.ak = c.una) (hg : sz s ≠ 0 ∨ c.nxt = c.una) : ackV2 c s (ackV1 c s (v0 c)) = newV c s false := by
  have hself : df s.ak s.ak = 0 := by unfold df wrap64 wrap32; simp
  have e : ackV1 c s (v0 c) = v0 c := by
    unfold ackV1
    rw [← h, hself, if_neg (by omega), if_pos rfl]
    have : (c.nxt != s.ak && sz s == 0 && s.wnd == c.wnd) = false := by
      rcases hg with hg | hg
      · have : (sz s == 0) = false := by simpa using hg
        simp [this]
      · simp [hg, h]
    rw [this]; rfl
  rw [e]
  unfold ackV2
  rw [if_pos]
  · unfold newV v0; rw [h]
  · unfold newer
    have : df s.ak (v0 c).next.una = 0 := by show df s.ak c.una = 0; rw [← h, hself]
    rw [this]
    rcases hn with hn | ⟨h1, h2⟩
    · simp [hn]
    · simp [h1, h2]
theorem ack3_go {v : Vd} (h : c.fs = false) : ackF3 c v = (0, v) := by unfold ackF3; rw [h]; rfl
theorem ack3_out {v : Vd} (_h : c.fs = true) (h : v.next.una ≠ c.nxt) : ackF3 c v = (0, v) := by unfold ackF3; rw [if_pos]; simp [h]
theorem ack3_fw1 {v : Vd} (h : c.fs = true) (h1 : v.next.una = c.nxt) (h2 : c.st = 4) : ackF3 c v = (0, { v with next := { v.next with st := 5 } }) := by unfold ackF3; rw [if_neg (by simp [h, h1]), if_pos h2]
theorem ack3_cl {v : Vd} (h : c.fs = true) (h1 : v.next.una = c.nxt) (h2 : c.st = 7) : ackF3 c v = (0, { v with next := { v.next with st := 9 } }) := by unfold ackF3; rw [if_neg (by simp [h, h1]), if_neg (by omega), if_pos h2]
theorem ack3_la {v : Vd} (h : c.fs = true) (h1 : v.next.una = c.nxt) (h2 : c.st = 8) : ackF3 c v = (1, { v with ended := 218 }) := by unfold ackF3; rw [if_neg (by simp [h, h1]), if_neg (by omega), if_neg (by omega), if_pos h2]
theorem ack3_no {v : Vd} (_h : c.fs = true) (h4 : ¬ c.st = 4) (h7 : ¬ c.st = 7) (h8 : ¬ c.st = 8) : ackF3 c v = (0, v) := by unfold ackF3; simp [h4, h7, h8]
theorem dec1 {x : Int} (h : U32 x) : IntKind.u32.wrap ((x + 1) % 4294967296 - 1) = x := by rw [IntKind.wrap_u32]; unfold U32 at h; omega
theorem ne_of_df {a b : Int} (h : df a b < 0) : a ≠ b := by intro e; subst e; unfold df wrap64 wrap32 at h; simp at h
theorem sz_fin (hd : s.dn = 0) (hf : s.fl = 17) : sz s ≠ 0 := by unfold sz; rw [hd, hf, fb17, hb17_2]; decide
theorem ended_as {c : Ctl} (h : df ((c.rcv + 1) % 4294967296) c.adv ≤ 0) : endedF c = ⟨endedSt c, c.iss, c.una, c.nxt, c.fs, c.wnd, c.wl1, c.wl2, c.irs, (c.rcv + 1) % 4294967296, c.adv⟩ := by unfold endedF; rw [if_neg (by omega)]
/-- Nobody who is open is ended by what has not the very number. -/
theorem j_wild (h : c.st = 3) (hf : c.fs = false) : (judgeF c s).ended = 0 ∨ s.sq = c.rcv := by
  rcases judge_shape (c := c) (s := s) (by omega) with ⟨_, e⟩ | ⟨_, _, ⟨q, _⟩ | ⟨_, e⟩⟩ | ⟨_, _, ⟨_, e⟩ | ⟨_, _, e⟩⟩ | ⟨_, _, _, _, e⟩
  · left; rw [e]; split <;> rfl
  · exact .inr q
  · left; rw [e]; rfl
  · left; rw [e]; rfl
  · left; rw [e]; rfl
  · left
    rw [e]
    rcases acks_shape (c := c) (s := s) (by omega) with ⟨a1, ⟨k, _⟩ | ⟨_, _, e2⟩⟩ | ⟨k, _⟩ | ⟨_, _, _, e2⟩
    · omega
    · rw [if_pos a1, e2]; rfl
    · omega
    · have e3 : ackF3 c (ackV2 c s (ackV1 c s (v0 c))) = (0, ackV2 c s (ackV1 c s (v0 c))) := by unfold ackF3; simp [hf]
      rw [e2, e3, if_neg (by simp)]
      obtain ⟨_, _, _, t4, _⟩ := takes_shape (c := c) (s := s) (v := ackV2 c s (ackV1 c s (v0 c)))
      rw [t4, ackV2_una.2.2.2, ackV1_una.2.2]
end
end Go.Proofs.Ytpodmpidelifeaa
