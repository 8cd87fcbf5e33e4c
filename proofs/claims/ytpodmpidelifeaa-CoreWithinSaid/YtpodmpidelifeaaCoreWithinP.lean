/-
  CoreWithin's plain law: what Judge answers lies in the window, and so on.
-/
import Derived.Test.YtpodmpidelifeaaCoreWithinW
import Derived.Test.YtpodmpidelifeaaCoreLaw
namespace Go.Proofs.Ytpodmpidelifeaa
open Go.RowKit
section
variable {c : Ctl} {s : Seg} {v : Vd}
structure Good (c : Ctl) (s : Seg) (v : Vd) : Prop where
  rep : hb s.fl 4 = true → v.reply ≠ 2
  nxt : v.next.nxt = c.nxt
  rcv : v.next.rcv = c.rcv
  adv : v.next.adv = c.adv
  iss : v.next.iss = c.iss
  irs : v.next.irs = c.irs
  una : 0 ≤ df v.next.una c.una ∧ df v.next.una c.una ≤ df c.nxt c.una
  ack : v.acked = true → df v.next.una c.una = 0 → c.st = 2
  skip : 0 ≤ v.skip
  take : 0 ≤ v.take
  both : v.skip + v.take ≤ s.dn
  win : 0 < v.take → 0 ≤ df s.sq c.rcv + v.skip ∧ df s.sq c.rcv + v.skip + v.take ≤ df c.adv c.rcv
  rst : v.ended = 216 → hb s.fl 4 = true ∧ s.sq = c.rcv
  far : fitsB c s = false → v.next = c ∧ v.take = 0 ∧ v.fin = false ∧ v.ended = 0 ∧ v.acked = false ∧ (hb s.fl 4 = false ↔ v.reply = 1)

theorem df_self (a : Int) : df a a = 0 := by unfold df wrap64 wrap32; simp
theorem fits_far (hc : CtlOk c) (hs : SegOk s) (hw : 0 ≤ df c.adv c.rcv) (hd : s.dn ≤ 2000)
    (h : ((0 < sz s ∧ ¬ up s.sq c.rcv < df c.adv c.rcv) ∧ ¬ up ((((s.sq + ((sz s) % 4294967296)) % 4294967296) - 1) % 4294967296) c.rcv < df c.adv c.rcv) ∨ ((sz s = 0 ∧ 0 < df c.adv c.rcv) ∧ ¬ up s.sq c.rcv < df c.adv c.rcv) ∨ ((sz s = 0 ∧ df c.adv c.rcv = 0) ∧ s.sq ≠ c.rcv)) : fitsB c s = false := by
  have hwn : wn c = df c.adv c.rcv := by unfold wn; omega
  have hz := sz_bd s
  have e : ((((s.sq + ((sz s) % 4294967296)) % 4294967296) - 1) % 4294967296) = (s.sq + sz s - 1) % 4294967296 := by omega
  unfold fitsB inB
  rw [hwn]
  rw [e] at h
  rcases h with ⟨⟨a, b⟩, d⟩ | ⟨⟨a, b⟩, d⟩ | ⟨⟨a, b⟩, d⟩
  · rw [if_neg (by omega)]; simp [b, d]
  · rw [if_pos a, if_neg (by omega)]; simp [d]
  · rw [if_pos a, if_pos b]; simp [d]

theorem within_of_good (hc : CtlOk c) (hs : SegOk s) (h1 : ¬ c.st = 1) (g : 0 ≤ df c.nxt c.una → 0 ≤ df c.adv c.rcv → s.dn ≤ 2000 → Good c s v) : withinF c s v = true := by
  unfold withinF
  simp only [Bool.cond_eq_ite]
  split
  · rfl
  rename_i hA
  simp only [Bool.or_eq_true, decide_eq_true_eq, not_or, Int.not_lt] at hA
  obtain ⟨⟨⟨⟨a1, a2⟩, a3⟩, a4⟩, a5⟩ := hA
  have G := g a1 a2 (by omega)
  have hsz := sz_bd s
  have d1 := df_bd s.sq c.rcv
  have d2 := df_bd c.adv c.rcv
  have w1 : IntKind.i64.wrap (df s.sq c.rcv + v.skip) = df s.sq c.rcv + v.skip := by apply i64w; have := G.skip; have := G.take; have := G.both; omega
  have w2 : IntKind.i64.wrap (df s.sq c.rcv + v.skip + v.take) = df s.sq c.rcv + v.skip + v.take := by apply i64w; have := G.skip; have := G.take; have := G.both; omega
  have w3 : IntKind.i64.wrap (v.skip + v.take) = v.skip + v.take := by apply i64w; have := G.skip; have := G.take; have := G.both; omega
  simp only [rst_is s.fl ⟨a3, a4⟩, w1, w2, w3]
  rw [if_neg, if_neg, if_neg, if_neg, if_neg]
  · split
    · rename_i hH
      simp only [Bool.or_eq_true, Bool.and_eq_true, decide_eq_true_eq, Bool.not_eq_true', decide_eq_false_iff_not, beq_iff_eq, bne_iff_ne, ne_eq, or_assoc] at hH
      have hf := fits_far hc hs a2 (by omega) (by omega)
      obtain ⟨f1, f2, f3, f4, f5, f6⟩ := G.far hf
      rw [f1, f2, f3, f4, f5]
      have : ctlEq c c = true := by simp [ctlEq]
      rw [this]
      cases hb4 : hb s.fl 4
      · rw [f6.1 hb4]; rfl
      · have : ¬ v.reply = 1 := fun e => by have := f6.2 e; rw [hb4] at this; cases this
        simp [this]
    · rfl
  · intro h
    simp only [Bool.or_eq_true, Bool.and_eq_true, Bool.not_eq_true', beq_iff_eq, bne_iff_ne, ne_eq] at h
    obtain ⟨h2, h3⟩ := h
    obtain ⟨h4, h5⟩ := G.rst h2
    rcases h3 with h3 | h3
    · rw [h4] at h3; cases h3
    · exact h3 h5
  · intro h
    simp only [Bool.or_eq_true, Bool.and_eq_true, decide_eq_true_eq] at h
    have := G.skip; have := G.take; have := G.both; have := G.win
    omega
  · intro h
    simp only [Bool.or_eq_true, Bool.and_eq_true, decide_eq_true_eq, bne_iff_ne, ne_eq, beq_iff_eq] at h
    have u1 := G.una
    rcases h with ((((((((h | h) | h) | h) | h) | h) | h)) | h)
    · exact h G.nxt
    · exact h G.rcv
    · exact h G.adv
    · exact h G.iss
    · exact h G.irs
    · omega
    · omega
    · exact h.2 (G.ack h.1.1 h.1.2)
  · simp [h1]
  · intro h
    simp only [Bool.or_eq_true, Bool.and_eq_true, beq_iff_eq, bne_iff_ne, ne_eq] at h
    rcases h with h | h
    · exact G.rep h.1 h.2
    · exact h1 h.1.2

theorem good_next (hw : 0 ≤ df c.nxt c.una) (hf : fitsB c s = true) (h1 : v.next = c) (h2 : v.take = 0) (h3 : v.skip = 0) (h4 : v.acked = false) (h5 : v.ended = 216 → hb s.fl 4 = true ∧ s.sq = c.rcv) (h6 : hb s.fl 4 = true → v.reply ≠ 2) : Good c s v := by
  refine ⟨h6, by rw [h1], by rw [h1], by rw [h1], by rw [h1], by rw [h1], ?_, ?_, by omega, by omega, ?_, by omega, h5, ?_⟩
  · rw [h1, df_self]; omega
  · rw [h4]; intro h; cases h
  · have : (0 : Int) ≤ s.dn := by omega
    omega
  · rw [hf]; intro h; cases h
theorem win_ok (hc : CtlOk c) (hs : SegOk s) (hw : 0 ≤ df c.adv c.rcv) (hd : s.dn ≤ 2000) : 0 ≤ skipF c s ∧ 0 ≤ takeF c s ∧ skipF c s + takeF c s ≤ s.dn ∧ (0 < takeF c s → 0 ≤ df s.sq c.rcv + skipF c s ∧ df s.sq c.rcv + skipF c s + takeF c s ≤ df c.adv c.rcv) := by
  obtain ⟨q1, q2⟩ := hs.sq
  obtain ⟨r1, r2⟩ := hc.rcv
  have hwn : wn c = df c.adv c.rcv := by unfold wn; omega
  have hwb := wn_bd c
  rw [hwn] at hwb
  have hsk : 0 ≤ skipF c s ∧ skipF c s ≤ s.dn := by unfold skipF; omega
  refine ⟨hsk.1, ?_, ?_, ?_⟩
  · unfold takeF; split <;> omega
  · unfold takeF; split <;> omega
  · intro ht
    have hr : 0 < roomF c s ∧ takeF c s ≤ roomF c s := by
      unfold takeF at ht ⊢
      split at ht
      · rename_i h; rw [if_pos h]; omega
      · omega
    unfold roomF at hr
    rw [hwn] at hr
    generalize hD : df c.adv c.rcv = D at *
    generalize takeF c s = T at *
    have hs2 : skipF c s = min (max 0 (df c.rcv s.sq)) s.dn := rfl
    generalize skipF c s = K at *
    unfold df wrap64 wrap32 at hs2 ⊢
    omega
theorem una_ok (ha : U32 s.ak) (hu : U32 c.una) (hn : U32 c.nxt) (hw : 0 ≤ df c.nxt c.una) (h1 : df s.ak c.nxt ≤ 0) (h2 : 0 < df s.ak c.una) : df s.ak c.una ≤ df c.nxt c.una := by
  unfold U32 at ha hu hn
  unfold df wrap64 wrap32 at *
  omega

theorem judge_good (hc : CtlOk c) (hs : SegOk s) (h1 : ¬ c.st = 1) (hw : 0 ≤ df c.nxt c.una) (hv : 0 ≤ df c.adv c.rcv) (hd : s.dn ≤ 2000) : Good c s (judgeF c s) := by
  rcases judge_shape (c := c) (s := s) h1 with ⟨hf, e⟩ | ⟨hf, hr, h⟩ | ⟨hf, hr, h⟩ | ⟨hf, hr, hy, ha, e⟩
  · rw [e]
    cases hr : hb s.fl 4
    · refine ⟨(by rw [hr]; intro h; cases h), rfl, rfl, rfl, rfl, rfl, ?_, (by intro h; cases h), (by simp [v0]), (by simp [v0]), ?_, (by intro h; cases h), (by intro h; cases h), ?_⟩
      · show 0 ≤ df c.una c.una ∧ df c.una c.una ≤ _; rw [df_self]; omega
      · show (0 : Int) + 0 ≤ s.dn; omega
      · intro _; exact ⟨rfl, rfl, rfl, rfl, rfl, by rw [hr]; simp⟩
    · refine ⟨(by intro _ h; cases h), rfl, rfl, rfl, rfl, rfl, ?_, (by intro h; cases h), (by simp [v0]), (by simp [v0]), ?_, (by intro h; cases h), (by intro h; cases h), ?_⟩
      · show 0 ≤ df c.una c.una ∧ df c.una c.una ≤ _; rw [df_self]; omega
      · show (0 : Int) + 0 ≤ s.dn; omega
      · intro _; exact ⟨rfl, rfl, rfl, rfl, rfl, by rw [hr]; simp [v0]⟩
  · rcases h with ⟨hq, e⟩ | ⟨hq, e⟩
    · rw [e]; exact good_next hw hf rfl rfl rfl rfl (fun _ => ⟨hr, hq⟩) (by intro _ h; cases h)
    · rw [e]; exact good_next hw hf rfl rfl rfl rfl (by intro h; cases h) (by intro _ h; cases h)
  · rcases h with ⟨hy, e⟩ | ⟨hy, ha, e⟩
    · rw [e]; exact good_next hw hf rfl rfl rfl rfl (by intro h; cases h) (by intro _ h; cases h)
    · rw [e]; exact good_next hw hf rfl rfl rfl rfl (by intro h; cases h) (by intro _ h; cases h)
  · rw [e]
    rcases acks_shape (c := c) (s := s) h1 with ⟨a1, h⟩ | ⟨h2, ha, e2⟩ | ⟨h2, h3, h4, e2⟩
    · rw [if_pos a1]
      rcases h with ⟨_, _, e2⟩ | ⟨_, _, e2⟩
      · rw [e2]; exact good_next hw hf rfl rfl rfl rfl (by intro h; cases h) (by rw [hr]; intro h; cases h)
      · rw [e2]; exact good_next hw hf rfl rfl rfl rfl (by intro h; cases h) (by rw [hr]; intro h; cases h)
    · rw [e2, if_neg (by simp)]
      obtain ⟨t1, t2, t3, t4, t5⟩ := takes_shape (c := c) (s := s) (v := accV c s)
      obtain ⟨k1, k2, k3, k4⟩ := win_ok hc hs hv hd
      refine ⟨(by rw [hr]; intro h; cases h), by rw [t1]; rfl, by rw [t1]; rfl, by rw [t1]; rfl, by rw [t1]; rfl, by rw [t1]; rfl, ?_, fun _ _ => h2, ?_, ?_, ?_, ?_, ?_, (by rw [hf]; intro h; cases h)⟩
      · rw [t1]; show 0 ≤ df s.ak c.una ∧ df s.ak c.una ≤ _; rw [ha]; omega
      · rcases t5 with ⟨q1, q2, _⟩ | ⟨q1, q2⟩ <;> rw [q2] <;> first | exact k1 | exact Int.le_refl _
      · rcases t5 with ⟨q1, q2, _⟩ | ⟨q1, q2⟩ <;> rw [q1] <;> first | exact k2 | exact Int.le_refl _
      · rcases t5 with ⟨q1, q2, _⟩ | ⟨q1, q2⟩ <;> rw [q1, q2]
        · show (0 : Int) + 0 ≤ s.dn; omega
        · exact k3
      · rcases t5 with ⟨q1, q2, _⟩ | ⟨q1, q2⟩ <;> rw [q1, q2]
        · intro h; cases h
        · exact k4
      · rw [t4]; intro h; cases h
    · rw [e2]
      have K : Kept c (ackF3 c (ackV2 c s (ackV1 c s (v0 c)))).2 := ackF3_kept (ackV2_kept ackV1_kept)
      obtain ⟨f1, f2, f3, f4⟩ := ackF3_una (c := c) (v := ackV2 c s (ackV1 c s (v0 c)))
      obtain ⟨g1, g2, g3, g4⟩ := ackV2_una (c := c) (s := s) (v := ackV1 c s (v0 c))
      obtain ⟨i1, i2, i3⟩ := ackV1_una (c := c) (s := s)
      generalize hV : (ackF3 c (ackV2 c s (ackV1 c s (v0 c)))) = r at *
      have u1 : 0 ≤ df r.2.next.una c.una ∧ df r.2.next.una c.una ≤ df c.nxt c.una := by
        rw [f1, g1]
        rcases i1 with ⟨j1, j2, _⟩ | ⟨j1, j2, _⟩
        · rw [j2]; exact ⟨by omega, una_ok hs.ak hc.una hc.nxt hw h3 j1⟩
        · rw [j2, df_self]; omega
      have u2 : r.2.acked = true → df r.2.next.una c.una = 0 → c.st = 2 := by
        rw [f1, g1, f2, g2]
        rcases i1 with ⟨j1, j2, j3⟩ | ⟨j1, j2, j3⟩
        · rw [j2]; intro _ h; omega
        · rw [j3]; intro h; cases h
      have u3 : r.2.ended = 216 → False := by
        intro h
        rcases f4 with f4 | f4
        · rw [f4, g4, i3] at h; cases h
        · rw [f4] at h; cases h
      split
      · refine ⟨(by rw [hr]; intro h; cases h), K.nxt, K.rcv, K.adv, K.iss, K.irs, u1, u2, ?_, ?_, ?_, ?_, fun h => (u3 h).elim, (by rw [hf]; intro h; cases h)⟩
        · rw [K.skip]; exact Int.le_refl _
        · rw [K.take]; exact Int.le_refl _
        · rw [K.skip, K.take]; show (0 : Int) + 0 ≤ s.dn; omega
        · rw [K.take]; intro h; cases h
      · obtain ⟨t1, t2, t3, t4, t5⟩ := takes_shape (c := c) (s := s) (v := r.2)
        obtain ⟨k1, k2, k3, k4⟩ := win_ok hc hs hv hd
        refine ⟨(by rw [hr]; intro h; cases h), by rw [t1]; exact K.nxt, by rw [t1]; exact K.rcv, by rw [t1]; exact K.adv, by rw [t1]; exact K.iss, by rw [t1]; exact K.irs, by rw [t1]; exact u1, by rw [t1, t2]; exact u2, ?_, ?_, ?_, ?_, by rw [t4]; exact fun h => (u3 h).elim, (by rw [hf]; intro h; cases h)⟩
        · rcases t5 with ⟨q1, q2, _⟩ | ⟨q1, q2⟩ <;> rw [q2] <;> first | exact k1 | (rw [K.skip]; exact Int.le_refl _)
        · rcases t5 with ⟨q1, q2, _⟩ | ⟨q1, q2⟩ <;> rw [q1] <;> first | exact k2 | (rw [K.take]; exact Int.le_refl _)
        · rcases t5 with ⟨q1, q2, _⟩ | ⟨q1, q2⟩ <;> rw [q1, q2]
          · rw [K.skip, K.take]; show (0 : Int) + 0 ≤ s.dn; omega
          · exact k3
        · rcases t5 with ⟨q1, q2, _⟩ | ⟨q1, q2⟩ <;> rw [q1, q2]
          · rw [K.take]; intro h; cases h
          · exact k4

theorem first_true (h1 : c.st = 1) : withinF c s (judgeF c s) = true := by
  have e : judgeF c s = (firstF c s (v0 c)).2 := by unfold judgeF; rw [if_pos h1]
  unfold withinF
  simp only [Bool.cond_eq_ite]
  split
  · rfl
  rename_i hA
  simp only [Bool.or_eq_true, decide_eq_true_eq, not_or, Int.not_lt] at hA
  obtain ⟨⟨⟨⟨a1, a2⟩, a3⟩, a4⟩, a5⟩ := hA
  simp only [rst_is s.fl ⟨a3, a4⟩]
  have hc1 : ((c.st : Int) == 1) = true := by simp [h1]
  rw [hc1]
  simp only [if_true, Bool.and_true]
  rw [e]
  unfold firstF
  cases h4 : hb s.fl 4 <;> cases h16 : hb s.fl 16 <;> cases h2 : hb s.fl 2 <;> by_cases hn : s.ak = c.nxt <;> simp [hn, v0]
theorem within_true (hc : CtlOk c) (hs : SegOk s) : withinF c s (judgeF c s) = true := by
  by_cases h1 : c.st = 1
  · exact first_true h1
  · exact within_of_good hc hs h1 (fun a b d => judge_good hc hs h1 a b d)
end
theorem CoreWithin_walk (w : World) {v0 v1 : Value} {c : Ctl} (hc : v0 = .agg c.cs.toArray ∧ CtlOk c) {s : Seg} (hs : v1 = .agg s.cs.toArray ∧ SegOk s) :
    Calls Try.prog 3 #[v0, v1] w fun e w' => e = .returned (.bool true) ∧ Only (fun _ => False) w w' := by
  obtain ⟨rfl, hc⟩ := hc
  obtain ⟨rfl, hs⟩ := hs
  have := lawWithin_any w c s hc hs
  rw [within_true hc hs] at this
  exact this
end Go.Proofs.Ytpodmpidelifeaa
