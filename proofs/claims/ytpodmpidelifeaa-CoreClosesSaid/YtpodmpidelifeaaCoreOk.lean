/-
  Numbers stay numbers of their kind: what Judge and its kin hand on.
-/
import Derived.Test.YtpodmpidelifeaaCoreAwake
namespace Go.Proofs.Ytpodmpidelifeaa
def U32 (x : Int) : Prop := 0 ≤ x ∧ x < 4294967296
structure CtlOk (c : Ctl) : Prop where
  iss : U32 c.iss
  una : U32 c.una
  nxt : U32 c.nxt
  wl1 : U32 c.wl1
  wl2 : U32 c.wl2
  irs : U32 c.irs
  rcv : U32 c.rcv
  adv : U32 c.adv
structure SegOk (s : Seg) : Prop where
  sq : U32 s.sq
  ak : U32 s.ak
  dn : s.dn ≤ 140737488351232
theorem u32m (x : Int) : U32 (x % 4294967296) := by unfold U32; omega
theorem ft_ok (a : Int) : U32 (ft a) := by unfold ft U32; omega
section
variable {c : Ctl} {s : Seg} {v : Vd}
theorem first_ok (hc : CtlOk c) (hs : SegOk s) (hv : CtlOk v.next) : CtlOk (firstF c s v).2.next := by
  obtain ⟨h1, h2, h3, h4, h5, h6, h7, h8⟩ := hv
  unfold firstF
  split
  · split <;> exact ⟨h1, h2, h3, h4, h5, h6, h7, h8⟩
  · split
    · exact ⟨h1, h2, h3, h4, h5, h6, h7, h8⟩
    · split
      · exact ⟨h1, h2, h3, h4, h5, h6, h7, h8⟩
      · split
        · exact ⟨h1, hs.ak, h3, hs.sq, hs.ak, hs.sq, u32m _, u32m _⟩
        · exact ⟨h1, h2, h3, hs.sq, hc.iss, hs.sq, u32m _, u32m _⟩
theorem fits_ok (hv : CtlOk v.next) : CtlOk (fitsF c s v).2.next := by unfold fitsF; split <;> (try split) <;> exact hv
theorem resets_ok (hv : CtlOk v.next) : CtlOk (resetsF c s v).2.next := by unfold resetsF; split <;> (try split) <;> (try split) <;> exact hv
theorem begins_ok (hv : CtlOk v.next) : CtlOk (beginsF s v).2.next := by unfold beginsF; split <;> (try split) <;> exact hv
theorem takes_ok (hv : CtlOk v.next) : CtlOk (takesF c s v).2.next := by unfold takesF; split <;> exact hv
theorem ackV1_ok (hs : SegOk s) (hv : CtlOk v.next) : CtlOk (ackV1 c s v).next := by
  obtain ⟨h1, h2, h3, h4, h5, h6, h7, h8⟩ := hv
  unfold ackV1; split
  · exact ⟨h1, hs.ak, h3, h4, h5, h6, h7, h8⟩
  · split <;> exact ⟨h1, h2, h3, h4, h5, h6, h7, h8⟩
theorem ackV2_ok (hs : SegOk s) (hv : CtlOk v.next) : CtlOk (ackV2 c s v).next := by
  obtain ⟨h1, h2, h3, h4, h5, h6, h7, h8⟩ := hv
  unfold ackV2; split
  · exact ⟨h1, h2, h3, hs.sq, hs.ak, h6, h7, h8⟩
  · exact ⟨h1, h2, h3, h4, h5, h6, h7, h8⟩
theorem ackF3_ok (hv : CtlOk v.next) : CtlOk (ackF3 c v).2.next := by
  obtain ⟨h1, h2, h3, h4, h5, h6, h7, h8⟩ := hv
  unfold ackF3; split <;> (try split) <;> (try split) <;> (try split) <;> exact ⟨h1, h2, h3, h4, h5, h6, h7, h8⟩
theorem acks_ok (hs : SegOk s) (hv : CtlOk v.next) : CtlOk (acksF c s v).2.next := by
  unfold acksF; split
  · split
    · exact hv
    · obtain ⟨h1, h2, h3, h4, h5, h6, h7, h8⟩ := hv
      exact ⟨h1, hs.ak, h3, hs.sq, hs.ak, h6, h7, h8⟩
  · split
    · exact hv
    · exact ackF3_ok (ackV2_ok hs (ackV1_ok hs hv))
theorem judge_ok (hc : CtlOk c) (hs : SegOk s) : CtlOk (judgeF c s).next := by
  unfold judgeF; split
  · exact first_ok hc hs hc
  · have h0 : CtlOk (v0 c).next := hc
    unfold stepsF
    simp only [runF]
    split
    · exact fits_ok h0
    · split
      · exact resets_ok (fits_ok h0)
      · split
        · exact begins_ok (resets_ok (fits_ok h0))
        · split
          · exact acks_ok hs (begins_ok (resets_ok (fits_ok h0)))
          · split <;> exact takes_ok (acks_ok hs (begins_ok (resets_ok (fits_ok h0))))
end
end Go.Proofs.Ytpodmpidelifeaa
