/-
  What each step of a judgement does, for every input.
-/
import Derived.Test.YtpodmpidelifeaaCoreRep
import Derived.Deep.RegionHeld3
namespace Go.Proofs.Ytpodmpidelifeaa
open Go.RowKit
set_option maxRecDepth 100000
set_option maxHeartbeats 1000000

/-- May the segment be, by its numbers? -/
def fitsB (c : Ctl) (s : Seg) : Bool :=
  if sz s = 0 then if wn c = 0 then s.sq == c.rcv else inB c s.sq
  else inB c s.sq || inB c ((s.sq + sz s - 1) % 4294967296)
def fitsF (c : Ctl) (s : Seg) (v : Vd) : Int × Vd := if fitsB c s then (0, v) else if hb s.fl 4 then (1, v) else (1, { v with reply := 1 })

/-- A step's end. -/
def Step (b : Nat) (c : Ctl) (s : Seg) (r : Int × Vd) (w : World) (e : Ending) (w' : World) : Prop := e = .returned (.int .i64 r.1) ∧ JAt w' b c s r.2 ∧ Only (fun k => k = b) w w'
theorem Step.of {b : Nat} {c : Ctl} {s : Seg} {r : Int × Vd} {n : Int} {v : Vd} {w w' : World} (hr : r = (n, v)) (h : JAt w' b c s v) (hO : Only (fun k => k = b) w w') : Step b c s r w (.returned (.int .i64 n)) w' := by
  subst hr; exact ⟨rfl, h, hO⟩

section
variable {w : World} {b : Nat} {c : Ctl} {s : Seg} {v : Vd}
theorem JAt.only {S : Nat → Prop} {w' : World} (h : JAt w b c s v) (hO : Only S w w') (hb : ¬ S b) : JAt w' b c s v := hO.blk h hb
theorem only_to {w' : World} (hO : Only (fun _ => False) w w') : Only (fun k => k = b) w w' := hO.mono (fun _ h => h.elim)

theorem fits_any (h : JAt w b c s v) (hs : s.dn ≤ 140737488351232) : Calls Try.prog 22 #[.pointer (some ⟨b, 0, none⟩)] w (Step b c s (fitsF c s v) w) := by
  have H := Lib.hid h
  have h11 := h.c11
  have h12 := h.c12
  have h13 := h.c13
  have h14 := h.c14
  have h15 := h.c15
  have h16 := h.c16
  have h17 := h.c17
  have h18 := h.c18
  have h19 := h.c19
  have h20 := h.c20
  clear h
  by_cases c0 : sz s = 0
  · by_cases c1 : wn c = 0
    · cases d2 : (s.sq == c.rcv)
      ·
        cases d3 : hb s.fl 4
        · have HF := Lib.hid (show fitsF c s v = (1, { v with reply := 1 }) by simp [fitsF, fitsB, c0, c1, d2, d3])
          have d0 : (sz s == 0) = true := by simp [c0]
          have d1 : (wn c == 0) = true := by simp [c1]
          clear c0 c1
          go_enter Try.func22, Try.ntmps22
          go_wp2_with fail
          refine (size_any _ s hs).mono ?_
          rintro e w1 ⟨rfl, hO⟩
          have H1 := Lib.hid (And.intro (H.out.only hO id) (only_to (b := b) hO))
          clear h11 h12 h13 h14 h15 h16 h17 h18 h19 h20 hO
          go_wp2_with fail
          refine (window_any H1.out.1).mono ?_
          rintro e w2 ⟨rfl, n, rfl⟩
          have k9 := H1.out.1.c9
          have k13 := H1.out.1.c13
          go_wp2
          go_quiet (fail)
          go_wp2_with fail
          refine (has_any (Blk.drewN H1.out.1 _) _).mono ?_
          rintro e w2 ⟨rfl, rfl⟩
          go_wp2_with fail
          refine (says_any (Blk.drewN H1.out.1 _) _).mono ?_
          rintro e w3 ⟨rfl, hJ, hO3⟩
          have H3 := Lib.hid (And.intro hJ ((Only.drewN H1.out.2 _).trans hO3))
          clear hJ hO3
          go_wp2
          go_ret
          exact Step.of HF.out H3.out.1 H3.out.2
        · have HF := Lib.hid (show fitsF c s v = (1, v) by simp [fitsF, fitsB, c0, c1, d2, d3])
          have d0 : (sz s == 0) = true := by simp [c0]
          have d1 : (wn c == 0) = true := by simp [c1]
          clear c0 c1
          go_enter Try.func22, Try.ntmps22
          go_wp2_with fail
          refine (size_any _ s hs).mono ?_
          rintro e w1 ⟨rfl, hO⟩
          have H1 := Lib.hid (And.intro (H.out.only hO id) (only_to (b := b) hO))
          clear h11 h12 h13 h14 h15 h16 h17 h18 h19 h20 hO
          go_wp2_with fail
          refine (window_any H1.out.1).mono ?_
          rintro e w2 ⟨rfl, n, rfl⟩
          have k9 := H1.out.1.c9
          have k13 := H1.out.1.c13
          go_wp2
          go_quiet (fail)
          go_wp2_with fail
          refine (has_any (Blk.drewN H1.out.1 _) _).mono ?_
          rintro e w2 ⟨rfl, rfl⟩
          go_wp2
          go_ret
          first | exact Step.of HF.out (Blk.drewN H1.out.1 _) (Only.drewN H1.out.2 _) | exact Step.of HF.out (Blk.drewN (Blk.drewN H1.out.1 _) _) ((Only.drewN H1.out.2 _).drewN _)
      ·
        have HF := Lib.hid (show fitsF c s v = (0, v) by simp [fitsF, fitsB, c0, c1, d2])
        have d0 : (sz s == 0) = true := by simp [c0]
        have d1 : (wn c == 0) = true := by simp [c1]
        clear c0 c1
        go_enter Try.func22, Try.ntmps22
        go_wp2_with fail
        refine (size_any _ s hs).mono ?_
        rintro e w1 ⟨rfl, hO⟩
        have H1 := Lib.hid (And.intro (H.out.only hO id) (only_to (b := b) hO))
        clear h11 h12 h13 h14 h15 h16 h17 h18 h19 h20 hO
        go_wp2_with fail
        refine (window_any H1.out.1).mono ?_
        rintro e w2 ⟨rfl, n, rfl⟩
        have k9 := H1.out.1.c9
        have k13 := H1.out.1.c13
        go_wp2
        go_quiet (fail)
        go_wp2
        go_ret
        first | exact Step.of HF.out (Blk.drewN H1.out.1 _) (Only.drewN H1.out.2 _) | exact Step.of HF.out (Blk.drewN (Blk.drewN H1.out.1 _) _) ((Only.drewN H1.out.2 _).drewN _)
    · cases d2 : inB c s.sq
      ·
        cases d3 : hb s.fl 4
        · have HF := Lib.hid (show fitsF c s v = (1, { v with reply := 1 }) by simp [fitsF, fitsB, c0, c1, d2, d3])
          have d0 : (sz s == 0) = true := by simp [c0]
          have d1 : (wn c == 0) = false := by simp [c1]
          clear c0 c1
          go_enter Try.func22, Try.ntmps22
          go_wp2_with fail
          refine (size_any _ s hs).mono ?_
          rintro e w1 ⟨rfl, hO⟩
          have H1 := Lib.hid (And.intro (H.out.only hO id) (only_to (b := b) hO))
          clear h11 h12 h13 h14 h15 h16 h17 h18 h19 h20 hO
          go_wp2_with fail
          refine (window_any H1.out.1).mono ?_
          rintro e w2 ⟨rfl, n, rfl⟩
          have k13 := H1.out.1.c13
          go_wp2_with fail
          refine (in_any (Blk.drewN H1.out.1 _) _).mono ?_
          rintro e w2 ⟨rfl, n2, rfl⟩
          go_wp2_with fail
          refine (has_any (Blk.drewN H1.out.1 _) _).mono ?_
          rintro e w2 ⟨rfl, rfl⟩
          go_wp2_with fail
          refine (says_any (Blk.drewN H1.out.1 _) _).mono ?_
          rintro e w3 ⟨rfl, hJ, hO3⟩
          have H3 := Lib.hid (And.intro hJ ((Only.drewN H1.out.2 _).trans hO3))
          clear hJ hO3
          go_wp2
          go_ret
          exact Step.of HF.out H3.out.1 H3.out.2
        · have HF := Lib.hid (show fitsF c s v = (1, v) by simp [fitsF, fitsB, c0, c1, d2, d3])
          have d0 : (sz s == 0) = true := by simp [c0]
          have d1 : (wn c == 0) = false := by simp [c1]
          clear c0 c1
          go_enter Try.func22, Try.ntmps22
          go_wp2_with fail
          refine (size_any _ s hs).mono ?_
          rintro e w1 ⟨rfl, hO⟩
          have H1 := Lib.hid (And.intro (H.out.only hO id) (only_to (b := b) hO))
          clear h11 h12 h13 h14 h15 h16 h17 h18 h19 h20 hO
          go_wp2_with fail
          refine (window_any H1.out.1).mono ?_
          rintro e w2 ⟨rfl, n, rfl⟩
          have k13 := H1.out.1.c13
          go_wp2_with fail
          refine (in_any (Blk.drewN H1.out.1 _) _).mono ?_
          rintro e w2 ⟨rfl, n2, rfl⟩
          go_wp2_with fail
          refine (has_any (Blk.drewN H1.out.1 _) _).mono ?_
          rintro e w2 ⟨rfl, rfl⟩
          go_wp2
          go_ret
          first | exact Step.of HF.out (Blk.drewN H1.out.1 _) (Only.drewN H1.out.2 _) | exact Step.of HF.out (Blk.drewN (Blk.drewN H1.out.1 _) _) ((Only.drewN H1.out.2 _).drewN _)
      ·
        have HF := Lib.hid (show fitsF c s v = (0, v) by simp [fitsF, fitsB, c0, c1, d2])
        have d0 : (sz s == 0) = true := by simp [c0]
        have d1 : (wn c == 0) = false := by simp [c1]
        clear c0 c1
        go_enter Try.func22, Try.ntmps22
        go_wp2_with fail
        refine (size_any _ s hs).mono ?_
        rintro e w1 ⟨rfl, hO⟩
        have H1 := Lib.hid (And.intro (H.out.only hO id) (only_to (b := b) hO))
        clear h11 h12 h13 h14 h15 h16 h17 h18 h19 h20 hO
        go_wp2_with fail
        refine (window_any H1.out.1).mono ?_
        rintro e w2 ⟨rfl, n, rfl⟩
        have k13 := H1.out.1.c13
        go_wp2_with fail
        refine (in_any (Blk.drewN H1.out.1 _) _).mono ?_
        rintro e w2 ⟨rfl, n2, rfl⟩
        go_wp2
        go_ret
        first | exact Step.of HF.out (Blk.drewN H1.out.1 _) (Only.drewN H1.out.2 _) | exact Step.of HF.out (Blk.drewN (Blk.drewN H1.out.1 _) _) ((Only.drewN H1.out.2 _).drewN _)
  · cases d2 : inB c s.sq
    · cases d4 : inB c ((s.sq + sz s - 1) % 4294967296)
      ·
        cases d3 : hb s.fl 4
        · have HF := Lib.hid (show fitsF c s v = (1, { v with reply := 1 }) by simp [fitsF, fitsB, c0, d2, d4, d3])
          have d0 : (sz s == 0) = false := by simp [c0]
          clear c0
          go_enter Try.func22, Try.ntmps22
          go_wp2_with fail
          refine (size_any _ s hs).mono ?_
          rintro e w1 ⟨rfl, hO⟩
          have H1 := Lib.hid (And.intro (H.out.only hO id) (only_to (b := b) hO))
          clear h11 h12 h13 h14 h15 h16 h17 h18 h19 h20 hO
          have k13 := H1.out.1.c13
          go_wp2_with fail
          refine (in_any H1.out.1 _).mono ?_
          rintro e w2 ⟨rfl, n, rfl⟩
          go_wp2_with fail
          refine (in_any (Blk.drewN H1.out.1 _) _).mono ?_
          rintro e w2 ⟨rfl, n2, rfl⟩
          go_wp2_with fail
          refine (has_any (Blk.drewN H1.out.1 _) _).mono ?_
          rintro e w2 ⟨rfl, rfl⟩
          go_wp2_with fail
          refine (says_any (Blk.drewN H1.out.1 _) _).mono ?_
          rintro e w3 ⟨rfl, hJ, hO3⟩
          have H3 := Lib.hid (And.intro hJ ((Only.drewN H1.out.2 _).trans hO3))
          clear hJ hO3
          go_wp2
          go_ret
          exact Step.of HF.out H3.out.1 H3.out.2
        · have HF := Lib.hid (show fitsF c s v = (1, v) by simp [fitsF, fitsB, c0, d2, d4, d3])
          have d0 : (sz s == 0) = false := by simp [c0]
          clear c0
          go_enter Try.func22, Try.ntmps22
          go_wp2_with fail
          refine (size_any _ s hs).mono ?_
          rintro e w1 ⟨rfl, hO⟩
          have H1 := Lib.hid (And.intro (H.out.only hO id) (only_to (b := b) hO))
          clear h11 h12 h13 h14 h15 h16 h17 h18 h19 h20 hO
          have k13 := H1.out.1.c13
          go_wp2_with fail
          refine (in_any H1.out.1 _).mono ?_
          rintro e w2 ⟨rfl, n, rfl⟩
          go_wp2_with fail
          refine (in_any (Blk.drewN H1.out.1 _) _).mono ?_
          rintro e w2 ⟨rfl, n2, rfl⟩
          go_wp2_with fail
          refine (has_any (Blk.drewN H1.out.1 _) _).mono ?_
          rintro e w2 ⟨rfl, rfl⟩
          go_wp2
          go_ret
          first | exact Step.of HF.out (Blk.drewN H1.out.1 _) (Only.drewN H1.out.2 _) | exact Step.of HF.out (Blk.drewN (Blk.drewN H1.out.1 _) _) ((Only.drewN H1.out.2 _).drewN _)
      ·
        have HF := Lib.hid (show fitsF c s v = (0, v) by simp [fitsF, fitsB, c0, d2, d4])
        have d0 : (sz s == 0) = false := by simp [c0]
        clear c0
        go_enter Try.func22, Try.ntmps22
        go_wp2_with fail
        refine (size_any _ s hs).mono ?_
        rintro e w1 ⟨rfl, hO⟩
        have H1 := Lib.hid (And.intro (H.out.only hO id) (only_to (b := b) hO))
        clear h11 h12 h13 h14 h15 h16 h17 h18 h19 h20 hO
        have k13 := H1.out.1.c13
        go_wp2_with fail
        refine (in_any H1.out.1 _).mono ?_
        rintro e w2 ⟨rfl, n, rfl⟩
        go_wp2_with fail
        refine (in_any (Blk.drewN H1.out.1 _) _).mono ?_
        rintro e w2 ⟨rfl, n2, rfl⟩
        go_wp2
        go_ret
        first | exact Step.of HF.out (Blk.drewN H1.out.1 _) (Only.drewN H1.out.2 _) | exact Step.of HF.out (Blk.drewN (Blk.drewN H1.out.1 _) _) ((Only.drewN H1.out.2 _).drewN _)
    ·
      have HF := Lib.hid (show fitsF c s v = (0, v) by simp [fitsF, fitsB, c0, d2])
      have d0 : (sz s == 0) = false := by simp [c0]
      clear c0
      go_enter Try.func22, Try.ntmps22
      go_wp2_with fail
      refine (size_any _ s hs).mono ?_
      rintro e w1 ⟨rfl, hO⟩
      have H1 := Lib.hid (And.intro (H.out.only hO id) (only_to (b := b) hO))
      clear h11 h12 h13 h14 h15 h16 h17 h18 h19 h20 hO
      have k13 := H1.out.1.c13
      go_wp2_with fail
      refine (in_any H1.out.1 _).mono ?_
      rintro e w2 ⟨rfl, n, rfl⟩
      go_wp2
      go_ret
      first | exact Step.of HF.out (Blk.drewN H1.out.1 _) (Only.drewN H1.out.2 _) | exact Step.of HF.out (Blk.drewN (Blk.drewN H1.out.1 _) _) ((Only.drewN H1.out.2 _).drewN _)

def resetsF (c : Ctl) (s : Seg) (v : Vd) : Int × Vd :=
  if hb s.fl 4 then if s.sq == c.rcv then if c.st == 2 then (1, { v with ended := 215 }) else (1, { v with ended := 216 }) else (1, { v with reply := 1 }) else (0, v)
theorem resets_any (h : JAt w b c s v) : Calls Try.prog 23 #[.pointer (some ⟨b, 0, none⟩)] w (Step b c s (resetsF c s v) w) := by
  have h0 := h.c0
  have h9 := h.c9
  have h13 := h.c13
  have hz := fun o => Blk.fz h o
  have h33 := h.c33
  have HH := Lib.hid h
  clear h
  cases d0 : hb s.fl 4
  · have HF := Lib.hid (show resetsF c s v = (0, v) by simp [resetsF, d0])
    go_enter Try.func23, Try.ntmps23
    go_wp2_with fail
    refine (has_any HH.out _).mono ?_
    rintro e w2 ⟨rfl, rfl⟩
    go_wp2
    go_ret
    exact Step.of HF.out HH.out (Only.refl _ _)
  · cases d1 : (s.sq == c.rcv)
    · have HF := Lib.hid (show resetsF c s v = (1, { v with reply := 1 }) by simp [resetsF, d0, d1])
      have d2 : (s.sq != c.rcv) = true := by simp at d1; simpa using d1
      go_enter Try.func23, Try.ntmps23
      go_wp2_with fail
      refine (has_any HH.out _).mono ?_
      rintro e w2 ⟨rfl, rfl⟩
      go_wp2
      go_quiet (fail)
      go_wp2_with fail
      refine (says_any (Blk.drewN HH.out _) _).mono ?_
      rintro e w3 ⟨rfl, hJ, hO3⟩
      have H3 := Lib.hid (And.intro hJ (((Only.refl (fun k => k = b) w).drewN _).trans hO3))
      clear hJ hO3
      go_wp2
      go_ret
      exact Step.of HF.out H3.out.1 H3.out.2
    · have d2 : (s.sq != c.rcv) = false := by simp at d1; simpa using d1
      cases d3 : (c.st == 2)
      · have HF := Lib.hid (show resetsF c s v = (1, { v with ended := 216 }) by simp [resetsF, d0, d1, d3])
        go_enter Try.func23, Try.ntmps23
        go_wp2_with fail
        refine (has_any HH.out _).mono ?_
        rintro e w2 ⟨rfl, rfl⟩
        go_wp2
        go_quiet (fail)
        go_wp2
        go_ret
        exact Step.of HF.out (Blk.set HH.out 33 (.int .i64 216)) ((Only.refl (fun k => k = b) w).st rfl _ _ |>.drewN _)
      · have HF := Lib.hid (show resetsF c s v = (1, { v with ended := 215 }) by simp [resetsF, d0, d1, d3])
        go_enter Try.func23, Try.ntmps23
        go_wp2_with fail
        refine (has_any HH.out _).mono ?_
        rintro e w2 ⟨rfl, rfl⟩
        go_wp2
        go_quiet (fail)
        go_wp2
        go_ret
        exact Step.of HF.out (Blk.set HH.out 33 (.int .i64 215)) ((Only.refl (fun k => k = b) w).st rfl _ _ |>.drewN _)

def beginsF (s : Seg) (v : Vd) : Int × Vd := if hb s.fl 2 then (1, { v with reply := 1 }) else if hb s.fl 16 then (0, v) else (1, v)
theorem begins_any (h : JAt w b c s v) : Calls Try.prog 24 #[.pointer (some ⟨b, 0, none⟩)] w (Step b c s (beginsF s v) w) := by
  have HH := Lib.hid h
  clear h
  cases d0 : hb s.fl 2
  · cases d1 : hb s.fl 16
    · have HF := Lib.hid (show beginsF s v = (1, v) by simp [beginsF, d0, d1])
      go_enter Try.func24, Try.ntmps24
      go_wp2_with fail
      refine (has_any HH.out _).mono ?_
      rintro e w2 ⟨rfl, rfl⟩
      go_wp2_with fail
      refine (has_any HH.out _).mono ?_
      rintro e w2 ⟨rfl, rfl⟩
      go_wp2
      go_ret
      exact Step.of HF.out HH.out (Only.refl _ _)
    · have HF := Lib.hid (show beginsF s v = (0, v) by simp [beginsF, d0, d1])
      go_enter Try.func24, Try.ntmps24
      go_wp2_with fail
      refine (has_any HH.out _).mono ?_
      rintro e w2 ⟨rfl, rfl⟩
      go_wp2_with fail
      refine (has_any HH.out _).mono ?_
      rintro e w2 ⟨rfl, rfl⟩
      go_wp2
      go_ret
      exact Step.of HF.out HH.out (Only.refl _ _)
  · have HF := Lib.hid (show beginsF s v = (1, { v with reply := 1 }) by simp [beginsF, d0])
    go_enter Try.func24, Try.ntmps24
    go_wp2_with fail
    refine (has_any HH.out _).mono ?_
    rintro e w2 ⟨rfl, rfl⟩
    go_wp2_with fail
    refine (says_any HH.out _).mono ?_
    rintro e w3 ⟨rfl, hJ, hO3⟩
    have H3 := Lib.hid (And.intro hJ hO3)
    clear hJ hO3
    go_wp2
    go_ret
    exact Step.of HF.out H3.out.1 H3.out.2
end
end Go.Proofs.Ytpodmpidelifeaa
