/-
  What the step that takes an acknowledgement does, for every input.
-/
import Derived.Test.YtpodmpidelifeaaCoreFirst
import Derived.Test.YtpodmpidelifeaaNear
import Derived.Deep.CutBlock
namespace Go.Proofs.Ytpodmpidelifeaa
open Go.RowKit
set_option maxRecDepth 100000
set_option maxHeartbeats 6000000

/-- The acknowledgement's own part. -/
def ackV1 (c : Ctl) (s : Seg) (v : Vd) : Vd :=
  if 0 < df s.ak c.una then { v with next := { v.next with una := s.ak }, acked := true }
  else if df s.ak c.una = 0 then { v with again := c.nxt != c.una && sz s == 0 && s.wnd == c.wnd } else v
def newer (c : Ctl) (s : Seg) (v : Vd) : Bool := decide (0 ≤ df s.ak v.next.una) && (decide (0 < df s.sq c.wl1) || (s.sq == c.wl1 && decide (0 ≤ df s.ak c.wl2)))
def ackV2 (c : Ctl) (s : Seg) (v : Vd) : Vd := if newer c s v then { v with next := { v.next with wnd := s.wnd, wl1 := s.sq, wl2 := s.ak } } else v
def ackF3 (c : Ctl) (v : Vd) : Int × Vd :=
  if !c.fs || v.next.una != c.nxt then (0, v)
  else if c.st = 4 then (0, { v with next := { v.next with st := 5 } })
  else if c.st = 7 then (0, { v with next := { v.next with st := 9 } })
  else if c.st = 8 then (1, { v with ended := 218 }) else (0, v)
def acksF (c : Ctl) (s : Seg) (v : Vd) : Int × Vd :=
  if c.st = 2 then
    if s.ak != c.nxt then (1, { v with reply := 2 })
    else (0, { v with next := { v.next with una := s.ak, st := 3, wnd := s.wnd, wl1 := s.sq, wl2 := s.ak }, acked := true })
  else if 0 < df s.ak c.nxt ∨ 65535 < df c.una s.ak then (1, { v with reply := 1 })
  else ackF3 c (ackV2 c s (ackV1 c s v))

theorem quiet_add {P : Program} {f : FuncId} {args : Array Value} {w : World} {a n : Nat} {v : Value}
    (h : Calls P f args (w.drewN (a + n)) fun e w' => e = .returned v ∧ ∃ m, w' = (w.drewN (a + n)).drewN m) :
    Calls P f args (w.drewN (a + n)) fun e w'' => e = .returned v ∧ ∃ m, w'' = w.drewN (a + m) :=
  h.mono fun _ _ ⟨he, m, hm⟩ => ⟨he, n + m, by rw [hm, World.drewN_drewN, Nat.add_assoc]⟩
theorem quiet_add_left {P : Program} {f : FuncId} {args : Array Value} {w : World} {a n : Nat} {v : Value}
    (h : Calls P f args (w.drewN (a + n)) fun e w' => e = .returned v ∧ w.drewN (a + n) = w') :
    Calls P f args (w.drewN (a + n)) fun e w'' => e = .returned v ∧ ∃ m, w'' = w.drewN (a + m) :=
  h.mono fun _ _ ⟨he, hm⟩ => ⟨he, n, hm.symm⟩
theorem quiet_left {P : Program} {f : FuncId} {args : Array Value} {w : World} {n : Nat} {v : Value}
    (h : Calls P f args (w.drewN n) fun e w' => e = .returned v ∧ w.drewN n = w') : Calls P f args (w.drewN n) fun e w'' => e = .returned v ∧ ∃ m, w'' = w.drewN m :=
  h.mono fun _ _ ⟨he, hm⟩ => ⟨he, n, hm.symm⟩

section
variable {w : World} {b : Nat} {c : Ctl} {s : Seg} {v : Vd}

/-- The head of 'acks': the segment is laid into a block of its own. -/
def AckAt (b : Nat) (c : Ctl) (s : Seg) (v : Vd) (w : World) (n sp : Value) (wx : World) : Prop :=
  ∃ sb, n = .pointer (some ⟨b, 21, none⟩) ∧ sp = .pointer (some ⟨sb, 0, none⟩) ∧ JAt wx b c s v ∧ Blk wx sb s.cs 28 ∧ ¬ b = sb ∧ ¬ sb = b ∧ Only (fun k => k = b) w wx

theorem sq_cell {sb : Nat} {T : TypeId} (h : Blk w sb s.cs T) : w.cell? ⟨sb, 2, none⟩ = some (.int .u32 s.sq) := by rw [Blk.cell h]; rfl
theorem ak_cell {sb : Nat} {T : TypeId} (h : Blk w sb s.cs T) : w.cell? ⟨sb, 3, none⟩ = some (.int .u32 s.ak) := by rw [Blk.cell h]; rfl
theorem wnd_cell {sb : Nat} {T : TypeId} (h : Blk w sb s.cs T) : w.cell? ⟨sb, 5, none⟩ = some (.int .i64 s.wnd) := by rw [Blk.cell h]; rfl
theorem AckAt.mk' (h : JAt w b c s v) : AckAt b c s v w (.pointer (some ⟨b, 21, none⟩)) (.pointer (some ⟨w.heap.size, 0, none⟩)) (w.alloc (.cells s.cs.toArray 28)).drew :=
  have := Blk.lt h
  ⟨w.heap.size, rfl, rfl, (Blk.alloc h _).drew, (Blk.new w s.cs 28).drew, by omega, by omega, ((Only.refl _ _).alloc _).drew⟩
theorem JAt.set_f (h : JAt w b c s v) (x y : Int) (z : Bool) : JAt (((w.setCell ⟨b, 23, none⟩ (.int .u32 x)).setCell ⟨b, 21, none⟩ (.int .i64 y)).setCell ⟨b, 34, none⟩ (.bool z)) b c s { v with next := { v.next with una := x, st := y }, acked := z } :=
  ((Blk.set h 23 (.int .u32 x)).set 21 (.int .i64 y)).set 34 (.bool z)

theorem acks_syn (h : JAt w b c s v) (hst : c.st = 2) : Calls Try.prog 25 #[.pointer (some ⟨b, 0, none⟩)] w (Step b c s (acksF c s v) w) := by
  have h11 := h.c11
  have h12 := h.c12
  have h13 := h.c13
  have h14 := h.c14
  have h15 := h.c15
  have h16 := h.c16
  have h17 := h.c17
  have h18 := h.c18
  have h19 := h.c19
  have h20 := h.c20
  have HH := Lib.hid h
  have hlt := Blk.lt h
  have d0 : (c.st == 2) = true := by simp [hst]
  have HS := Lib.hid hst
  clear h hst
  cases d1 : (s.ak != c.nxt)
  · have HF := Lib.hid (show acksF c s v = (0, { v with next := { v.next with una := s.ak, st := 3, wnd := s.wnd, wl1 := s.sq, wl2 := s.ak }, acked := true }) by simp [acksF, HS.out, d1])
    go_enter Try.func25, Try.ntmps25
    go_upto_region 1 with fail
    go_cut [3, 4] (AckAt b c s v w)
    case first =>
      go_region
      go_wp2
      go_meet
      exact AckAt.mk' HH.out
    case rest =>
      obtain ⟨sb, rfl, rfl, hJ, hS, hn1, hn2, hO⟩ := hcut
      clear h11 h12 h13 h14 h15 h16 h17 h18 h19 h20 hlt
      have H1 := Lib.hid (And.intro hJ (And.intro hS hO))
      have k0 := hJ.c0
      have k2 := hJ.c2
      have k3 := hJ.c3
      have s2 := sq_cell hS
      have s3 := ak_cell hS
      have s5 := wnd_cell hS
      have hz := fun o => Blk.fz hJ o
      have k21 := hJ.c21
      have k23 := hJ.c23
      have k34 := hJ.c34
      clear hJ hS hO
      go_wp2
      go_quiet (fail)
      go_wp2_with fail
      refine (lets_any ((H1.out.1.drN _).set_f s.ak 3 true)).mono ?_
      rintro e w3 ⟨rfl, hJ3, hO3⟩
      have H3 := Lib.hid (And.intro hJ3 hO3)
      clear hJ3 hO3
      go_wp2
      go_ret
      refine Step.of HF.out H3.out.1 (Only.trans ?_ H3.out.2)
      with_reducible (repeat (first | exact H1.out.2.2 | refine Only.dr ?_ | refine Only.drN ?_ | refine Only.stb ?_))
  · have HF := Lib.hid (show acksF c s v = (1, { v with reply := 2 }) by simp [acksF, HS.out, d1])
    go_enter Try.func25, Try.ntmps25
    go_upto_region 1 with fail
    go_cut [3, 4] (AckAt b c s v w)
    case first =>
      go_region
      go_wp2
      go_meet
      exact AckAt.mk' HH.out
    case rest =>
      obtain ⟨sb, rfl, rfl, hJ, hS, hn1, hn2, hO⟩ := hcut
      clear h11 h12 h13 h14 h15 h16 h17 h18 h19 h20 hlt
      have H1 := Lib.hid (And.intro hJ (And.intro hS hO))
      have k0 := hJ.c0
      have k2 := hJ.c2
      have k3 := hJ.c3
      have s2 := sq_cell hS
      have s3 := ak_cell hS
      have s5 := wnd_cell hS
      have hz := fun o => Blk.fz hJ o
      clear hJ hS hO
      go_wp2
      go_quiet (fail)
      go_wp2_with fail
      refine (says_any (H1.out.1.drN _) _).mono ?_
      rintro e w3 ⟨rfl, hJ3, hO3⟩
      have H3 := Lib.hid (And.intro hJ3 hO3)
      clear hJ3 hO3
      go_wp2
      go_ret
      exact Step.of HF.out H3.out.1 ((H1.out.2.2.drN).trans H3.out.2)

theorem acks_bad (h : JAt w b c s v) (hst : ¬ c.st = 2) (hbad : 0 < df s.ak c.nxt ∨ 65535 < df c.una s.ak) : Calls Try.prog 25 #[.pointer (some ⟨b, 0, none⟩)] w (Step b c s (acksF c s v) w) := by
  have h11 := h.c11
  have h12 := h.c12
  have h13 := h.c13
  have h14 := h.c14
  have h15 := h.c15
  have h16 := h.c16
  have h17 := h.c17
  have h18 := h.c18
  have h19 := h.c19
  have h20 := h.c20
  have HH := Lib.hid h
  have hlt := Blk.lt h
  have d0 : (c.st == 2) = false := by simp [hst]
  have HF := Lib.hid (show acksF c s v = (1, { v with reply := 1 }) by simp [acksF, hst, hbad])
  have HD := Lib.hid hbad
  clear h hst hbad
  by_cases d1 : 0 < df s.ak c.nxt
  · have e1 : decide (0 < df s.ak c.nxt) = true := by simp [d1]
    clear d1
    go_enter Try.func25, Try.ntmps25
    go_upto_region 1 with fail
    go_cut [3, 4] (AckAt b c s v w)
    case first =>
      go_region
      go_wp2
      go_meet
      exact AckAt.mk' HH.out
    case rest =>
      obtain ⟨sb, rfl, rfl, hJ, hS, hn1, hn2, hO⟩ := hcut
      clear h11 h12 h13 h14 h15 h16 h17 h18 h19 h20 hlt
      have H1 := Lib.hid (And.intro hJ (And.intro hS hO))
      have k0 := hJ.c0
      have k2 := hJ.c2
      have k3 := hJ.c3
      have s2 := sq_cell hS
      have s3 := ak_cell hS
      have s5 := wnd_cell hS
      have hz := fun o => Blk.fz hJ o
      clear hJ hS hO
      go_wp2
      go_quiet ((go_at_call 32; exact quiet_left (diff_any _ _ _)))
      go_wp2
      go_quiet ((go_at_call 32; exact quiet_add_left (diff_any _ _ _)))
      go_wp2_with fail
      refine (says_any (H1.out.1.drN _) _).mono ?_
      rintro e w3 ⟨rfl, hJ3, hO3⟩
      have H3 := Lib.hid (And.intro hJ3 hO3)
      clear hJ3 hO3
      go_wp2
      go_ret
      exact Step.of HF.out H3.out.1 ((H1.out.2.2.drN).trans H3.out.2)
  · have e1 : decide (0 < df s.ak c.nxt) = false := by simpa using d1
    have e2 : decide (65535 < df c.una s.ak) = true := by have := HD.out; simp; omega
    clear d1
    go_enter Try.func25, Try.ntmps25
    go_upto_region 1 with fail
    go_cut [3, 4] (AckAt b c s v w)
    case first =>
      go_region
      go_wp2
      go_meet
      exact AckAt.mk' HH.out
    case rest =>
      obtain ⟨sb, rfl, rfl, hJ, hS, hn1, hn2, hO⟩ := hcut
      clear h11 h12 h13 h14 h15 h16 h17 h18 h19 h20 hlt
      have H1 := Lib.hid (And.intro hJ (And.intro hS hO))
      have k0 := hJ.c0
      have k2 := hJ.c2
      have k3 := hJ.c3
      have s2 := sq_cell hS
      have s3 := ak_cell hS
      have s5 := wnd_cell hS
      have hz := fun o => Blk.fz hJ o
      clear hJ hS hO
      go_wp2
      go_quiet ((go_at_call 32; exact quiet_left (diff_any _ _ _)))
      go_wp2
      go_quiet ((go_at_call 32; exact quiet_add_left (diff_any _ _ _)))
      go_wp2_with fail
      refine (says_any (H1.out.1.drN _) _).mono ?_
      rintro e w3 ⟨rfl, hJ3, hO3⟩
      have H3 := Lib.hid (And.intro hJ3 hO3)
      clear hJ3 hO3
      go_wp2
      go_ret
      exact Step.of HF.out H3.out.1 ((H1.out.2.2.drN).trans H3.out.2)
end
end Go.Proofs.Ytpodmpidelifeaa
