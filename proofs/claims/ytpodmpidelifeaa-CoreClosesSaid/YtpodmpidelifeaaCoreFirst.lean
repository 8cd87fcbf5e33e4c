/-
  What the judgement of the answer to the own first segment does, for every input.
-/
import Derived.Test.YtpodmpidelifeaaCoreStep
import Derived.Test.YtpodmpidelifeaaRegion
import Derived.Deep.DeepCutAuto
namespace Go.Proofs.Ytpodmpidelifeaa
open Go.RowKit
set_option maxRecDepth 100000
set_option maxHeartbeats 1000000

def firstF (c : Ctl) (s : Seg) (v : Vd) : Int × Vd :=
  if hb s.fl 16 && s.ak != c.nxt then if hb s.fl 4 then (1, v) else (1, { v with reply := 2 })
  else if hb s.fl 4 && hb s.fl 16 then (1, { v with ended := 215 })
  else if hb s.fl 4 || !hb s.fl 2 then (1, v)
  else if hb s.fl 16 then (1, { v with next := { v.next with irs := s.sq, rcv := (s.sq + 1) % 4294967296, adv := (s.sq + 1) % 4294967296, wnd := s.wnd, wl1 := s.sq, wl2 := s.ak, una := s.ak, st := 3 }, reply := 1, acked := true })
  else (1, { v with next := { v.next with irs := s.sq, rcv := (s.sq + 1) % 4294967296, adv := (s.sq + 1) % 4294967296, wnd := s.wnd, wl1 := s.sq, wl2 := c.iss, st := 2 }, reply := 3 })

section
variable {w : World} {b : Nat} {c : Ctl} {s : Seg} {v : Vd}
theorem has_lit (h : JAt w b c s v) {k : Int} {r : Bool} (e : hb s.fl k = r) : Calls Try.prog 36 #[.pointer (some ⟨b, 0, none⟩), .int .i64 k] w fun e w' => e = .returned (.bool r) ∧ w = w' := by
  subst e; exact has_any h k

theorem JAt.set_a (h : JAt w b c s v) (x y z : Int) : JAt (((w.setCell ⟨b, 29, none⟩ (.int .u32 x)).setCell ⟨b, 30, none⟩ (.int .u32 y)).setCell ⟨b, 31, none⟩ (.int .u32 z)) b c s { v with next := { v.next with irs := x, rcv := y, adv := z } } :=
  ((Blk.set h 29 (.int .u32 x)).set 30 (.int .u32 y)).set 31 (.int .u32 z)
theorem JAt.set_b (h : JAt w b c s v) (x y z : Int) : JAt (((w.setCell ⟨b, 26, none⟩ (.int .i64 x)).setCell ⟨b, 27, none⟩ (.int .u32 y)).setCell ⟨b, 28, none⟩ (.int .u32 z)) b c s { v with next := { v.next with wnd := x, wl1 := y, wl2 := z } } :=
  ((Blk.set h 26 (.int .i64 x)).set 27 (.int .u32 y)).set 28 (.int .u32 z)
theorem JAt.set_c (h : JAt w b c s v) (x y : Int) : JAt ((w.setCell ⟨b, 21, none⟩ (.int .i64 x)).setCell ⟨b, 32, none⟩ (.int .i64 y)) b c s { v with next := { v.next with st := x }, reply := y } :=
  (Blk.set h 21 (.int .i64 x)).set 32 (.int .i64 y)
theorem JAt.set_d (h : JAt w b c s v) (x y z : Int) : JAt (((w.setCell ⟨b, 23, none⟩ (.int .u32 x)).setCell ⟨b, 28, none⟩ (.int .u32 y)).setCell ⟨b, 21, none⟩ (.int .i64 z)) b c s { v with next := { v.next with una := x, wl2 := y, st := z } } :=
  ((Blk.set h 23 (.int .u32 x)).set 28 (.int .u32 y)).set 21 (.int .i64 z)
theorem JAt.set_e (h : JAt w b c s v) (x : Int) (y : Bool) : JAt ((w.setCell ⟨b, 32, none⟩ (.int .i64 x)).setCell ⟨b, 34, none⟩ (.bool y)) b c s { v with reply := x, acked := y } :=
  (Blk.set h 32 (.int .i64 x)).set 34 (.bool y)
theorem JAt.dr (h : JAt w b c s v) : JAt w.drew b c s v := h
theorem JAt.drN (h : JAt w b c s v) (n : Nat) : JAt (w.drewN n) b c s v := h

theorem Only.stb {w0 : World} (h : Only (fun k => k = b) w0 w) {o : Nat} {x : Value} : Only (fun k => k = b) w0 (w.setCell ⟨b, o, none⟩ x) := h.st rfl o x
theorem Only.dr {w0 : World} {S : Nat → Prop} (h : Only S w0 w) : Only S w0 w.drew := h.drew
theorem Only.drN {w0 : World} {S : Nat → Prop} (h : Only S w0 w) {n : Nat} : Only S w0 (w.drewN n) := h.drewN n

theorem jfirst_any (h : JAt w b c s v) : Calls Try.prog 27 #[.pointer (some ⟨b, 0, none⟩)] w (Step b c s (firstF c s v) w) := by
  have h1 := h.c1
  have h3 := h.c3
  have h13 := h.c13
  have h14 := h.c14
  have h16 := h.c16
  have h21 := h.c21
  have h23 := h.c23
  have h26 := h.c26
  have h27 := h.c27
  have h28 := h.c28
  have h29 := h.c29
  have h30 := h.c30
  have h31 := h.c31
  have h32 := h.c32
  have h33 := h.c33
  have h34 := h.c34
  have hz := fun o => Blk.fz h o
  have HH := Lib.hid h
  clear h
  cases a1 : hb s.fl 16
  · cases a2 : hb s.fl 4
    · cases a3 : hb s.fl 2
      ·
        have HF := Lib.hid (show firstF c s v = (1, v) by simp [firstF, a1, a2, a3])
        have F1 := Lib.hid a1
        clear a1
        have F2 := Lib.hid a2
        clear a2
        have F3 := Lib.hid a3
        clear a3
        go_enter Try.func27, Try.ntmps27
        go_wp2_with fail
        refine (has_lit HH.out F1.out).mono ?_
        rintro e w2 ⟨rfl, rfl⟩
        go_wp2_with fail
        refine (has_lit HH.out F2.out).mono ?_
        rintro e w2 ⟨rfl, rfl⟩
        go_wp2_with fail
        go_quiet (fail)
        go_wp2_with fail
        refine (has_lit (Blk.drewN HH.out _) F3.out).mono ?_
        rintro e w2 ⟨rfl, rfl⟩
        go_wp2
        go_ret
        exact Step.of HF.out (Blk.drewN HH.out _) ((Only.refl (fun k => k = b) w).drewN _)
      ·
        have HF := Lib.hid (show firstF c s v = (1, { v with next := { v.next with irs := s.sq, rcv := (s.sq + 1) % 4294967296, adv := (s.sq + 1) % 4294967296, wnd := s.wnd, wl1 := s.sq, wl2 := c.iss, st := 2 }, reply := 3 }) by simp [firstF, a1, a2, a3])
        have F1 := Lib.hid a1
        clear a1
        have F2 := Lib.hid a2
        clear a2
        have F3 := Lib.hid a3
        clear a3
        go_enter Try.func27, Try.ntmps27
        go_wp2_with fail
        refine (has_lit HH.out F1.out).mono ?_
        rintro e w2 ⟨rfl, rfl⟩
        go_wp2_with fail
        refine (has_lit HH.out F2.out).mono ?_
        rintro e w2 ⟨rfl, rfl⟩
        go_wp2_with fail
        go_quiet (fail)
        go_wp2_with fail
        refine (has_lit (Blk.drewN HH.out _) F3.out).mono ?_
        rintro e w2 ⟨rfl, rfl⟩
        go_wp2
        go_region
        go_wp2
        go_region
        go_wp2
        go_ret
        have hJ := ((((HH.out.drN (nq + 1)).set_a s.sq ((s.sq + 1) % 4294967296) ((s.sq + 1) % 4294967296)).set_b s.wnd s.sq c.iss).set_c 2 3).dr
        refine Step.of HF.out hJ ?_
        with_reducible (repeat (first | exact Only.refl _ _ | refine Only.dr ?_ | refine Only.drN ?_ | refine Only.stb ?_))
    ·
      have HF := Lib.hid (show firstF c s v = (1, v) by simp [firstF, a1, a2])
      have F1 := Lib.hid a1
      clear a1
      have F2 := Lib.hid a2
      clear a2
      go_enter Try.func27, Try.ntmps27
      go_wp2_with fail
      refine (has_lit HH.out F1.out).mono ?_
      rintro e w2 ⟨rfl, rfl⟩
      go_wp2_with fail
      refine (has_lit HH.out F2.out).mono ?_
      rintro e w2 ⟨rfl, rfl⟩
      go_wp2_with fail
      go_quiet (fail)
      go_wp2
      go_ret
      exact Step.of HF.out (Blk.drewN HH.out _) ((Only.refl (fun k => k = b) w).drewN _)
  · cases a4 : (s.ak != c.nxt)
    · cases a2 : hb s.fl 4
      · cases a3 : hb s.fl 2
        ·
          have HF := Lib.hid (show firstF c s v = (1, v) by simp [firstF, a1, a2, a3, a4])
          have F1 := Lib.hid a1
          clear a1
          have F2 := Lib.hid a2
          clear a2
          have F3 := Lib.hid a3
          clear a3
          go_enter Try.func27, Try.ntmps27
          go_wp2_with fail
          refine (has_lit HH.out F1.out).mono ?_
          rintro e w2 ⟨rfl, rfl⟩
          go_wp2_with fail
          refine (has_lit HH.out F2.out).mono ?_
          rintro e w2 ⟨rfl, rfl⟩
          go_wp2_with fail
          go_quiet (fail)
          go_wp2_with fail
          refine (has_lit (Blk.drewN HH.out _) F3.out).mono ?_
          rintro e w2 ⟨rfl, rfl⟩
          go_wp2
          go_ret
          exact Step.of HF.out (Blk.drewN HH.out _) ((Only.refl (fun k => k = b) w).drewN _)
        ·
          have HF := Lib.hid (show firstF c s v = (1, { v with next := { v.next with irs := s.sq, rcv := (s.sq + 1) % 4294967296, adv := (s.sq + 1) % 4294967296, wnd := s.wnd, wl1 := s.sq, wl2 := s.ak, una := s.ak, st := 3 }, reply := 1, acked := true }) by simp [firstF, a1, a2, a3, a4])
          have F1 := Lib.hid a1
          clear a1
          have F2 := Lib.hid a2
          clear a2
          have F3 := Lib.hid a3
          clear a3
          go_enter Try.func27, Try.ntmps27
          go_wp2_with fail
          refine (has_lit HH.out F1.out).mono ?_
          rintro e w2 ⟨rfl, rfl⟩
          go_wp2_with fail
          refine (has_lit HH.out F2.out).mono ?_
          rintro e w2 ⟨rfl, rfl⟩
          go_wp2_with fail
          go_quiet (fail)
          go_wp2_with fail
          refine (has_lit (Blk.drewN HH.out _) F3.out).mono ?_
          rintro e w2 ⟨rfl, rfl⟩
          go_wp2
          go_region
          go_wp2
          go_region
          go_wp2
          go_region
          go_wp2
          go_ret
          have hJ := ((((((HH.out.drN (nq + 1)).set_a s.sq ((s.sq + 1) % 4294967296) ((s.sq + 1) % 4294967296)).set_b s.wnd s.sq c.iss).set_c 2 3).set_d s.ak s.ak 3).set_e 1 true).dr.dr
          refine Step.of HF.out hJ ?_
          with_reducible (repeat (first | exact Only.refl _ _ | refine Only.dr ?_ | refine Only.drN ?_ | refine Only.stb ?_))
      ·
        have HF := Lib.hid (show firstF c s v = (1, { v with ended := 215 }) by simp [firstF, a1, a2, a4])
        have F1 := Lib.hid a1
        clear a1
        have F2 := Lib.hid a2
        clear a2
        go_enter Try.func27, Try.ntmps27
        go_wp2_with fail
        refine (has_lit HH.out F1.out).mono ?_
        rintro e w2 ⟨rfl, rfl⟩
        go_wp2_with fail
        refine (has_lit HH.out F2.out).mono ?_
        rintro e w2 ⟨rfl, rfl⟩
        go_wp2_with fail
        go_quiet (fail)
        go_wp2
        go_ret
        exact Step.of HF.out (Blk.set (Blk.drewN HH.out _) 33 (.int .i64 215)) (((Only.refl (fun k => k = b) w).drewN _).st rfl _ _)
    · cases a2 : hb s.fl 4
      ·
        have HF := Lib.hid (show firstF c s v = (1, { v with reply := 2 }) by simp [firstF, a1, a2, a4])
        have F1 := Lib.hid a1
        clear a1
        have F2 := Lib.hid a2
        clear a2
        go_enter Try.func27, Try.ntmps27
        go_wp2_with fail
        refine (has_lit HH.out F1.out).mono ?_
        rintro e w2 ⟨rfl, rfl⟩
        go_wp2_with fail
        refine (has_lit HH.out F2.out).mono ?_
        rintro e w2 ⟨rfl, rfl⟩
        go_wp2_with fail
        go_quiet (fail)
        go_wp2
        go_ret
        exact Step.of HF.out (Blk.set (Blk.drewN HH.out _) 32 (.int .i64 2)) (((Only.refl (fun k => k = b) w).drewN _).st rfl _ _)
      ·
        have HF := Lib.hid (show firstF c s v = (1, v) by simp [firstF, a1, a2, a4])
        have F1 := Lib.hid a1
        clear a1
        have F2 := Lib.hid a2
        clear a2
        go_enter Try.func27, Try.ntmps27
        go_wp2_with fail
        refine (has_lit HH.out F1.out).mono ?_
        rintro e w2 ⟨rfl, rfl⟩
        go_wp2_with fail
        refine (has_lit HH.out F2.out).mono ?_
        rintro e w2 ⟨rfl, rfl⟩
        go_wp2_with fail
        go_quiet (fail)
        go_wp2
        go_ret
        exact Step.of HF.out (Blk.drewN HH.out _) ((Only.refl (fun k => k = b) w).drewN _)
end
end Go.Proofs.Ytpodmpidelifeaa
