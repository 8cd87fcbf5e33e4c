/-
  What the steps that take an acknowledgement and bytes do, for every input.
-/
import Derived.Test.YtpodmpidelifeaaCoreStep
import Derived.Test.YtpodmpidelifeaaRegion
import Derived.Deep.DeepCutAuto
namespace Go.Proofs.Ytpodmpidelifeaa
open Go.RowKit
set_option maxRecDepth 100000
set_option maxHeartbeats 8000000

def skipF (c : Ctl) (s : Seg) : Int := min (max 0 (df c.rcv s.sq)) s.dn
theorem skip_bd (c : Ctl) (s : Seg) : 0 ≤ skipF c s ∧ skipF c s ≤ s.dn := by unfold skipF; omega
def roomF (c : Ctl) (s : Seg) : Int := wn c - (s.sq + skipF c s - c.rcv) % 4294967296
def takeF (c : Ctl) (s : Seg) : Int := if 0 < roomF c s then min (s.dn - skipF c s) (roomF c s) else 0
theorem take_bd (c : Ctl) (s : Seg) : 0 ≤ takeF c s ∧ skipF c s + takeF c s ≤ s.dn := by
  have := skip_bd c s
  unfold takeF; split <;> omega
def finF (c : Ctl) (s : Seg) : Bool := hb s.fl 1 && (skipF c s + takeF c s == (s.dn : Int)) && inB c ((s.sq + s.dn) % 4294967296)
def takesF (c : Ctl) (s : Seg) (v : Vd) : Int × Vd :=
  if v.next.st = 3 ∨ v.next.st = 4 ∨ v.next.st = 5 then (1, { v with skip := skipF c s, take := takeF c s, fin := finF c s }) else (1, v)

section
variable {w : World} {b : Nat} {c : Ctl} {s : Seg} {v : Vd}
theorem takes_no (h : JAt w b c s v) (hn : ¬ (v.next.st = 3 ∨ v.next.st = 4 ∨ v.next.st = 5)) : Calls Try.prog 26 #[.pointer (some ⟨b, 0, none⟩)] w (Step b c s (1, v) w) := by
  have h21 := h.c21
  have d3 : (v.next.st == 3) = false := by simp; omega
  have d4 : (v.next.st == 4) = false := by simp; omega
  have d5 : (v.next.st == 5) = false := by simp; omega
  have HH := Lib.hid h
  clear h hn
  go_enter Try.func26, Try.ntmps26
  go_wp2
  go_ret
  exact Step.of rfl HH.out (Only.refl _ _)

theorem JAt.set_skip (h : JAt w b c s v) {n m : Int} (e : n = m) (q : Nat) : JAt ((w.drewN q).setCell ⟨b, 36, none⟩ (.int .i64 n)) b c s { v with skip := m } := by
  subst e; exact Blk.set (Blk.drewN h q) 36 _
theorem JAt.set_take (h : JAt w b c s v) {n m : Int} (e : n = m) : JAt (w.setCell ⟨b, 37, none⟩ (.int .i64 n)) b c s { v with take := m } := by
  subst e; exact Blk.set h 37 _
theorem JAt.set_fin (h : JAt w b c s v) {n m : Bool} (e : n = m) (q : Nat) : JAt ((w.drewN q).setCell ⟨b, 38, none⟩ (.bool n)) b c s { v with fin := m } := by
  subst e; exact Blk.set (Blk.drewN h q) 38 _

theorem has_is (h : JAt w b c s v) {k : Int} {r : Bool} (e : hb s.fl k = r) : Calls Try.prog 36 #[.pointer (some ⟨b, 0, none⟩), .int .i64 k] w fun e w' => e = .returned (.bool r) ∧ w' = w := by
  subst e; exact (has_any h k).mono fun _ _ ⟨h1, h2⟩ => ⟨h1, h2.symm⟩
theorem in_is (h : JAt w b c s v) {n : Int} {r : Bool} (e : inB c n = r) : Calls Try.prog 35 #[.pointer (some ⟨b, 0, none⟩), .int .u32 n] w fun e w' => e = .returned (.bool r) ∧ ∃ n, w' = w.drewN n := by
  subst e; exact in_any h n

theorem takes_yes (h : JAt w b c s v) (hs : s.dn ≤ 140737488351232) (ht : v.take = 0) (hn : v.next.st = 3 ∨ v.next.st = 4 ∨ v.next.st = 5) :
    Calls Try.prog 26 #[.pointer (some ⟨b, 0, none⟩)] w (Step b c s (1, { v with skip := skipF c s, take := takeF c s, fin := finF c s }) w) := by
  have h9 := h.c9
  have h13 := h.c13
  have h20 := h.c20
  have h21 := h.c21
  have h36 := h.c36
  have HH := Lib.hid h
  have HT := Lib.hid ht
  have hdf := df_bd c.rcv s.sq
  have hz := fun o => Blk.fz h o
  clear h ht
  rcases hn with hn | hn | hn
  all_goals
    rw [hn] at h21
    clear hn
    go_enter Try.func26, Try.ntmps26
    go_upto_region 7 with fail
    go_cut [] (fun wx => JAt wx b c s { v with skip := skipF c s } ∧ Only (fun k => k = b) w wx)
    case first =>
      refine wp_region_quiet_tail_lit 18 (by kernel_rfl) (by kernel_rfl) ?_
      simp only [List.take_succ_cons, List.take_zero, List.drop_succ_cons, List.drop_zero]
      repeat (quiet_step ((go_at_call 32; exact Calls.quiet_of_same ((diff_any _ _ _).mono fun _ _ ⟨h1, h2⟩ => ⟨h1, h2.symm⟩))))
      refine wpQuiet_nil ?_
      intro q
      go_wp2_with fail
      all_goals
        go_meet
        exact ⟨JAt.set_skip HH.out (by unfold skipF; omega) q, ((Only.refl (fun k => k = b) w).drewN q).st rfl _ _⟩
    case rest =>
      obtain ⟨hJ, hO⟩ := hcut
      have H1 := Lib.hid (And.intro hJ hO)
      have hsk := skip_bd c s
      have hwn := wn_bd c
      have k9 := hJ.c9
      have k13 := hJ.c13
      have k36 := hJ.c36
      have k37 := hJ.c37
      rw [HT.out] at k37
      have hz := fun o => Blk.fz hJ o
      have HR : Hid (roomF c s = wn c - (s.sq + skipF c s - c.rcv) % 4294967296) := rfl
      clear hJ hO h9 h13 h20 h21 h36
      dsimp only at k36 k37
      go_wp2
      go_quiet (fail)
      go_wp2_with fail
      refine (window_any (Blk.drewN H1.out.1 _)).mono ?_
      rintro e w2 ⟨rfl, n, rfl⟩
      go_upto_if 66 with fail
      go_cut [] (fun wx => JAt wx b c s { v with skip := skipF c s, take := takeF c s } ∧ Only (fun k => k = b) w wx)
      case first =>
        by_cases hr : 0 < wn c - (s.sq + skipF c s - c.rcv) % 4294967296
        · have HT2 : Hid (takeF c s = min (s.dn - skipF c s) (roomF c s)) := by
            show takeF c s = _
            unfold takeF; rw [if_pos (by rw [HR.out]; exact hr)]
          go_wp2
          all_goals
            go_meet
            exact ⟨JAt.set_take (JAt.only H1.out.1 ((Only.refl (fun _ => False) _).drewN _) id) (by rw [HT2.out, HR.out]; omega), (H1.out.2.drewN _).st rfl _ _⟩
        · have HT2 : Hid (takeF c s = 0) := by
            show takeF c s = _
            unfold takeF; rw [if_neg (by rw [HR.out]; exact hr)]
          go_wp2
          go_meet
          refine ⟨?_, H1.out.2.drewN _⟩
          rw [HT2.out, ← HT.out]
          exact JAt.only H1.out.1 ((Only.refl (fun _ => False) _).drewN _) id
      case rest =>
        obtain ⟨hJ, hO⟩ := hcut
        have H2 := Lib.hid (And.intro hJ hO)
        have htk := take_bd c s
        have k13 := hJ.c13
        have k36 := hJ.c36
        have k37 := hJ.c37
        have k38 := hJ.c38
        have hz := fun o => Blk.fz hJ o
        clear hJ hO
        dsimp only at k36 k37 k38
        cases f1 : hb s.fl 1
        · have HF := Lib.hid (show false = finF c s by simp [finF, f1])
          have F1 := Lib.hid f1
          clear f1
          go_upto_region 12 with fail
          refine wp_region_quiet_tail_lit 33 (by kernel_rfl) (by kernel_rfl) ?_
          simp only [List.take_succ_cons, List.take_zero, List.drop_succ_cons, List.drop_zero]
          repeat (go_big_quiet_step ((go_at_call 36; exact Calls.quiet_of_same (has_is (Blk.drewN H2.out.1 _) F1.out))))
          refine wpQuiet_nil ?_
          intro q
          go_wp2
          go_ret
          exact Step.of rfl (JAt.set_fin H2.out.1 HF.out q) ((H2.out.2.drewN _).st rfl _ _)
        · cases f2 : (skipF c s + takeF c s == (s.dn : Int))
          · have HF := Lib.hid (show false = finF c s by simp [finF, f1, f2])
            have F1 := Lib.hid f1
            clear f1
            go_upto_region 12 with fail
            refine wp_region_quiet_tail_lit 33 (by kernel_rfl) (by kernel_rfl) ?_
            simp only [List.take_succ_cons, List.take_zero, List.drop_succ_cons, List.drop_zero]
            repeat (go_big_quiet_step ((go_at_call 36; exact Calls.quiet_of_same (has_is (Blk.drewN H2.out.1 _) F1.out))))
            refine wpQuiet_nil ?_
            intro q
            go_wp2
            go_ret
            exact Step.of rfl (JAt.set_fin H2.out.1 HF.out q) ((H2.out.2.drewN _).st rfl _ _)
          · cases f3 : inB c ((s.sq + s.dn) % 4294967296)
            · have HF := Lib.hid (show false = finF c s by simp [finF, f1, f2, f3])
              have F1 := Lib.hid f1
              have F3 := Lib.hid f3
              clear f1 f3
              go_upto_region 12 with fail
              refine wp_region_quiet_tail_lit 33 (by kernel_rfl) (by kernel_rfl) ?_
              simp only [List.take_succ_cons, List.take_zero, List.drop_succ_cons, List.drop_zero]
              repeat (go_big_quiet_step ((first | (go_at_call 36; exact Calls.quiet_of_same (has_is (Blk.drewN H2.out.1 _) F1.out)) | (go_at_call 35; exact Calls.quiet_of (in_is (Blk.drewN H2.out.1 _) F3.out)))))
              refine wpQuiet_nil ?_
              intro q
              go_wp2
              go_ret
              exact Step.of rfl (JAt.set_fin H2.out.1 HF.out q) ((H2.out.2.drewN _).st rfl _ _)
            · have HF := Lib.hid (show true = finF c s by simp [finF, f1, f2, f3])
              have F1 := Lib.hid f1
              have F3 := Lib.hid f3
              clear f1 f3
              go_upto_region 12 with fail
              refine wp_region_quiet_tail_lit 33 (by kernel_rfl) (by kernel_rfl) ?_
              simp only [List.take_succ_cons, List.take_zero, List.drop_succ_cons, List.drop_zero]
              repeat (go_big_quiet_step ((first | (go_at_call 36; exact Calls.quiet_of_same (has_is (Blk.drewN H2.out.1 _) F1.out)) | (go_at_call 35; exact Calls.quiet_of (in_is (Blk.drewN H2.out.1 _) F3.out)))))
              refine wpQuiet_nil ?_
              intro q
              go_wp2
              go_ret
              exact Step.of rfl (JAt.set_fin H2.out.1 HF.out q) ((H2.out.2.drewN _).st rfl _ _)

theorem takes_any (h : JAt w b c s v) (hs : s.dn ≤ 140737488351232) (ht : v.take = 0) : Calls Try.prog 26 #[.pointer (some ⟨b, 0, none⟩)] w (Step b c s (takesF c s v) w) := by
  unfold takesF
  by_cases hn : v.next.st = 3 ∨ v.next.st = 4 ∨ v.next.st = 5
  · rw [if_pos hn]; exact takes_yes h hs ht hn
  · rw [if_neg hn]; exact takes_no h hn
end
end Go.Proofs.Ytpodmpidelifeaa
