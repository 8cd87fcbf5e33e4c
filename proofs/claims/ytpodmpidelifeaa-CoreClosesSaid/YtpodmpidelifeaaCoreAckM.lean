/-
  What the step that takes an acknowledgement does on its main way, for every input.
-/
import Derived.Test.YtpodmpidelifeaaCoreAck
import Derived.Test.YtpodmpidelifeaaNear
namespace Go.Proofs.Ytpodmpidelifeaa
open Go.RowKit
set_option maxRecDepth 100000
set_option maxHeartbeats 6000000

section
variable {w : World} {b : Nat} {c : Ctl} {s : Seg} {v : Vd}
theorem JAt.near (h : JAt w b c s v) (x : Near w) : JAt x.v b c s v := Blk.near h x
theorem seg_cells {sb : Nat} {T : TypeId} (h : Blk w sb s.cs T) : w.cell? ⟨sb, 0, none⟩ = some (.int .i64 s.fr) ∧ w.cell? ⟨sb, 1, none⟩ = some (.int .i64 s.to) ∧ w.cell? ⟨sb, 4, none⟩ = some (.int .i64 s.fl) ∧ w.cell? ⟨sb, 6, none⟩ = some (.int .i64 s.mss) ∧
    w.cell? ⟨sb, 7, none⟩ = some (.bool s.sacks) ∧ w.cell? ⟨sb, 8, none⟩ = some (.slice s.ga s.gn s.gc) ∧ w.cell? ⟨sb, 9, none⟩ = some (.slice s.da s.dn s.dc) := by
  refine ⟨?_, ?_, ?_, ?_, ?_, ?_, ?_⟩ <;> (rw [Blk.cell h]; rfl)
theorem JAt.set_g (h : JAt w b c s v) (x : Int) (z : Bool) : JAt ((w.setCell ⟨b, 23, none⟩ (.int .u32 x)).setCell ⟨b, 34, none⟩ (.bool z)) b c s { v with next := { v.next with una := x }, acked := z } :=
  (Blk.set h 23 (.int .u32 x)).set 34 (.bool z)
theorem JAt.set_again (h : JAt w b c s v) (z : Bool) : JAt (w.setCell ⟨b, 35, none⟩ (.bool z)) b c s { v with again := z } := Blk.set h 35 (.bool z)

theorem size_zero (w : World) (s : Seg) (hs : s.dn ≤ 140737488351232) (e : (sz s == 0) = true) : Calls Try.prog 33 #[.agg s.cs.toArray] w fun e w' => e = .returned (.int .i64 0) ∧ Only (fun _ => False) w w' := by
  have e : sz s = 0 := by simpa using e
  have := size_any w s hs
  rw [e] at this
  exact this

theorem acks_main (h : JAt w b c s v) (hs : s.dn ≤ 140737488351232) (hst : ¬ c.st = 2) (hbad : ¬ (0 < df s.ak c.nxt ∨ 65535 < df c.una s.ak)) : Calls Try.prog 25 #[.pointer (some ⟨b, 0, none⟩)] w (Step b c s (ackF3 c (ackV2 c s (ackV1 c s v))) w) := by
  have h11 := h.c11
  have h12 := h.c12
  have h13 := h.c13
  have h14 := h.c14
  have h15 := h.c15
  have h16 := h.c16
  have h17 := h.c17
  have h18 := h.c18
  have h19 := h.c19
  have h20 := h.c20
  have HH := Lib.hid h
  have hlt := Blk.lt h
  have d0 : (c.st == 2) = false := by simp [hst]
  have e1 : decide (0 < df s.ak c.nxt) = false := by simp; omega
  have e2 : decide (65535 < df c.una s.ak) = false := by simp; omega
  clear h hst hbad
  go_enter Try.func25, Try.ntmps25
  go_upto_region 1 with fail
  go_cut [3, 4] (AckAt b c s v w)
  case first =>
    go_region
    go_wp2
    go_meet
    exact AckAt.mk' HH.out
  case rest =>
    obtain ⟨sb, rfl, rfl, hJ, hS, hn1, hn2, hO⟩ := hcut
    clear h11 h12 h13 h14 h15 h16 h17 h18 h19 h20 hlt
    have H1 := Lib.hid (And.intro hJ (And.intro hS hO))
    have k0 := hJ.c0
    have k2 := hJ.c2
    have k3 := hJ.c3
    have s2 := sq_cell hS
    have s3 := ak_cell hS
    have s5 := wnd_cell hS
    have hz := fun o => Blk.fz hJ o
    clear hJ hS hO
    go_wp2
    go_quiet ((go_at_call 32; exact quiet_left (diff_any _ _ _)))
    go_upto_block 0 with fail
    go_cut [] (fun wx => JAt wx b c s (ackV1 c s v) ∧ Blk wx sb s.cs 28 ∧ Only (fun k => k = b) w wx)
    case first =>
      by_cases g1 : 0 < df s.ak c.una
      · as_aux_lemma =>
          have HF := Lib.hid (show ackV1 c s v = { v with next := { v.next with una := s.ak }, acked := true } by simp [ackV1, g1])
          have k23 := H1.out.1.c23
          have k34 := H1.out.1.c34
          go_wp2
          go_quiet ((go_at_call 32; exact quiet_add_left (diff_any _ _ _)))
          go_wp2
          go_meet
          rw [HF.out]
          exact ⟨(H1.out.1.drN _).set_g s.ak true, (H1.out.2.1.drewN _).set_ne hn1 _ |>.set_ne hn1 _, ((H1.out.2.2.drN).stb).stb⟩
      · by_cases g0 : df s.ak c.una = 0
        · have g0b : (df s.ak c.una == 0) = true := by simp [g0]
          have G0 := Lib.hid g0
          clear g0
          cases q1 : (c.nxt != c.una)
          · as_aux_lemma =>
              have HF := Lib.hid (show ackV1 c s v = { v with again := false } by simp [ackV1, G0.out, q1])
              go_wp2
              go_quiet ((go_at_call 32; exact quiet_add_left (diff_any _ _ _)))
              go_upto_region 14 with fail
              have f2 : ∀ n (x : Near (wc.drewN n)), x.v.cell? ⟨b, 2, none⟩ = some (.int .u32 c.una) := fun n x => ((H1.out.1.drN n).near x).c2
              have f3 : ∀ n (x : Near (wc.drewN n)), x.v.cell? ⟨b, 3, none⟩ = some (.int .u32 c.nxt) := fun n x => ((H1.out.1.drN n).near x).c3
              have f5 : ∀ n (x : Near (wc.drewN n)), x.v.cell? ⟨b, 5, none⟩ = some (.int .i64 c.wnd) := fun n x => ((H1.out.1.drN n).near x).c5
              have t0 : ∀ n (x : Near (wc.drewN n)), x.v.cell? ⟨sb, 0, none⟩ = some (.int .i64 s.fr) := fun n x => (seg_cells ((H1.out.2.1.drewN n).near x)).1
              have t1 : ∀ n (x : Near (wc.drewN n)), x.v.cell? ⟨sb, 1, none⟩ = some (.int .i64 s.to) := fun n x => (seg_cells ((H1.out.2.1.drewN n).near x)).2.1
              have t2 : ∀ n (x : Near (wc.drewN n)), x.v.cell? ⟨sb, 2, none⟩ = some (.int .u32 s.sq) := fun n x => sq_cell ((H1.out.2.1.drewN n).near x)
              have t3 : ∀ n (x : Near (wc.drewN n)), x.v.cell? ⟨sb, 3, none⟩ = some (.int .u32 s.ak) := fun n x => ak_cell ((H1.out.2.1.drewN n).near x)
              have t4 : ∀ n (x : Near (wc.drewN n)), x.v.cell? ⟨sb, 4, none⟩ = some (.int .i64 s.fl) := fun n x => (seg_cells ((H1.out.2.1.drewN n).near x)).2.2.1
              have t5 : ∀ n (x : Near (wc.drewN n)), x.v.cell? ⟨sb, 5, none⟩ = some (.int .i64 s.wnd) := fun n x => wnd_cell ((H1.out.2.1.drewN n).near x)
              have t6 : ∀ n (x : Near (wc.drewN n)), x.v.cell? ⟨sb, 6, none⟩ = some (.int .i64 s.mss) := fun n x => (seg_cells ((H1.out.2.1.drewN n).near x)).2.2.2.1
              have t7 : ∀ n (x : Near (wc.drewN n)), x.v.cell? ⟨sb, 7, none⟩ = some (.bool s.sacks) := fun n x => (seg_cells ((H1.out.2.1.drewN n).near x)).2.2.2.2.1
              have t8 : ∀ n (x : Near (wc.drewN n)), x.v.cell? ⟨sb, 8, none⟩ = some (.slice s.ga s.gn s.gc) := fun n x => (seg_cells ((H1.out.2.1.drewN n).near x)).2.2.2.2.2.1
              have t9 : ∀ n (x : Near (wc.drewN n)), x.v.cell? ⟨sb, 9, none⟩ = some (.slice s.da s.dn s.dc) := fun n x => (seg_cells ((H1.out.2.1.drewN n).near x)).2.2.2.2.2.2
              clear k0 k2 k3 s2 s3 s5 hz
              refine wp_region_near_tail 30 (by kernel_rfl) (by kernel_rfl) ?_
              simp only [List.take_succ_cons, List.take_zero, List.drop_succ_cons, List.drop_zero]
              repeat (go_big_quiet_step (fail))
              refine wpQuiet_nil ?_
              intro x
              have k35 := ((H1.out.1.drN _).near x).c35
              have hz := fun o => Blk.fz ((H1.out.1.drN _).near x) o
              clear f2 f3 f5 t0 t1 t2 t3 t4 t5 t6 t7 t8 t9
              go_wp2
              go_meet
              rw [HF.out]
              exact ⟨((H1.out.1.drN _).near x).set_again _, ((H1.out.2.1.drewN _).near x).set_ne hn1 _, ((H1.out.2.2.drN).trans (only_to (b := b) x.h)).stb⟩
          · cases q2 : (sz s == 0)
            · as_aux_lemma =>
                have HF := Lib.hid (show ackV1 c s v = { v with again := false } by simp [ackV1, G0.out, q1, q2])
                go_wp2
                go_quiet ((go_at_call 32; exact quiet_add_left (diff_any _ _ _)))
                go_upto_region 14 with fail
                have f2 : ∀ n (x : Near (wc.drewN n)), x.v.cell? ⟨b, 2, none⟩ = some (.int .u32 c.una) := fun n x => ((H1.out.1.drN n).near x).c2
                have f3 : ∀ n (x : Near (wc.drewN n)), x.v.cell? ⟨b, 3, none⟩ = some (.int .u32 c.nxt) := fun n x => ((H1.out.1.drN n).near x).c3
                have f5 : ∀ n (x : Near (wc.drewN n)), x.v.cell? ⟨b, 5, none⟩ = some (.int .i64 c.wnd) := fun n x => ((H1.out.1.drN n).near x).c5
                have t0 : ∀ n (x : Near (wc.drewN n)), x.v.cell? ⟨sb, 0, none⟩ = some (.int .i64 s.fr) := fun n x => (seg_cells ((H1.out.2.1.drewN n).near x)).1
                have t1 : ∀ n (x : Near (wc.drewN n)), x.v.cell? ⟨sb, 1, none⟩ = some (.int .i64 s.to) := fun n x => (seg_cells ((H1.out.2.1.drewN n).near x)).2.1
                have t2 : ∀ n (x : Near (wc.drewN n)), x.v.cell? ⟨sb, 2, none⟩ = some (.int .u32 s.sq) := fun n x => sq_cell ((H1.out.2.1.drewN n).near x)
                have t3 : ∀ n (x : Near (wc.drewN n)), x.v.cell? ⟨sb, 3, none⟩ = some (.int .u32 s.ak) := fun n x => ak_cell ((H1.out.2.1.drewN n).near x)
                have t4 : ∀ n (x : Near (wc.drewN n)), x.v.cell? ⟨sb, 4, none⟩ = some (.int .i64 s.fl) := fun n x => (seg_cells ((H1.out.2.1.drewN n).near x)).2.2.1
                have t5 : ∀ n (x : Near (wc.drewN n)), x.v.cell? ⟨sb, 5, none⟩ = some (.int .i64 s.wnd) := fun n x => wnd_cell ((H1.out.2.1.drewN n).near x)
                have t6 : ∀ n (x : Near (wc.drewN n)), x.v.cell? ⟨sb, 6, none⟩ = some (.int .i64 s.mss) := fun n x => (seg_cells ((H1.out.2.1.drewN n).near x)).2.2.2.1
                have t7 : ∀ n (x : Near (wc.drewN n)), x.v.cell? ⟨sb, 7, none⟩ = some (.bool s.sacks) := fun n x => (seg_cells ((H1.out.2.1.drewN n).near x)).2.2.2.2.1
                have t8 : ∀ n (x : Near (wc.drewN n)), x.v.cell? ⟨sb, 8, none⟩ = some (.slice s.ga s.gn s.gc) := fun n x => (seg_cells ((H1.out.2.1.drewN n).near x)).2.2.2.2.2.1
                have t9 : ∀ n (x : Near (wc.drewN n)), x.v.cell? ⟨sb, 9, none⟩ = some (.slice s.da s.dn s.dc) := fun n x => (seg_cells ((H1.out.2.1.drewN n).near x)).2.2.2.2.2.2
                clear k0 k2 k3 s2 s3 s5 hz
                refine wp_region_near_tail 30 (by kernel_rfl) (by kernel_rfl) ?_
                simp only [List.take_succ_cons, List.take_zero, List.drop_succ_cons, List.drop_zero]
                repeat (go_big_quiet_step ((go_at_call 33; exact near_call _ (size_any _ s hs))))
                refine wpQuiet_nil ?_
                intro x
                have k35 := ((H1.out.1.drN _).near x).c35
                have hz := fun o => Blk.fz ((H1.out.1.drN _).near x) o
                clear f2 f3 f5 t0 t1 t2 t3 t4 t5 t6 t7 t8 t9
                go_wp2
                go_meet
                rw [HF.out]
                exact ⟨((H1.out.1.drN _).near x).set_again _, ((H1.out.2.1.drewN _).near x).set_ne hn1 _, ((H1.out.2.2.drN).trans (only_to (b := b) x.h)).stb⟩
            · cases q3 : (s.wnd == c.wnd)
              · as_aux_lemma =>
                  have HF := Lib.hid (show ackV1 c s v = { v with again := false } by simp [ackV1, G0.out, q1, q2, q3])
                  go_wp2
                  go_quiet ((go_at_call 32; exact quiet_add_left (diff_any _ _ _)))
                  go_upto_region 14 with fail
                  have f2 : ∀ n (x : Near (wc.drewN n)), x.v.cell? ⟨b, 2, none⟩ = some (.int .u32 c.una) := fun n x => ((H1.out.1.drN n).near x).c2
                  have f3 : ∀ n (x : Near (wc.drewN n)), x.v.cell? ⟨b, 3, none⟩ = some (.int .u32 c.nxt) := fun n x => ((H1.out.1.drN n).near x).c3
                  have f5 : ∀ n (x : Near (wc.drewN n)), x.v.cell? ⟨b, 5, none⟩ = some (.int .i64 c.wnd) := fun n x => ((H1.out.1.drN n).near x).c5
                  have t0 : ∀ n (x : Near (wc.drewN n)), x.v.cell? ⟨sb, 0, none⟩ = some (.int .i64 s.fr) := fun n x => (seg_cells ((H1.out.2.1.drewN n).near x)).1
                  have t1 : ∀ n (x : Near (wc.drewN n)), x.v.cell? ⟨sb, 1, none⟩ = some (.int .i64 s.to) := fun n x => (seg_cells ((H1.out.2.1.drewN n).near x)).2.1
                  have t2 : ∀ n (x : Near (wc.drewN n)), x.v.cell? ⟨sb, 2, none⟩ = some (.int .u32 s.sq) := fun n x => sq_cell ((H1.out.2.1.drewN n).near x)
                  have t3 : ∀ n (x : Near (wc.drewN n)), x.v.cell? ⟨sb, 3, none⟩ = some (.int .u32 s.ak) := fun n x => ak_cell ((H1.out.2.1.drewN n).near x)
                  have t4 : ∀ n (x : Near (wc.drewN n)), x.v.cell? ⟨sb, 4, none⟩ = some (.int .i64 s.fl) := fun n x => (seg_cells ((H1.out.2.1.drewN n).near x)).2.2.1
                  have t5 : ∀ n (x : Near (wc.drewN n)), x.v.cell? ⟨sb, 5, none⟩ = some (.int .i64 s.wnd) := fun n x => wnd_cell ((H1.out.2.1.drewN n).near x)
                  have t6 : ∀ n (x : Near (wc.drewN n)), x.v.cell? ⟨sb, 6, none⟩ = some (.int .i64 s.mss) := fun n x => (seg_cells ((H1.out.2.1.drewN n).near x)).2.2.2.1
                  have t7 : ∀ n (x : Near (wc.drewN n)), x.v.cell? ⟨sb, 7, none⟩ = some (.bool s.sacks) := fun n x => (seg_cells ((H1.out.2.1.drewN n).near x)).2.2.2.2.1
                  have t8 : ∀ n (x : Near (wc.drewN n)), x.v.cell? ⟨sb, 8, none⟩ = some (.slice s.ga s.gn s.gc) := fun n x => (seg_cells ((H1.out.2.1.drewN n).near x)).2.2.2.2.2.1
                  have t9 : ∀ n (x : Near (wc.drewN n)), x.v.cell? ⟨sb, 9, none⟩ = some (.slice s.da s.dn s.dc) := fun n x => (seg_cells ((H1.out.2.1.drewN n).near x)).2.2.2.2.2.2
                  clear k0 k2 k3 s2 s3 s5 hz
                  refine wp_region_near_tail 30 (by kernel_rfl) (by kernel_rfl) ?_
                  simp only [List.take_succ_cons, List.take_zero, List.drop_succ_cons, List.drop_zero]
                  repeat (go_big_quiet_step ((go_at_call 33; exact near_call _ (size_any _ s hs))))
                  refine wpQuiet_nil ?_
                  intro x
                  have k35 := ((H1.out.1.drN _).near x).c35
                  have hz := fun o => Blk.fz ((H1.out.1.drN _).near x) o
                  clear f2 f3 f5 t0 t1 t2 t3 t4 t5 t6 t7 t8 t9
                  go_wp2
                  go_meet
                  rw [HF.out]
                  exact ⟨((H1.out.1.drN _).near x).set_again _, ((H1.out.2.1.drewN _).near x).set_ne hn1 _, ((H1.out.2.2.drN).trans (only_to (b := b) x.h)).stb⟩
              · as_aux_lemma =>
                  have HF := Lib.hid (show ackV1 c s v = { v with again := true } by simp [ackV1, G0.out, q1, q2, q3])
                  go_wp2
                  go_quiet ((go_at_call 32; exact quiet_add_left (diff_any _ _ _)))
                  go_upto_region 14 with fail
                  have f2 : ∀ n (x : Near (wc.drewN n)), x.v.cell? ⟨b, 2, none⟩ = some (.int .u32 c.una) := fun n x => ((H1.out.1.drN n).near x).c2
                  have f3 : ∀ n (x : Near (wc.drewN n)), x.v.cell? ⟨b, 3, none⟩ = some (.int .u32 c.nxt) := fun n x => ((H1.out.1.drN n).near x).c3
                  have f5 : ∀ n (x : Near (wc.drewN n)), x.v.cell? ⟨b, 5, none⟩ = some (.int .i64 c.wnd) := fun n x => ((H1.out.1.drN n).near x).c5
                  have t0 : ∀ n (x : Near (wc.drewN n)), x.v.cell? ⟨sb, 0, none⟩ = some (.int .i64 s.fr) := fun n x => (seg_cells ((H1.out.2.1.drewN n).near x)).1
                  have t1 : ∀ n (x : Near (wc.drewN n)), x.v.cell? ⟨sb, 1, none⟩ = some (.int .i64 s.to) := fun n x => (seg_cells ((H1.out.2.1.drewN n).near x)).2.1
                  have t2 : ∀ n (x : Near (wc.drewN n)), x.v.cell? ⟨sb, 2, none⟩ = some (.int .u32 s.sq) := fun n x => sq_cell ((H1.out.2.1.drewN n).near x)
                  have t3 : ∀ n (x : Near (wc.drewN n)), x.v.cell? ⟨sb, 3, none⟩ = some (.int .u32 s.ak) := fun n x => ak_cell ((H1.out.2.1.drewN n).near x)
                  have t4 : ∀ n (x : Near (wc.drewN n)), x.v.cell? ⟨sb, 4, none⟩ = some (.int .i64 s.fl) := fun n x => (seg_cells ((H1.out.2.1.drewN n).near x)).2.2.1
                  have t5 : ∀ n (x : Near (wc.drewN n)), x.v.cell? ⟨sb, 5, none⟩ = some (.int .i64 s.wnd) := fun n x => wnd_cell ((H1.out.2.1.drewN n).near x)
                  have t6 : ∀ n (x : Near (wc.drewN n)), x.v.cell? ⟨sb, 6, none⟩ = some (.int .i64 s.mss) := fun n x => (seg_cells ((H1.out.2.1.drewN n).near x)).2.2.2.1
                  have t7 : ∀ n (x : Near (wc.drewN n)), x.v.cell? ⟨sb, 7, none⟩ = some (.bool s.sacks) := fun n x => (seg_cells ((H1.out.2.1.drewN n).near x)).2.2.2.2.1
                  have t8 : ∀ n (x : Near (wc.drewN n)), x.v.cell? ⟨sb, 8, none⟩ = some (.slice s.ga s.gn s.gc) := fun n x => (seg_cells ((H1.out.2.1.drewN n).near x)).2.2.2.2.2.1
                  have t9 : ∀ n (x : Near (wc.drewN n)), x.v.cell? ⟨sb, 9, none⟩ = some (.slice s.da s.dn s.dc) := fun n x => (seg_cells ((H1.out.2.1.drewN n).near x)).2.2.2.2.2.2
                  clear k0 k2 k3 s2 s3 s5 hz
                  refine wp_region_near_tail 30 (by kernel_rfl) (by kernel_rfl) ?_
                  simp only [List.take_succ_cons, List.take_zero, List.drop_succ_cons, List.drop_zero]
                  repeat (go_big_quiet_step ((go_at_call 33; exact near_call _ (size_any _ s hs))))
                  refine wpQuiet_nil ?_
                  intro x
                  have k35 := ((H1.out.1.drN _).near x).c35
                  have hz := fun o => Blk.fz ((H1.out.1.drN _).near x) o
                  clear f2 f3 f5 t0 t1 t2 t3 t4 t5 t6 t7 t8 t9
                  go_wp2
                  go_meet
                  rw [HF.out]
                  exact ⟨((H1.out.1.drN _).near x).set_again _, ((H1.out.2.1.drewN _).near x).set_ne hn1 _, ((H1.out.2.2.drN).trans (only_to (b := b) x.h)).stb⟩
        · as_aux_lemma =>
            have HF := Lib.hid (show ackV1 c s v = v by simp [ackV1, g0, g1])
            have g0b : (df s.ak c.una == 0) = false := by simp [g0]
            clear g0
            go_wp2
            go_quiet ((go_at_call 32; exact quiet_add_left (diff_any _ _ _)))
            go_wp2
            go_meet
            rw [HF.out]
            exact ⟨H1.out.1.drN _, H1.out.2.1.drewN _, H1.out.2.2.drN⟩
    case rest =>
      obtain ⟨hJ1, hS1, hO1⟩ := hcut
      obtain ⟨v1, hv1⟩ : ∃ v1, v1 = ackV1 c s v := ⟨_, rfl⟩
      rw [← hv1] at hJ1
      have HV1 := Lib.hid hv1
      clear hv1
      have H2 := Lib.hid (And.intro hJ1 (And.intro hS1 hO1))
      have k4 := hJ1.c4
      have k6 := hJ1.c6
      have k7 := hJ1.c7
      have k23 := hJ1.c23
      have m2 := sq_cell hS1
      have m3 := ak_cell hS1
      clear k0 k2 k3 s2 s3 s5 hJ1 hS1 hO1 e1 e2 d0
      go_wp2
      go_quiet ((go_at_call 32; exact quiet_left (diff_any _ _ _)))
      go_upto_region 16 with fail
      go_cut [161] (fun t wx => t = .bool (newer c s v1) ∧ JAt wx b c s v1 ∧ Only (fun k => k = b) w wx)
      case first =>
        cases n1 : decide (0 ≤ df s.ak v1.next.una)
        · as_aux_lemma =>
            have HN := Lib.hid (show newer c s v1 = false by simp only [newer, n1, Bool.false_and])
            go_quiet ((go_at_call 32; exact quiet_add_left (diff_any _ _ _)))
            go_wp2
            go_meet
            exact ⟨by rw [HN.out], (H2.out.1.drN _).drN _, H2.out.2.2.drN.drN⟩
        · cases n2 : decide (0 < df s.sq c.wl1)
          · cases n3 : (s.sq == c.wl1)
            · as_aux_lemma =>
                have HN := Lib.hid (show newer c s v1 = false by simp only [newer, n1, n2, n3, Bool.false_and, Bool.true_and, Bool.false_or])
                go_quiet ((go_at_call 32; exact quiet_add_left (diff_any _ _ _)))
                go_wp2
                go_meet
                exact ⟨by rw [HN.out], (H2.out.1.drN _).drN _, H2.out.2.2.drN.drN⟩
            · cases n4 : decide (0 ≤ df s.ak c.wl2)
              all_goals
                have HN := Lib.hid (show newer c s v1 = _ by simp only [newer, n1, n2, n3, n4, Bool.true_and, Bool.false_or]; rfl)
                go_quiet ((go_at_call 32; exact quiet_add_left (diff_any _ _ _)))
                go_wp2
                go_meet
                exact ⟨by rw [HN.out], (H2.out.1.drN _).drN _, H2.out.2.2.drN.drN⟩
          · as_aux_lemma =>
              have HN := Lib.hid (show newer c s v1 = true by simp only [newer, n1, n2, Bool.true_and, Bool.true_or])
              go_quiet ((go_at_call 32; exact quiet_add_left (diff_any _ _ _)))
              go_wp2
              go_meet
              exact ⟨by rw [HN.out], (H2.out.1.drN _).drN _, H2.out.2.2.drN.drN⟩
      case rest =>
        obtain ⟨rfl, hJ2, hO2⟩ := hcut
        have H3 := Lib.hid (And.intro hJ2 hO2)
        clear hJ2 hO2 k4 k6 k7 k23 m2 m3 hz
        go_upto_if 161 with fail
        go_cut [] (fun wx => JAt wx b c s (ackV2 c s v1) ∧ Only (fun k => k = b) w wx)
        case first =>
          cases hn : newer c s v1
          · as_aux_lemma =>
              have HV := Lib.hid (show ackV2 c s v1 = v1 by simp [ackV2, hn])
              go_wp2
              go_meet
              rw [HV.out]
              exact H3.out
          · as_aux_lemma =>
              have HV := Lib.hid (show ackV2 c s v1 = { v1 with next := { v1.next with wnd := s.wnd, wl1 := s.sq, wl2 := s.ak } } by simp [ackV2, hn])
              go_wp2_with fail
              refine (lets_any H3.out.1).mono ?_
              rintro e w3 ⟨rfl, hJ3, hO3⟩
              have H4 := Lib.hid (And.intro hJ3 hO3)
              clear hJ3 hO3
              go_wp2
              go_meet
              rw [HV.out]
              exact ⟨H4.out.1, H3.out.2.trans H4.out.2⟩
        case rest =>
          obtain ⟨hJ3, hO3⟩ := hcut
          obtain ⟨v2, hv2⟩ : ∃ v2, v2 = ackV2 c s v1 := ⟨_, rfl⟩
          rw [← hv2] at hJ3
          have HV : Hid (ackF3 c (ackV2 c s (ackV1 c s v)) = ackF3 c v2) := by show _ = _; rw [← HV1.out, ← hv2]
          clear hv2
          have H4 := Lib.hid (And.intro hJ3 hO3)
          have k0 := hJ3.c0
          have k3 := hJ3.c3
          have k4 := hJ3.c4
          have k21 := hJ3.c21
          have k23 := hJ3.c23
          have k33 := hJ3.c33
          have hz := fun o => Blk.fz hJ3 o
          clear hJ3 hO3
          cases f1 : c.fs
          · as_aux_lemma =>
              have HF := Lib.hid (show ackF3 c v2 = (0, v2) by simp [ackF3, f1])
              rw [f1] at k4
              clear f1
              go_wp2
              go_quiet (fail)
              go_wp2
              go_ret
              exact Step.of (HV.out.trans HF.out) (H4.out.1.drN _) H4.out.2.drN
          · rw [f1] at k4
            cases f2 : (v2.next.una != c.nxt)
            · by_cases c4 : c.st = 4
              · as_aux_lemma =>
                  have HF := Lib.hid (show ackF3 c v2 = (0, { v2 with next := { v2.next with st := 5 } }) by simp [ackF3, f1, f2, c4])
                  rw [c4] at k0
                  clear f1 c4
                  go_wp2
                  go_quiet (fail)
                  go_wp2
                  go_ret
                  exact Step.of (HV.out.trans HF.out) (Blk.set (Blk.drewN H4.out.1 _) 21 (.int .i64 5)) H4.out.2.drN.stb
              · by_cases c7 : c.st = 7
                · as_aux_lemma =>
                    have HF := Lib.hid (show ackF3 c v2 = (0, { v2 with next := { v2.next with st := 9 } }) by simp [ackF3, f1, f2, c7])
                    rw [c7] at k0
                    clear f1 c4 c7
                    go_wp2
                    go_quiet (fail)
                    go_wp2
                    go_ret
                    exact Step.of (HV.out.trans HF.out) (Blk.set (Blk.drewN H4.out.1 _) 21 (.int .i64 9)) H4.out.2.drN.stb
                · by_cases c8 : c.st = 8
                  · as_aux_lemma =>
                      have HF := Lib.hid (show ackF3 c v2 = (1, { v2 with ended := 218 }) by simp [ackF3, f1, f2, c8])
                      rw [c8] at k0
                      clear f1 c4 c7 c8
                      go_wp2
                      go_quiet (fail)
                      go_wp2
                      go_ret
                      exact Step.of (HV.out.trans HF.out) (Blk.set (Blk.drewN H4.out.1 _) 33 (.int .i64 218)) H4.out.2.drN.stb
                  · as_aux_lemma =>
                      have HF := Lib.hid (show ackF3 c v2 = (0, v2) by simp [ackF3, f1, f2, c4, c7, c8])
                      have b4 : (c.st == 4) = false := by simp [c4]
                      have b7 : (c.st == 7) = false := by simp [c7]
                      have b8 : (c.st == 8) = false := by simp [c8]
                      clear f1 c4 c7 c8
                      go_wp2
                      go_quiet (fail)
                      go_wp2
                      go_ret
                      exact Step.of (HV.out.trans HF.out) (H4.out.1.drN _) H4.out.2.drN
            · as_aux_lemma =>
                have HF := Lib.hid (show ackF3 c v2 = (0, v2) by simp [ackF3, f1, f2])
                clear f1
                go_wp2
                go_quiet (fail)
                go_wp2
                go_ret
                exact Step.of (HV.out.trans HF.out) (H4.out.1.drN _) H4.out.2.drN

end
end Go.Proofs.Ytpodmpidelifeaa
