/-
  What Judge answers, for every input.
-/
import Derived.Test.YtpodmpidelifeaaCoreJudge
namespace Go.Proofs.Ytpodmpidelifeaa
open Go.RowKit
set_option maxRecDepth 100000
set_option maxHeartbeats 4000000

section
variable {c : Ctl} {s : Seg} {v : Vd} {w : World}

theorem judge_chain (w : World) (hs : s.dn ≤ 140737488351232) (h1 : ¬ c.st = 1) : Calls Try.prog 10 #[.agg c.cs.toArray, .agg s.cs.toArray] w fun e w' => e = .returned (.agg (judgeF c s).cs.toArray) ∧ Only (fun _ => False) w w' := by
  have d0 : (c.st == 1) = false := by simp [h1]
  have HJ := Lib.hid (show judgeF c s = runF (stepsF c s) (v0 c) by unfold judgeF; rw [if_neg h1])
  clear h1
  obtain ⟨vj, hvj⟩ : ∃ vj, vj = judgeF c s := ⟨_, rfl⟩
  rw [← hvj] at HJ ⊢
  clear hvj
  go_enter Try.func10, Try.ntmps10
  go_wp2
  refine wp_loop_rounds 5 ?_
  rw [rounds_succ]
  obtain ⟨n1, v1, hr1, h01, ht1⟩ := fits_01 (c := c) (s := s) (v := (v0 c))
  have HR1 := Lib.hid hr1
  have HT1 : Hid (v1.take = 0) := ht1
  clear hr1 ht1
  rcases h01 with rfl | rfl
  rotate_left
  · as_aux_lemma =>
      go_wp2_with fail
      refine (step_lit (fits_any (b := w.heap.size + 1 + 1 + 1) (c := c) (s := s) (v := (v0 c)) ?_ hs) HR1.out).mono ?_
      · exact ((Blk.at_new (size3 _ _ _ _) rfl).alloc _)
      rintro e x ⟨rfl, hJ, hO⟩
      have hR := hO.blk (b := w.heap.size + 1 + 1) (c := z0.cs) (T := 33) (((Blk.at_new (size2 _ _ _) rfl).alloc _).alloc _) (by omega)
      have hV := hO.blk (b := w.heap.size + 1 + 1 + 1 + 1) (c := five (w.heap.size + 1 + 1 + 1)) (T := 52) (Blk.at_new (size4 _ _ _ _ _) rfl) (by omega)
      have hO' : Only (fun _ => False) w x := Only.step ((((((Only.refl _ w).alloc _).alloc _).alloc _).alloc _).alloc _) hO (by intro b hb; omega)
      have H1 := Lib.hid (And.intro hJ (And.intro hR (And.intro hV hO')))
      obtain rfl : v1 = vj := by rw [HJ.out]; simp [runF, stepsF, HR1.out]
      clear hJ hR hV hO hO'
      go_upto_region 10 with fail
      generalize hr : w.heap.size + 1 + 1 = r at H1 ⊢
      generalize hb : r + 1 = b at H1 ⊢
      have hrw : w.heap.size ≤ r := by omega
      clear hr hb
      go_wp2_with (first | (refine wpList_load_at (by rfl) 33 (.tmp 44) (by rfl) b 21 (by rfl) (Vd.cs v1) _ (jv_part H1.out.1) Try.underlying33 (by rfl) (vd_size v1) ?_) | (refine wpList_store_row (by rfl) 33 (.tmp 4) (.tmp 45) (by rfl) r (Vd.cs v1).toArray (by rfl) (by rfl) 33 z0.cs.toArray H1.out.2.1 (vd_size v1) (by rfl) (vd_one v1) ?_))
      refine bodyPost_ret (v := .agg (Vd.cs v1).toArray) ?_ rfl ⟨rfl, ?_⟩
      · exact results_cell_row (P := Try.prog) (fn := Try.f10) (p := 4) (ty := 33) Try.results10 _ _ r 33 (Vd.cs v1).toArray (0, 0) _ (by rfl) (setRow_heap _ _ _ _ _ _ H1.out.2.1) Try.underlying33 rfl (vd_size v1)
      · exact Only.step H1.out.2.2.2 (Only.row _ _ _) (by intro k hk; omega)
  go_wp2_with fail
  refine (step_lit (fits_any (b := w.heap.size + 1 + 1 + 1) (c := c) (s := s) (v := (v0 c)) ?_ hs) HR1.out).mono ?_
  · exact ((Blk.at_new (size3 _ _ _ _) rfl).alloc _)
  rintro e x ⟨rfl, hJ, hO⟩
  have hR := hO.blk (b := w.heap.size + 1 + 1) (c := z0.cs) (T := 33) (((Blk.at_new (size2 _ _ _) rfl).alloc _).alloc _) (by omega)
  have hV := hO.blk (b := w.heap.size + 1 + 1 + 1 + 1) (c := five (w.heap.size + 1 + 1 + 1)) (T := 52) (Blk.at_new (size4 _ _ _ _ _) rfl) (by omega)
  have hO' : Only (fun _ => False) w x := Only.step ((((((Only.refl _ w).alloc _).alloc _).alloc _).alloc _).alloc _) hO (by intro b hb; omega)
  have H1 := Lib.hid (And.intro hJ (And.intro hR (And.intro hV hO')))
  have g1 : x.cell? ⟨w.heap.size + 1 + 1 + 1 + 1, 1, none⟩ = some (.func (.func 23) #[.pointer (some ⟨w.heap.size + 1 + 1 + 1, 0, none⟩)] #[]) := five_cells hV 1
  clear hJ hR hV hO hO'
  go_wp2_with fail
  rw [rounds_succ]
  obtain ⟨n2, v2, hr2, h01, ht2⟩ := resets_01 (c := c) (s := s) (v := v1)
  have HR2 := Lib.hid hr2
  have HT2 : Hid (v2.take = 0) := ht2.trans HT1.out
  clear hr2 ht2
  rcases h01 with rfl | rfl
  rotate_left
  · as_aux_lemma =>
      go_wp2_with fail
      refine (step_lit (resets_any (b := w.heap.size + 1 + 1 + 1) (c := c) (s := s) (v := v1) H1.out.1 ) HR2.out).mono ?_
      rintro e x ⟨rfl, hJ, hO⟩
      have hR := hO.blk H1.out.2.1 (by omega)
      have hV := hO.blk H1.out.2.2.1 (by omega)
      have hO' : Only (fun _ => False) w x := Only.step H1.out.2.2.2 hO (by intro b hb; omega)
      clear g1
      have H2 := Lib.hid (And.intro hJ (And.intro hR (And.intro hV hO')))
      obtain rfl : v2 = vj := by rw [HJ.out]; simp [runF, stepsF, HR1.out, HR2.out]
      clear hJ hR hV hO hO'
      go_upto_region 10 with fail
      generalize hr : w.heap.size + 1 + 1 = r at H2 ⊢
      generalize hb : r + 1 = b at H2 ⊢
      have hrw : w.heap.size ≤ r := by omega
      clear hr hb
      go_wp2_with (first | (refine wpList_load_at (by rfl) 33 (.tmp 44) (by rfl) b 21 (by rfl) (Vd.cs v2) _ (jv_part H2.out.1) Try.underlying33 (by rfl) (vd_size v2) ?_) | (refine wpList_store_row (by rfl) 33 (.tmp 4) (.tmp 45) (by rfl) r (Vd.cs v2).toArray (by rfl) (by rfl) 33 z0.cs.toArray H2.out.2.1 (vd_size v2) (by rfl) (vd_one v2) ?_))
      refine bodyPost_ret (v := .agg (Vd.cs v2).toArray) ?_ rfl ⟨rfl, ?_⟩
      · exact results_cell_row (P := Try.prog) (fn := Try.f10) (p := 4) (ty := 33) Try.results10 _ _ r 33 (Vd.cs v2).toArray (0, 0) _ (by rfl) (setRow_heap _ _ _ _ _ _ H2.out.2.1) Try.underlying33 rfl (vd_size v2)
      · exact Only.step H2.out.2.2.2 (Only.row _ _ _) (by intro k hk; omega)
  go_wp2_with fail
  refine (step_lit (resets_any (b := w.heap.size + 1 + 1 + 1) (c := c) (s := s) (v := v1) H1.out.1 ) HR2.out).mono ?_
  rintro e x ⟨rfl, hJ, hO⟩
  have hR := hO.blk H1.out.2.1 (by omega)
  have hV := hO.blk H1.out.2.2.1 (by omega)
  have hO' : Only (fun _ => False) w x := Only.step H1.out.2.2.2 hO (by intro b hb; omega)
  clear g1
  have H2 := Lib.hid (And.intro hJ (And.intro hR (And.intro hV hO')))
  have g2 : x.cell? ⟨w.heap.size + 1 + 1 + 1 + 1, 2, none⟩ = some (.func (.func 24) #[.pointer (some ⟨w.heap.size + 1 + 1 + 1, 0, none⟩)] #[]) := five_cells hV 2
  clear hJ hR hV hO hO'
  go_wp2_with fail
  rw [rounds_succ]
  obtain ⟨n3, v3, hr3, h01, ht3⟩ := begins_01 (s := s) (v := v2)
  have HR3 := Lib.hid hr3
  have HT3 : Hid (v3.take = 0) := ht3.trans HT2.out
  clear hr3 ht3
  rcases h01 with rfl | rfl
  rotate_left
  · as_aux_lemma =>
      go_wp2_with fail
      refine (step_lit (begins_any (b := w.heap.size + 1 + 1 + 1) (c := c) (s := s) (v := v2) H2.out.1 ) HR3.out).mono ?_
      rintro e x ⟨rfl, hJ, hO⟩
      have hR := hO.blk H2.out.2.1 (by omega)
      have hV := hO.blk H2.out.2.2.1 (by omega)
      have hO' : Only (fun _ => False) w x := Only.step H2.out.2.2.2 hO (by intro b hb; omega)
      clear g2
      have H3 := Lib.hid (And.intro hJ (And.intro hR (And.intro hV hO')))
      obtain rfl : v3 = vj := by rw [HJ.out]; simp [runF, stepsF, HR1.out, HR2.out, HR3.out]
      clear hJ hR hV hO hO'
      go_upto_region 10 with fail
      generalize hr : w.heap.size + 1 + 1 = r at H3 ⊢
      generalize hb : r + 1 = b at H3 ⊢
      have hrw : w.heap.size ≤ r := by omega
      clear hr hb
      go_wp2_with (first | (refine wpList_load_at (by rfl) 33 (.tmp 44) (by rfl) b 21 (by rfl) (Vd.cs v3) _ (jv_part H3.out.1) Try.underlying33 (by rfl) (vd_size v3) ?_) | (refine wpList_store_row (by rfl) 33 (.tmp 4) (.tmp 45) (by rfl) r (Vd.cs v3).toArray (by rfl) (by rfl) 33 z0.cs.toArray H3.out.2.1 (vd_size v3) (by rfl) (vd_one v3) ?_))
      refine bodyPost_ret (v := .agg (Vd.cs v3).toArray) ?_ rfl ⟨rfl, ?_⟩
      · exact results_cell_row (P := Try.prog) (fn := Try.f10) (p := 4) (ty := 33) Try.results10 _ _ r 33 (Vd.cs v3).toArray (0, 0) _ (by rfl) (setRow_heap _ _ _ _ _ _ H3.out.2.1) Try.underlying33 rfl (vd_size v3)
      · exact Only.step H3.out.2.2.2 (Only.row _ _ _) (by intro k hk; omega)
  go_wp2_with fail
  refine (step_lit (begins_any (b := w.heap.size + 1 + 1 + 1) (c := c) (s := s) (v := v2) H2.out.1 ) HR3.out).mono ?_
  rintro e x ⟨rfl, hJ, hO⟩
  have hR := hO.blk H2.out.2.1 (by omega)
  have hV := hO.blk H2.out.2.2.1 (by omega)
  have hO' : Only (fun _ => False) w x := Only.step H2.out.2.2.2 hO (by intro b hb; omega)
  clear g2
  have H3 := Lib.hid (And.intro hJ (And.intro hR (And.intro hV hO')))
  have g3 : x.cell? ⟨w.heap.size + 1 + 1 + 1 + 1, 3, none⟩ = some (.func (.func 25) #[.pointer (some ⟨w.heap.size + 1 + 1 + 1, 0, none⟩)] #[]) := five_cells hV 3
  clear hJ hR hV hO hO'
  go_wp2_with fail
  rw [rounds_succ]
  obtain ⟨n4, v4, hr4, h01, ht4⟩ := acks_01 (c := c) (s := s) (v := v3)
  have HR4 := Lib.hid hr4
  have HT4 : Hid (v4.take = 0) := ht4.trans HT3.out
  clear hr4 ht4
  rcases h01 with rfl | rfl
  rotate_left
  · as_aux_lemma =>
      go_wp2_with fail
      refine (step_lit (acks_any (b := w.heap.size + 1 + 1 + 1) (c := c) (s := s) (v := v3) H3.out.1 hs) HR4.out).mono ?_
      rintro e x ⟨rfl, hJ, hO⟩
      have hR := hO.blk H3.out.2.1 (by omega)
      have hV := hO.blk H3.out.2.2.1 (by omega)
      have hO' : Only (fun _ => False) w x := Only.step H3.out.2.2.2 hO (by intro b hb; omega)
      clear g3
      have H4 := Lib.hid (And.intro hJ (And.intro hR (And.intro hV hO')))
      obtain rfl : v4 = vj := by rw [HJ.out]; simp [runF, stepsF, HR1.out, HR2.out, HR3.out, HR4.out]
      clear hJ hR hV hO hO'
      go_upto_region 10 with fail
      generalize hr : w.heap.size + 1 + 1 = r at H4 ⊢
      generalize hb : r + 1 = b at H4 ⊢
      have hrw : w.heap.size ≤ r := by omega
      clear hr hb
      go_wp2_with (first | (refine wpList_load_at (by rfl) 33 (.tmp 44) (by rfl) b 21 (by rfl) (Vd.cs v4) _ (jv_part H4.out.1) Try.underlying33 (by rfl) (vd_size v4) ?_) | (refine wpList_store_row (by rfl) 33 (.tmp 4) (.tmp 45) (by rfl) r (Vd.cs v4).toArray (by rfl) (by rfl) 33 z0.cs.toArray H4.out.2.1 (vd_size v4) (by rfl) (vd_one v4) ?_))
      refine bodyPost_ret (v := .agg (Vd.cs v4).toArray) ?_ rfl ⟨rfl, ?_⟩
      · exact results_cell_row (P := Try.prog) (fn := Try.f10) (p := 4) (ty := 33) Try.results10 _ _ r 33 (Vd.cs v4).toArray (0, 0) _ (by rfl) (setRow_heap _ _ _ _ _ _ H4.out.2.1) Try.underlying33 rfl (vd_size v4)
      · exact Only.step H4.out.2.2.2 (Only.row _ _ _) (by intro k hk; omega)
  go_wp2_with fail
  refine (step_lit (acks_any (b := w.heap.size + 1 + 1 + 1) (c := c) (s := s) (v := v3) H3.out.1 hs) HR4.out).mono ?_
  rintro e x ⟨rfl, hJ, hO⟩
  have hR := hO.blk H3.out.2.1 (by omega)
  have hV := hO.blk H3.out.2.2.1 (by omega)
  have hO' : Only (fun _ => False) w x := Only.step H3.out.2.2.2 hO (by intro b hb; omega)
  clear g3
  have H4 := Lib.hid (And.intro hJ (And.intro hR (And.intro hV hO')))
  have g4 : x.cell? ⟨w.heap.size + 1 + 1 + 1 + 1, 4, none⟩ = some (.func (.func 26) #[.pointer (some ⟨w.heap.size + 1 + 1 + 1, 0, none⟩)] #[]) := five_cells hV 4
  clear hJ hR hV hO hO'
  go_wp2_with fail
  rw [rounds_succ]
  obtain ⟨v5, hr5⟩ := takes_1 (c := c) (s := s) (v := v4)
  have HR5 := Lib.hid hr5
  clear hr5
  go_wp2_with fail
  refine (step_lit (takes_any (b := w.heap.size + 1 + 1 + 1) (c := c) (s := s) (v := v4) H4.out.1 hs HT4.out) HR5.out).mono ?_
  rintro e x ⟨rfl, hJ, hO⟩
  have hR := hO.blk H4.out.2.1 (by omega)
  have hV := hO.blk H4.out.2.2.1 (by omega)
  have hO' : Only (fun _ => False) w x := Only.step H4.out.2.2.2 hO (by intro b hb; omega)
  clear g4
  have H5 := Lib.hid (And.intro hJ (And.intro hR (And.intro hV hO')))
  obtain rfl : v5 = vj := by rw [HJ.out]; simp [runF, stepsF, HR1.out, HR2.out, HR3.out, HR4.out, HR5.out]
  clear hJ hR hV hO hO'
  go_upto_region 10 with fail
  generalize hr : w.heap.size + 1 + 1 = r at H5 ⊢
  generalize hb : r + 1 = b at H5 ⊢
  have hrw : w.heap.size ≤ r := by omega
  clear hr hb
  go_wp2_with (first | (refine wpList_load_at (by rfl) 33 (.tmp 44) (by rfl) b 21 (by rfl) (Vd.cs v5) _ (jv_part H5.out.1) Try.underlying33 (by rfl) (vd_size v5) ?_) | (refine wpList_store_row (by rfl) 33 (.tmp 4) (.tmp 45) (by rfl) r (Vd.cs v5).toArray (by rfl) (by rfl) 33 z0.cs.toArray H5.out.2.1 (vd_size v5) (by rfl) (vd_one v5) ?_))
  refine bodyPost_ret (v := .agg (Vd.cs v5).toArray) ?_ rfl ⟨rfl, ?_⟩
  · exact results_cell_row (P := Try.prog) (fn := Try.f10) (p := 4) (ty := 33) Try.results10 _ _ r 33 (Vd.cs v5).toArray (0, 0) _ (by rfl) (setRow_heap _ _ _ _ _ _ H5.out.2.1) Try.underlying33 rfl (vd_size v5)
  · exact Only.step H5.out.2.2.2 (Only.row _ _ _) (by intro k hk; omega)

theorem judge_any (w : World) (c : Ctl) (s : Seg) (hs : s.dn ≤ 140737488351232) : Calls Try.prog 10 #[.agg c.cs.toArray, .agg s.cs.toArray] w fun e w' => e = .returned (.agg (judgeF c s).cs.toArray) ∧ Only (fun _ => False) w w' := by
  by_cases h1 : c.st = 1
  · exact judge_first w h1
  · exact judge_chain w hs h1
end
end Go.Proofs.Ytpodmpidelifeaa
