/-
  What the document's own functions of this layer answer, for every input.
-/
import Derived.Test.YtpodmpidelifeaaCoreSmall
namespace Go.Proofs.Ytpodmpidelifeaa
open Go.RowKit
set_option maxRecDepth 100000
set_option maxHeartbeats 2000000

theorem tm_of (x n : Int) (hn : 0 < n) : ∃ q, x = n * q + x.tmod n ∧ -n < x.tmod n ∧ x.tmod n < n := by
  refine ⟨x.tdiv n, (Int.mul_tdiv_add_tmod x n).symm, ?_, Int.tmod_lt_of_pos x hn⟩
  have := Int.lt_tmod_of_pos x hn
  omega
theorem low32 (fl : Int) : ∃ n : Nat, fl % 32 = (n : Int) ∧ n < 32 := ⟨(fl % 32).toNat, by omega, by omega⟩

theorem hb_1 (fl : Int) : hb fl 1 = decide (1 ≤ fl % 2) := by
  unfold hb
  have h := and32 fl 1 (by decide)
  have e : ((1 : Nat) : Int) = 1 := rfl
  rw [e] at h
  rw [h]
  obtain ⟨n, hn, hl⟩ := low32 fl
  have h2 : fl % 2 = (n : Int) % 2 := by omega
  rw [hn, h2]
  have : ∀ m : Fin 32, (bits .and .i64 (m.val : Int) 1 != 0) = decide (1 ≤ (m.val : Int) % 2) := by decide
  exact this ⟨n, hl⟩
theorem rb_1 (fl : Int) : decide (1 ≤ (wrap64 (fl.tmod 2 + 2)).tmod 2) = hb fl 1 := by
  rw [hb_1]
  obtain ⟨q, h1, h2, h3⟩ := tm_of fl 2 (by decide)
  have e : wrap64 (fl.tmod 2 + 2) = fl.tmod 2 + 2 := by unfold wrap64; omega
  rw [e]
  obtain ⟨q2, g1, g2, g3⟩ := tm_of (fl.tmod 2 + 2) 2 (by decide)
  have g4 : 0 ≤ (fl.tmod 2 + 2).tmod 2 := Int.tmod_nonneg _ (by omega)
  have : (fl.tmod 2 + 2).tmod 2 = fl % 2 := by omega
  rw [this]

theorem hb_2 (fl : Int) : hb fl 2 = decide (2 ≤ fl % 4) := by
  unfold hb
  have h := and32 fl 2 (by decide)
  have e : ((2 : Nat) : Int) = 2 := rfl
  rw [e] at h
  rw [h]
  obtain ⟨n, hn, hl⟩ := low32 fl
  have h2 : fl % 4 = (n : Int) % 4 := by omega
  rw [hn, h2]
  have : ∀ m : Fin 32, (bits .and .i64 (m.val : Int) 2 != 0) = decide (2 ≤ (m.val : Int) % 4) := by decide
  exact this ⟨n, hl⟩
theorem rb_2 (fl : Int) : decide (2 ≤ (wrap64 (fl.tmod 4 + 4)).tmod 4) = hb fl 2 := by
  rw [hb_2]
  obtain ⟨q, h1, h2, h3⟩ := tm_of fl 4 (by decide)
  have e : wrap64 (fl.tmod 4 + 4) = fl.tmod 4 + 4 := by unfold wrap64; omega
  rw [e]
  obtain ⟨q2, g1, g2, g3⟩ := tm_of (fl.tmod 4 + 4) 4 (by decide)
  have g4 : 0 ≤ (fl.tmod 4 + 4).tmod 4 := Int.tmod_nonneg _ (by omega)
  have : (fl.tmod 4 + 4).tmod 4 = fl % 4 := by omega
  rw [this]

theorem hb_4 (fl : Int) : hb fl 4 = decide (4 ≤ fl % 8) := by
  unfold hb
  have h := and32 fl 4 (by decide)
  have e : ((4 : Nat) : Int) = 4 := rfl
  rw [e] at h
  rw [h]
  obtain ⟨n, hn, hl⟩ := low32 fl
  have h2 : fl % 8 = (n : Int) % 8 := by omega
  rw [hn, h2]
  have : ∀ m : Fin 32, (bits .and .i64 (m.val : Int) 4 != 0) = decide (4 ≤ (m.val : Int) % 8) := by decide
  exact this ⟨n, hl⟩
theorem rb_4 (fl : Int) : decide (4 ≤ (wrap64 (fl.tmod 8 + 8)).tmod 8) = hb fl 4 := by
  rw [hb_4]
  obtain ⟨q, h1, h2, h3⟩ := tm_of fl 8 (by decide)
  have e : wrap64 (fl.tmod 8 + 8) = fl.tmod 8 + 8 := by unfold wrap64; omega
  rw [e]
  obtain ⟨q2, g1, g2, g3⟩ := tm_of (fl.tmod 8 + 8) 8 (by decide)
  have g4 : 0 ≤ (fl.tmod 8 + 8).tmod 8 := Int.tmod_nonneg _ (by omega)
  have : (fl.tmod 8 + 8).tmod 8 = fl % 8 := by omega
  rw [this]

theorem hb_16 (fl : Int) : hb fl 16 = decide (16 ≤ fl % 32) := by
  unfold hb
  have h := and32 fl 16 (by decide)
  have e : ((16 : Nat) : Int) = 16 := rfl
  rw [e] at h
  rw [h]
  obtain ⟨n, hn, hl⟩ := low32 fl
  rw [hn]
  have e32 : (n : Int) % 32 = n := by omega
  have : ∀ m : Fin 32, (bits .and .i64 (m.val : Int) 16 != 0) = decide (16 ≤ (m.val : Int) % 32) := by decide
  have t := this ⟨n, hl⟩
  simp only [e32] at t
  exact t
theorem rb_16 (fl : Int) : decide (16 ≤ (wrap64 (fl.tmod 32 + 32)).tmod 32) = hb fl 16 := by
  rw [hb_16]
  obtain ⟨q, h1, h2, h3⟩ := tm_of fl 32 (by decide)
  have e : wrap64 (fl.tmod 32 + 32) = fl.tmod 32 + 32 := by unfold wrap64; omega
  rw [e]
  obtain ⟨q2, g1, g2, g3⟩ := tm_of (fl.tmod 32 + 32) 32 (by decide)
  have g4 : 0 ≤ (fl.tmod 32 + 32).tmod 32 := Int.tmod_nonneg _ (by omega)
  have : (fl.tmod 32 + 32).tmod 32 = fl % 32 := by omega
  rw [this]

theorem ret_bool {a b : Bool} (h : a = b) : Ending.returned (.bool a) = .returned (.bool b) := by rw [h]
section
variable {w : World} {c : Ctl} {s : Seg}

theorem rhas_1 (w : World) (s : Seg) : Calls Try.prog 30 #[.agg s.cs.toArray, .int .i64 1] w fun e w' => e = .returned (.bool (hb s.fl 1)) ∧ Only (fun _ => False) w w' := by
  go_enter Try.func30, Try.ntmps30
  go_wp2
  go_ret
  exact ⟨ret_bool (rb_1 _), (Only.refl _ _).alloc _⟩

theorem rhas_2 (w : World) (s : Seg) : Calls Try.prog 30 #[.agg s.cs.toArray, .int .i64 2] w fun e w' => e = .returned (.bool (hb s.fl 2)) ∧ Only (fun _ => False) w w' := by
  go_enter Try.func30, Try.ntmps30
  go_wp2
  go_ret
  exact ⟨ret_bool (rb_2 _), (Only.refl _ _).alloc _⟩

theorem rhas_4 (w : World) (s : Seg) : Calls Try.prog 30 #[.agg s.cs.toArray, .int .i64 4] w fun e w' => e = .returned (.bool (hb s.fl 4)) ∧ Only (fun _ => False) w w' := by
  go_enter Try.func30, Try.ntmps30
  go_wp2
  go_ret
  exact ⟨ret_bool (rb_4 _), (Only.refl _ _).alloc _⟩

theorem rhas_16 (w : World) (s : Seg) : Calls Try.prog 30 #[.agg s.cs.toArray, .int .i64 16] w fun e w' => e = .returned (.bool (hb s.fl 16)) ∧ Only (fun _ => False) w w' := by
  go_enter Try.func30, Try.ntmps30
  go_wp2
  go_ret
  exact ⟨ret_bool (rb_16 _), (Only.refl _ _).alloc _⟩

theorem rHas_1 (w : World) (s : Seg) : Calls Try.prog 28 #[.agg s.cs.toArray, .int .i64 1] w fun e w' => e = .returned (.bool (hb s.fl 1)) ∧ Only (fun _ => False) w w' := by
  go_enter Try.func28, Try.ntmps28
  go_wp2
  go_ret
  exact ⟨ret_bool (rb_1 _), (Only.refl _ _).alloc _⟩

theorem rHas_2 (w : World) (s : Seg) : Calls Try.prog 28 #[.agg s.cs.toArray, .int .i64 2] w fun e w' => e = .returned (.bool (hb s.fl 2)) ∧ Only (fun _ => False) w w' := by
  go_enter Try.func28, Try.ntmps28
  go_wp2
  go_ret
  exact ⟨ret_bool (rb_2 _), (Only.refl _ _).alloc _⟩

theorem rHas_4 (w : World) (s : Seg) : Calls Try.prog 28 #[.agg s.cs.toArray, .int .i64 4] w fun e w' => e = .returned (.bool (hb s.fl 4)) ∧ Only (fun _ => False) w w' := by
  go_enter Try.func28, Try.ntmps28
  go_wp2
  go_ret
  exact ⟨ret_bool (rb_4 _), (Only.refl _ _).alloc _⟩

theorem rHas_16 (w : World) (s : Seg) : Calls Try.prog 28 #[.agg s.cs.toArray, .int .i64 16] w fun e w' => e = .returned (.bool (hb s.fl 16)) ∧ Only (fun _ => False) w w' := by
  go_enter Try.func28, Try.ntmps28
  go_wp2
  go_ret
  exact ⟨ret_bool (rb_16 _), (Only.refl _ _).alloc _⟩

theorem rfirst_any (w : World) (a : Int) : Calls Try.prog 31 #[.int .i64 a] w fun e w' => e = .returned (.int .u32 (ft a)) ∧ w = w' := by
  have H := Lib.hid (tm_of a 1048576 (by decide))
  go_enter Try.func31, Try.ntmps31
  go_wp2
  all_goals
    go_ret
    obtain ⟨q, h1, h2, h3⟩ := H.out
    refine ⟨ret_int ?_, rfl⟩
    unfold ft wrap64
    omega
theorem rdiff_any (w : World) (a b : Int) (ha : 0 ≤ a ∧ a < 4294967296) (hb : 0 ≤ b ∧ b < 4294967296) : Calls Try.prog 9 #[.int .u32 a, .int .u32 b] w fun e w' => e = .returned (.int .i64 (df a b)) ∧ w = w' := by
  go_enter Try.func9, Try.ntmps9
  go_wp2
  all_goals
    go_ret
    refine ⟨ret_int ?_, rfl⟩
    unfold df wrap64 wrap32
    omega
theorem rwithin_any (w : World) (a b m : Int) (ha : 0 ≤ a ∧ a < 4294967296) (hb : 0 ≤ b ∧ b < 4294967296) : Calls Try.prog 12 #[.int .u32 a, .int .u32 b, .int .i64 m] w fun e w' => e = .returned (.bool (decide (up a b < m))) ∧ w = w' := by
  go_enter Try.func12, Try.ntmps12
  go_wp2
  go_ret
  refine ⟨ret_bool ?_, rfl⟩
  unfold up
  rfl
theorem ractive_any (w : World) (a : Int) : Calls Try.prog 18 #[.int .i64 a] w fun e w' => e = .returned (.agg (activeF a).cs.toArray) ∧ Only (fun _ => False) w w' := by
  go_enter Try.func18, Try.ntmps18
  go_wp2_with (go_at_call 31; refine (rfirst_any _ _).mono ?_; rintro e w' ⟨rfl, rfl⟩)
  exact bodyPost_ret (v := .agg (activeF a).cs.toArray) (by simp [results, Try.results18, go_sem, activeF]) rfl ⟨rfl, (Only.refl _ _).alloc _⟩
theorem seg_all {sb : Nat} {T : TypeId} (h : Blk w sb s.cs T) : w.cell? ⟨sb, 0, none⟩ = some (.int .i64 s.fr) ∧
    w.cell? ⟨sb, 1, none⟩ = some (.int .i64 s.to) ∧
    w.cell? ⟨sb, 2, none⟩ = some (.int .u32 s.sq) ∧
    w.cell? ⟨sb, 3, none⟩ = some (.int .u32 s.ak) ∧
    w.cell? ⟨sb, 4, none⟩ = some (.int .i64 s.fl) ∧
    w.cell? ⟨sb, 5, none⟩ = some (.int .i64 s.wnd) ∧
    w.cell? ⟨sb, 6, none⟩ = some (.int .i64 s.mss) ∧
    w.cell? ⟨sb, 7, none⟩ = some (.bool s.sacks) ∧
    w.cell? ⟨sb, 8, none⟩ = some (.slice s.ga s.gn s.gc) ∧
    w.cell? ⟨sb, 9, none⟩ = some (.slice s.da s.dn s.dc) := by
  refine ⟨?_, ?_, ?_, ?_, ?_, ?_, ?_, ?_, ?_, ?_⟩ <;> (rw [Blk.cell h]; rfl)
theorem asks_eq (s : Seg) : asks s = (hb s.fl 2 && !hb s.fl 16 && !hb s.fl 4 && !hb s.fl 1) := by
  unfold asks hb
  have h23 := and32 s.fl 23 (by decide)
  have h2 := and32 s.fl 2 (by decide)
  have h16 := and32 s.fl 16 (by decide)
  have h4 := and32 s.fl 4 (by decide)
  have h1 := and32 s.fl 1 (by decide)
  have e23 : ((23 : Nat) : Int) = 23 := rfl
  have e2 : ((2 : Nat) : Int) = 2 := rfl
  have e16 : ((16 : Nat) : Int) = 16 := rfl
  have e4 : ((4 : Nat) : Int) = 4 := rfl
  have e1 : ((1 : Nat) : Int) = 1 := rfl
  rw [e23] at h23; rw [e2] at h2; rw [e16] at h16; rw [e4] at h4; rw [e1] at h1
  rw [h23, h2, h16, h4, h1]
  obtain ⟨n, hn, hl⟩ := low32 s.fl
  rw [hn]
  have : ∀ m : Fin 32, (bits .and .i64 (m.val : Int) 23 == 2) = ((bits .and .i64 (m.val : Int) 2 != 0) && !(bits .and .i64 (m.val : Int) 16 != 0) && !(bits .and .i64 (m.val : Int) 4 != 0) && !(bits .and .i64 (m.val : Int) 1 != 0)) := by decide
  exact this ⟨n, hl⟩

theorem rsize_any (w : World) (s : Seg) (hs : s.dn ≤ 140737488351232) : Calls Try.prog 11 #[.agg s.cs.toArray] w fun e w' => e = .returned (.int .i64 (sz s)) ∧ Only (fun _ => False) w w' := by
  have hfb : fb s.fl = if hb s.fl 1 then 1 else 0 := by
    have h := and32 s.fl 1 (by decide)
    have e1 : ((1 : Nat) : Int) = 1 := rfl
    rw [e1] at h
    unfold fb hb
    rw [h]
    obtain ⟨n, hn, hl⟩ := low32 s.fl
    rw [hn]
    have : ∀ m : Fin 32, bits .and .i64 (m.val : Int) 1 = if bits .and .i64 (m.val : Int) 1 != 0 then 1 else 0 := by decide
    exact this ⟨n, hl⟩
  cases a2 : hb s.fl 2 <;> cases a1 : hb s.fl 1
  all_goals
    have HS := Lib.hid (show sz s = s.dn + (if hb s.fl 1 then 1 else 0) + (if hb s.fl 2 then 1 else 0) by unfold sz; rw [hfb])
    rw [a1, a2] at HS
    have h1 : ∀ w, Calls Try.prog 28 #[.agg s.cs.toArray, .int .i64 1] w fun e w' => e = .returned (.bool _) ∧ Only (fun _ => False) w w' := fun w => a1 ▸ rHas_1 w s
    have h2 : ∀ w, Calls Try.prog 28 #[.agg s.cs.toArray, .int .i64 2] w fun e w' => e = .returned (.bool _) ∧ Only (fun _ => False) w w' := fun w => a2 ▸ rHas_2 w s
    clear a1 a2 hfb
    go_enter Try.func11, Try.ntmps11
    go_wp2_with fail
    refine (h2 _).mono ?_
    rintro e w1 ⟨rfl, hO⟩
    have hS : Blk w1 w.heap.size s.cs 28 := hO.blk (Blk.new w s.cs _) id
    obtain ⟨k0, k1, k2, k3, k4, k5, k6, k7, k8, k9⟩ := seg_all hS
    have hO1 := Lib.hid (((Only.refl (fun _ => False) w).alloc (.cells s.cs.toArray 28)).trans hO)
    clear hO hS
    go_wp2_with fail
    refine (h1 _).mono ?_
    rintro e w2 ⟨rfl, hO⟩
    have hO2 := Lib.hid (hO1.out.trans hO)
    clear hO k0 k1 k2 k3 k4 k5 k6 k7 k8 k9
    go_wp2
    go_ret
    exact ⟨ret_int (by rw [HS.out]; simp; try omega), hO2.out⟩
theorem rpassive_any (w : World) (s : Seg) (now : Int) : Calls Try.prog 15 #[.agg s.cs.toArray, .int .i64 now] w fun e w' => e = .returned (if asks s then .tuple #[.agg (passF s now).cs.toArray, .int .i64 0] else .tuple #[.agg zc.cs.toArray, .int .i64 1]) ∧ Only (fun _ => False) w w' := by
  rw [asks_eq]
  cases a2 : hb s.fl 2 <;> cases a16 : hb s.fl 16 <;> cases a4 : hb s.fl 4 <;> cases a1 : hb s.fl 1
  all_goals
    simp only [Bool.not_false, Bool.not_true, Bool.and_true, Bool.and_false, Bool.false_and, Bool.true_and, Bool.false_eq_true, if_false, if_true]
    have g2 : ∀ w, Calls Try.prog 30 #[.agg s.cs.toArray, .int .i64 2] w fun e w' => e = .returned (.bool _) ∧ Only (fun _ => False) w w' := fun w => a2 ▸ rhas_2 w s
    have g16 : ∀ w, Calls Try.prog 30 #[.agg s.cs.toArray, .int .i64 16] w fun e w' => e = .returned (.bool _) ∧ Only (fun _ => False) w w' := fun w => a16 ▸ rhas_16 w s
    have g4 : ∀ w, Calls Try.prog 30 #[.agg s.cs.toArray, .int .i64 4] w fun e w' => e = .returned (.bool _) ∧ Only (fun _ => False) w w' := fun w => a4 ▸ rhas_4 w s
    have g1 : ∀ w, Calls Try.prog 30 #[.agg s.cs.toArray, .int .i64 1] w fun e w' => e = .returned (.bool _) ∧ Only (fun _ => False) w w' := fun w => a1 ▸ rhas_1 w s
    clear a2 a16 a4 a1
    go_enter Try.func15, Try.ntmps15
    go_wp2_with fail
    refine (g2 _).mono ?_
    rintro e x ⟨rfl, hO⟩
    have hS : Blk x w.heap.size s.cs 28 := hO.blk ((Blk.new w s.cs _).alloc _) id
    have hR : Blk x (w.heap.size + 1) zc.cs 24 := hO.blk (Blk.at_new (by simp) rfl) id
    have hQ : Only (fun _ => False) w x := (((Only.refl (fun _ => False) w).alloc _).alloc _).trans hO
    have HH := Lib.hid (And.intro hS (And.intro hR hQ))
    obtain ⟨k0, k1, k2, k3, k4, k5, k6, k7, k8, k9⟩ := seg_all hS
    clear hS hR hQ hO
    go_wp2_with fail
    refine (g16 _).mono ?_
    rintro e x ⟨rfl, hO⟩
    have hS := hO.blk HH.out.1 id
    have hR := hO.blk HH.out.2.1 id
    have hQ := HH.out.2.2.trans hO
    clear HH k0 k1 k2 k3 k4 k5 k6 k7 k8 k9
    have HH := Lib.hid (And.intro hS (And.intro hR hQ))
    obtain ⟨k0, k1, k2, k3, k4, k5, k6, k7, k8, k9⟩ := seg_all hS
    clear hS hR hQ hO
    go_wp2_with fail
    refine (g4 _).mono ?_
    rintro e x ⟨rfl, hO⟩
    have hS := hO.blk HH.out.1 id
    have hR := hO.blk HH.out.2.1 id
    have hQ := HH.out.2.2.trans hO
    clear HH k0 k1 k2 k3 k4 k5 k6 k7 k8 k9
    have HH := Lib.hid (And.intro hS (And.intro hR hQ))
    obtain ⟨k0, k1, k2, k3, k4, k5, k6, k7, k8, k9⟩ := seg_all hS
    clear hS hR hQ hO
    go_wp2_with fail
    refine (g1 _).mono ?_
    rintro e x ⟨rfl, hO⟩
    have hS := hO.blk HH.out.1 id
    have hR := hO.blk HH.out.2.1 id
    have hQ := HH.out.2.2.trans hO
    clear HH k0 k1 k2 k3 k4 k5 k6 k7 k8 k9
    have HH := Lib.hid (And.intro hS (And.intro hR hQ))
    obtain ⟨k0, k1, k2, k3, k4, k5, k6, k7, k8, k9⟩ := seg_all hS
    clear hS hR hQ hO
    go_wp2_with (first | (go_at_call 31; refine (rfirst_any _ _).mono ?_; rintro e w' ⟨rfl, rfl⟩) | (refine wpList_store_row (by rfl) 24 (.tmp 4) (.tmp 30) (by rfl) (w.heap.size + 1) zc.cs.toArray (by rfl) (by rfl) 24 zc.cs.toArray HH.out.2.1 (by kernel_rfl) (by rfl) (by simp [Ctl.cs, Value.oneCell']) ?_) | (refine wpList_store_row (by rfl) 24 (.tmp 4) (.tmp 50) (by rfl) (w.heap.size + 1) (passF s now).cs.toArray (by rfl) (by rfl) 24 zc.cs.toArray HH.out.2.1 (by kernel_rfl) (by rfl) (by simp [Ctl.cs, Value.oneCell']) ?_))
    first
      | (refine bodyPost_ret (v := .tuple #[.agg zc.cs.toArray, .int .i64 1]) (res_row_tmp (P := Try.prog) (p := 4) (u := 5) (ty := 24) Try.results15 _ _ (w.heap.size + 1) 24 zc.cs.toArray (0, 0) _ (by rfl) (setRow_heap _ _ _ _ _ _ HH.out.2.1) Try.underlying24 rfl (by kernel_rfl)) rfl ⟨rfl, ?_⟩; exact Only.step HH.out.2.2 (Only.row _ _ _) (by intro k hk; omega))
      | (refine bodyPost_ret (v := .tuple #[.agg (passF s now).cs.toArray, .int .i64 0]) (res_row_tmp (P := Try.prog) (p := 4) (u := 5) (ty := 24) Try.results15 _ _ (w.heap.size + 1) 24 (passF s now).cs.toArray (0, 0) _ (by rfl) (setRow_heap _ _ _ _ _ _ HH.out.2.1) Try.underlying24 rfl (by kernel_rfl)) rfl ⟨rfl, ?_⟩; exact Only.step HH.out.2.2 (Only.row _ _ _) (by intro k hk; omega))
end
end Go.Proofs.Ytpodmpidelifeaa
