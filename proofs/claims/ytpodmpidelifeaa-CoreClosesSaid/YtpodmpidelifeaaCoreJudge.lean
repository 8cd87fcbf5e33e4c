/-
  What Judge answers, for every input.
-/
import Derived.Test.YtpodmpidelifeaaCoreAckM
import Derived.Test.YtpodmpidelifeaaCoreTake
import Derived.Deep.LoopGhost
import Derived.Test.YtpodmpidelifeaaRow
namespace Go.Proofs.Ytpodmpidelifeaa
open Go.RowKit
set_option maxRecDepth 100000
set_option maxHeartbeats 4000000

def v0 (c : Ctl) : Vd := ⟨c, 0, 0, false, false, 0, 0, false⟩
def runF : List (Vd → Int × Vd) → Vd → Vd
  | [], v => v
  | f :: l, v => if (f v).1 = 1 then (f v).2 else runF l (f v).2
def stepsF (c : Ctl) (s : Seg) : List (Vd → Int × Vd) := [fitsF c s, resetsF c s, beginsF s, acksF c s, takesF c s]
/-- What a segment means for a connection. -/
def judgeF (c : Ctl) (s : Seg) : Vd := if c.st = 1 then (firstF c s (v0 c)).2 else runF (stepsF c s) (v0 c)

section
variable {c : Ctl} {s : Seg} {v : Vd} {w : World}
theorem fits_take : (fitsF c s v).2.take = v.take := by unfold fitsF; split <;> (try split) <;> rfl
theorem resets_take : (resetsF c s v).2.take = v.take := by unfold resetsF; repeat (first | rfl | split)
theorem begins_take : (beginsF s v).2.take = v.take := by unfold beginsF; repeat (first | rfl | split)
theorem ackV1_take : (ackV1 c s v).take = v.take := by unfold ackV1; repeat (first | rfl | split)
theorem ackV2_take : (ackV2 c s v).take = v.take := by unfold ackV2; repeat (first | rfl | split)
theorem ackF3_take : (ackF3 c v).2.take = v.take := by unfold ackF3; repeat (first | rfl | split)
theorem acks_take : (acksF c s v).2.take = v.take := by
  unfold acksF
  split
  · split <;> rfl
  · split
    · rfl
    · rw [ackF3_take, ackV2_take, ackV1_take]
theorem acks_any {b : Nat} (h : JAt w b c s v) (hs : s.dn ≤ 140737488351232) : Calls Try.prog 25 #[.pointer (some ⟨b, 0, none⟩)] w (Step b c s (acksF c s v) w) := by
  by_cases h2 : c.st = 2
  · exact acks_syn h h2
  · by_cases hb : 0 < df s.ak c.nxt ∨ 65535 < df c.una s.ak
    · exact acks_bad h h2 hb
    · have e : acksF c s v = ackF3 c (ackV2 c s (ackV1 c s v)) := by unfold acksF; rw [if_neg h2, if_neg hb]
      rw [e]
      exact acks_main h hs h2 hb

theorem vd_cells {b : Nat} {T : TypeId} (h : Blk w b v.cs T) : w.cell? ⟨b, 0, none⟩ = some (.int .i64 v.next.st) ∧
    w.cell? ⟨b, 1, none⟩ = some (.int .u32 v.next.iss) ∧
    w.cell? ⟨b, 2, none⟩ = some (.int .u32 v.next.una) ∧
    w.cell? ⟨b, 3, none⟩ = some (.int .u32 v.next.nxt) ∧
    w.cell? ⟨b, 4, none⟩ = some (.bool v.next.fs) ∧
    w.cell? ⟨b, 5, none⟩ = some (.int .i64 v.next.wnd) ∧
    w.cell? ⟨b, 6, none⟩ = some (.int .u32 v.next.wl1) ∧
    w.cell? ⟨b, 7, none⟩ = some (.int .u32 v.next.wl2) ∧
    w.cell? ⟨b, 8, none⟩ = some (.int .u32 v.next.irs) ∧
    w.cell? ⟨b, 9, none⟩ = some (.int .u32 v.next.rcv) ∧
    w.cell? ⟨b, 10, none⟩ = some (.int .u32 v.next.adv) ∧
    w.cell? ⟨b, 11, none⟩ = some (.int .i64 v.reply) ∧
    w.cell? ⟨b, 12, none⟩ = some (.int .i64 v.ended) ∧
    w.cell? ⟨b, 13, none⟩ = some (.bool v.acked) ∧
    w.cell? ⟨b, 14, none⟩ = some (.bool v.again) ∧
    w.cell? ⟨b, 15, none⟩ = some (.int .i64 v.skip) ∧
    w.cell? ⟨b, 16, none⟩ = some (.int .i64 v.take) ∧
    w.cell? ⟨b, 17, none⟩ = some (.bool v.fin) := by
  refine ⟨?_, ?_, ?_, ?_, ?_, ?_, ?_, ?_, ?_, ?_, ?_, ?_, ?_, ?_, ?_, ?_, ?_, ?_⟩ <;> (rw [Blk.cell h]; rfl)
theorem jv_cells {b : Nat} (h : JAt w b c s v) : w.cell? ⟨b, 21, none⟩ = some (.int .i64 v.next.st) ∧
    w.cell? ⟨b, 22, none⟩ = some (.int .u32 v.next.iss) ∧
    w.cell? ⟨b, 23, none⟩ = some (.int .u32 v.next.una) ∧
    w.cell? ⟨b, 24, none⟩ = some (.int .u32 v.next.nxt) ∧
    w.cell? ⟨b, 25, none⟩ = some (.bool v.next.fs) ∧
    w.cell? ⟨b, 26, none⟩ = some (.int .i64 v.next.wnd) ∧
    w.cell? ⟨b, 27, none⟩ = some (.int .u32 v.next.wl1) ∧
    w.cell? ⟨b, 28, none⟩ = some (.int .u32 v.next.wl2) ∧
    w.cell? ⟨b, 29, none⟩ = some (.int .u32 v.next.irs) ∧
    w.cell? ⟨b, 30, none⟩ = some (.int .u32 v.next.rcv) ∧
    w.cell? ⟨b, 31, none⟩ = some (.int .u32 v.next.adv) ∧
    w.cell? ⟨b, 32, none⟩ = some (.int .i64 v.reply) ∧
    w.cell? ⟨b, 33, none⟩ = some (.int .i64 v.ended) ∧
    w.cell? ⟨b, 34, none⟩ = some (.bool v.acked) ∧
    w.cell? ⟨b, 35, none⟩ = some (.bool v.again) ∧
    w.cell? ⟨b, 36, none⟩ = some (.int .i64 v.skip) ∧
    w.cell? ⟨b, 37, none⟩ = some (.int .i64 v.take) ∧
    w.cell? ⟨b, 38, none⟩ = some (.bool v.fin) :=
  ⟨h.c21, h.c22, h.c23, h.c24, h.c25, h.c26, h.c27, h.c28, h.c29, h.c30, h.c31, h.c32, h.c33, h.c34, h.c35, h.c36, h.c37, h.c38⟩
/-- Nothing at all. -/
def z0 : Vd := ⟨⟨0, 0, 0, 0, false, 0, 0, 0, 0, 0, 0⟩, 0, 0, false, false, 0, 0, false⟩
theorem first_one : (firstF c s v).1 = 1 := by unfold firstF; repeat (first | rfl | split)
theorem size3 (w : World) (a b c : Obj) : w.heap.size + 1 + 1 + 1 = (((w.alloc a).alloc b).alloc c).heap.size := by simp
theorem size2 (w : World) (a b : Obj) : w.heap.size + 1 + 1 = ((w.alloc a).alloc b).heap.size := by simp

theorem Only.stn {w0 : World} {S : Nat → Prop} (h : Only S w0 w) {b : Nat} (hb : w0.heap.size ≤ b) {o : Nat} {x : Value} : Only S w0 (w.setCell ⟨b, o, none⟩ x) := h.setCell (.inr hb) x
/-- The five steps, as the slice has them. -/
abbrev five (b : Nat) : List Value := [.func (.func 22) #[.pointer (some ⟨b, 0, none⟩)] #[], .func (.func 23) #[.pointer (some ⟨b, 0, none⟩)] #[], .func (.func 24) #[.pointer (some ⟨b, 0, none⟩)] #[], .func (.func 25) #[.pointer (some ⟨b, 0, none⟩)] #[], .func (.func 26) #[.pointer (some ⟨b, 0, none⟩)] #[]]
theorem five_cells {b f : Nat} {T : TypeId} (h : Blk w f (five b) T) : ∀ k, w.cell? ⟨f, k, none⟩ = (five b)[k]? := fun k => Blk.cell h k
theorem size4 (w : World) (a b c d : Obj) : w.heap.size + 1 + 1 + 1 + 1 = ((((w.alloc a).alloc b).alloc c).alloc d).heap.size := by simp
theorem fits_n : (fitsF c s v).1 = 0 ∨ (fitsF c s v).1 = 1 := by unfold fitsF; repeat (first | exact .inl rfl | exact .inr rfl | split)
theorem fits_01 : ∃ n v', fitsF c s v = (n, v') ∧ (n = 0 ∨ n = 1) ∧ v'.take = v.take := ⟨(fitsF c s v).1, (fitsF c s v).2, rfl, fits_n, fits_take⟩
theorem resets_n : (resetsF c s v).1 = 0 ∨ (resetsF c s v).1 = 1 := by unfold resetsF; repeat (first | exact .inl rfl | exact .inr rfl | split)
theorem resets_01 : ∃ n v', resetsF c s v = (n, v') ∧ (n = 0 ∨ n = 1) ∧ v'.take = v.take := ⟨(resetsF c s v).1, (resetsF c s v).2, rfl, resets_n, resets_take⟩
theorem begins_n : (beginsF s v).1 = 0 ∨ (beginsF s v).1 = 1 := by unfold beginsF; repeat (first | exact .inl rfl | exact .inr rfl | split)
theorem begins_01 : ∃ n v', beginsF s v = (n, v') ∧ (n = 0 ∨ n = 1) ∧ v'.take = v.take := ⟨(beginsF s v).1, (beginsF s v).2, rfl, begins_n, begins_take⟩
theorem ackF3_01 : (ackF3 c v).1 = 0 ∨ (ackF3 c v).1 = 1 := by unfold ackF3; repeat (first | exact .inl rfl | exact .inr rfl | split)
theorem acks_n : (acksF c s v).1 = 0 ∨ (acksF c s v).1 = 1 := by unfold acksF; repeat (first | exact .inl rfl | exact .inr rfl | exact ackF3_01 | split)
theorem acks_01 : ∃ n v', acksF c s v = (n, v') ∧ (n = 0 ∨ n = 1) ∧ v'.take = v.take := ⟨(acksF c s v).1, (acksF c s v).2, rfl, acks_n, acks_take⟩
theorem takes_1 : ∃ v', takesF c s v = (1, v') := by unfold takesF; split <;> exact ⟨_, rfl⟩
theorem Only.row (w : World) (g : Nat) (cs : Array Value) : Only (fun k => k = g) w (w.setRow g cs) := ⟨rfl, rfl, rfl, by simp [World.setRow], fun k _ hk => setRow_other w g k _ hk⟩
theorem vd_one (v : Vd) : (Vd.cs v).toArray.all (·.oneCell') = true := by simp [Vd.cs, Ctl.cs, Value.oneCell']
theorem vd_size (v : Vd) : (Try.prog.info? 33).map (·.size) = some (Vd.cs v).toArray.size := by kernel_rfl
theorem jv_part {b : Nat} (h : JAt w b c s v) : ∀ j, j < (Vd.cs v).length → w.cell? ⟨b, 21 + j, none⟩ = (Vd.cs v)[j]? := Blk.part h (l := c.cs ++ s.cs) (r := []) (by simp) (by rfl)
theorem step_lit {f : FuncId} {args : Array Value} {b : Nat} {r : Int × Vd} {n : Int} {v' : Vd} (h : Calls Try.prog f args w (Step b c s r w)) (hr : r = (n, v')) :
    Calls Try.prog f args w fun e w' => e = .returned (.int .i64 n) ∧ JAt w' b c s v' ∧ Only (fun k => k = b) w w' := by
  subst hr; exact h

theorem judge_first (w : World) (h1 : c.st = 1) : Calls Try.prog 10 #[.agg c.cs.toArray, .agg s.cs.toArray] w fun e w' => e = .returned (.agg (judgeF c s).cs.toArray) ∧ Only (fun _ => False) w w' := by
  have d0 : (c.st == 1) = true := by simp [h1]
  have HJ := Lib.hid (show firstF c s (v0 c) = (1, judgeF c s) from Prod.ext first_one (by unfold judgeF; rw [if_pos h1]))
  clear h1
  obtain ⟨vj, hvj⟩ : ∃ vj, vj = judgeF c s := ⟨_, rfl⟩
  rw [← hvj] at HJ ⊢
  clear hvj
  go_enter Try.func10, Try.ntmps10
  go_wp2
  refine wp_loop_rounds 1 ?_
  rw [rounds_succ]
  go_wp2_with fail
  refine (step_lit (jfirst_any (b := w.heap.size + 1 + 1 + 1) (c := c) (s := s) (v := v0 c) ?_) HJ.out).mono ?_
  · exact ((Blk.at_new (size3 _ _ _ _) rfl).alloc _).alloc _
  rintro e w1 ⟨rfl, hJ, hO⟩
  have hR := hO.blk (b := w.heap.size + 1 + 1) (c := z0.cs) (T := 33) ((((Blk.at_new (size2 _ _ _) rfl).alloc _).alloc _).alloc _) (by omega)
  have hO' : Only (fun _ => False) w w1 := Only.step (((((((Only.refl _ w).alloc _).alloc _).alloc _).alloc _).alloc _).alloc _) hO (by intro b hb; omega)
  have H1 := Lib.hid (And.intro hJ (And.intro hR hO'))
  clear hJ hR hO' hO
  go_upto_region 10 with fail
  generalize hr : w.heap.size + 1 + 1 = r at H1 ⊢
  generalize hb : r + 1 = b at H1 ⊢
  have hrw : w.heap.size ≤ r := by omega
  clear hr hb
  go_wp2_with (first | (refine wpList_load_at (by rfl) 33 (.tmp 44) (by rfl) b 21 (by rfl) (Vd.cs vj) _ (jv_part H1.out.1) Try.underlying33 (by rfl) (vd_size vj) ?_) | (refine wpList_store_row (by rfl) 33 (.tmp 4) (.tmp 45) (by rfl) r (Vd.cs vj).toArray (by rfl) (by rfl) 33 z0.cs.toArray H1.out.2.1 (vd_size vj) (by rfl) (vd_one vj) ?_))
  refine bodyPost_ret (v := .agg (Vd.cs vj).toArray) ?_ rfl ⟨rfl, ?_⟩
  · exact results_cell_row (P := Try.prog) (fn := Try.f10) (p := 4) (ty := 33) Try.results10 _ _ r 33 (Vd.cs vj).toArray (0, 0) _ (by rfl) (setRow_heap _ _ _ _ _ _ H1.out.2.1) Try.underlying33 rfl (vd_size vj)
  · exact Only.step H1.out.2.2 (Only.row _ _ _) (by intro k hk; omega)
end
end Go.Proofs.Ytpodmpidelifeaa
