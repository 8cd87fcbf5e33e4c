/-
  PoolLeast, walked: it answers true whatever it is given.
-/
import Derived.Test.YthofjobcjkeomaaPoolArgs
import Derived.Deep.LoopGhost
import Derived.Deep.DeepCutAuto
namespace Go.Proofs.Ythofjobcjkeomaa
open Go.RowKit
set_option maxRecDepth 100000
set_option maxHeartbeats 2000000

/-- The counts, as the statement keeps them. -/
def cnts (L : List Bf) : List Value := L.map fun b => .int .i64 (b.refs : Int)

theorem run_make_ints (n : Nat) (hn : n ≤ 4096) (w : World) :
    (Instr.makeSlice 28 (.int .i64 (n : Int)) (.int .i64 (n : Int))).run Try.prog w = .ok (.slice (some ⟨w.heap.size, 0, none⟩) n n) (w.alloc (.cells (List.replicate n (.int .i64 0)).toArray 3)) := by
  obtain ⟨i, hi, hz, h1, h2⟩ : ∃ i, Try.prog.info? 3 = some i ∧ i.zero = some (.int .i64 0) ∧ i.size = 1 ∧ i.bytes = 8 := by
    have hq : (Try.prog.info? 3).map (fun i => (i.zero, i.size, i.bytes)) = some (some (.int .i64 0), 1, 8) := by kernel_rfl
    cases hi : Try.prog.info? 3 with
    | none => rw [hi] at hq; simp at hq
    | some i => rw [hi] at hq; simp at hq; exact ⟨i, rfl, hq.1, hq.2.1, hq.2.2⟩
  have := run_make (P := Try.prog) w 28 3 i _ Try.underlying28 hi hz .i64 .i64 (n : Int) (n : Int) (by omega) (by omega) (by rw [h2]; omega) (by omega)
  rw [this]
  simp only [Int.toNat_natCast, h1, Nat.mul_one]
  have e : madeCells (Value.int .i64 0).cells n = (List.replicate n (.int .i64 0)).toArray := by
    apply Array.ext_getElem?
    intro j
    simp only [madeCells, Value.cells]
    by_cases hj : j < n
    · simp [hj, Nat.mod_one]
    · simp [hj]
  rw [e]

theorem cnts_get {w : World} {rb : Nat} {L : List Bf} {T : TypeId} (h : Blk w rb (cnts L) T) {j : Nat} {b : Bf} (hj : L[j]? = some b) : w.cell? ⟨rb, j, none⟩ = some (.int .i64 (b.refs : Int)) := by
  rw [h.cell]; simp [cnts, hj]

theorem exists_bool (p : Prop) : ∃ b : Bool, (b = true ↔ p) := by
  by_cases h : p
  · exact ⟨true, by simp [h]⟩
  · exact ⟨false, by simp [h]⟩
theorem cnts_set (L : List Bf) (j : Nat) (b : Bf) : cnts (L.set j b) = (cnts L).set j (.int .i64 (b.refs : Int)) := by simp [cnts, List.map_set]
theorem bound_set {L : List Bf} {k : Nat} (h : ∀ b ∈ L, b.refs ≤ k) {j : Nat} {b1 : Bf} (h1 : b1.refs ≤ k + 1) : ∀ b ∈ L.set j b1, b.refs ≤ k + 1 := by
  intro b hb
  rcases List.mem_or_eq_of_mem_set hb with h2 | h2
  · have := h b h2; omega
  · subst h2; exact h1
theorem bound_up {L : List Bf} {k : Nat} (h : ∀ b ∈ L, b.refs ≤ k) : ∀ b ∈ L, b.refs ≤ k + 1 := fun b hb => Nat.le_succ_of_le (h b hb)
theorem cnts_chg {L L' : List Bf} (hl : L'.length = L.length) (h : ∀ (j : Nat) (b : Bf), L[j]? = some b → ∃ b' : Bf, L'[j]? = some b' ∧ b'.refs = b.refs ∧ (b.refs ≠ 1 → b' = b)) : cnts L' = cnts L := by
  apply List.ext_getElem?
  intro j
  simp only [cnts, List.getElem?_map]
  by_cases hj : j < L.length
  · obtain ⟨b', h1, h2, _⟩ := h j L[j] (List.getElem?_eq_getElem hj)
    rw [h1, List.getElem?_eq_getElem hj]; simp [h2]
  · rw [List.getElem?_eq_none (by omega), List.getElem?_eq_none (by omega)]
theorem bound_chg {L L' : List Bf} {k : Nat} (hl : L'.length = L.length) (h : ∀ (j : Nat) (b : Bf), L[j]? = some b → ∃ b' : Bf, L'[j]? = some b' ∧ b'.refs = b.refs ∧ (b.refs ≠ 1 → b' = b)) (hb : ∀ b ∈ L, b.refs ≤ k) : ∀ b ∈ L', b.refs ≤ k := by
  intro b' hb'
  obtain ⟨j, hj⟩ := List.getElem?_of_mem hb'
  have hjl : j < L.length := by have := (List.getElem?_eq_some_iff.1 hj).1; omega
  obtain ⟨b2, h1, h2, _⟩ := h j L[j] (List.getElem?_eq_getElem hjl)
  rw [hj] at h1; cases h1
  have := hb L[j] (List.getElem_mem hjl)
  omega

theorem least_any (w : World) (many : Int) {v : Value} {l : List OpR} (hl : OpsAt w v l) :
    Calls Try.prog 3 #[.int .i64 many, v] w fun e w' => e = .returned (.bool true) ∧ Only (fun _ => False) w w' := by
  obtain ⟨a, cap, rfl⟩ := hl.form
  by_cases hm : many < 1 ∨ 4096 < many
  · have hA := awake_any w
    go_enter Try.func3, Try.ntmps3
    rcases hm with hm | hm
    · go_wp2_with (first | (go_at_call 7; refine hA.mono ?_; rintro e w1 ⟨rfl, hO⟩) | (go_at_call 8; refine (new_no (.inl hm)).mono ?_; rintro e w2 ⟨rfl, rfl⟩))
      go_ret
      exact ⟨rfl, hO⟩
    · have hm1 : 1 ≤ many := by omega
      go_wp2_with (first | (go_at_call 7; refine hA.mono ?_; rintro e w1 ⟨rfl, hO⟩) | (go_at_call 8; refine (new_no (.inr hm)).mono ?_; rintro e w2 ⟨rfl, rfl⟩))
      go_ret
      exact ⟨rfl, hO⟩
  · obtain ⟨n, rfl⟩ : ∃ n : Nat, many = (n : Int) := ⟨many.toNat, by omega⟩
    have h1 : 1 ≤ n := by omega
    have h2 : n ≤ 4096 := by omega
    clear hm
    have hA := awake_any w
    have hN : ∀ w1, Calls Try.prog 8 #[.int .i64 (n : Int)] w1 (NewPost w1 n) := fun w1 => new_in h1 h2
    have HN := Lib.hid hN
    clear hN
    by_cases h60 : 60 < n
    · have h60' : (60 : Int) < (n : Int) := by omega
      go_enter Try.func3, Try.ntmps3
      go_wp2_with (first | (go_at_call 7; refine hA.mono ?_; rintro e w1 ⟨rfl, hO⟩) | (go_at_call 8; refine (HN.out _).mono ?_; rintro e w2 ⟨p, ab, rfl, hP, hp, hab, hO2⟩))
      go_ret
      exact ⟨rfl, hO.step hO2 (fun b hb => hb.elim)⟩
    · have h60' : (n : Int) ≤ 60 := by omega
      have hmk := run_make_ints n h2
      have HL := Lib.hid hl
      have hll := hl.len
      clear hl
      go_enter Try.func3, Try.ntmps3
      go_wp2_with (first | (go_at_call 7; refine hA.mono ?_; rintro e w1 ⟨rfl, hO⟩) | (go_at_call 8; refine (HN.out _).mono ?_; rintro e w2 ⟨p, ab, rfl, hP, hp, hab, hO2⟩))
      have hlt := hP.lt
      have hrb : w.heap.size ≤ w2.heap.size := Nat.le_trans hO.size hO2.size
      obtain ⟨rb, hrbe⟩ : ∃ rb, rb = w2.heap.size := ⟨_, rfl⟩
      have H2 : Hid (PoolAt (w2.alloc (.cells (List.replicate n (.int .i64 0)).toArray 3)) p ab (List.replicate n ⟨0, [], []⟩) ∧ Only (fun _ => False) w (w2.alloc (.cells (List.replicate n (.int .i64 0)).toArray 3)) ∧
          Blk (w2.alloc (.cells (List.replicate n (.int .i64 0)).toArray 3)) rb (cnts (List.replicate n ⟨0, [], []⟩)) 3) :=
        And.intro (hP.alloc _) (And.intro ((hO.step hO2 (fun b hb => hb.elim)).alloc _) (Blk.at_new hrbe (by simp [cnts])))
      rw [← hrbe]
      rw [← hrbe] at hlt hrb
      have hpr : w.heap.size ≤ p ∧ w.heap.size ≤ ab := by have := hO.size; omega
      have hd : ¬ p = rb ∧ ¬ ab = rb := by omega
      clear hP hO hO2 hA HN hrbe hp hab hmk
      go_loopg [9] l.length (fun g v wr => ∃ (k : Nat) (L : List Bf), k ≤ l.length ∧ v = .int .i64 (k : Int) ∧ l.length - k = g ∧ PoolAt wr p ab L ∧ L.length = n ∧ Blk wr rb (cnts L) 3 ∧ Only (fun _ => False) w wr ∧ ∀ b ∈ L, b.refs ≤ k)
      case atStart => exact ⟨0, _, Nat.zero_le _, rfl, rfl, H2.out.1, by simp, H2.out.2.2, H2.out.2.1, by intro b hb; rw [List.eq_of_mem_replicate hb]; exact Nat.le_refl _⟩
      case round =>
        obtain ⟨k, L, hk, rfl, hg, hP, hLn, hR, hO, hB⟩ := hrel
        clear H2
        by_cases hkl : k < l.length
        · rcases HL.out with ⟨_, _, he, hl0⟩ | ⟨bl, off, cap', he, hbl, _, hop⟩
          · rw [hl0] at hkl; simp at hkl
          · simp at he
            obtain ⟨rfl, rfl⟩ := he
            obtain ⟨o0, o1, o2, o3, ⟨da, dn, dc, o4, o5, o7⟩, r0, r1, r2, r3⟩ := hop k hkl
            rw [← hO.cell (a := ⟨bl, off + k * 5, none⟩) hbl id] at o0
            rw [← hO.cell (a := ⟨bl, off + k * 5 + 1, none⟩) hbl id] at o1
            rw [← hO.cell (a := ⟨bl, off + k * 5 + 2, none⟩) hbl id] at o2
            rw [← hO.cell (a := ⟨bl, off + k * 5 + 3, none⟩) hbl id] at o3
            rw [← hO.cell (a := ⟨bl, off + k * 5 + 4, none⟩) hbl id] at o4
            have hlt' : bl < wr.heap.size := Nat.lt_of_lt_of_le hbl hO.size
            generalize hop' : l[k] = o at *
            clear hop hop'
            have hcg : ∀ j b, L[j]? = some b → wr.cell? ⟨rb, j, none⟩ = some (.int .i64 (b.refs : Int)) := fun j b hj => cnts_get hR hj
            have hrl : rb < wr.heap.size := hR.lt
            have hrn : ¬ rb = wr.heap.size := by omega
            obtain ⟨ub, hub⟩ : ∃ ub : Bool, (ub = true ↔ Used L o.id) := exists_bool _
            have HP := Lib.hid (And.intro hP (And.intro hR (And.intro hO (And.intro hB (And.intro hub hcg)))))
            have HD := Lib.hid (And.intro o5 o7)
            clear hP hR hO hB o5 o7 hub hcg
            go_upto_region 12 with fail
            go_cut [11] (fun v w' => v = .bool ub ∧ w' = wr.alloc (.cells #[.int .i64 o.kind, .int .i64 o.id, .int .i64 o.a, .int .i64 o.b, .slice da dn dc] 31))
            case first =>
              obtain ⟨hP, hR, hO, hB, hub, hcg⟩ := HP.out
              by_cases hu : Used L o.id
              · have : ub = true := hub.2 hu
                subst this
                obtain ⟨j, b, hj, hLj, hbr⟩ := hu
                have hjl : j < L.length := (List.getElem?_eq_some_iff.1 hLj).1
                have hc := hcg j b hLj
                rw [hj]
                rw [hj] at o1
                have hj' := Lib.hid hj
                clear hP hR hO hB hub hcg hLj hj
                go_wp2
                go_meet
                exact ⟨rfl, by rw [hj'.out]⟩
              · have : ub = false := by cases ub with
                  | false => rfl
                  | true => exact absurd (hub.1 rfl) hu
                subst this
                rcases not_used hu with h0 | h0 | ⟨j, b, hj, hjl, hLj, hbr⟩
                · clear hP hR hO hB hub hcg hu
                  go_wp2
                  go_meet
                  exact ⟨rfl, rfl⟩
                · have h00 : 0 ≤ o.id := by omega
                  clear hP hR hO hB hub hcg hu
                  go_wp2
                  go_meet
                  exact ⟨rfl, rfl⟩
                · have hc := hcg j b hLj
                  rw [hbr] at hc
                  rw [hj]
                  rw [hj] at o1
                  have hj' := Lib.hid hj
                  clear hP hR hO hB hub hcg hLj hj hu
                  go_wp2
                  go_meet
                  exact ⟨rfl, by rw [hj'.out]⟩
            case rest =>
              obtain ⟨rfl, rfl⟩ := hcut
              obtain ⟨hP, hR, hO, hB, hub, hcg⟩ := HP.out
              have hP1 := hP.alloc (.cells #[.int .i64 o.kind, .int .i64 o.id, .int .i64 o.a, .int .i64 o.b, .slice da dn dc] 31)
              have hR1 := hR.alloc (.cells #[.int .i64 o.kind, .int .i64 o.id, .int .i64 o.a, .int .i64 o.b, .slice da dn dc] 31)
              have hO1 := hO.alloc (.cells #[.int .i64 o.kind, .int .i64 o.id, .int .i64 o.a, .int .i64 o.b, .slice da dn dc] 31)
              have hBx := Blk.at_new (w := wr) (A := #[.int .i64 o.kind, .int .i64 o.id, .int .i64 o.a, .int .i64 o.b, .slice da dn dc]) (c := [.int .i64 o.kind, .int .i64 o.id, .int .i64 o.a, .int .i64 o.b, .slice da dn dc]) (T := 31) rfl rfl
              have hlw := hP.lt
              have hnx : ¬ wr.heap.size = p ∧ ¬ wr.heap.size = ab ∧ ¬ wr.heap.size = rb := by omega
              generalize hW1 : wr.alloc (.cells #[.int .i64 o.kind, .int .i64 o.id, .int .i64 o.a, .int .i64 o.b, .slice da dn dc] 31) = W1 at *
              have hs1 : wr.heap.size < W1.heap.size := by rw [← hW1]; simp
              generalize wr.heap.size = bx at *
              have HQ := Lib.hid (And.intro hP1 (And.intro hR1 (And.intro hO1 (And.intro hBx (And.intro hB hub)))))
              have x0 : W1.cell? ⟨bx, 0, none⟩ = some (.int .i64 o.kind) := by rw [hBx.cell]; rfl
              have x1 : W1.cell? ⟨bx, 1, none⟩ = some (.int .i64 o.id) := by rw [hBx.cell]; rfl
              clear hP1 hR1 hO1 hBx hP hR hO hB hub hcg HP hW1 o0 o1 o2 o3 o4
              by_cases k0 : o.kind.tmod 4 = 0
              · have e0 : (o.kind.tmod 4 == 0) = true := by simp [k0]
                clear k0
                rcases get_cases L with hf | ⟨j, b, hLj, hr, hf⟩
                · have hG := get_none HQ.out.1 hf
                  have hLf := left_any HQ.out.1
                  rw [fullTo_none hf] at hLf
                  clear hf
                  go_wp2_with (first | (go_at_call 9; refine hG.mono ?_; rintro e w' ⟨rfl, rfl⟩) | (go_at_call 10; refine hLf.mono ?_; rintro e w' ⟨rfl, rfl⟩))
                  go_roundg (l.length - (k + 1))
                  case measure => omega
                  case rel => exact ⟨k + 1, L, by omega, by go_num, rfl, HQ.out.1, hLn, HQ.out.2.1, HQ.out.2.2.1, bound_up HQ.out.2.2.2.2.1⟩
                · have hG := get_in HQ.out.1 hLj hr hf
                  have hjl : j < L.length := (List.getElem?_eq_some_iff.1 hLj).1
                  have HJ := Lib.hid (And.intro hLj (And.intro hr hf))
                  clear hLj hr hf
                  go_wp2_with (go_at_call 9; refine hG.mono ?_; rintro e w3 ⟨rfl, hP3, hO3⟩)
                  have H3 : Hid (PoolAt w3 p ab (L.set j ⟨1, [], []⟩) ∧ Blk w3 rb (cnts L) 3 ∧ Only (fun _ => False) w w3 ∧ Blk w3 bx [.int .i64 o.kind, .int .i64 o.id, .int .i64 o.a, .int .i64 o.b, .slice da dn dc] 31) :=
                    And.intro hP3 (And.intro (hO3.blk HQ.out.2.1 (by omega)) (And.intro (HQ.out.2.2.1.step hO3 (by intro b hb; omega)) (hO3.blk HQ.out.2.2.2.1 (by omega))))
                  clear hP3 hO3 hG x0 x1
                  go_loopg [14] j (fun g v wq => ∃ i : Nat, i ≤ j ∧ v = .int .i64 (i : Int) ∧ j - i = g ∧ wq = w3)
                  case atStart => exact ⟨0, Nat.zero_le _, rfl, rfl, rfl⟩
                  case round =>
                    obtain ⟨i, hi, rfl, hg2, hw3⟩ := hrel
                    have hw4 := hw3.symm
                    clear hw3
                    subst hw4
                    by_cases hij : i < j
                    · have hil : i < L.length := by omega
                      have hci := cnts_get H3.out.2.1 (List.getElem?_eq_getElem hil)
                      have hri := HJ.out.2.2 i _ hij (List.getElem?_eq_getElem hil)
                      have hri0 : ((L[i].refs : Int) == 0) = false := by simp; omega
                      clear hri
                      go_wp2
                      go_roundg (j - (i + 1))
                      case measure => omega
                      case rel => exact ⟨i + 1, by omega, by go_num, rfl, rfl⟩
                    · have : i = j := by omega
                      subst this
                      clear hij hi
                      have hci := cnts_get H3.out.2.1 HJ.out.1
                      rw [HJ.out.2.1] at hci
                      have hz := fun o => H3.out.2.1.fz o
                      have hS := see_in (w := w3.setCell ⟨rb, i, none⟩ (.int .i64 1)) (p := p) (ab := ab) (L := L.set i ⟨1, [], []⟩) (k := i) (b := ⟨1, [], []⟩) (H3.out.1.frame ((Only.refl (fun b => b = rb) _).st rfl _ _) hd.1 hd.2) (List.getElem?_set_self hjl) (by decide)
                      have HS := Lib.hid hS
                      clear hS
                      go_wp2_with fail
                      refine HS.out.mono ?_
                      rintro e w4 ⟨bh, bd, rfl, hBh, hBd, hne, hs1, hs2, hO4⟩
                      have H4 : Hid (PoolAt w4 p ab (L.set i ⟨1, [], []⟩) ∧ Blk w4 rb (cnts (L.set i ⟨1, [], []⟩)) 3 ∧ Only (fun _ => False) w w4 ∧ Blk w4 bx [.int .i64 o.kind, .int .i64 o.id, .int .i64 o.a, .int .i64 o.b, .slice da dn dc] 31) :=
                        And.intro ((H3.out.1.frame ((Only.refl (fun b => b = rb) _).st rfl _ _) hd.1 hd.2).frame hO4 id id)
                          (And.intro (by rw [cnts_set]; exact hO4.blk (H3.out.2.1.set _ _) id)
                            (And.intro ((H3.out.2.2.1.setCell (.inr hrb) _).step hO4 (fun b hb => hb.elim)) (hO4.blk (H3.out.2.2.2.set_ne (by simp; omega) _) id)))
                      have x4 : ∀ o, (w4.alloc o).cell? ⟨bx, 4, none⟩ = some (.slice da dn dc) := fun o => by rw [(H4.out.2.2.2.alloc o).cell]; rfl
                      have hxl := H4.out.2.2.2.lt
                      clear hBh hBd hO4 HS hci
                      have hC := set_chg (H4.out.1.alloc (.cells #[.int .i64 1, .slice (some ⟨bh, 0, none⟩) 0 0, .slice (some ⟨bd, 0, none⟩) 0 0] 36)) (i : Int) (HD.out.1.only (H4.out.2.2.1.alloc _) (fun _ _ _ _ _ _ h => h)) (fun b o n c e hn => by have := HD.out.2 b o n c e hn; omega)
                      go_wp2_with (go_at_call 12; refine hC.mono ?_; rintro e w5 ⟨x, L5, rfl, hP5, hO5, hl5, hc5⟩)
                      have HE : Hid (PoolAt w5 p ab L5 ∧ L5.length = n ∧ Blk w5 rb (cnts L5) 3 ∧ Only (fun _ => False) w w5 ∧ ∀ b ∈ L5, b.refs ≤ k + 1) :=
                        And.intro hP5 (And.intro (by rw [hl5]; simpa using hLn) (And.intro (by rw [cnts_chg hl5 hc5]; exact hO5.blk (H4.out.2.1.alloc _) (fun e => hd.2 e.symm))
                          (And.intro ((H4.out.2.2.1.alloc _).step hO5 (by intro b hb; subst hb; exact hpr.2)) (bound_chg hl5 hc5 (bound_set HQ.out.2.2.2.2.1 (by simp))))))
                      clear hP5 hO5 hl5 hc5 hC x4
                      go_roundg (l.length - (k + 1))
                      case measure => omega
                      case rel => exact ⟨k + 1, L5, by omega, by go_num, rfl, HE.out⟩
              · by_cases k1 : o.kind.tmod 4 = 1
                · have e0 : (o.kind.tmod 4 == 0) = false := by simp [k0]
                  have e1 : (o.kind.tmod 4 == 1) = true := by simp [k1]
                  clear k0 k1
                  by_cases hu : Used L o.id
                  · have : ub = true := HQ.out.2.2.2.2.2.2 hu
                    subst this
                    obtain ⟨j, b, hj, hLj, hbr⟩ := hu
                    have hbb : b.refs ≤ k := HQ.out.2.2.2.2.1 b (List.mem_of_getElem? hLj)
                    have hjl : j < L.length := (List.getElem?_eq_some_iff.1 hLj).1
                    have hH := hold_in HQ.out.1 hLj hbr (by omega)
                    have HJ := Lib.hid (And.intro hLj hbr)
                    rw [hj] at x1
                    clear hLj hbr hj
                    go_wp2_with (go_at_call 13; refine hH.mono ?_; rintro e w3 ⟨rfl, hP3, hO3⟩; have x1' : w3.cell? ⟨bx, 1, none⟩ = some (.int .i64 (j : Int)) := (by rw [(hO3.blk HQ.out.2.2.2.1 hnx.2.1).cell, ← HQ.out.2.2.2.1.cell]; exact x1); have hci := cnts_get (hO3.blk HQ.out.2.1 (fun e => hd.2 e.symm)) HJ.out.1; have hz := fun o => (hO3.blk HQ.out.2.1 (fun e => hd.2 e.symm)).fz o; have H3 := Lib.hid (And.intro hP3 hO3); clear hP3 hO3 x0 x1)
                    have hR3 := (H3.out.2.blk HQ.out.2.1 (fun e => hd.2 e.symm)).set j (.int .i64 ((b.refs : Int) + 1))
                    have hP3 := H3.out.1.frame ((Only.refl (fun b => b = rb) _).st rfl j (.int .i64 ((b.refs : Int) + 1))) hd.1 hd.2
                    have hO3 := (HQ.out.2.2.1.step H3.out.2 (by intro b hb; subst hb; exact hpr.2)).setCell (a := ⟨rb, j, none⟩) (.inr hrb) (.int .i64 ((b.refs : Int) + 1))
                    have hB3 := bound_set (j := j) (b1 := { b with refs := b.refs + 1 }) HQ.out.2.2.2.2.1 (by simp; exact hbb)
                    have HE := Lib.hid (And.intro hP3 (And.intro hR3 (And.intro hO3 hB3)))
                    clear hP3 hR3 hO3 hB3 hci
                    go_roundg (l.length - (k + 1))
                    case measure => omega
                    case rel => exact ⟨k + 1, _, by omega, by go_num, rfl, HE.out.1, by simpa using hLn, by rw [cnts_set]; exact HE.out.2.1, HE.out.2.2.1, HE.out.2.2.2⟩
                  · have : ub = false := by cases ub with
                      | false => rfl
                      | true => exact absurd (HQ.out.2.2.2.2.2.1 rfl) hu
                    subst this
                    have hH := hold_no HQ.out.1 hu
                    clear hu
                    go_wp2_with (go_at_call 13; refine hH.mono ?_; rintro e w' ⟨rfl, rfl⟩)
                    go_roundg (l.length - (k + 1))
                    case measure => omega
                    case rel => exact ⟨k + 1, L, by omega, by go_num, rfl, HQ.out.1, hLn, HQ.out.2.1, HQ.out.2.2.1, bound_up HQ.out.2.2.2.2.1⟩
                · have e0 : (o.kind.tmod 4 == 0) = false := by simp [k0]
                  have e1 : (o.kind.tmod 4 == 1) = false := by simp [k1]
                  clear k0 k1
                  by_cases hu : Used L o.id
                  · have : ub = true := HQ.out.2.2.2.2.2.2 hu
                    subst this
                    obtain ⟨j, b, hj, hLj, hbr⟩ := hu
                    have hbb : b.refs ≤ k := HQ.out.2.2.2.2.1 b (List.mem_of_getElem? hLj)
                    have hjl : j < L.length := (List.getElem?_eq_some_iff.1 hLj).1
                    have hH := free_in HQ.out.1 hLj hbr (by omega)
                    have HJ := Lib.hid (And.intro hLj hbr)
                    rw [hj] at x1
                    clear hLj hbr hj
                    go_wp2_with (go_at_call 14; refine hH.mono ?_; rintro e w3 ⟨rfl, hP3, hO3⟩; have x1' : w3.cell? ⟨bx, 1, none⟩ = some (.int .i64 (j : Int)) := (by rw [(hO3.blk HQ.out.2.2.2.1 (by omega)).cell, ← HQ.out.2.2.2.1.cell]; exact x1); have hci := cnts_get (hO3.blk HQ.out.2.1 (by omega)) HJ.out.1; have hz := fun o => (hO3.blk HQ.out.2.1 (by omega)).fz o; have H3 := Lib.hid (And.intro hP3 hO3); clear hP3 hO3 x0 x1)
                    have hR3 := (H3.out.2.blk HQ.out.2.1 (by omega)).set j (.int .i64 ((b.refs : Int) - 1))
                    have hP3 := H3.out.1.frame ((Only.refl (fun b => b = rb) _).st rfl j (.int .i64 ((b.refs : Int) - 1))) hd.1 hd.2
                    have hO3 := (HQ.out.2.2.1.step H3.out.2 (by intro b hb; omega)).setCell (a := ⟨rb, j, none⟩) (.inr hrb) (.int .i64 ((b.refs : Int) - 1))
                    have hB3 := bound_set (j := j) (b1 := { b with refs := b.refs - 1 }) HQ.out.2.2.2.2.1 (by simp; omega)
                    have hbr := HJ.out.2
                    have hR4 : Blk (w3.setCell ⟨rb, j, none⟩ (.int .i64 ((b.refs : Int) - 1))) rb (cnts (L.set j { b with refs := b.refs - 1 })) 3 := by
                      rw [cnts_set]
                      have e : ((b.refs - 1 : Nat) : Int) = (b.refs : Int) - 1 := by omega
                      simp only [e]; exact hR3
                    have HE := Lib.hid (And.intro hP3 (And.intro hR4 (And.intro hO3 hB3)))
                    clear hP3 hR3 hR4 hO3 hB3 hci
                    go_roundg (l.length - (k + 1))
                    case measure => omega
                    case rel => exact ⟨k + 1, _, by omega, by go_num, rfl, HE.out.1, by simpa using hLn, HE.out.2.1, HE.out.2.2.1, HE.out.2.2.2⟩
                  · have : ub = false := by cases ub with
                      | false => rfl
                      | true => exact absurd (HQ.out.2.2.2.2.2.1 rfl) hu
                    subst this
                    have hH := free_no HQ.out.1 hu
                    clear hu
                    go_wp2_with (go_at_call 14; refine hH.mono ?_; rintro e w' ⟨rfl, rfl⟩)
                    go_roundg (l.length - (k + 1))
                    case measure => omega
                    case rel => exact ⟨k + 1, L, by omega, by go_num, rfl, HQ.out.1, hLn, HQ.out.2.1, HQ.out.2.2.1, bound_up HQ.out.2.2.2.2.1⟩
        · have : k = l.length := by omega
          subst this
          go_wp2
          go_ret
          exact ⟨rfl, hO⟩

end Go.Proofs.Ythofjobcjkeomaa
