/-
  PoolParts, walked: it answers true whatever it is given.
-/
import Derived.Test.YthofjobcjkeomaaPoolArgs
import Derived.Deep.LoopGhost
import Derived.Deep.DeepCutAuto
import Derived.Deep.CutBlock
namespace Go.Proofs.Ythofjobcjkeomaa
open Go.RowKit
set_option maxRecDepth 100000
set_option maxHeartbeats 4000000

theorem u8_info : (Try.prog.info? 5).map (fun i => (i.zero, i.size, i.bytes)) = some (some (.int .u8 0), 1, 1) := by kernel_rfl

theorem add_plain (g f : Nat) : (⟨g, 0, none⟩ : Addr).add f = ⟨g, f, none⟩ := by unfold Addr.add; split <;> simp_all

theorem bytes_const2 (w : World) (l : List UInt8) (T : TypeId) (fr : Nat × Nat) {n bn : Nat} (hb : bn = w.heap.size) (hn : n = l.length) (hl : l.length ≤ 1000) : BytesAt (w.alloc (.cells (l.map bv).toArray T fr)) (.slice (some ⟨bn, 0, none⟩) n n) l := by
  subst hb; exact bytes_const w l T fr hn hl

/-- After some pieces: the buffer holds them, so does the row 'all'. -/
def Parted (p ab base : Nat) (v : Value) (w : World) : Prop :=
  ∃ (hd all : List UInt8), PoolAt w p ab [⟨1, hd, all⟩, ⟨0, [], []⟩, ⟨0, [], []⟩] ∧ OwnBytes w base 5 v all ∧ all.length ≤ 288

theorem parts_any (w : World) {v : Value} {l : List (List UInt8)} (hl : RowsAt w v l) {vh : Value} {h : List UInt8} (hh : BytesAt w vh h ∧ sliceIn vh (fun b => b < w.heap.size)) (front : Int) (hfr : I64 front) (back : Int) (hba : I64 back) :
    Calls Try.prog 6 #[v, vh, .int .i64 front, .int .i64 back] w fun e w' => e = .returned (.bool true) ∧ Only (fun _ => False) w w' := by
  obtain ⟨a, cap, rfl⟩ := hl.form
  obtain ⟨ah, ch, rfl⟩ := hh.1.form
  have hA := awake_any w
  have kc := fun (w : World) (C : Array Value) (n c : Nat) => Lib.run_convert_bytes_const (P := Try.prog) w 29 5 C n c Try.underlying29 Try.underlying5
  have HKC := Lib.hid kc
  have HL := Lib.hid hl
  have HH := Lib.hid hh
  have hll := hl.len
  have hhl := hh.1.len
  obtain ⟨hf1, hf2⟩ := hfr
  obtain ⟨hb1, hb2⟩ := hba
  clear hl hh kc
  go_enter Try.func6, Try.ntmps6
  go_wp2_with fail
  refine hA.mono ?_
  rintro e w1 ⟨rfl, hO⟩
  go_wp2_with fail
  refine (new_in (n := 3) (by omega) (by omega)).mono ?_
  rintro e w2 ⟨p, ab, rfl, hP, hp, hab, hO2⟩
  have hpr : w.heap.size ≤ p ∧ w.heap.size ≤ ab := by have := hO.size; omega
  have H2 : Hid (PoolAt w2 p ab [⟨0, [], []⟩, ⟨0, [], []⟩, ⟨0, [], []⟩] ∧ Only (fun _ => False) w w2) := And.intro hP (hO.step hO2 (fun b hb => hb.elim))
  clear hP hO hO2 hA hp hab
  go_wp2_with fail
  refine (get_in H2.out.1 (k := 0) (b := ⟨0, [], []⟩) rfl rfl (fun j b hj => by omega)).mono ?_
  rintro e w3 ⟨rfl, hP, hO⟩
  have H3 : Hid (PoolAt w3 p ab [⟨1, [], []⟩, ⟨0, [], []⟩, ⟨0, [], []⟩] ∧ Only (fun _ => False) w w3) := And.intro hP (H2.out.2.step hO (by intro b hb; omega))
  obtain ⟨base, hbase⟩ : ∃ base, base = w3.heap.size := ⟨_, rfl⟩
  have hbp : p < base ∧ ab < base ∧ w.heap.size ≤ base := by have := H3.out.1.lt; have := H3.out.2.size; omega
  have HB := Lib.hid hbase
  clear hP hO H2 hbase
  go_wp2_with fail
  go_loopg [14, 15] l.length (fun g va v wr => ∃ (k : Nat), k ≤ l.length ∧ v = .int .i64 (k : Int) ∧ l.length - k = g ∧ Parted p ab base va wr ∧ Only (fun _ => False) w wr ∧ base ≤ wr.heap.size)
  case atStart => exact ⟨0, Nat.zero_le _, rfl, rfl, ⟨[], [], H3.out.1, ⟨rfl, .inl ⟨rfl, rfl⟩⟩, Nat.zero_le _⟩, H3.out.2, Nat.le_of_eq HB.out⟩
  case round =>
    obtain ⟨k, hk, rfl, hg, ⟨hd, all, hP, hAll, hal⟩, hO, hbs⟩ := hrel
    clear H3 HB
    by_cases hkl : k < l.length
    · rcases HL.out with ⟨_, _, he, hl0⟩ | ⟨bl, off, cap', he, hbl, _, hop⟩
      · rw [hl0] at hkl; simp at hkl
      · simp at he
        obtain ⟨rfl, rfl⟩ := he
        obtain ⟨da, dn, dc, o4, o5, o7⟩ := hop k hkl
        have o4' := o4
        rw [← hO.cell (a := ⟨bl, off + k, none⟩) hbl id] at o4
        generalize hop' : l[k] = o at *
        have hn : dn = o.length := by
          obtain ⟨a', c', e⟩ := o5.form
          simp at e; exact e.2.1
        subst hn
        obtain ⟨aa, ac, rfl, hnil⟩ := hAll.form
        have hol := o5.len
        have HQ := Lib.hid (And.intro hP (And.intro hAll (And.intro hO (And.intro o5 (And.intro o7 (And.intro hnil o4'))))))
        have hnab : sliceIn (.slice da o.length dc) (fun b => ¬ b = ab) := fun b o n c e hn => by have := o7 b o n c e hn; omega
        have hby := o5.only hO (fun _ _ _ _ _ _ h => h)
        by_cases hfit : all.length + o.length ≤ 288
        · have hfit' : (all.length : Int) + (o.length : Int) ≤ 288 := by omega
          have hC := append_in hP (k := 0) rfl rfl hby hnab hfit
          have HC := Lib.hid hC
          clear hC hop hop' hP hAll hO o5 o7 hnil hnab hby o4'
          go_wp2_with fail
          refine HC.out.mono ?_
          rintro e W1 ⟨rfl, hP1, hO1⟩
          have hq4 : W1.cell? ⟨bl, off + k, none⟩ = some (.slice da o.length dc) := by rw [hO1.cell (a := ⟨bl, off + k, none⟩) (Nat.lt_of_lt_of_le hbl HQ.out.2.2.1.size) (by simp; omega)]; exact o4
          have H1 : Hid (PoolAt W1 p ab [⟨1, hd, all ++ o⟩, ⟨0, [], []⟩, ⟨0, [], []⟩] ∧ Only (fun _ => False) w W1 ∧ OwnBytes W1 base 5 (.slice aa all.length ac) all ∧ base ≤ W1.heap.size) :=
            And.intro hP1 (And.intro (HQ.out.2.2.1.step hO1 (by intro b hb; omega)) (And.intro (HQ.out.2.1.only hO1 (by intro b hb _ hab; omega)) (Nat.le_trans hbs hO1.size)))
          clear hP1 hO1 HC o4
          go_wp2_with (at_builtin; refine wpList_append_bytes (by rfl) (.tmp 69) (.tmp 73) 29 5 (by rfl) Try.underlying29 u8_info base all o ?q1 ?q2 ?q3 ?q4 ?_; rotate_left 4; intro v2 W2 hA2 hO2; have H2' := Lib.hid (And.intro hA2 hO2); clear hA2 hO2)
          case q1 => exact H1.out.2.2.1
          case q2 => exact HQ.out.2.2.2.1.only H1.out.2.1 (fun _ _ _ _ _ _ h => h)
          case q3 => omega
          case q4 => exact H1.out.2.2.2
          · have HW : Hid (PoolAt W2 p ab [⟨1, hd, all ++ o⟩, ⟨0, [], []⟩, ⟨0, [], []⟩] ∧ Only (fun _ => False) w W2 ∧ OwnBytes W2 base 5 v2 (all ++ o) ∧ base ≤ W2.heap.size) :=
              And.intro (H1.out.1.frame H2'.out.2 (by simp; omega) (by simp; omega)) (And.intro (H1.out.2.1.step H2'.out.2 (by intro b hb; omega)) (And.intro H2'.out.1 (Nat.le_trans H1.out.2.2.2 H2'.out.2.size)))
            refine (front_some HW.out.1 (k := 0) (b := ⟨1, hd, (all ++ o)⟩) rfl rfl (HH.out.1.only HW.out.2.1 (fun _ _ _ _ _ _ h => h))).mono ?_
            rintro e W3 ⟨x, hd', rfl, hP3, hO3⟩
            have H3 : Hid (Parted p ab base v2 W3 ∧ Only (fun _ => False) w W3 ∧ base ≤ W3.heap.size) :=
              And.intro ⟨hd', (all ++ o), hP3, HW.out.2.2.1.only hO3 (by intro b hb _ hab; omega), (by first | omega | (simp; omega))⟩ (And.intro (HW.out.2.1.step hO3 (by intro b hb; omega)) (Nat.le_trans HW.out.2.2.2 hO3.size))
            clear hP3 hO3
            go_wp2
            go_roundg (l.length - (k + 1))
            case measure => omega
            case rel => exact ⟨k + 1, by omega, by go_num, rfl, H3.out.1, H3.out.2.1, H3.out.2.2⟩
          · have HW : Hid (PoolAt W2 p ab [⟨1, hd, all ++ o⟩, ⟨0, [], []⟩, ⟨0, [], []⟩] ∧ Only (fun _ => False) w W2 ∧ OwnBytes W2 base 5 v2 (all ++ o) ∧ base ≤ W2.heap.size) :=
              And.intro (H1.out.1.frame H2'.out.2 (by simp; omega) (by simp; omega)) (And.intro (H1.out.2.1.step H2'.out.2 (by intro b hb; omega)) (And.intro H2'.out.1 (Nat.le_trans H1.out.2.2.2 H2'.out.2.size)))
            go_roundg (l.length - (k + 1))
            case measure => omega
            case rel => exact ⟨k + 1, by omega, by go_num, rfl, ⟨hd, all ++ o, HW.out.1, HW.out.2.2.1, by simp; omega⟩, HW.out.2.1, HW.out.2.2.2⟩
        · have hfit' : (288 : Int) < (all.length : Int) + (o.length : Int) := by omega
          have hC := append_long hP (k := 0) rfl rfl da o.length dc (by simp; omega) hol
          clear hop hop' hP hAll hO o5 o7 hnil hnab hby o4'
          go_wp2_with (go_at_call 21; refine hC.mono ?_; rintro e W1 ⟨rfl, rfl⟩)
          · go_wp2_with fail
            refine (front_some HQ.out.1 (k := 0) (b := ⟨1, hd, all⟩) rfl rfl (HH.out.1.only HQ.out.2.2.1 (fun _ _ _ _ _ _ h => h))).mono ?_
            rintro e W3 ⟨x, hd', rfl, hP3, hO3⟩
            have H3 : Hid (Parted p ab base (.slice aa all.length ac) W3 ∧ Only (fun _ => False) w W3 ∧ base ≤ W3.heap.size) :=
              And.intro ⟨hd', all, hP3, HQ.out.2.1.only hO3 (by intro b hb _ hab; omega), (by first | omega | (simp; omega))⟩ (And.intro (HQ.out.2.2.1.step hO3 (by intro b hb; omega)) (Nat.le_trans hbs hO3.size))
            clear hP3 hO3
            go_wp2
            go_roundg (l.length - (k + 1))
            case measure => omega
            case rel => exact ⟨k + 1, by omega, by go_num, rfl, H3.out.1, H3.out.2.1, H3.out.2.2⟩
          · go_roundg (l.length - (k + 1))
            case measure => omega
            case rel => exact ⟨k + 1, by omega, by go_num, rfl, ⟨hd, all, HQ.out.1, HQ.out.2.1, hal⟩, HQ.out.2.2.1, hbs⟩
    · have : k = l.length := by omega
      subst this
      obtain ⟨aa, ac, rfl, hnil⟩ := hAll.form
      have HQ := Lib.hid (And.intro hP (And.intro hAll hO))
      by_cases hmay : MayTrim ⟨1, hd, all⟩ front back
      · have hC := trim_in hP (k := 0) rfl rfl hmay
        obtain ⟨m1, m2, m3, m4⟩ := hmay
        obtain ⟨f, rfl⟩ := Int.eq_ofNat_of_zero_le m1
        obtain ⟨g', rfl⟩ := Int.eq_ofNat_of_zero_le m2
        rw [Int.toNat_natCast, Int.toNat_natCast] at hC
        simp only at m3 m4
        have HC := Lib.hid hC
        have hcap : all.length ≤ ac := by
          rcases hAll.2 with ⟨h, h0⟩ | ⟨g, cap, cur, hv, hb, hg2, hn, _⟩
          · omega
          · simp at hv; omega
        have e1 : (0 : Int) ≤ (all.length : Int) - (g' : Int) := by omega
        have e2 : (all.length : Int) - (g' : Int) ≤ (ac : Int) := by omega
        have e3 : ((all.length : Int) - (g' : Int)).toNat = all.length - g' := by omega
        have e4 : (f : Int) ≤ (all.length : Int) - (g' : Int) := by omega
        have e5 : f ≤ all.length - g' := by omega
        obtain ⟨R, hR⟩ : ∃ R, R = (all.drop f).take (all.length - f - g') := ⟨_, rfl⟩
        have hRl : R.length = all.length - g' - f := by rw [hR, List.length_take, List.length_drop]; omega
        have HR := Lib.hid hR
        have HRl := Lib.hid hRl
        have hRb : R.length ≤ 288 := by omega
        clear hR hRl
        by_cases hcf : ac = f
        · have hg0 : g' = 0 := by omega
          have hnf : all.length = f := by omega
          have HNF := Lib.hid hnf
          subst hg0 hcf
          rw [hnf] at e1 e2 e3 e4 e5
          rw [hnf]
          clear hP hAll hO hC hnf m1 m2 m3 m4 hcap
          go_wp2_with fail
          refine HC.out.mono ?_
          rintro e W1 ⟨rfl, hP1, hO1⟩
          have H1 := Lib.hid (And.intro hP1 hO1)
          clear hP1 hO1 HC
          go_wp2_with fail
          have hR0 : 0 = R.length := by have := HRl.out; have := HNF.out; omega
          have hsl : Value.slice aa 0 0 = Value.slice aa R.length 0 := by rw [← hR0]
          rw [hsl]
          have hP1 : PoolAt W1 p ab [⟨1, hd, R⟩, ⟨0, [], []⟩, ⟨0, [], []⟩] := by rw [HR.out]; exact H1.out.1
          have hBR : BytesAt W1 (.slice aa R.length 0) R := by rw [← hR0]; exact .inl ⟨aa, 0, rfl, fun _ => rfl, List.eq_nil_of_length_eq_zero hR0.symm⟩
          have HRA : Hid (sliceIn (.slice aa R.length 0) (fun b => ¬ b = ab)) := fun b o n c e hn => by simp at e; omega
          clear hsl hR0 e1 e2 e3 e4 e5
          have HT : Hid (PoolAt W1 p ab [⟨1, hd, R⟩, ⟨0, [], []⟩, ⟨0, [], []⟩] ∧ Only (fun _ => False) w W1 ∧ BytesAt W1 (.slice aa R.length 0) R) := And.intro hP1 (And.intro (HQ.out.2.2.step H1.out.2 (by intro b hb; omega)) hBR)
          clear hP1 hBR
          go_wp2_with fail
          refine (see_in HT.out.1 (k := 0) (b := ⟨1, hd, R⟩) rfl (by simp)).mono ?_
          rintro e W5 ⟨bh, bd, rfl, hBh, hBd, hne, hs1, hs2, hO5⟩
          have hO6 := HT.out.2.1.step hO5 (fun b hb => hb.elim)
          have hT3 := HT.out.2.2.only hO5 (fun _ _ _ _ _ _ h => h)
          have v1 := fun X => conv_bytes ((hBd.alloc X).bytes (by simp; omega))
          have v2 := fun X => conv_bytes (hT3.only ((Only.refl _ _).alloc X) (fun _ _ _ _ _ _ h => h))
          have H5 : Hid (PoolAt W5 p ab [⟨1, hd, R⟩, ⟨0, [], []⟩, ⟨0, [], []⟩] ∧ Only (fun _ => False) w W5 ∧ BytesAt W5 (.slice aa R.length 0) R) :=
            And.intro (HT.out.1.frame hO5 id id) (And.intro hO6 hT3)
          clear hBh hBd hO5 hO6 hT3
          by_cases h279 : 279 < R.length
          · have h279' : (279 : Int) < (R.length : Int) := by omega
            go_wp2
            go_ret
            exact ⟨rfl, H5.out.2.1.alloc _⟩
          · have h279' : (R.length : Int) ≤ 279 := by omega
            have kc : ∀ (X : Obj) (C : Array Value) (n c : Nat), (convert 29 29 (.slice (some ⟨W5.heap.size + 1, 0, none⟩) n c)).run Try.prog ((W5.alloc X).alloc (.cells C 5)) = .ok (.slice (some ⟨W5.heap.size + 1, 0, none⟩) n c) ((W5.alloc X).alloc (.cells C 5 (C.size, C.size + 1))) :=
              fun X C n c => by have := HKC.out (W5.alloc X) C n c; rw [World.size_alloc] at this; exact this
            go_wp2_with fail
            have hxl := H5.out.1.lt
            refine (append_in ((H5.out.1.alloc _).alloc _) (k := 0) (b := ⟨1, hd, R⟩) rfl rfl (d := [97, 110, 100, 32, 109, 111, 114, 101, 46]) (bytes_const2 _ [97, 110, 100, 32, 109, 111, 114, 101, 46] 5 _ (by simp) rfl (by decide)) (sliceIn_lit (by omega)) (by simp; omega)).mono ?_
            rintro e W7 ⟨rfl, hP7, hO7⟩
            clear kc
            obtain ⟨bx, hbx⟩ : ∃ bx, bx = W5.heap.size := ⟨_, rfl⟩
            have hB7 : Blk W7 bx [.int .i64 1, .slice (some ⟨bh, 0, none⟩) hd.length hd.length, .slice (some ⟨bd, 0, none⟩) R.length R.length] 36 :=
              hO7.blk ((Blk.at_new hbx rfl).alloc _) (by omega)
            rw [← hbx]
            have HRB : Hid (sliceIn (.slice aa R.length 0) (fun b => ¬ b = bx)) := fun b o n c e hn he => by have := H5.out.2.2.lt b o n c e hn; omega
            have hbx' : w.heap.size ≤ bx := by have := H5.out.2.1.size; omega
            have H7 : Hid (PoolAt W7 p ab [⟨1, hd, R ++ [97, 110, 100, 32, 109, 111, 114, 101, 46]⟩, ⟨0, [], []⟩, ⟨0, [], []⟩] ∧ Only (fun _ => False) w W7 ∧ BytesAt W7 (.slice aa R.length 0) R ∧ Blk W7 bx [.int .i64 1, .slice (some ⟨bh, 0, none⟩) hd.length hd.length, .slice (some ⟨bd, 0, none⟩) R.length R.length] 36) :=
              And.intro hP7 (And.intro (((H5.out.2.1.alloc _).alloc _).step hO7 (by intro b hb; omega)) (And.intro ((H5.out.2.2.only (((Only.refl (fun _ => False) _).alloc _).alloc _) (fun _ _ _ _ _ _ h => h)).only hO7 HRA.out) hB7))
            clear hP7 hO7 hB7 hbx hxl v1 v2
            go_wp2_with fail
            refine (see_in H7.out.1 (k := 0) (b := ⟨1, hd, R ++ [97, 110, 100, 32, 109, 111, 114, 101, 46]⟩) rfl (by simp)).mono ?_
            rintro e W8 ⟨ch, cd, rfl, hBh, hBd, hne8, hs3, hs4, hO8⟩
            have hB8 := hO8.blk H7.out.2.2.2 id
            have x0 : W8.cell? ⟨bx, 0, none⟩ = some (.int .i64 1) := by rw [hB8.cell]; rfl
            have x1 : W8.cell? ⟨bx, 1, none⟩ = some (.slice (some ⟨bh, 0, none⟩) hd.length hd.length) := by rw [hB8.cell]; rfl
            have x2 : W8.cell? ⟨bx, 2, none⟩ = some (.slice (some ⟨bd, 0, none⟩) R.length R.length) := by rw [hB8.cell]; rfl
            have xz := fun o => hB8.fz o
            have hlx := H7.out.2.2.2.lt
            have hO9 := H7.out.2.1.step hO8 (fun b hb => hb.elim)
            have hst : ∀ W a b c, Only (fun k => k = bx) W (((W.setCell ⟨bx, 0, none⟩ a).setCell ⟨bx, 1, none⟩ b).setCell ⟨bx, 2, none⟩ c) := fun W a b c => Only.st (Only.st (Only.st (Only.refl (fun k => k = bx) W) rfl _ _) rfl _ _) rfl _ _
            have hdb : ¬ cd = bx := by omega
            have hln : (R ++ [97, 110, 100, 32, 109, 111, 114, 101, 46]).length = R.length + 9 := by simp
            have v1 : ∀ a b c, (convert 29 9 (.slice (some ⟨cd, 0, none⟩) (R.length + 9) (R.length + 9))).run Try.prog (((W8.setCell ⟨bx, 0, none⟩ a).setCell ⟨bx, 1, none⟩ b).setCell ⟨bx, 2, none⟩ c) = .ok (.string ⟨(R ++ [97, 110, 100, 32, 109, 111, 114, 101, 46]).toArray⟩) (((W8.setCell ⟨bx, 0, none⟩ a).setCell ⟨bx, 1, none⟩ b).setCell ⟨bx, 2, none⟩ c) :=
              fun a b c => by have := conv_bytes (((hst W8 a b c).blk hBd hdb).bytes (by simp; omega)); rw [hln] at this; exact this
            have hcat : (⟨R.toArray⟩ : ByteArray) ++ ⟨#[97, 110, 100, 32, 109, 111, 114, 101, 46]⟩ = ⟨(R ++ [97, 110, 100, 32, 109, 111, 114, 101, 46]).toArray⟩ := by
              apply ByteArray.ext; simp
            have v2 := fun a b c => conv_bytes ((H7.out.2.2.1.only hO8 (fun _ _ _ _ _ _ h => h)).only (hst W8 a b c) HRB.out)
            have HE := Lib.hid hO9
            have HST := Lib.hid hst
            clear hBh hBd hO8 hB8 hO9 hst hln
            go_wp2
            go_ret
            exact ⟨rfl, ((HE.out.setCell (.inr hbx') _).setCell (.inr hbx') _).setCell (.inr hbx') _⟩
        · have hcf' : ¬ (ac - f = 0) := by omega
          have HA : Hid (∃ g, aa = some ⟨g, 0, none⟩ ∧ base ≤ g ∧ ∀ j (hj : j < all.length), wr.cell? ⟨g, j, none⟩ = some (bv all[j])) := by
            rcases hAll.2 with ⟨h, h0⟩ | ⟨g, cap, cur, hv, hb, hg2, hn, _⟩
            · simp at h; omega
            · simp at hv
              refine ⟨g, hv.1, hb, fun j hj => ?_⟩
              obtain ⟨g2, cap2, hv2, _, hc2⟩ := hAll.reads hj
              simp at hv2
              rw [hv.1] at hv2
              simp at hv2
              rw [hv2.1]; exact hc2
          clear hP hAll hO hC
          go_wp2_with fail
          refine HC.out.mono ?_
          rintro e W1 ⟨rfl, hP1, hO1⟩
          have H1 := Lib.hid (And.intro hP1 hO1)
          clear hP1 hO1 HC
          go_wp2_with fail
          obtain ⟨g, rfl, hgb, hcells⟩ := HA.out
          have hadd : Option.map (fun x : Addr => x.add f) (some ⟨g, 0, none⟩) = some ⟨g, f, none⟩ := congrArg some (add_plain g f)
          rw [hadd, ← HRl.out]
          have hP1 : PoolAt W1 p ab [⟨1, hd, R⟩, ⟨0, [], []⟩, ⟨0, [], []⟩] := by rw [HR.out]; exact H1.out.1
          have hBR : BytesAt W1 (.slice (some ⟨g, f, none⟩) R.length (ac - f)) R := by
            have hRl := HRl.out
            refine .inr ⟨g, f, ac - f, rfl, by omega, by omega, fun j hj => ?_⟩
            have hjn : f + j < all.length := by omega
            rw [H1.out.2.cell (a := ⟨g, f + j, none⟩) (block_lt_of_cell (hcells (f + j) hjn)) (by simp; omega), hcells (f + j) hjn]
            have e2 : R[j]? = some (all[f + j]'hjn) := by
              rw [HR.out, List.getElem?_take, if_pos (by omega), List.getElem?_drop, List.getElem?_eq_getElem hjn]
            rw [List.getElem?_eq_getElem hj] at e2
            simp only [Option.some.injEq] at e2
            rw [e2]
          have HRA : Hid (sliceIn (.slice (some ⟨g, f, none⟩) R.length (ac - f)) (fun b => ¬ b = ab)) := sliceIn_lit (by omega)
          clear hcells hadd HA e1 e2 e3 e4 e5
          generalize (some ⟨g, f, none⟩ : Option Addr) = ra at *
          generalize ac - f = rc at *
          have HT : Hid (PoolAt W1 p ab [⟨1, hd, R⟩, ⟨0, [], []⟩, ⟨0, [], []⟩] ∧ Only (fun _ => False) w W1 ∧ BytesAt W1 (.slice ra R.length rc) R) := And.intro hP1 (And.intro (HQ.out.2.2.step H1.out.2 (by intro b hb; omega)) hBR)
          clear hP1 hBR
          go_wp2_with fail
          refine (see_in HT.out.1 (k := 0) (b := ⟨1, hd, R⟩) rfl (by simp)).mono ?_
          rintro e W5 ⟨bh, bd, rfl, hBh, hBd, hne, hs1, hs2, hO5⟩
          have hO6 := HT.out.2.1.step hO5 (fun b hb => hb.elim)
          have hT3 := HT.out.2.2.only hO5 (fun _ _ _ _ _ _ h => h)
          have v1 := fun X => conv_bytes ((hBd.alloc X).bytes (by simp; omega))
          have v2 := fun X => conv_bytes (hT3.only ((Only.refl _ _).alloc X) (fun _ _ _ _ _ _ h => h))
          have H5 : Hid (PoolAt W5 p ab [⟨1, hd, R⟩, ⟨0, [], []⟩, ⟨0, [], []⟩] ∧ Only (fun _ => False) w W5 ∧ BytesAt W5 (.slice ra R.length rc) R) :=
            And.intro (HT.out.1.frame hO5 id id) (And.intro hO6 hT3)
          clear hBh hBd hO5 hO6 hT3
          by_cases h279 : 279 < R.length
          · have h279' : (279 : Int) < (R.length : Int) := by omega
            go_wp2
            go_ret
            exact ⟨rfl, H5.out.2.1.alloc _⟩
          · have h279' : (R.length : Int) ≤ 279 := by omega
            have kc : ∀ (X : Obj) (C : Array Value) (n c : Nat), (convert 29 29 (.slice (some ⟨W5.heap.size + 1, 0, none⟩) n c)).run Try.prog ((W5.alloc X).alloc (.cells C 5)) = .ok (.slice (some ⟨W5.heap.size + 1, 0, none⟩) n c) ((W5.alloc X).alloc (.cells C 5 (C.size, C.size + 1))) :=
              fun X C n c => by have := HKC.out (W5.alloc X) C n c; rw [World.size_alloc] at this; exact this
            go_wp2_with fail
            have hxl := H5.out.1.lt
            refine (append_in ((H5.out.1.alloc _).alloc _) (k := 0) (b := ⟨1, hd, R⟩) rfl rfl (d := [97, 110, 100, 32, 109, 111, 114, 101, 46]) (bytes_const2 _ [97, 110, 100, 32, 109, 111, 114, 101, 46] 5 _ (by simp) rfl (by decide)) (sliceIn_lit (by omega)) (by simp; omega)).mono ?_
            rintro e W7 ⟨rfl, hP7, hO7⟩
            clear kc
            obtain ⟨bx, hbx⟩ : ∃ bx, bx = W5.heap.size := ⟨_, rfl⟩
            have hB7 : Blk W7 bx [.int .i64 1, .slice (some ⟨bh, 0, none⟩) hd.length hd.length, .slice (some ⟨bd, 0, none⟩) R.length R.length] 36 :=
              hO7.blk ((Blk.at_new hbx rfl).alloc _) (by omega)
            rw [← hbx]
            have HRB : Hid (sliceIn (.slice ra R.length rc) (fun b => ¬ b = bx)) := fun b o n c e hn he => by have := H5.out.2.2.lt b o n c e hn; omega
            have hbx' : w.heap.size ≤ bx := by have := H5.out.2.1.size; omega
            have H7 : Hid (PoolAt W7 p ab [⟨1, hd, R ++ [97, 110, 100, 32, 109, 111, 114, 101, 46]⟩, ⟨0, [], []⟩, ⟨0, [], []⟩] ∧ Only (fun _ => False) w W7 ∧ BytesAt W7 (.slice ra R.length rc) R ∧ Blk W7 bx [.int .i64 1, .slice (some ⟨bh, 0, none⟩) hd.length hd.length, .slice (some ⟨bd, 0, none⟩) R.length R.length] 36) :=
              And.intro hP7 (And.intro (((H5.out.2.1.alloc _).alloc _).step hO7 (by intro b hb; omega)) (And.intro ((H5.out.2.2.only (((Only.refl (fun _ => False) _).alloc _).alloc _) (fun _ _ _ _ _ _ h => h)).only hO7 HRA.out) hB7))
            clear hP7 hO7 hB7 hbx hxl v1 v2
            go_wp2_with fail
            refine (see_in H7.out.1 (k := 0) (b := ⟨1, hd, R ++ [97, 110, 100, 32, 109, 111, 114, 101, 46]⟩) rfl (by simp)).mono ?_
            rintro e W8 ⟨ch, cd, rfl, hBh, hBd, hne8, hs3, hs4, hO8⟩
            have hB8 := hO8.blk H7.out.2.2.2 id
            have x0 : W8.cell? ⟨bx, 0, none⟩ = some (.int .i64 1) := by rw [hB8.cell]; rfl
            have x1 : W8.cell? ⟨bx, 1, none⟩ = some (.slice (some ⟨bh, 0, none⟩) hd.length hd.length) := by rw [hB8.cell]; rfl
            have x2 : W8.cell? ⟨bx, 2, none⟩ = some (.slice (some ⟨bd, 0, none⟩) R.length R.length) := by rw [hB8.cell]; rfl
            have xz := fun o => hB8.fz o
            have hlx := H7.out.2.2.2.lt
            have hO9 := H7.out.2.1.step hO8 (fun b hb => hb.elim)
            have hst : ∀ W a b c, Only (fun k => k = bx) W (((W.setCell ⟨bx, 0, none⟩ a).setCell ⟨bx, 1, none⟩ b).setCell ⟨bx, 2, none⟩ c) := fun W a b c => Only.st (Only.st (Only.st (Only.refl (fun k => k = bx) W) rfl _ _) rfl _ _) rfl _ _
            have hdb : ¬ cd = bx := by omega
            have hln : (R ++ [97, 110, 100, 32, 109, 111, 114, 101, 46]).length = R.length + 9 := by simp
            have v1 : ∀ a b c, (convert 29 9 (.slice (some ⟨cd, 0, none⟩) (R.length + 9) (R.length + 9))).run Try.prog (((W8.setCell ⟨bx, 0, none⟩ a).setCell ⟨bx, 1, none⟩ b).setCell ⟨bx, 2, none⟩ c) = .ok (.string ⟨(R ++ [97, 110, 100, 32, 109, 111, 114, 101, 46]).toArray⟩) (((W8.setCell ⟨bx, 0, none⟩ a).setCell ⟨bx, 1, none⟩ b).setCell ⟨bx, 2, none⟩ c) :=
              fun a b c => by have := conv_bytes (((hst W8 a b c).blk hBd hdb).bytes (by simp; omega)); rw [hln] at this; exact this
            have hcat : (⟨R.toArray⟩ : ByteArray) ++ ⟨#[97, 110, 100, 32, 109, 111, 114, 101, 46]⟩ = ⟨(R ++ [97, 110, 100, 32, 109, 111, 114, 101, 46]).toArray⟩ := by
              apply ByteArray.ext; simp
            have v2 := fun a b c => conv_bytes ((H7.out.2.2.1.only hO8 (fun _ _ _ _ _ _ h => h)).only (hst W8 a b c) HRB.out)
            have HE := Lib.hid hO9
            have HST := Lib.hid hst
            clear hBh hBd hO8 hB8 hO9 hst hln
            go_wp2
            go_ret
            exact ⟨rfl, ((HE.out.setCell (.inr hbx') _).setCell (.inr hbx') _).setCell (.inr hbx') _⟩
      · have hC := trim_arg hP (k := 0) rfl rfl hmay
        have hmay' : front < 0 ∨ (0 ≤ front ∧ back < 0) ∨ (0 ≤ front ∧ 0 ≤ back ∧ (all.length : Int) < front) ∨ (0 ≤ front ∧ 0 ≤ back ∧ front ≤ all.length ∧ (all.length : Int) - front < back) := by
          unfold MayTrim at hmay; simp only at hmay; omega
        clear hP hAll hO hmay
        go_wp2_with fail
        refine hC.mono ?_
        rintro e W1 ⟨rfl, rfl⟩
        clear hC
        go_upto_region 18 with fail
        go_cut [18] (fun v w' => v = .bool false ∧ w' = wr)
        case first =>
          rcases hmay' with h1 | ⟨h0, h1⟩ | ⟨h0, h00, h1⟩ | ⟨h0, h00, h000, h1⟩
          all_goals go_wp2
          all_goals go_meet
          all_goals first | exact ⟨rfl, rfl⟩ | exact ⟨by simp; omega, rfl⟩
        case rest =>
          obtain ⟨rfl, hw⟩ := hcut
          have hw' := hw.symm
          clear hw
          subst hw'
          have HRA : Hid (sliceIn (.slice aa all.length ac) (fun b => ¬ b = ab)) := fun b o n c e hn => by
            obtain ⟨g, cap, hv, hb, _⟩ := HQ.out.2.1.reads (j := 0) (by simp at e; omega)
            rw [e] at hv; simp at hv; omega
          have HT : Hid (PoolAt wr p ab [⟨1, hd, all⟩, ⟨0, [], []⟩, ⟨0, [], []⟩] ∧ Only (fun _ => False) w wr ∧ BytesAt wr (.slice aa all.length ac) all) := And.intro HQ.out.1 (And.intro HQ.out.2.2 (HQ.out.2.1.bytes (by omega)))
          go_wp2_with fail
          refine (see_in HT.out.1 (k := 0) (b := ⟨1, hd, all⟩) rfl (by simp)).mono ?_
          rintro e W5 ⟨bh, bd, rfl, hBh, hBd, hne, hs1, hs2, hO5⟩
          have hO6 := HT.out.2.1.step hO5 (fun b hb => hb.elim)
          have hT3 := HT.out.2.2.only hO5 (fun _ _ _ _ _ _ h => h)
          have v1 := fun X => conv_bytes ((hBd.alloc X).bytes (by simp; omega))
          have v2 := fun X => conv_bytes (hT3.only ((Only.refl _ _).alloc X) (fun _ _ _ _ _ _ h => h))
          have H5 : Hid (PoolAt W5 p ab [⟨1, hd, all⟩, ⟨0, [], []⟩, ⟨0, [], []⟩] ∧ Only (fun _ => False) w W5 ∧ BytesAt W5 (.slice aa all.length ac) all) :=
            And.intro (HT.out.1.frame hO5 id id) (And.intro hO6 hT3)
          clear hBh hBd hO5 hO6 hT3
          by_cases h279 : 279 < all.length
          · have h279' : (279 : Int) < (all.length : Int) := by omega
            go_wp2
            go_ret
            exact ⟨rfl, H5.out.2.1.alloc _⟩
          · have h279' : (all.length : Int) ≤ 279 := by omega
            have kc : ∀ (X : Obj) (C : Array Value) (n c : Nat), (convert 29 29 (.slice (some ⟨W5.heap.size + 1, 0, none⟩) n c)).run Try.prog ((W5.alloc X).alloc (.cells C 5)) = .ok (.slice (some ⟨W5.heap.size + 1, 0, none⟩) n c) ((W5.alloc X).alloc (.cells C 5 (C.size, C.size + 1))) :=
              fun X C n c => by have := HKC.out (W5.alloc X) C n c; rw [World.size_alloc] at this; exact this
            go_wp2_with fail
            have hxl := H5.out.1.lt
            refine (append_in ((H5.out.1.alloc _).alloc _) (k := 0) (b := ⟨1, hd, all⟩) rfl rfl (d := [97, 110, 100, 32, 109, 111, 114, 101, 46]) (bytes_const2 _ [97, 110, 100, 32, 109, 111, 114, 101, 46] 5 _ (by simp) rfl (by decide)) (sliceIn_lit (by omega)) (by simp; omega)).mono ?_
            rintro e W7 ⟨rfl, hP7, hO7⟩
            clear kc
            obtain ⟨bx, hbx⟩ : ∃ bx, bx = W5.heap.size := ⟨_, rfl⟩
            have hB7 : Blk W7 bx [.int .i64 1, .slice (some ⟨bh, 0, none⟩) hd.length hd.length, .slice (some ⟨bd, 0, none⟩) all.length all.length] 36 :=
              hO7.blk ((Blk.at_new hbx rfl).alloc _) (by omega)
            rw [← hbx]
            have HRB : Hid (sliceIn (.slice aa all.length ac) (fun b => ¬ b = bx)) := fun b o n c e hn he => by have := H5.out.2.2.lt b o n c e hn; omega
            have hbx' : w.heap.size ≤ bx := by have := H5.out.2.1.size; omega
            have H7 : Hid (PoolAt W7 p ab [⟨1, hd, all ++ [97, 110, 100, 32, 109, 111, 114, 101, 46]⟩, ⟨0, [], []⟩, ⟨0, [], []⟩] ∧ Only (fun _ => False) w W7 ∧ BytesAt W7 (.slice aa all.length ac) all ∧ Blk W7 bx [.int .i64 1, .slice (some ⟨bh, 0, none⟩) hd.length hd.length, .slice (some ⟨bd, 0, none⟩) all.length all.length] 36) :=
              And.intro hP7 (And.intro (((H5.out.2.1.alloc _).alloc _).step hO7 (by intro b hb; omega)) (And.intro ((H5.out.2.2.only (((Only.refl (fun _ => False) _).alloc _).alloc _) (fun _ _ _ _ _ _ h => h)).only hO7 HRA.out) hB7))
            clear hP7 hO7 hB7 hbx hxl v1 v2
            go_wp2_with fail
            refine (see_in H7.out.1 (k := 0) (b := ⟨1, hd, all ++ [97, 110, 100, 32, 109, 111, 114, 101, 46]⟩) rfl (by simp)).mono ?_
            rintro e W8 ⟨ch, cd, rfl, hBh, hBd, hne8, hs3, hs4, hO8⟩
            have hB8 := hO8.blk H7.out.2.2.2 id
            have x0 : W8.cell? ⟨bx, 0, none⟩ = some (.int .i64 1) := by rw [hB8.cell]; rfl
            have x1 : W8.cell? ⟨bx, 1, none⟩ = some (.slice (some ⟨bh, 0, none⟩) hd.length hd.length) := by rw [hB8.cell]; rfl
            have x2 : W8.cell? ⟨bx, 2, none⟩ = some (.slice (some ⟨bd, 0, none⟩) all.length all.length) := by rw [hB8.cell]; rfl
            have xz := fun o => hB8.fz o
            have hlx := H7.out.2.2.2.lt
            have hO9 := H7.out.2.1.step hO8 (fun b hb => hb.elim)
            have hst : ∀ W a b c, Only (fun k => k = bx) W (((W.setCell ⟨bx, 0, none⟩ a).setCell ⟨bx, 1, none⟩ b).setCell ⟨bx, 2, none⟩ c) := fun W a b c => Only.st (Only.st (Only.st (Only.refl (fun k => k = bx) W) rfl _ _) rfl _ _) rfl _ _
            have hdb : ¬ cd = bx := by omega
            have hln : (all ++ [97, 110, 100, 32, 109, 111, 114, 101, 46]).length = all.length + 9 := by simp
            have v1 : ∀ a b c, (convert 29 9 (.slice (some ⟨cd, 0, none⟩) (all.length + 9) (all.length + 9))).run Try.prog (((W8.setCell ⟨bx, 0, none⟩ a).setCell ⟨bx, 1, none⟩ b).setCell ⟨bx, 2, none⟩ c) = .ok (.string ⟨(all ++ [97, 110, 100, 32, 109, 111, 114, 101, 46]).toArray⟩) (((W8.setCell ⟨bx, 0, none⟩ a).setCell ⟨bx, 1, none⟩ b).setCell ⟨bx, 2, none⟩ c) :=
              fun a b c => by have := conv_bytes (((hst W8 a b c).blk hBd hdb).bytes (by simp; omega)); rw [hln] at this; exact this
            have hcat : (⟨all.toArray⟩ : ByteArray) ++ ⟨#[97, 110, 100, 32, 109, 111, 114, 101, 46]⟩ = ⟨(all ++ [97, 110, 100, 32, 109, 111, 114, 101, 46]).toArray⟩ := by
              apply ByteArray.ext; simp
            have v2 := fun a b c => conv_bytes ((H7.out.2.2.1.only hO8 (fun _ _ _ _ _ _ h => h)).only (hst W8 a b c) HRB.out)
            have HE := Lib.hid hO9
            have HST := Lib.hid hst
            clear hBh hBd hO8 hB8 hO9 hst hln
            go_wp2
            go_ret
            exact ⟨rfl, ((HE.out.setCell (.inr hbx') _).setCell (.inr hbx') _).setCell (.inr hbx') _⟩

end Go.Proofs.Ythofjobcjkeomaa
