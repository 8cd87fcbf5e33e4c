/-
  PoolHolds, walked: it answers true whatever it is given.
-/
import Derived.Test.YthofjobcjkeomaaPoolLeast
import Derived.Deep.CutBlock
namespace Go.Proofs.Ythofjobcjkeomaa
open Go.RowKit
set_option maxRecDepth 100000
set_option maxHeartbeats 4000000

/-- What a See of any buffer comes to. -/
def SeeAny (w : World) (L : List Bf) (id : Int) (e : Ending) (w' : World) : Prop :=
  ∃ (rf ec : Int) (h1 h2 h3 d1 d2 d3 : _), e = .returned (.tuple #[.agg #[.int .i64 rf, .slice h1 h2 h3, .slice d1 d2 d3], .int .i64 ec]) ∧ Only (fun _ => False) w w' ∧
    ((¬ Used L id ∧ ec = 7) ∨ ∃ (k : Nat) (b : Bf), id = (k : Int) ∧ L[k]? = some b ∧ 0 < b.refs ∧ ec = 0 ∧ rf = (b.refs : Int))

theorem see_any {w : World} {p ab : Nat} {L : List Bf} (h : PoolAt w p ab L) (id : Int) :
    Calls Try.prog 11 #[.pointer (some ⟨p, 0, none⟩), .int .i64 id] w (SeeAny w L id) := by
  by_cases hu : Used L id
  · obtain ⟨k, b, rfl, hk, hr⟩ := hu
    refine (see_in h hk hr).mono ?_
    rintro e w' ⟨bh, bd, rfl, _, _, _, _, _, hO⟩
    exact ⟨_, _, _, _, _, _, _, _, rfl, hO, .inr ⟨k, b, rfl, hk, hr, rfl, rfl⟩⟩
  · refine (see_no h hu).mono ?_
    rintro e w' ⟨rfl, hO⟩
    exact ⟨_, _, _, _, _, _, _, _, rfl, hO, .inl ⟨hu, rfl⟩⟩

/-- What the statement keeps: the first buffer as it was put, and the count of those taken. -/
def Keeps (p ab n : Nat) (h d : List UInt8) (k : Nat) (t : Int) (w : World) : Prop :=
  ∃ (L : List Bf) (r : Nat), PoolAt w p ab L ∧ L.length = n ∧ L[0]? = some ⟨r, h, d⟩ ∧ 2 ≤ r ∧ t + (nfree L : Int) = n ∧ ∀ b ∈ L, b.refs ≤ k + 2

theorem Keeps.only {p ab n : Nat} {h d : List UInt8} {k : Nat} {t : Int} {w w' : World} (H : Keeps p ab n h d k t w) (ho : Only (fun _ => False) w w') : Keeps p ab n h d k t w' := by
  obtain ⟨L, r, h1, h2⟩ := H
  exact ⟨L, r, h1.frame ho id id, h2⟩

theorem bound2 {L : List Bf} {k : Nat} (h : ∀ b ∈ L, b.refs ≤ k + 2) : ∀ b ∈ L, b.refs ≤ k + 1 + 2 := fun b hb => by have := h b hb; omega

/-- The end of a round's switch. -/
def Went (w0 : World) (p ab n : Nat) (h d : List UInt8) (k : Nat) (v : Value) (w : World) : Prop :=
  ∃ t, v = .int .i64 t ∧ Keeps p ab n h d (k + 1) t w ∧ Only (fun _ => False) w0 w

theorem Keeps.chg {p ab n : Nat} {h d : List UInt8} {k : Nat} {t : Int} {w' : World} {L L' : List Bf} {r : Nat} (hP : PoolAt w' p ab L') (hn : L.length = n) (h0 : L[0]? = some ⟨r, h, d⟩) (hr : 2 ≤ r) (ht : t + (nfree L : Int) = n) (hb : ∀ b ∈ L, b.refs ≤ k + 2)
    (hl : L'.length = L.length) (hc : ∀ (j : Nat) (b : Bf), L[j]? = some b → ∃ b' : Bf, L'[j]? = some b' ∧ b'.refs = b.refs ∧ (b.refs ≠ 1 → b' = b)) : Keeps p ab n h d (k + 1) t w' := by
  obtain ⟨b', h1, h2, h3⟩ := hc 0 _ h0
  have : b' = ⟨r, h, d⟩ := h3 (by simp; omega)
  subst this
  refine ⟨L', r, hP, by omega, h1, hr, ?_, bound2 (bound_chg hl hc hb)⟩
  have e : nfree L' = nfree L := by
    have hm : L'.map (·.refs) = L.map (·.refs) := by
      apply List.ext_getElem?
      intro j
      simp only [List.getElem?_map]
      by_cases hj : j < L.length
      · obtain ⟨b2, q1, q2, _⟩ := hc j L[j] (List.getElem?_eq_getElem hj)
        rw [q1, List.getElem?_eq_getElem hj]; simp [q2]
      · rw [List.getElem?_eq_none (by omega), List.getElem?_eq_none (by omega)]
    have cm : ∀ l : List Bf, nfree l = (l.map (·.refs)).countP (· == 0) := fun l => by unfold nfree; rw [List.countP_map]; rfl
    rw [cm, cm, hm]
  rw [e]; exact ht

theorem keeps_set {p ab n : Nat} {h d : List UInt8} {k : Nat} {t' : Int} {w' : World} {L : List Bf} {r j : Nat} {b b1 : Bf} (hP : PoolAt w' p ab (L.set j b1)) (hn : L.length = n) (h0 : L[0]? = some ⟨r, h, d⟩) (hr : 2 ≤ r) (hb : ∀ b ∈ L, b.refs ≤ k + 2)
    (hj : L[j]? = some b) (hb1 : b1.refs ≤ b.refs + 1) (hc : j = 0 → ∃ r', 2 ≤ r' ∧ b1 = ⟨r', h, d⟩) (ht : t' + (nfree (L.set j b1) : Int) = n) : Keeps p ab n h d (k + 1) t' w' := by
  have hbd : ∀ x ∈ L.set j b1, x.refs ≤ k + 1 + 2 := by
    have := hb b (List.mem_of_getElem? hj)
    intro x hx
    rcases List.mem_or_eq_of_mem_set hx with h2 | h2
    · have := hb x h2; omega
    · subst h2; omega
  have hjl := (List.getElem?_eq_some_iff.1 hj).1
  by_cases e : j = 0
  · obtain ⟨r', hr', hb'⟩ := hc e
    subst e
    exact ⟨_, r', hP, by simpa using hn, by rw [List.getElem?_set_self hjl, hb'], hr', ht, hbd⟩
  · exact ⟨_, r, hP, by simpa using hn, by rw [List.getElem?_set_ne e]; exact h0, hr, ht, hbd⟩

theorem holds_any (w : World) (many : Int) {vd : Value} {d : List UInt8} (hd : BytesAt w vd d ∧ sliceIn vd (fun b => b < w.heap.size)) {vh : Value} {h : List UInt8} (hh : BytesAt w vh h ∧ sliceIn vh (fun b => b < w.heap.size)) {v : Value} {l : List OpR} (hl : OpsAt w v l) :
    Calls Try.prog 5 #[.int .i64 many, vd, vh, v] w fun e w' => e = .returned (.bool true) ∧ Only (fun _ => False) w w' := by
  obtain ⟨a, cap, rfl⟩ := hl.form
  obtain ⟨ad, cd, rfl⟩ := hd.1.form
  obtain ⟨ah, ch, rfl⟩ := hh.1.form
  by_cases hm : many < 1 ∨ 4096 < many
  · have hA := awake_any w
    clear hl hd hh
    go_enter Try.func5, Try.ntmps5
    rcases hm with hm | hm
    · go_wp2_with (first | (go_at_call 7; refine hA.mono ?_; rintro e w1 ⟨rfl, hO⟩) | (go_at_call 8; refine (new_no (.inl hm)).mono ?_; rintro e w2 ⟨rfl, rfl⟩))
      go_ret
      exact ⟨rfl, hO⟩
    · have hm1 : 1 ≤ many := by omega
      go_wp2_with (first | (go_at_call 7; refine hA.mono ?_; rintro e w1 ⟨rfl, hO⟩) | (go_at_call 8; refine (new_no (.inr hm)).mono ?_; rintro e w2 ⟨rfl, rfl⟩))
      go_ret
      exact ⟨rfl, hO⟩
  · obtain ⟨n, rfl⟩ : ∃ n : Nat, many = (n : Int) := ⟨many.toNat, by omega⟩
    have h1 : 1 ≤ n := by omega
    have h2 : n ≤ 4096 := by omega
    clear hm
    have hA := awake_any w
    have HN := Lib.hid (fun w1 => new_in (w := w1) h1 h2)
    have HL := Lib.hid hl
    have HDH := Lib.hid (And.intro hd hh)
    have hll := hl.len
    have hdl := hd.1.len
    have hhl := hh.1.len
    obtain ⟨m, rfl⟩ : ∃ m, n = m + 1 := ⟨n - 1, by omega⟩
    have hrep : List.replicate (m + 1) (⟨0, [], []⟩ : Bf) = ⟨0, [], []⟩ :: List.replicate m ⟨0, [], []⟩ := rfl
    have HR := Lib.hid hrep
    clear hl hd hh hrep
    go_enter Try.func5, Try.ntmps5
    go_wp2_with (first | (go_at_call 7; refine hA.mono ?_; rintro e w1 ⟨rfl, hO⟩) | (go_at_call 8; refine (HN.out _).mono ?_; rintro e w2 ⟨p, ab, rfl, hP, hp, hab, hO2⟩))
    rw [HR.out] at hP
    have hpr : w.heap.size ≤ p ∧ w.heap.size ≤ ab := by have := hO.size; omega
    have H2 := Lib.hid (And.intro hP (hO.step hO2 (fun b hb => hb.elim)))
    clear hP hO hO2 hA HN hp hab
    refine (get_in H2.out.1 (k := 0) (b := ⟨0, [], []⟩) rfl rfl (fun j b hj => by omega)).mono ?_
    rintro e w3 ⟨rfl, hP, hO⟩
    have H3 : Hid (PoolAt w3 p ab (⟨1, [], []⟩ :: List.replicate m ⟨0, [], []⟩) ∧ Only (fun _ => False) w w3) := And.intro hP (H2.out.2.step hO (by intro b hb; omega))
    clear hP hO H2
    go_wp2_with fail
    have hsd : sliceIn (.slice ad d.length cd) (fun b => ¬ b = ab) := fun b o n c e hn => by have := HDH.out.1.2 b o n c e hn; omega
    have hbd : BytesAt w3 (.slice ad d.length cd) d := HDH.out.1.1.only H3.out.2 (fun _ _ _ _ _ _ h => h)
    by_cases hd288 : 288 < d.length
    · have hd' : (288 : Int) < (d.length : Int) := by omega
      refine (set_long H3.out.1 (k := 0) (b := ⟨1, [], []⟩) rfl rfl _ _ _ hd288).mono ?_
      rintro e w4 ⟨rfl, rfl⟩
      clear hbd hsd
      go_wp2_with fail
      refine (front_chg H3.out.1 0 (HDH.out.2.1.only H3.out.2 (fun _ _ _ _ _ _ h => h))).mono ?_
      rintro e w5 ⟨x, L5, rfl, hP5, hO5, hl5, hc5⟩
      obtain ⟨b5, hb5, hr5, -⟩ := hc5 0 _ rfl
      have H5 : Hid (PoolAt w5 p ab L5 ∧ Only (fun _ => False) w w5) := And.intro hP5 (H3.out.2.step hO5 (by intro b hb; omega))
      simp only at hr5
      have hH := hold_in hP5 hb5 (by omega) (by omega)
      clear hP5 hO5 hl5 hc5 hb5 hr5
      go_wp2_with fail
      refine hH.mono ?_
      rintro e w6 ⟨rfl, -, hO6⟩
      have H6 := Lib.hid (H5.out.2.step hO6 (by intro b hb; omega))
      clear hO6 hH
      go_wp2
      go_ret
      exact ⟨rfl, H6.out⟩
    · refine (set_in H3.out.1 (k := 0) (b := ⟨1, [], []⟩) rfl rfl hbd hsd (by omega)).mono ?_
      rintro e w4 ⟨rfl, hP, hO⟩
      have H4 : Hid (PoolAt w4 p ab (⟨1, [], d⟩ :: List.replicate m ⟨0, [], []⟩) ∧ Only (fun _ => False) w w4) := And.intro hP (H3.out.2.step hO (by intro b hb; omega))
      clear hP hO hbd hsd H3
      go_wp2_with fail
      by_cases hh104 : 104 < h.length
      · have hh' : (104 : Int) < (h.length : Int) := by omega
        have hd' : (d.length : Int) ≤ 288 := by omega
        refine (front_long H4.out.1 (k := 0) (b := ⟨1, [], d⟩) rfl rfl _ _ _ hh104).mono ?_
        rintro e w5 ⟨rfl, rfl⟩
        go_wp2_with fail
        refine (hold_in H4.out.1 (k := 0) (b := ⟨1, [], d⟩) rfl (by simp) (by simp)).mono ?_
        rintro e w6 ⟨rfl, -, hO6⟩
        have H6 := Lib.hid (H4.out.2.step hO6 (by intro b hb; omega))
        clear hO6
        go_wp2
        go_ret
        exact ⟨rfl, H6.out⟩
      · refine (front_in H4.out.1 (k := 0) (b := ⟨1, [], d⟩) rfl rfl (HDH.out.2.1.only H4.out.2 (fun _ _ _ _ _ _ h => h)) (by omega)).mono ?_
        rintro e w5 ⟨rfl, hP, hO⟩
        have H5 : Hid (PoolAt w5 p ab (⟨1, h, d⟩ :: List.replicate m ⟨0, [], []⟩) ∧ Only (fun _ => False) w w5) := And.intro hP (H4.out.2.step hO (by intro b hb; omega))
        clear hP hO H4
        go_wp2_with fail
        refine (hold_in H5.out.1 (k := 0) (b := ⟨1, h, d⟩) rfl (by simp) (by simp)).mono ?_
        rintro e w6 ⟨rfl, hP, hO⟩
        have H6 : Hid (PoolAt w6 p ab (⟨2, h, d⟩ :: List.replicate m ⟨0, [], []⟩) ∧ Only (fun _ => False) w w6) := And.intro hP (H5.out.2.step hO (by intro b hb; omega))
        clear hP hO H5 hd288 hh104
        go_wp2_with fail
        go_loopg [17, 18] l.length (fun g vt v wr => ∃ (k : Nat) (t : Int), k ≤ l.length ∧ v = .int .i64 (k : Int) ∧ vt = .int .i64 t ∧ l.length - k = g ∧ Keeps p ab (m + 1) h d k t wr ∧ Only (fun _ => False) w wr)
        case atStart =>
          refine ⟨0, 1, Nat.zero_le _, rfl, rfl, rfl, ⟨_, 2, H6.out.1, by simp, rfl, Nat.le_refl _, ?_, ?_⟩, H6.out.2⟩
          · have : nfree (⟨2, h, d⟩ :: List.replicate m ⟨0, [], []⟩) = m := by
              unfold nfree; rw [List.countP_cons_of_neg (by simp), List.countP_replicate]; simp
            rw [this]; omega
          · intro b hb
            rcases List.mem_cons.1 hb with rfl | hb
            · exact Nat.le_refl _
            · rw [List.eq_of_mem_replicate hb]; exact Nat.zero_le _
        case round =>
          obtain ⟨k, t, hk, rfl, rfl, hg, hK, hO⟩ := hrel
          clear H6
          by_cases hkl : k < l.length
          · rcases HL.out with ⟨_, _, he, hl0⟩ | ⟨bl, off, cap', he, hbl, _, hop⟩
            · rw [hl0] at hkl; simp at hkl
            · simp at he
              obtain ⟨rfl, rfl⟩ := he
              obtain ⟨o0, o1, o2, o3, ⟨da, dn, dc, o4, o5, o7⟩, r0, r1, r2, r3⟩ := hop k hkl
              rw [← hO.cell (a := ⟨bl, off + k * 5, none⟩) hbl id] at o0
              rw [← hO.cell (a := ⟨bl, off + k * 5 + 1, none⟩) hbl id] at o1
              rw [← hO.cell (a := ⟨bl, off + k * 5 + 2, none⟩) hbl id] at o2
              rw [← hO.cell (a := ⟨bl, off + k * 5 + 3, none⟩) hbl id] at o3
              rw [← hO.cell (a := ⟨bl, off + k * 5 + 4, none⟩) hbl id] at o4
              have hlt' : bl < wr.heap.size := Nat.lt_of_lt_of_le hbl hO.size
              generalize hop' : l[k] = o at *
              have HQ := Lib.hid (And.intro hK hO)
              have HD := Lib.hid (And.intro o5 o7)
              clear hop hop' hK hO o5 o7
              by_cases hsk : o.id = 0 ∧ o.kind = 2
              · obtain ⟨s1, s2⟩ := hsk
                rw [s1] at o1
                rw [s2] at o0
                clear s1 s2
                go_wp2
                go_roundg (l.length - (k + 1))
                case measure => omega
                case rel =>
                  obtain ⟨⟨L, r, q1, q2, q3, q4, q5, q6⟩, hO⟩ := HQ.out
                  exact ⟨k + 1, t, by omega, by go_num, rfl, rfl, ⟨L, r, q1.alloc _, q2, q3, q4, q5, bound2 q6⟩, hO.alloc _⟩
              · have hsk1 : o.id = 0 → (o.kind == 2) = false := fun e => by simp; exact fun e2 => hsk ⟨e, e2⟩
                have hsk2 := Lib.hid hsk1
                have hnlt : ∀ b o n c, Value.slice da dn dc = .slice (some ⟨b, o, none⟩) n c → 0 < n → ¬ b = ab := fun b o n c e hn => by have := HD.out.2 b o n c e hn; omega
                have HND := Lib.hid hnlt
                clear hsk1 hsk hnlt
                go_upto_region 18 with fail
                go_cut [106] (fun v w' => v = .bool false ∧ w' = wr.alloc (.cells #[.int .i64 o.kind, .int .i64 o.id, .int .i64 o.a, .int .i64 o.b, .slice da dn dc] 31))
                case first =>
                  by_cases hz : o.id = 0
                  · have hk2 := hsk2.out hz
                    have HZ := Lib.hid hz
                    rw [hz]
                    rw [hz] at o1
                    clear hz
                    go_wp2
                    go_meet
                    exact ⟨rfl, by rw [HZ.out]⟩
                  · have hz0 : (o.id == 0) = false := by simpa using hz
                    clear hz
                    go_wp2
                    go_meet
                    exact ⟨rfl, rfl⟩
                case rest =>
                  obtain ⟨rfl, rfl⟩ := hcut
                  obtain ⟨hK, hO⟩ := HQ.out
                  have hK1 := hK.only ((Only.refl _ _).alloc (.cells #[.int .i64 o.kind, .int .i64 o.id, .int .i64 o.a, .int .i64 o.b, .slice da dn dc] 31))
                  have hO1 := hO.alloc (.cells #[.int .i64 o.kind, .int .i64 o.id, .int .i64 o.a, .int .i64 o.b, .slice da dn dc] 31)
                  have hBx := Blk.at_new (w := wr) (A := #[.int .i64 o.kind, .int .i64 o.id, .int .i64 o.a, .int .i64 o.b, .slice da dn dc]) (c := [.int .i64 o.kind, .int .i64 o.id, .int .i64 o.a, .int .i64 o.b, .slice da dn dc]) (T := 31) rfl rfl
                  have hnx : ¬ wr.heap.size = p ∧ ¬ wr.heap.size = ab := by
                    obtain ⟨L, r, q, _⟩ := hK
                    have := q.lt
                    omega
                  have hwx := hO.size
                  generalize hW1 : wr.alloc (.cells #[.int .i64 o.kind, .int .i64 o.id, .int .i64 o.a, .int .i64 o.b, .slice da dn dc] 31) = W1 at *
                  generalize wr.heap.size = bx at *
                  obtain ⟨L, r, hP, hLn, hL0, hr2, ht, hb⟩ := hK1
                  have hS := see_any hP o.id
                  have HP := Lib.hid (And.intro hP (And.intro hL0 (And.intro hb (And.intro hBx hO1))))
                  have x1 : W1.cell? ⟨bx, 1, none⟩ = some (.int .i64 o.id) := by rw [hBx.cell]; rfl
                  have htb : 0 ≤ t ∧ t ≤ 4096 := by have := nfree_le L; omega
                  clear hK hO hO1 hBx hP hL0 hb HQ hW1 o0 o1 o2 o3 o4
                  go_wp2_with fail
                  refine hS.mono ?_
                  rintro e W2 ⟨rf, ec, s1, s2, s3, s4, s5, s6, rfl, hO2, hrf⟩
                  have HF := Lib.hid hrf
                  have y : ∀ (j : Nat) u, [Value.int .i64 o.kind, .int .i64 o.id, .int .i64 o.a, .int .i64 o.b, .slice da dn dc][j]? = some u → ∀ X, (W2.alloc X).cell? ⟨bx, j, none⟩ = some u := fun j u hj X => by rw [((hO2.blk HP.out.2.2.2.1 id).alloc X).cell]; exact hj
                  have y0 := y 0 _ rfl
                  have y1 := y 1 _ rfl
                  have y2 := y 2 _ rfl
                  have y3 := y 3 _ rfl
                  have y4 := y 4 _ rfl
                  have HP2 : Hid (PoolAt W2 p ab L ∧ Only (fun _ => False) w W2) := And.intro (HP.out.1.frame hO2 id id) (HP.out.2.2.2.2.step hO2 (fun b hb => hb.elim))
                  clear hrf hO2 hS x1 y
                  go_upto_block 2 with fail
                  have HP3 := Lib.hid (And.intro (HP2.out.1.alloc (.cells #[.int .i64 rf, .slice s1 s2 s3, .slice s4 s5 s6] 36)) (HP2.out.2.alloc (.cells #[.int .i64 rf, .slice s1 s2 s3, .slice s4 s5 s6] 36)))
                  have z0 : (W2.alloc (.cells #[.int .i64 rf, .slice s1 s2 s3, .slice s4 s5 s6] 36)).cell? ⟨W2.heap.size, 0, none⟩ = some (.int .i64 rf) := by rw [(Blk.at_new (c := [_, _, _]) rfl rfl).cell]; rfl
                  have hyl : ¬ W2.heap.size = ab ∧ ¬ W2.heap.size = p := by have := HP2.out.1.lt; omega
                  have u0 := y0 (.cells #[.int .i64 rf, .slice s1 s2 s3, .slice s4 s5 s6] 36)
                  have u1 := y1 (.cells #[.int .i64 rf, .slice s1 s2 s3, .slice s4 s5 s6] 36)
                  have u2 := y2 (.cells #[.int .i64 rf, .slice s1 s2 s3, .slice s4 s5 s6] 36)
                  have u3 := y3 (.cells #[.int .i64 rf, .slice s1 s2 s3, .slice s4 s5 s6] 36)
                  have u4 := y4 (.cells #[.int .i64 rf, .slice s1 s2 s3, .slice s4 s5 s6] 36)
                  have UZ := Lib.hid (And.intro u0 (And.intro u1 (And.intro u2 (And.intro u3 (And.intro u4 z0)))))
                  clear y0 y1 y2 y3 y4 u0 u1 u2 u3 u4 z0 HP2
                  generalize W2.alloc (.cells #[.int .i64 rf, .slice s1 s2 s3, .slice s4 s5 s6] 36) = W3 at *
                  generalize W2.heap.size = yy at *
                  go_cut [17] (Went w p ab (m + 1) h d k)
                  case first =>
                    by_cases c0 : o.kind = 0
                    · have e0 : (o.kind == 0) = true := by simpa using c0
                      clear c0
                      rcases get_cases L with hf | ⟨j, b, hLj, hbr, hf⟩
                      · have hG := get_none HP3.out.1 hf
                        clear hf
                        go_wp2_with fail
                        refine hG.mono ?_
                        rintro e W4 ⟨rfl, rfl⟩
                        go_wp2
                        go_meet
                        exact ⟨t, rfl, ⟨L, r, HP3.out.1, hLn, HP.out.2.1, hr2, ht, bound2 HP.out.2.2.1⟩, HP3.out.2⟩
                      · have hG := get_in HP3.out.1 hLj hbr hf
                        have hj0 : j ≠ 0 := fun e => by subst e; rw [HP.out.2.1] at hLj; cases hLj; simp at hbr; omega
                        have hj0' : ((j : Int) == 0) = false := by simp; exact hj0
                        have HJ := Lib.hid (And.intro hLj (And.intro hbr hj0))
                        clear hLj hbr hf hj0
                        go_wp2_with fail
                        refine hG.mono ?_
                        rintro e W4 ⟨rfl, hP4, hO4⟩
                        have e := nfree_set (b1 := ⟨1, [], []⟩) HJ.out.1
                        rw [if_pos HJ.out.2.1, if_neg (by simp)] at e
                        have HE := Lib.hid (And.intro (keeps_set (t' := t + 1) hP4 hLn HP.out.2.1 hr2 HP.out.2.2.1 HJ.out.1 (by simp) (fun h => absurd h HJ.out.2.2) (by omega)) (HP3.out.2.step hO4 (by intro b hb; omega)))
                        clear hP4 hO4 hG e
                        go_wp2
                        go_meet
                        exact ⟨t + 1, rfl, HE.out⟩
                    by_cases c1 : o.kind = 1
                    · have e0 : (o.kind == 0) = false := by simpa using c0
                      have e1 : (o.kind == 1) = true := by simpa using c1
                      obtain ⟨w0, w1, w2, w3, w4, -⟩ := UZ.out
                      clear c0 c1
                      by_cases hu : Used L o.id
                      · obtain ⟨j, b, hj, hLj, hbr⟩ := hu
                        have hbb : b.refs ≤ k + 2 := HP.out.2.2.1 b (List.mem_of_getElem? hLj)
                        have hH := hold_in HP3.out.1 hLj hbr (by omega)
                        have HJ := Lib.hid (And.intro hLj hbr)
                        rw [hj] at w1
                        clear hLj hbr hj
                        go_wp2_with fail
                        refine hH.mono ?_
                        rintro e W4 ⟨rfl, hP4, hO4⟩
                        have e := nfree_set (b1 := { b with refs := b.refs + 1 }) HJ.out.1
                        have hbr := HJ.out.2
                        rw [if_neg (by omega), if_neg (by simp)] at e
                        have HE := Lib.hid (And.intro (keeps_set (t' := t) hP4 hLn HP.out.2.1 hr2 HP.out.2.2.1 HJ.out.1 (by simp) (fun h => by
                          have h5 := HJ.out.1
                          rw [h, HP.out.2.1] at h5; cases h5
                          exact ⟨r + 1, by omega, rfl⟩) (by omega)) (HP3.out.2.step hO4 (by intro b hb; omega)))
                        clear hP4 hO4 hH e w0 w1 w2 w3 w4
                        try go_wp2
                        go_meet
                        exact ⟨t, rfl, HE.out⟩
                      · have hH := hold_no HP3.out.1 hu
                        clear hu
                        go_wp2_with fail
                        refine hH.mono ?_
                        rintro e W4 ⟨rfl, rfl⟩
                        try go_wp2
                        go_meet
                        exact ⟨t, rfl, ⟨L, r, HP3.out.1, hLn, HP.out.2.1, hr2, ht, bound2 HP.out.2.2.1⟩, HP3.out.2⟩
                    by_cases c2 : o.kind = 2
                    · have e0 : (o.kind == 0) = false := by simpa using c0
                      have e1 : (o.kind == 1) = false := by simpa using c1
                      have e2 : (o.kind == 2) = true := by simpa using c2
                      have hz0 : o.id ≠ 0 := fun h => by have := hsk2.out h; rw [e2] at this; cases this
                      obtain ⟨w0, w1, w2, w3, w4, w5⟩ := UZ.out
                      clear c0 c1 c2
                      by_cases hu : Used L o.id
                      · obtain ⟨j, b, hj, hLj, hbr⟩ := hu
                        have hj0 : j ≠ 0 := fun h => hz0 (by rw [hj, h]; rfl)
                        have hbb : b.refs ≤ k + 2 := HP.out.2.2.1 b (List.mem_of_getElem? hLj)
                        have hH := free_in HP3.out.1 hLj hbr (by omega)
                        have hef : ec = 0 ∧ rf = (b.refs : Int) := by
                          rcases HF.out with ⟨h1, _⟩ | ⟨k', b', h1, h2, _, h3, h4⟩
                          · exact absurd ⟨j, b, hj, hLj, hbr⟩ h1
                          · have : k' = j := by omega
                            subst this
                            rw [hLj] at h2; cases h2
                            exact ⟨h3, h4⟩
                        obtain ⟨rfl, rfl⟩ := hef
                        have HJ := Lib.hid (And.intro hLj (And.intro hbr hj0))
                        rw [hj] at w1
                        clear hLj hbr hj hz0 hj0
                        have e := nfree_set (b1 := { b with refs := b.refs - 1 }) HJ.out.1
                        by_cases h1 : b.refs = 1
                        · have h1' : ((b.refs : Int) == 1) = true := by simp; omega
                          rw [if_neg (by omega), if_pos (by simp; omega)] at e
                          have HX := Lib.hid e
                          clear e h1
                          go_wp2_with fail
                          refine hH.mono ?_
                          rintro e W4 ⟨rfl, hP4, hO4⟩
                          have z5 : W4.cell? ⟨yy, 0, none⟩ = some (.int .i64 (b.refs : Int)) := by rw [hO4.cell (a := ⟨yy, 0, none⟩) (block_lt_of_cell w5) (by show ¬ (yy = p ∨ yy = ab); omega)]; exact w5
                          have e := HX.out
                          have HE := Lib.hid (And.intro (keeps_set (t' := t - 1) hP4 hLn HP.out.2.1 hr2 HP.out.2.2.1 HJ.out.1 (by simp; omega) (fun h => absurd h HJ.out.2.2) (by omega)) (HP3.out.2.step hO4 (by intro b hb; omega)))
                          clear hP4 hO4 hH e w0 w1 w2 w3 w4 w5
                          go_wp2
                          go_meet
                          exact ⟨t - 1, rfl, HE.out⟩
                        · have h1' : ((b.refs : Int) == 1) = false := by simp; omega
                          have hbr := HJ.out.2.1
                          rw [if_neg (by omega), if_neg (by simp; omega)] at e
                          have HX := Lib.hid e
                          clear e h1 hbr
                          go_wp2_with fail
                          refine hH.mono ?_
                          rintro e W4 ⟨rfl, hP4, hO4⟩
                          have z5 : W4.cell? ⟨yy, 0, none⟩ = some (.int .i64 (b.refs : Int)) := by rw [hO4.cell (a := ⟨yy, 0, none⟩) (block_lt_of_cell w5) (by show ¬ (yy = p ∨ yy = ab); omega)]; exact w5
                          have e := HX.out
                          have HE := Lib.hid (And.intro (keeps_set (t' := t) hP4 hLn HP.out.2.1 hr2 HP.out.2.2.1 HJ.out.1 (by simp; omega) (fun h => absurd h HJ.out.2.2) (by omega)) (HP3.out.2.step hO4 (by intro b hb; omega)))
                          clear hP4 hO4 hH e w0 w1 w2 w3 w4 w5
                          go_wp2
                          go_meet
                          exact ⟨t, rfl, HE.out⟩
                      · have hH := free_no HP3.out.1 hu
                        clear hu w5 hz0
                        go_wp2_with fail
                        refine hH.mono ?_
                        rintro e W4 ⟨rfl, rfl⟩
                        go_wp2
                        go_meet
                        exact ⟨t, rfl, ⟨L, r, HP3.out.1, hLn, HP.out.2.1, hr2, ht, bound2 HP.out.2.2.1⟩, HP3.out.2⟩
                    by_cases c3 : o.kind = 3
                    · have e0 : (o.kind == 0) = false := by simpa using c0
                      have e1 : (o.kind == 1) = false := by simpa using c1
                      have e2 : (o.kind == 2) = false := by simpa using c2
                      have e3 : (o.kind == 3) = true := by simpa using c3
                      obtain ⟨w0, w1, w2, w3, w4, -⟩ := UZ.out
                      have hC := set_chg HP3.out.1 o.id (HD.out.1.only HP3.out.2 (fun _ _ _ _ _ _ h => h)) HND.out
                      clear c0 c1 c2 c3
                      go_wp2_with fail
                      refine hC.mono ?_
                      rintro e W4 ⟨x, L5, rfl, hP5, hO5, hl5, hc5⟩
                      have HE := Lib.hid (And.intro (Keeps.chg (t := t) hP5 hLn HP.out.2.1 hr2 ht HP.out.2.2.1 hl5 hc5) (HP3.out.2.step hO5 (by intro b hb; omega)))
                      clear hP5 hO5 hl5 hc5 hC w0 w1 w2 w3 w4
                      try go_wp2
                      go_meet
                      exact ⟨t, rfl, HE.out⟩
                    by_cases c4 : o.kind = 4
                    · have e0 : (o.kind == 0) = false := by simpa using c0
                      have e1 : (o.kind == 1) = false := by simpa using c1
                      have e2 : (o.kind == 2) = false := by simpa using c2
                      have e3 : (o.kind == 3) = false := by simpa using c3
                      have e4 : (o.kind == 4) = true := by simpa using c4
                      obtain ⟨w0, w1, w2, w3, w4, -⟩ := UZ.out
                      have hC := append_chg HP3.out.1 o.id (HD.out.1.only HP3.out.2 (fun _ _ _ _ _ _ h => h)) HND.out
                      clear c0 c1 c2 c3 c4
                      go_wp2_with fail
                      refine hC.mono ?_
                      rintro e W4 ⟨x, L5, rfl, hP5, hO5, hl5, hc5⟩
                      have HE := Lib.hid (And.intro (Keeps.chg (t := t) hP5 hLn HP.out.2.1 hr2 ht HP.out.2.2.1 hl5 hc5) (HP3.out.2.step hO5 (by intro b hb; omega)))
                      clear hP5 hO5 hl5 hc5 hC w0 w1 w2 w3 w4
                      try go_wp2
                      go_meet
                      exact ⟨t, rfl, HE.out⟩
                    by_cases c5 : o.kind = 5
                    · have e0 : (o.kind == 0) = false := by simpa using c0
                      have e1 : (o.kind == 1) = false := by simpa using c1
                      have e2 : (o.kind == 2) = false := by simpa using c2
                      have e3 : (o.kind == 3) = false := by simpa using c3
                      have e4 : (o.kind == 4) = false := by simpa using c4
                      have e5 : (o.kind == 5) = true := by simpa using c5
                      obtain ⟨w0, w1, w2, w3, w4, -⟩ := UZ.out
                      have hC := trim_chg HP3.out.1 o.id o.a o.b
                      clear c0 c1 c2 c3 c4 c5
                      go_wp2_with fail
                      refine hC.mono ?_
                      rintro e W4 ⟨x, L5, rfl, hP5, hO5, hl5, hc5⟩
                      have HE := Lib.hid (And.intro (Keeps.chg (t := t) hP5 hLn HP.out.2.1 hr2 ht HP.out.2.2.1 hl5 hc5) (HP3.out.2.step hO5 (by intro b hb; omega)))
                      clear hP5 hO5 hl5 hc5 hC w0 w1 w2 w3 w4
                      try go_wp2
                      go_meet
                      exact ⟨t, rfl, HE.out⟩
                    have e0 : (o.kind == 0) = false := by simpa using c0
                    have e1 : (o.kind == 1) = false := by simpa using c1
                    have e2 : (o.kind == 2) = false := by simpa using c2
                    have e3 : (o.kind == 3) = false := by simpa using c3
                    have e4 : (o.kind == 4) = false := by simpa using c4
                    have e5 : (o.kind == 5) = false := by simpa using c5
                    obtain ⟨w0, w1, w2, w3, w4, -⟩ := UZ.out
                    have hC := front_chg HP3.out.1 o.id (HD.out.1.only HP3.out.2 (fun _ _ _ _ _ _ h => h))
                    clear c0 c1 c2 c3 c4 c5
                    go_wp2_with fail
                    refine hC.mono ?_
                    rintro e W4 ⟨x, L5, rfl, hP5, hO5, hl5, hc5⟩
                    have HE := Lib.hid (And.intro (Keeps.chg (t := t) hP5 hLn HP.out.2.1 hr2 ht HP.out.2.2.1 hl5 hc5) (HP3.out.2.step hO5 (by intro b hb; omega)))
                    clear hP5 hO5 hl5 hc5 hC w0 w1 w2 w3 w4
                    try go_wp2
                    go_meet
                    exact ⟨t, rfl, HE.out⟩
                  case rest =>
                    obtain ⟨t', rfl, ⟨L', r', hP', hLn', hL0', hr', ht', hb'⟩, hO'⟩ := hcut
                    have hS := see_in hP' (k := 0) hL0' (by simp; omega)
                    have hLf : ∀ W, Only (fun _ => False) wc W → Calls Try.prog 10 #[.pointer (some ⟨p, 0, none⟩)] W fun e w' => e = .returned (.int .i64 (nfree L' : Int)) ∧ W = w' := fun W hW => left_any (hP'.frame hW id id)
                    have HS := Lib.hid (And.intro hP' (And.intro hL0' (And.intro hb' (And.intro hO' hLf))))
                    have hte : (nfree L' : Int) = ((m + 1 : Nat) : Int) - t' := by omega
                    have htb' : 0 ≤ t' ∧ t' ≤ 4096 := by have := nfree_le L'; omega
                    have hr2' : (2 : Int) ≤ (r' : Int) := by omega
                    have HT := Lib.hid hte
                    clear hP' hL0' hb' hO' hLf UZ HP3 HP HF ht ht' hte
                    go_wp2_with fail
                    refine hS.mono ?_
                    rintro e W5 ⟨bh, bd, rfl, hBh, hBd, hne, hs1, hs2, hO5⟩
                    have v1 := fun X => conv_bytes ((hBd.alloc X).bytes (by have := hdl; omega))
                    have v2 := fun X => conv_bytes ((hBh.alloc X).bytes (by have := hhl; omega))
                    have hOw := HS.out.2.2.2.1.step hO5 (fun b hb => hb.elim)
                    have v3 := fun X => conv_bytes (HDH.out.1.1.only (hOw.alloc X) (fun _ _ _ _ _ _ h => h))
                    have v4 := fun X => conv_bytes (HDH.out.2.1.only (hOw.alloc X) (fun _ _ _ _ _ _ h => h))
                    have hL5 := fun X => HS.out.2.2.2.2 _ (hO5.alloc X)
                    have HE := Lib.hid (And.intro (HS.out.1.frame hO5 id id) hOw)
                    clear hBh hBd hO5 hOw hS
                    go_wp2_with (go_at_call 10; refine (hL5 _).mono ?_; rintro e w' ⟨rfl, rfl⟩; rw [HT.out])
                    go_roundg (l.length - (k + 1))
                    case measure => omega
                    case rel => exact ⟨k + 1, t', by omega, by go_num, rfl, rfl, ⟨L', r', HE.out.1.alloc _, hLn', HS.out.2.1, hr', by rw [HT.out]; omega, HS.out.2.2.1⟩, HE.out.2.alloc _⟩
          · have : k = l.length := by omega
            subst this
            go_wp2
            go_ret
            exact ⟨rfl, hO⟩

end Go.Proofs.Ythofjobcjkeomaa
