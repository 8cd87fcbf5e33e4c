/-
  'same', walked: where both pools hold the same it answers true, and turns no old memory.
-/
import Derived.Test.YthofjobcjkeomaaRefGet
namespace Go.Proofs.Ythofjobcjkeomaa
open Go.RowKit
set_option maxRecDepth 100000
set_option maxHeartbeats 2000000

theorem Blk.own {w : World} {b : Nat} {l : List UInt8} {T : TypeId} (h : Blk w b (l.map bv) T) {base : Nat} (hb : base ≤ b) (hl : l.length ≤ 140737488351232) : OwnBytes w base T (.slice (some ⟨b, 0, none⟩) l.length l.length) l :=
  ⟨by simp, .inr ⟨b, l.length, (l.map bv).toArray, rfl, hb, h, Nat.le_refl _, by unfold maxLen; omega, by simp, by rw [List.take_of_length_le (by simp)]⟩⟩

/-- 'append(all, b...)' onto bytes of one's own: at most their own block is turned. -/
theorem wpList_append_bytes1 {P : Program} {w : World} {ops : Array Oper} {rest : List Oper} {o : Oper} {a : Act} {Q : Exit → Act → World → Prop} (hgd : o.guard = none) (s x : Operand) (t e : TypeId)
    (ho : o.op = .call { callee := .builtin .append, args := #[s, x], argTypes := #[t, t] }) (ht : P.underlying t = some (.slice e))
    (hz : (P.info? e).map (fun i => (i.zero, i.size, i.bytes)) = some (some (.int .u8 0), 1, 1))
    (base : Nat) (l d : List UInt8) (hown : OwnBytes w base e (a.eval s) l) (hx : BytesAt w (a.eval x) d) (hd : d ≠ []) (hl : l.length + d.length ≤ 140737488355328) (hbase : base ≤ w.heap.size)
    (h : ∀ v' w', OwnBytes w' base e v' (l ++ d) → Only (fun k => (a.eval s).ownBlock = some k) w w' → wpList P ops Q rest (a.put o.dst v') w') : wpList P ops Q (o :: rest) a w := by
  obtain ⟨i, hi, hz0, h1, h2⟩ : ∃ i, P.info? e = some i ∧ i.zero = some (.int .u8 0) ∧ i.size = 1 ∧ i.bytes = 1 := by
    cases hi : P.info? e with
    | none => rw [hi] at hz; simp at hz
    | some i => rw [hi] at hz; simp at hz; exact ⟨i, rfl, hz.1, hz.2.1, hz.2.2⟩
  rcases hx with ⟨b, c, hv, hbn, rfl⟩ | ⟨b, so, cap, hv, k1, k2, k3⟩
  · exact absurd rfl hd
  · refine wpList_append_own w hgd s x t ho base e i (.int .u8 0) 1 1 ht hi hz0 h1 h2 rfl (by decide) _ _ _ rfl hown ⟨b, so, none⟩ d.length cap (d.map bv) hv (by simp) ?_ ?_ (by unfold maxLen; omega) (by omega) hbase ?_
    · intro j u hj
      have hjl : j < d.length := by have := (List.getElem?_eq_some_iff.1 hj).1; simpa using this
      have hadd : (⟨b, so, none⟩ : Addr).add j = ⟨b, so + j, none⟩ := by unfold Addr.add; split <;> simp_all
      rw [hadd, k3 j hjl]
      simp only [List.getElem?_map, List.getElem?_eq_getElem hjl, Option.map_some] at hj
      exact hj
    · intro u hu
      obtain ⟨y, _, rfl⟩ := List.mem_map.1 hu
      rfl
    · intro v' w' ho' hg' _
      exact h v' w' (by simpa [OwnBytes] using ho') (grown_only hg' _ (fun k hk => hk))

/-- What stands in the midst of 'same'. -/
structure SameMid (w : World) (xa xb bh bd : Nat) (b : Bf) (y1 y2 : Option Addr) (q1 q2 : Nat) (hd dd : List UInt8) (wr : World) : Prop where
  xa : Blk wr xa [.int .i64 (b.refs : Int), .slice (some ⟨bh, 0, none⟩) b.head.length b.head.length, .slice (some ⟨bd, 0, none⟩) b.data.length b.data.length] 36
  xb : Blk wr xb [.int .i64 (b.refs : Int), .slice y1 b.head.length q1, .slice y2 b.data.length q2] 36
  bh : Blk wr bh (hd.map bv) 5
  bd : Blk wr bd (dd.map bv) 5
  o : Only (fun _ => False) w wr
  l1 : hd.length = b.head.length
  l2 : dd.length = b.data.length

theorem SameMid.c1 {w wr : World} {xa xb bh bd : Nat} {b : Bf} {y1 y2 : Option Addr} {q1 q2 : Nat} {hd dd : List UInt8} (h : SameMid w xa xb bh bd b y1 y2 q1 q2 hd dd wr) : wr.cell? ⟨xa, 1, none⟩ = some (.slice (some ⟨bh, 0, none⟩) b.head.length b.head.length) := by rw [h.xa.cell]; rfl
theorem SameMid.c2 {w wr : World} {xa xb bh bd : Nat} {b : Bf} {y1 y2 : Option Addr} {q1 q2 : Nat} {hd dd : List UInt8} (h : SameMid w xa xb bh bd b y1 y2 q1 q2 hd dd wr) : wr.cell? ⟨xa, 2, none⟩ = some (.slice (some ⟨bd, 0, none⟩) b.data.length b.data.length) := by rw [h.xa.cell]; rfl

theorem bv_succ (x : UInt8) : bv (x + 1) = .int .u8 (((x.toNat : Int) + 1) % 256) := by
  unfold bv
  congr 1

theorem same_in {w : World} {p ab r rb : Nat} {base : Nat → Prop} {L : List Bf} (h : PoolAt w p ab L) (hr : RefAt w r rb base L) {k : Nat} {b : Bf} (hk : L[k]? = some b) (hb : 0 < b.refs) :
    Calls Try.prog 17 #[.pointer (some ⟨p, 0, none⟩), .pointer (some ⟨r, 0, none⟩), .int .i64 (k : Int)] w fun e w' => e = .returned (.bool true) ∧ Only (fun _ => False) w w' := by
  have hS := see_in h hk hb
  have hlen : b.head.length ≤ 104 ∧ b.data.length ≤ 288 := by
    obtain ⟨c, hc, hcl, hcb⟩ := h.2.2.2.2
    obtain ⟨mem, fr, _, _, _, _, _, _, _, _, h1, h2⟩ := hcb k b hk
    omega
  obtain ⟨hl1, hl2⟩ := hlen
  have H := Lib.hid (And.intro h (And.intro hr (And.intro hk hb)))
  clear h hr hk hb
  go_enter Try.func17, Try.ntmps17
  go_wp2_with fail
  refine hS.mono ?_
  rintro e w1 ⟨bh, bd, rfl, hBh, hBd, hne, hs1, hs2, hO1⟩
  have H1 := Lib.hid (And.intro hBh (And.intro hBd hO1))
  have hz1 : w.heap.size ≤ w1.heap.size := hO1.size
  obtain ⟨xa, hxa⟩ : ∃ xa, xa = w1.heap.size := ⟨_, rfl⟩
  have hlh := hBh.lt
  have hld := hBd.lt
  have HXA := Lib.hid hxa
  clear hBh hBd hO1 hS hxa
  go_wp2_with fail
  refine (rsee_in ((H.out.2.1.only H1.out.2.2 id id (fun _ _ _ h => h)).alloc _) H.out.2.2.1 H.out.2.2.2).mono ?_
  rintro e w2 ⟨y1, n1, q1, y2, n2, q2, rfl, hy1, hy2, hi1, hi2, hO2⟩
  have en1 : n1 = b.head.length := by
    obtain ⟨a', c', e⟩ := hy1.form
    simp at e; exact e.2.1
  have en2 : n2 = b.data.length := by
    obtain ⟨a', c', e⟩ := hy2.form
    simp at e; exact e.2.1
  subst en1 en2
  have hBx : Blk w2 xa [.int .i64 (b.refs : Int), .slice (some ⟨bh, 0, none⟩) b.head.length b.head.length, .slice (some ⟨bd, 0, none⟩) b.data.length b.data.length] 36 := hO2.blk (Blk.at_new HXA.out rfl) id
  have hBh2 := hO2.blk (H1.out.1.alloc (.cells #[.int .i64 (b.refs : Int), .slice (some ⟨bh, 0, none⟩) b.head.length b.head.length, .slice (some ⟨bd, 0, none⟩) b.data.length b.data.length] 36)) id
  have hBd2 := hO2.blk (H1.out.2.1.alloc (.cells #[.int .i64 (b.refs : Int), .slice (some ⟨bh, 0, none⟩) b.head.length b.head.length, .slice (some ⟨bd, 0, none⟩) b.data.length b.data.length] 36)) id
  have hOw : Only (fun _ => False) w w2 := (H1.out.2.2.alloc _).step hO2 (fun b hb => hb.elim)
  have hxx : xa < w2.heap.size := hBx.lt
  have x0 : w2.cell? ⟨xa, 0, none⟩ = some (.int .i64 (b.refs : Int)) := by rw [hBx.cell]; rfl
  have x1 : w2.cell? ⟨xa, 1, none⟩ = some (.slice (some ⟨bh, 0, none⟩) b.head.length b.head.length) := by rw [hBx.cell]; rfl
  have x2 : w2.cell? ⟨xa, 2, none⟩ = some (.slice (some ⟨bd, 0, none⟩) b.data.length b.data.length) := by rw [hBx.cell]; rfl
  have v1 := fun X => conv_bytes ((hBh2.alloc X).bytes (by omega))
  have v2 := fun X => conv_bytes ((hBd2.alloc X).bytes (by omega))
  have v3 := fun X => conv_bytes (hy1.only ((Only.refl _ _).alloc X) (fun _ _ _ _ _ _ h => h))
  have v4 := fun X => conv_bytes (hy2.only ((Only.refl _ _).alloc X) (fun _ _ _ _ _ _ h => h))
  rw [← HXA.out]
  obtain ⟨xb, hxb⟩ : ∃ xb, xb = w2.heap.size := ⟨_, rfl⟩
  have HXB := Lib.hid hxb
  have H2 := Lib.hid (And.intro hBx (And.intro hBh2 (And.intro hBd2 hOw)))
  have hax : bh < xa ∧ bd < xa := by have := HXA.out; omega
  clear hBx hBh2 hBd2 hOw hy1 hy2 hi1 hi2 hO2 hxb H1
  go_wp2_with fail
  rw [← HXB.out]
  have HM0 : Hid (SameMid w xa xb bh bd b y1 y2 q1 q2 b.head b.data (w2.alloc (.cells #[.int .i64 (b.refs : Int), .slice y1 b.head.length q1, .slice y2 b.data.length q2] 36))) :=
    ⟨H2.out.1.alloc _, Blk.at_new HXB.out rfl, H2.out.2.1.alloc _, H2.out.2.2.1.alloc _, H2.out.2.2.2.alloc _, rfl, rfl⟩
  have hxs : w.heap.size ≤ bh ∧ w.heap.size ≤ bd ∧ w.heap.size ≤ xa ∧ w.heap.size ≤ xb ∧ xa < xb ∧ bh < xa ∧ bd < xa ∧ bh ≠ bd := by have := HXA.out; have := HXB.out; omega
  generalize w2.alloc (.cells #[.int .i64 (b.refs : Int), .slice y1 b.head.length q1, .slice y2 b.data.length q2] 36) = W3 at *
  clear H2 v1 v2 v3 v4 HXA HXB hax hxx hlh hld hz1
  go_loopg [12] b.head.length (fun g v wr => ∃ (i : Nat) (hd dd : List UInt8), i ≤ b.head.length ∧ v = .int .i64 (i : Int) ∧ b.head.length - i = g ∧ SameMid w xa xb bh bd b y1 y2 q1 q2 hd dd wr)
  case atStart => exact ⟨0, b.head, b.data, Nat.zero_le _, rfl, rfl, HM0.out⟩
  case round =>
    obtain ⟨i, hd, dd, hi, rfl, hg, hM⟩ := hrel
    have hx1 := hM.c1
    have hx2 := hM.c2
    have HM := Lib.hid hM
    clear HM0 x0 x1 x2
    by_cases hlt : i < b.head.length
    · have hil : i < hd.length := by rw [HM.out.l1]; exact hlt
      have hci : wr.cell? ⟨bh, i, none⟩ = some (.int .u8 ((hd[i].toNat : Nat) : Int)) := by rw [HM.out.bh.cell, List.getElem?_map, List.getElem?_eq_getElem hil]; rfl
      have hz := fun o => HM.out.bh.fz o
      have hub : hd[i].toNat < 256 := hd[i].toNat_lt
      clear hM
      go_wp2_with fail
      refine wp_region_quiet_tail_lit 10 (by kernel_rfl) (by kernel_rfl) ?_
      simp only [List.take_succ_cons, List.take_zero, List.drop_succ_cons, List.drop_zero]
      repeat (quiet_step (fail))
      refine wpQuiet_nil ?_
      intro qq
      go_wp2
      go_roundg (b.head.length - (i + 1))
      case measure => omega
      case rel =>
        have hB := (Blk.drewN HM.out.bh qq).set i (bv (hd[i] + 1))
        rw [← List.map_set, bv_succ] at hB
        exact ⟨i + 1, hd.set i (hd[i] + 1), dd, by omega, by go_num, rfl, ⟨(HM.out.xa.drewN qq).set_ne (by simp; omega) _, (HM.out.xb.drewN qq).set_ne (by simp; omega) _, hB, (HM.out.bd.drewN qq).set_ne (by simp; omega) _, (HM.out.o.drewN qq).setCell (.inr (by simp; omega)) _, by simpa using HM.out.l1, HM.out.l2⟩⟩
    · have : i = b.head.length := by omega
      subst this
      clear hM
      go_wp2_with fail
      go_loopg [13] b.data.length (fun g v wr => ∃ (i : Nat) (dd : List UInt8), i ≤ b.data.length ∧ v = .int .i64 (i : Int) ∧ b.data.length - i = g ∧ SameMid w xa xb bh bd b y1 y2 q1 q2 hd dd wr)
      case atStart => exact ⟨0, dd, Nat.zero_le _, rfl, rfl, HM.out⟩
      case round =>
        obtain ⟨j, dd, hj, rfl, hg2, hM⟩ := hrel
        have hx1 := hM.c1
        have hx2 := hM.c2
        have HN := Lib.hid hM
        clear HM
        by_cases hlt2 : j < b.data.length
        · have hjl : j < dd.length := by rw [HN.out.l2]; exact hlt2
          have hci : wr.cell? ⟨bd, j, none⟩ = some (.int .u8 ((dd[j].toNat : Nat) : Int)) := by rw [HN.out.bd.cell, List.getElem?_map, List.getElem?_eq_getElem hjl]; rfl
          have hz := fun o => HN.out.bd.fz o
          have hub : dd[j].toNat < 256 := dd[j].toNat_lt
          clear hM
          go_wp2_with fail
          refine wp_region_quiet_tail_lit 10 (by kernel_rfl) (by kernel_rfl) ?_
          simp only [List.take_succ_cons, List.take_zero, List.drop_succ_cons, List.drop_zero]
          repeat (quiet_step (fail))
          refine wpQuiet_nil ?_
          intro qq
          go_wp2
          go_roundg (b.data.length - (j + 1))
          case measure => omega
          case rel =>
            have hB := (Blk.drewN HN.out.bd qq).set j (bv (dd[j] + 1))
            rw [← List.map_set, bv_succ] at hB
            exact ⟨j + 1, dd.set j (dd[j] + 1), by omega, by go_num, rfl, ⟨(HN.out.xa.drewN qq).set_ne (by simp; omega) _, (HN.out.xb.drewN qq).set_ne (by simp; omega) _, (HN.out.bh.drewN qq).set_ne (by simp; omega) _, hB, (HN.out.o.drewN qq).setCell (.inr (by simp; omega)) _, HN.out.l1, by simpa using HN.out.l2⟩⟩
        · have : j = b.data.length := by omega
          subst this
          clear hM
          have hz := fun o => HN.out.xa.fz o
          have hxb : wr.cell? ⟨xb, 1, none⟩ = some (.slice y1 b.head.length q1) := by rw [HN.out.xb.cell]; rfl
          have hxb2 : wr.cell? ⟨xb, 2, none⟩ = some (.slice y2 b.data.length q2) := by rw [HN.out.xb.cell]; rfl
          have hxal := HN.out.xa.lt
          have hxbl := HN.out.xb.lt
          have hhl : hd.length = b.head.length := HN.out.l1
          have hdl : dd.length = b.data.length := HN.out.l2
          have hws := HN.out.o.size
          have hq1 : OwnBytes wr bh 5 (.slice (some ⟨bh, 0, none⟩) b.head.length b.head.length) hd := by have := HN.out.bh.own (Nat.le_refl bh) (by omega); rwa [hhl] at this
          go_wp2_with (first | (at_builtin; refine wpList_append_bytes1 (by rfl) (.tmp 89) (.tmp 90) 29 5 (by rfl) Try.underlying29 u8_info bh hd [7] ?q1 ?q2 (by simp) ?q3 ?q4 ?_; rotate_left 4; intro v2 W2 hA2 hO2; obtain ⟨av, cv, hv2, -⟩ := hA2.form; rw [List.length_append, hhl] at hv2; subst hv2; have hBa := hO2.blk (HN.out.xa.alloc _) (fun e => by have e' : some bh = some xa := e; simp at e'; omega); have hBb := hO2.blk (HN.out.xb.alloc _) (fun e => by have e' : some bh = some xb := e; simp at e'; omega); have hBd := hO2.blk (HN.out.bd.alloc _) (fun e => by have e' : some bh = some bd := e; simp at e'; omega); have hOw := (HN.out.o.alloc _).step hO2 (fun b e => by have e' : some bh = some b := e; simp at e'; omega); have k1 : W2.cell? ⟨xa, 1, none⟩ = some (.slice (some ⟨bh, 0, none⟩) b.head.length b.head.length) := (by rw [hBa.cell]; rfl); have k2 : W2.cell? ⟨xa, 2, none⟩ = some (.slice (some ⟨bd, 0, none⟩) b.data.length b.data.length) := (by rw [hBa.cell]; rfl); have k3 := fun o => hBa.fz o; have k4 : W2.cell? ⟨xb, 1, none⟩ = some (.slice y1 b.head.length q1) := (by rw [hBb.cell]; rfl); have k5 : W2.cell? ⟨xb, 2, none⟩ = some (.slice y2 b.data.length q2) := (by rw [hBb.cell]; rfl); have k6 := hBa.lt; have k7 := hBb.lt; have HW := Lib.hid (And.intro hBa (And.intro hBb (And.intro hBd hOw))); clear hA2 hO2 hBa hBb hBd hOw hx1 hx2 hxb hxb2 hz) | (at_builtin; refine wpList_append_bytes1 (by rfl) (.tmp 94) (.tmp 95) 29 5 (by rfl) Try.underlying29 u8_info bd dd [7] ?p1 ?p2 (by simp) ?p3 ?p4 ?_; rotate_left 4; intro v3 W4 hA4 hO4; obtain ⟨aw, cw, hv4, -⟩ := hA4.form; rw [List.length_append, hdl] at hv4; subst hv4; have hBa := hO4.blk ((HW.out.1.set 1 (.slice av (b.head.length + 1) cv)).alloc _) (fun e => by have e' : some bd = some xa := e; simp at e'; omega); have hBb := hO4.blk ((HW.out.2.1.set_ne (a := ⟨xa, 1, none⟩) (by simp; omega) (.slice av (b.head.length + 1) cv)).alloc _) (fun e => by have e' : some bd = some xb := e; simp at e'; omega); have hOw := ((HW.out.2.2.2.setCell (a := ⟨xa, 1, none⟩) (.inr (by simp; omega)) (.slice av (b.head.length + 1) cv)).alloc _).step hO4 (fun b e => by have e' : some bd = some b := e; simp at e'; omega); have m1 : W4.cell? ⟨xa, 1, none⟩ = some (.slice av (b.head.length + 1) cv) := (by rw [hBa.cell]; rfl); have m2 : W4.cell? ⟨xa, 2, none⟩ = some (.slice (some ⟨bd, 0, none⟩) b.data.length b.data.length) := (by rw [hBa.cell]; rfl); have m3 := fun o => hBa.fz o; have m4 : W4.cell? ⟨xb, 1, none⟩ = some (.slice y1 b.head.length q1) := (by rw [hBb.cell]; rfl); have m5 : W4.cell? ⟨xb, 2, none⟩ = some (.slice y2 b.data.length q2) := (by rw [hBb.cell]; rfl); have HV := Lib.hid hOw; clear hA4 hO4 hBa hBb hOw k1 k2 k3 k4 k5 k6 k7))
          case q1 => exact hq1.only ((Only.refl (fun _ => False) _).alloc _) (fun _ _ _ h => h)
          case q2 => exact Blk.bytes (l := [7]) (Blk.at_new rfl rfl) (by simp)
          case q3 => simp; omega
          case q4 => simp; omega
          case p1 => have := ((HW.out.2.2.1.set_ne (a := ⟨xa, 1, none⟩) (by simp; omega) (.slice av (b.head.length + 1) cv)).alloc (.cells #[.int .u8 7] 5)).own (Nat.le_refl bd) (by omega); rw [hdl] at this; exact this
          case p2 => exact Blk.bytes (l := [7]) (Blk.at_new (by simp) rfl) (by simp)
          case p3 => simp; omega
          case p4 => have := HW.out.2.2.1.lt; simp; omega
          go_ret
          exact ⟨rfl, HV.out.setCell (.inr (by show w.heap.size ≤ xa; omega)) _⟩

/-- What stands in the midst of 'same' where nothing is in use. -/
structure SameNil (w : World) (xa xb : Nat) (wr : World) : Prop where
  xa : Blk wr xa [.int .i64 0, .slice none 0 0, .slice none 0 0] 36
  xb : Blk wr xb [.int .i64 0, .slice none 0 0, .slice none 0 0] 36
  o : Only (fun _ => False) w wr

theorem same_no {w : World} {p ab r rb : Nat} {base : Nat → Prop} {L : List Bf} (h : PoolAt w p ab L) (hr : RefAt w r rb base L) {id : Int} (hn : ¬ Used L id) :
    Calls Try.prog 17 #[.pointer (some ⟨p, 0, none⟩), .pointer (some ⟨r, 0, none⟩), .int .i64 id] w fun e w' => e = .returned (.bool true) ∧ Only (fun _ => False) w w' := by
  have hS := see_no h hn
  have H := Lib.hid (And.intro h (And.intro hr hn))
  clear h hr hn
  go_enter Try.func17, Try.ntmps17
  go_wp2_with fail
  refine hS.mono ?_
  rintro e w1 ⟨rfl, hO1⟩
  have hz1 : w.heap.size ≤ w1.heap.size := hO1.size
  obtain ⟨xa, hxa⟩ : ∃ xa, xa = w1.heap.size := ⟨_, rfl⟩
  have H1 := Lib.hid hO1
  have HXA := Lib.hid hxa
  clear hO1 hS hxa
  go_wp2_with fail
  refine (rsee_no ((H.out.2.1.only H1.out (fun h => h) (fun h => h) (fun _ _ _ h => h)).alloc _) H.out.2.2).mono ?_
  rintro e w2 ⟨rfl, hO2⟩
  have hBx : Blk w2 xa [.int .i64 0, .slice none 0 0, .slice none 0 0] 36 := hO2.blk (Blk.at_new HXA.out rfl) (fun h => h)
  have hOw : Only (fun _ => False) w w2 := (H1.out.alloc _).step hO2 (fun b hb => hb.elim)
  have hxx : xa < w2.heap.size := hBx.lt
  have x0 : w2.cell? ⟨xa, 0, none⟩ = some (.int .i64 0) := by rw [hBx.cell]; rfl
  have x1 : w2.cell? ⟨xa, 1, none⟩ = some (.slice none 0 0) := by rw [hBx.cell]; rfl
  have x2 : w2.cell? ⟨xa, 2, none⟩ = some (.slice none 0 0) := by rw [hBx.cell]; rfl
  rw [← HXA.out]
  obtain ⟨xb, hxb⟩ : ∃ xb, xb = w2.heap.size := ⟨_, rfl⟩
  have HXB := Lib.hid hxb
  have H2 := Lib.hid (And.intro hBx hOw)
  have v1 : ∀ X, _ := fun X => conv_bytes (show BytesAt (w2.alloc X) (.slice none 0 0) [] from .inl ⟨none, 0, rfl, fun _ => rfl, rfl⟩)
  clear hBx hOw hO2 hxb H1
  go_wp2_with fail
  rw [← HXB.out]
  have HM0 : SameNil w xa xb (w2.alloc (.cells #[.int .i64 0, .slice none 0 0, .slice none 0 0] 36)) :=
    ⟨H2.out.1.alloc _, Blk.at_new HXB.out rfl, H2.out.2.alloc _⟩
  have hxs : w.heap.size ≤ xa ∧ w.heap.size ≤ xb ∧ xa < xb := by have := HXA.out; have := HXB.out; omega
  generalize w2.alloc (.cells #[.int .i64 0, .slice none 0 0, .slice none 0 0] 36) = W3 at *
  have HM := Lib.hid HM0
  clear H2 v1 HXA HXB hxx hz1 x0 x1 x2 HM0
  go_loopg [12] 0 (fun g v wr => v = .int .i64 0 ∧ g = 0 ∧ SameNil w xa xb wr)
  case atStart => exact ⟨rfl, rfl, HM.out⟩
  case round =>
    obtain ⟨rfl, rfl, hM⟩ := hrel
    clear HM
    have hx1 : wr.cell? ⟨xa, 1, none⟩ = some (.slice none 0 0) := by rw [hM.xa.cell]; rfl
    have hx2 : wr.cell? ⟨xa, 2, none⟩ = some (.slice none 0 0) := by rw [hM.xa.cell]; rfl
    have HM := Lib.hid hM
    clear hM
    go_wp2_with fail
    go_loopg [13] 0 (fun g v wr => v = .int .i64 0 ∧ g = 0 ∧ SameNil w xa xb wr)
    case atStart => exact ⟨rfl, rfl, HM.out⟩
    case round =>
      obtain ⟨rfl, rfl, hM⟩ := hrel
      clear HM
      have hx1 : wr.cell? ⟨xa, 1, none⟩ = some (.slice none 0 0) := by rw [hM.xa.cell]; rfl
      have hx2 : wr.cell? ⟨xa, 2, none⟩ = some (.slice none 0 0) := by rw [hM.xa.cell]; rfl
      have hxb : wr.cell? ⟨xb, 1, none⟩ = some (.slice none 0 0) := by rw [hM.xb.cell]; rfl
      have hxb2 : wr.cell? ⟨xb, 2, none⟩ = some (.slice none 0 0) := by rw [hM.xb.cell]; rfl
      have hz := fun o => hM.xa.fz o
      have hxal := hM.xa.lt
      have hxbl := hM.xb.lt
      have hws := hM.o.size
      have HN := Lib.hid hM
      clear hM
      go_wp2_with (first | (at_builtin; refine wpList_append_bytes1 (by rfl) (.tmp 89) (.tmp 90) 29 5 (by rfl) Try.underlying29 u8_info xa [] [7] ?q1 ?q2 (by simp) ?q3 ?q4 ?_; rotate_left 4; intro v2 W2 hA2 hO2; obtain ⟨av, cv, hv2, -⟩ := hA2.form; rw [List.nil_append] at hv2; subst hv2; have hBa := hO2.blk (HN.out.xa.alloc _) (fun e => by have e' : none = some xa := e; simp at e'); have hBb := hO2.blk (HN.out.xb.alloc _) (fun e => by have e' : none = some xb := e; simp at e'); have hOw := (HN.out.o.alloc _).step hO2 (fun b e => by have e' : none = some b := e; simp at e'); have k1 : W2.cell? ⟨xa, 1, none⟩ = some (.slice none 0 0) := (by rw [hBa.cell]; rfl); have k2 : W2.cell? ⟨xa, 2, none⟩ = some (.slice none 0 0) := (by rw [hBa.cell]; rfl); have k3 := fun o => hBa.fz o; have k4 : W2.cell? ⟨xb, 1, none⟩ = some (.slice none 0 0) := (by rw [hBb.cell]; rfl); have k5 : W2.cell? ⟨xb, 2, none⟩ = some (.slice none 0 0) := (by rw [hBb.cell]; rfl); have k6 := hBa.lt; have k7 := hBb.lt; have HW := Lib.hid (And.intro hBa (And.intro hBb hOw)); clear hA2 hO2 hBa hBb hOw hx1 hx2 hxb hxb2 hz) | (at_builtin; refine wpList_append_bytes1 (by rfl) (.tmp 94) (.tmp 95) 29 5 (by rfl) Try.underlying29 u8_info xa [] [7] ?p1 ?p2 (by simp) ?p3 ?p4 ?_; rotate_left 4; intro v3 W4 hA4 hO4; obtain ⟨aw, cw, hv4, -⟩ := hA4.form; rw [List.nil_append] at hv4; subst hv4; have hBa := hO4.blk ((HW.out.1.set 1 (.slice av [7].length cv)).alloc _) (fun e => by have e' : none = some xa := e; simp at e'); have hBb := hO4.blk ((HW.out.2.1.set_ne (a := ⟨xa, 1, none⟩) (by simp; omega) (.slice av [7].length cv)).alloc _) (fun e => by have e' : none = some xb := e; simp at e'); have hOw := ((HW.out.2.2.setCell (a := ⟨xa, 1, none⟩) (.inr (by simp; omega)) (.slice av [7].length cv)).alloc _).step hO4 (fun b e => by have e' : none = some b := e; simp at e'); have m1 : W4.cell? ⟨xa, 1, none⟩ = some (.slice av [7].length cv) := (by rw [hBa.cell]; rfl); have m2 : W4.cell? ⟨xa, 2, none⟩ = some (.slice none 0 0) := (by rw [hBa.cell]; rfl); have m3 := fun o => hBa.fz o; have m4 : W4.cell? ⟨xb, 1, none⟩ = some (.slice none 0 0) := (by rw [hBb.cell]; rfl); have m5 : W4.cell? ⟨xb, 2, none⟩ = some (.slice none 0 0) := (by rw [hBb.cell]; rfl); have HV := Lib.hid hOw; clear hA4 hO4 hBa hBb hOw k1 k2 k3 k4 k5 k6 k7))
      case q1 => exact own_nil _ _ _
      case q2 => exact Blk.bytes (l := [7]) (Blk.at_new rfl rfl) (by simp)
      case q3 => simp
      case q4 => simp; omega
      case p1 => exact own_nil _ _ _
      case p2 => exact Blk.bytes (l := [7]) (Blk.at_new (by simp) rfl) (by simp)
      case p3 => simp
      case p4 => have := HW.out.1.lt; simp; omega
      go_ret
      exact ⟨rfl, HV.out.setCell (.inr (by show w.heap.size ≤ xa; omega)) _⟩

theorem same_any {w : World} {p ab r rb : Nat} {base : Nat → Prop} {L : List Bf} (h : PoolAt w p ab L) (hr : RefAt w r rb base L) (id : Int) :
    Calls Try.prog 17 #[.pointer (some ⟨p, 0, none⟩), .pointer (some ⟨r, 0, none⟩), .int .i64 id] w fun e w' => e = .returned (.bool true) ∧ Only (fun _ => False) w w' := by
  by_cases hu : Used L id
  · obtain ⟨k, b, rfl, hk, hb⟩ := hu
    exact same_in h hr hk hb
  · exact same_no h hr hu

end Go.Proofs.Ythofjobcjkeomaa
