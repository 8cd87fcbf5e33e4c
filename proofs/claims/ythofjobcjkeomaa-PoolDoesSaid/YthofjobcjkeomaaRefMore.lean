/-
  The document's pool: Append and Trim, for every input.
-/
import Derived.Test.YthofjobcjkeomaaRefOps
namespace Go.Proofs.Ythofjobcjkeomaa
open Go.RowKit
set_option maxRecDepth 100000
set_option maxHeartbeats 1000000

/-- A buffer's data are turned, and nothing else. -/
theorem RefAt.newData {w w' : World} {r rb : Nat} {base : Nat → Prop} {L : List Bf} (h : RefAt w r rb base L) {k : Nat} {b : Bf} (hk : L[k]? = some b) {c : List Value} {l : List UInt8} {x : Option Addr} {n q : Nat} (hc : Blk w rb c 36) (k1 : Only (fun x => x = rb) w w')
    (hc' : Blk w' rb (c.set (k * 3 + 2) (.slice x n q)) 36) (hb : BytesAt w' (.slice x n q) l) (hs : sliceIn (.slice x n q) base) : RefAt w' r rb base (L.set k { b with data := l }) := by
  obtain ⟨hr, e0, e1, e2, e3, e4, e5, c0, hc0, hl0, hbb⟩ := h
  have ec := hc.uniq hc0
  subst ec
  have hkl : k < L.length := (List.getElem?_eq_some_iff.1 hk).1
  obtain ⟨a0, ⟨y, m, q', a1, a2, a3⟩, -⟩ := (hbb k b hk).only k1 (fun x hx _ hs => e2 (by have e' : x = rb := hs; exact e' ▸ hx))
  refine RefAt.turn ⟨hr, e0, e1, e2, e3, e4, e5, c, hc, hl0, hbb⟩ hc k1 hc' (by simp) (fun o ho => set_ne_at (by omega)) ⟨?_, ⟨y, m, q', ?_, a2, a3⟩, ⟨x, n, q, ?_, hb, hs⟩⟩
  · rw [set_ne_at (by omega)]; exact a0
  · rw [set_ne_at (by omega)]; exact a1
  · rw [List.getElem?_set_self (by omega)]

theorem rappend_long {w : World} {r rb : Nat} {base : Nat → Prop} {L : List Bf} (h : RefAt w r rb base L) {k : Nat} {b : Bf} (hk : L[k]? = some b) (hr : b.refs = 1) (a : Option Addr) (n m : Nat) (hn : 288 < b.data.length + n) (hnn : n ≤ 140737488351232) (hbd : b.data.length ≤ 288) :
    Calls Try.prog 30 #[.pointer (some ⟨r, 0, none⟩), .int .i64 (k : Int), .slice a n m] w fun e w' => e = .returned (.int .i64 2) ∧ w = w' := by
  have hO := rown_in h hk hr
  have hp0 := h.cell0
  have hkl : k < L.length := (List.getElem?_eq_some_iff.1 hk).1
  have hL := h.2.2.2.2.2.1
  obtain ⟨cs, hc, hcl, hb⟩ := h.2.2.2.2.2.2.2
  obtain ⟨a0, -, ⟨y, n2, q', a4, a5, a6⟩⟩ := hb k b hk
  have hn2 : n2 = b.data.length := by
    obtain ⟨a', c', e⟩ := a5.form
    simp at e; exact e.2.1
  subst hn2
  have g2 : w.cell? ⟨rb, k * 3 + 2, none⟩ = some (.slice y b.data.length q') := by rw [hc.cell]; exact a4
  have hn' : (288 : Int) < (n : Int) + (b.data.length : Int) := by omega
  clear hr hk h hc hcl hb a0 a4 a5 a6
  go_enter Try.func30, Try.ntmps30
  go_wp2_with (go_at_call 35; refine hO.mono ?_; rintro e w' ⟨rfl, rfl⟩)
  go_ret
  exact ⟨rfl, rfl⟩

theorem rappend_in {w : World} {r rb : Nat} {base : Nat → Prop} {L : List Bf} (h : RefAt w r rb base L) {k : Nat} {b : Bf} (hk : L[k]? = some b) (hr : b.refs = 1) {d : List UInt8} {a : Option Addr} {n c : Nat} (hd : BytesAt w (.slice a n c) d) (hn : b.data.length + d.length ≤ 288) :
    Calls Try.prog 30 #[.pointer (some ⟨r, 0, none⟩), .int .i64 (k : Int), .slice a n c] w fun e w' => e = .returned (.int .i64 0) ∧ RefAt w' r rb base (L.set k { b with data := b.data ++ d }) ∧ Only (fun x => x = rb) w w' := by
  have hnd : n = d.length := by
    obtain ⟨a', c', e⟩ := hd.form
    simp at e; exact e.2.1
  subst hnd
  have hO := rown_in h hk hr
  have hp0 := h.cell0
  have hkl : k < L.length := (List.getElem?_eq_some_iff.1 hk).1
  have hL := h.2.2.2.2.2.1
  have hlr := h.1.lt
  obtain ⟨cs, hc, hcl, hb⟩ := h.2.2.2.2.2.2.2
  obtain ⟨a0, -, ⟨y, n2, q', a4, a5, a6⟩⟩ := hb k b hk
  have hn2 : n2 = b.data.length := by
    obtain ⟨a', c', e⟩ := a5.form
    simp at e; exact e.2.1
  subst hn2
  have hlb := hc.lt
  have g2 : w.cell? ⟨rb, k * 3 + 2, none⟩ = some (.slice y b.data.length q') := by rw [hc.cell]; exact a4
  have hn' : (d.length : Int) + (b.data.length : Int) ≤ 288 := by omega
  have H := Lib.hid (And.intro h (And.intro hk (And.intro hc (And.intro hcl (And.intro a5 hd)))))
  clear h hk hc hb a0 a4 a5 a6 hcl hd hr
  go_enter Try.func30, Try.ntmps30
  go_wp2_with (first | (go_at_call 35; refine hO.mono ?_; rintro e w' ⟨rfl, rfl⟩) | (at_builtin; refine wpList_append_bytes (by rfl) (.const (.slice none 0 0)) (.tmp 38) 29 5 (by rfl) Try.underlying29 u8_info w.heap.size [] b.data ?q1 ?q2 ?q3 ?q4 ?_; rotate_left 4; intro v2 W2 hA2 hO2; have H2 := Lib.hid (And.intro hA2 hO2); clear hA2 hO2))
  case q1 => exact own_nil _ _ _
  case q2 => exact H.out.2.2.2.2.1
  case q3 => simp; omega
  case q4 => exact Nat.le_refl _
  obtain ⟨hA2, hO2⟩ := H2.out
  rw [List.nil_append] at hA2
  have hd2 := H.out.2.2.2.2.2.only hO2 (fun b o n c e hn => by have := H.out.2.2.2.2.2.lt b o n c e hn; omega)
  have hrb2 : w.heap.size ≤ W2.heap.size := hO2.size
  obtain ⟨v', w1, hrun, hown, hon⟩ := run_append_bytes (w := W2.drew) (ty := 29) Try.underlying29 u8_info w.heap.size b.data d hA2 hd2 (by omega) hrb2
  obtain ⟨a', c', rfl, hnil⟩ := hown.form
  rw [List.length_append] at hown hrun
  have hon2 : Only (fun x => w.heap.size ≤ x) W2 w1 := ⟨hon.os, hon.tape, hon.output, hon.size, hon.block⟩
  have hc2 := hO2.blk H.out.2.2.1 (by omega)
  have hc1 := hon2.blk hc2 (by omega)
  have p0 : W2.cell? ⟨r, 0, none⟩ = some (.slice (some ⟨rb, 0, none⟩) L.length L.length) := by rw [hO2.cell (a := ⟨r, 0, none⟩) hlr (by simp; omega)]; exact hp0
  have hq0 : w1.cell? ⟨r, 0, none⟩ = some (.slice (some ⟨rb, 0, none⟩) L.length L.length) := by rw [hon2.cell (a := ⟨r, 0, none⟩) (Nat.lt_of_lt_of_le hlr hrb2) (by simp; omega)]; exact p0
  have g3 : w1.cell? ⟨rb, k * 3 + 2, none⟩ = some (.slice y b.data.length q') := by rw [hc1.cell, ← H.out.2.2.1.cell]; exact g2
  have hz := fun o => hc1.fz o
  have HX := Lib.hid (And.intro hown (And.intro (hO2.trans hon2) hc1))
  clear hA2 hO2 hd2 hown hon hon2 hc2 hc1 hnil g2 hp0
  refine wp_region_two 10 7 w1 (by kernel_rfl) (by kernel_rfl) (by rfl) ?_
  simp only [List.take_succ_cons, List.take_zero, List.drop_succ_cons, List.drop_zero]
  repeat (apply two_quiet (by decide) (by rfl); (focus (go_simp; rfl)); (focus go_simp))
  simp only [Act.put, List.setIfInBounds_toArray, List.set_cons_zero, List.set_cons_succ]
  refine two_turns (by rfl) (exec_append (by rfl) hrun) ?_
  repeat (apply two_quiet (by decide) (by rfl); (focus (go_simp; rfl)); (focus go_simp))
  refine wpSpread_end ?_
  simp only [Act.put, List.setIfInBounds_toArray, List.set_cons_zero, List.set_cons_succ]
  go_wp2
  go_ret
  obtain ⟨h, hk, hc, hcl, a5, hd⟩ := H.out
  obtain ⟨hown, hO3, hc1⟩ := HX.out
  have hbs := h.2.2.2.2.2.2.1
  have hO1 : Only (fun x => x = rb) w w1 := hO3.mono (fun b hb => .inr hb)
  have hst : Only (fun x => x = rb) w1 (w1.setCell ⟨rb, k * 3 + 2, none⟩ (.slice a' (b.data.length + d.length) c')) := Only.st (Only.refl (fun x => x = rb) w1) rfl _ _
  refine ⟨rfl, h.newData hk hc (hO1.trans hst) (hc1.set _ _) ((hown.bytes (by simp; omega)).only hst ?_) (fun b o n c e hn => hbs b (hown.sliceIn b o n c e hn)), hO1.trans hst⟩
  intro b o n c e hn
  have := hown.sliceIn b o n c e hn
  omega

theorem BytesAt.cut1 {w : World} {a : Option Addr} {n c f m : Nat} {l : List UInt8} (h : BytesAt w (.slice a n c) l) (hf : f + m ≤ l.length) (hc : ¬ c = f) : BytesAt w (.slice (Option.map (fun x => x.add f) a) m (c - f)) ((l.drop f).take m) := by
  have hlen : ((l.drop f).take m).length = m := by rw [List.length_take, List.length_drop]; omega
  rcases h with ⟨a', c', e, hn, rfl⟩ | ⟨b, o, cap, e, h1, h2, h3⟩
  · simp at e
    obtain ⟨rfl, rfl, rfl⟩ := e
    simp at hf
    obtain ⟨rfl, rfl⟩ := hf
    refine .inl ⟨_, _, rfl, fun h => ?_, by simp⟩
    have : a = none := by cases a with
      | none => rfl
      | some x => simp at h
    have := hn this
    omega
  · simp at e
    obtain ⟨rfl, rfl, rfl⟩ := e
    have hadd : ∀ j, (⟨b, o, none⟩ : Addr).add j = ⟨b, o + j, none⟩ := fun j => by unfold Addr.add; split <;> simp_all
    refine .inr ⟨b, o + f, c - f, by rw [hlen]; simp [hadd], by omega, by omega, fun j hj => ?_⟩
    rw [hlen] at hj
    rw [show o + f + j = o + (f + j) by omega, h3 (f + j) (by omega)]
    simp

theorem BytesAt.cut2 {w : World} {a : Option Addr} {n c f m : Nat} {l : List UInt8} (h : BytesAt w (.slice a n c) l) (hf : f + m ≤ l.length) (hc : c = f) : m = 0 ∧ BytesAt w (.slice a 0 0) ((l.drop f).take m) := by
  have hm : m = 0 := by
    rcases h with ⟨a', c', e, hn, rfl⟩ | ⟨b, o, cap, e, h1, h2, h3⟩
    · simp at hf; omega
    · simp at e; omega
  subst hm
  exact ⟨rfl, .inl ⟨_, _, rfl, fun _ => rfl, by simp⟩⟩

theorem BytesAt.cap {w : World} {a : Option Addr} {n c : Nat} {l : List UInt8} (h : BytesAt w (.slice a n c) l) : l.length ≤ c := by
  rcases h with ⟨a', c', e, hn, rfl⟩ | ⟨b, o, cap, e, h1, h2, h3⟩
  · simp
  · simp at e; omega

theorem rtrim_arg {w : World} {r rb : Nat} {base : Nat → Prop} {L : List Bf} (h : RefAt w r rb base L) {k : Nat} {b : Bf} (hk : L[k]? = some b) (hr : b.refs = 1) {f g : Int} (hm : ¬ MayTrim b f g) (hbd : b.data.length ≤ 288) :
    Calls Try.prog 31 #[.pointer (some ⟨r, 0, none⟩), .int .i64 (k : Int), .int .i64 f, .int .i64 g] w fun e w' => e = .returned (.int .i64 1) ∧ w = w' := by
  have hO := rown_in h hk hr
  have hp0 := h.cell0
  have hkl : k < L.length := (List.getElem?_eq_some_iff.1 hk).1
  have hL := h.2.2.2.2.2.1
  obtain ⟨cs, hc, hcl, hb⟩ := h.2.2.2.2.2.2.2
  obtain ⟨a0, -, ⟨y, n2, q', a4, a5, a6⟩⟩ := hb k b hk
  have hn2 : n2 = b.data.length := by
    obtain ⟨a', c', e⟩ := a5.form
    simp at e; exact e.2.1
  subst hn2
  have g2 : w.cell? ⟨rb, k * 3 + 2, none⟩ = some (.slice y b.data.length q') := by rw [hc.cell]; exact a4
  have hmay' : f < 0 ∨ (0 ≤ f ∧ g < 0) ∨ (0 ≤ f ∧ 0 ≤ g ∧ (b.data.length : Int) < f) ∨ (0 ≤ f ∧ 0 ≤ g ∧ f ≤ b.data.length ∧ (b.data.length : Int) - f < g) := by
    unfold MayTrim at hm; omega
  clear hr hk h hc hcl hb a0 a4 a5 a6 hm
  rcases hmay' with h1 | ⟨h0, h1⟩ | ⟨h0, h00, h1⟩ | ⟨h0, h00, h000, h1⟩
  all_goals
    go_enter Try.func31, Try.ntmps31
    go_wp2_with (go_at_call 35; refine hO.mono ?_; rintro e w' ⟨rfl, rfl⟩)
    go_ret
    exact ⟨rfl, rfl⟩

theorem rtrim_a {w : World} {r rb : Nat} {base : Nat → Prop} {L : List Bf} (h : RefAt w r rb base L) {k : Nat} {b : Bf} (hk : L[k]? = some b) (hr : b.refs = 1) {f g : Nat} (hfg : f + g ≤ b.data.length) (hbd : b.data.length ≤ 288)
    {cs : List Value} (hc : Blk w rb cs 36) (hcl : cs.length = L.length * 3) {y : Option Addr} {q : Nat} (a4 : cs[k * 3 + 2]? = some (.slice y b.data.length q)) (a5 : BytesAt w (.slice y b.data.length q) b.data) (hcf : ¬ q = f) :
    Calls Try.prog 31 #[.pointer (some ⟨r, 0, none⟩), .int .i64 (k : Int), .int .i64 (f : Int), .int .i64 (g : Int)] w fun e w' => e = .returned (.int .i64 0) ∧
      RefAt w' r rb base (L.set k { b with data := (b.data.drop f).take (b.data.length - g - f) }) ∧ Only (fun x => x = rb) w w' := by
  have hO := rown_in h hk hr
  have hp0 := h.cell0
  have hkl : k < L.length := (List.getElem?_eq_some_iff.1 hk).1
  have hL := h.2.2.2.2.2.1
  have hlr := h.1.lt
  have hlb := hc.lt
  have hcap := a5.cap
  have g2 : w.cell? ⟨rb, k * 3 + 2, none⟩ = some (.slice y b.data.length q) := by rw [hc.cell]; exact a4
  have hcf' : ¬ (q - f = 0) := by omega
  have hcut : BytesAt w.drew (.slice (Option.map (fun x => x.add f) y) (b.data.length - g - f) (q - f)) ((b.data.drop f).take (b.data.length - g - f)) := BytesAt.cut1 (w := w) a5 (by omega) hcf
  obtain ⟨v', w1, hrun, hown, hon⟩ := run_append_bytes (w := w.drew) (ty := 29) Try.underlying29 u8_info w.heap.size [] _ (own_nil _ _ _) hcut (by simp; omega) (Nat.le_refl _)
  rw [List.nil_append] at hown
  obtain ⟨a', c', rfl, hnil⟩ := hown.form
  have hlen : ((b.data.drop f).take (b.data.length - g - f)).length = b.data.length - g - f := by rw [List.length_take, List.length_drop]; omega
  rw [hlen] at hown hrun
  have hc1 := hon.blk hc (by omega)
  have hq0 : w1.cell? ⟨r, 0, none⟩ = some (.slice (some ⟨rb, 0, none⟩) L.length L.length) := by rw [hon.cell (a := ⟨r, 0, none⟩) hlr (by simp; omega)]; exact hp0
  have g3 : w1.cell? ⟨rb, k * 3 + 2, none⟩ = some (.slice y b.data.length q) := by rw [hc1.cell]; exact a4
  have hz := fun o => hc1.fz o
  have e1 : (0 : Int) ≤ (b.data.length : Int) - (g : Int) := by omega
  have e2 : (b.data.length : Int) - (g : Int) ≤ (q : Int) := by omega
  have e3 : ((b.data.length : Int) - (g : Int)).toNat = b.data.length - g := by omega
  have e4 : (f : Int) ≤ (b.data.length : Int) - (g : Int) := by omega
  have e5 : f ≤ b.data.length - g := by omega
  have e6 : (f : Int) ≤ (b.data.length : Int) := by omega
  have e7 : (g : Int) ≤ (b.data.length : Int) - (f : Int) := by omega
  have ew : IntKind.i64.wrap ((b.data.length : Int) - (g : Int)) = (b.data.length : Int) - (g : Int) := IntWalk.i64_in _ (by omega)
  have H := Lib.hid (And.intro h (And.intro hk (And.intro hc (And.intro hc1 (And.intro hcl (And.intro hown (And.intro hon hlen)))))))
  clear h hk hc hcl hown hon hc1 hnil hr a4 a5 hcut hlen 
  go_enter Try.func31, Try.ntmps31
  go_wp2_with (go_at_call 35; refine hO.mono ?_; rintro e w' ⟨rfl, rfl⟩)
  refine wp_region_two 15 12 w1 (by kernel_rfl) (by kernel_rfl) (by rfl) ?_
  simp only [List.take_succ_cons, List.take_zero, List.drop_succ_cons, List.drop_zero]
  repeat (apply two_quiet (by decide) (by rfl); (focus (go_simp; rfl)); (focus go_simp))
  simp only [Act.put, List.setIfInBounds_toArray, List.set_cons_zero, List.set_cons_succ]
  refine two_turns (by rfl) (exec_append (by rfl) hrun) ?_
  repeat (apply two_quiet (by decide) (by rfl); (focus (go_simp; rfl)); (focus go_simp))
  refine wpSpread_end ?_
  simp only [Act.put, List.setIfInBounds_toArray, List.set_cons_zero, List.set_cons_succ]
  go_wp2
  go_ret
  obtain ⟨h, hk, hc, hc1, hcl, hown, hon, hlen⟩ := H.out
  have hbs := h.2.2.2.2.2.2.1
  have hO1 : Only (fun x => x = rb) w w1 := hon.undrew _
  have hst : Only (fun x => x = rb) w1 (w1.setCell ⟨rb, k * 3 + 2, none⟩ (.slice a' (b.data.length - g - f) c')) := Only.st (Only.refl (fun x => x = rb) w1) rfl _ _
  refine ⟨rfl, h.newData hk hc (hO1.trans hst) (hc1.set _ _) ((hown.bytes (by omega)).only hst ?_) (fun b o n c e hn => hbs b (hown.sliceIn b o n c e hn)), hO1.trans hst⟩
  intro b o n c e hn
  have := hown.sliceIn b o n c e hn
  omega

theorem rtrim_brg {w : World} {r rb : Nat} {base : Nat → Prop} {L : List Bf} (h : RefAt w r rb base L) {k : Nat} {b : Bf} (hk : L[k]? = some b) (hr : b.refs = 1) {f g : Int} (hm : ¬ MayTrim b f g) (hbd : b.data.length ≤ 288) :
    Calls Try.prog 31 #[.pointer (some ⟨r, 0, none⟩), .int .i64 (k : Int), .int .i64 f, .int .i64 g] w fun e w' => e = .returned (.int .i64 1) ∧ w = w' := by
  have hO := rown_in h hk hr
  have hp0 := h.cell0
  have hkl : k < L.length := (List.getElem?_eq_some_iff.1 hk).1
  have hL := h.2.2.2.2.2.1
  obtain ⟨cs, hc, hcl, hb⟩ := h.2.2.2.2.2.2.2
  obtain ⟨a0, -, ⟨y, n2, q', a4, a5, a6⟩⟩ := hb k b hk
  have hn2 : n2 = b.data.length := by
    obtain ⟨a', c', e⟩ := a5.form
    simp at e; exact e.2.1
  subst hn2
  have g2 : w.cell? ⟨rb, k * 3 + 2, none⟩ = some (.slice y b.data.length q') := by rw [hc.cell]; exact a4
  have hmay' : f < 0 ∨ (0 ≤ f ∧ g < 0) ∨ (0 ≤ f ∧ 0 ≤ g ∧ (b.data.length : Int) < f) ∨ (0 ≤ f ∧ 0 ≤ g ∧ f ≤ b.data.length ∧ (b.data.length : Int) - f < g) := by
    unfold MayTrim at hm; omega
  clear hr hk h hc hcl hb a0 a4 a5 a6 hm
  rcases hmay' with h1 | ⟨h0, h1⟩ | ⟨h0, h00, h1⟩ | ⟨h0, h00, h000, h1⟩
  all_goals
    go_enter Try.func31, Try.ntmps31
    go_wp2_with (go_at_call 35; refine hO.mono ?_; rintro e w' ⟨rfl, rfl⟩)
    go_ret
    exact ⟨rfl, rfl⟩

theorem rtrim_b {w : World} {r rb : Nat} {base : Nat → Prop} {L : List Bf} (h : RefAt w r rb base L) {k : Nat} {b : Bf} (hk : L[k]? = some b) (hr : b.refs = 1) {f g : Nat} (hfg : f + g ≤ b.data.length) (hbd : b.data.length ≤ 288)
    {cs : List Value} (hc : Blk w rb cs 36) (hcl : cs.length = L.length * 3) {y : Option Addr} {q : Nat} (a4 : cs[k * 3 + 2]? = some (.slice y b.data.length q)) (a5 : BytesAt w (.slice y b.data.length q) b.data) (hcf : q = f) :
    Calls Try.prog 31 #[.pointer (some ⟨r, 0, none⟩), .int .i64 (k : Int), .int .i64 (f : Int), .int .i64 (g : Int)] w fun e w' => e = .returned (.int .i64 0) ∧
      RefAt w' r rb base (L.set k { b with data := (b.data.drop f).take (b.data.length - g - f) }) ∧ Only (fun x => x = rb) w w' := by
  have hO := rown_in h hk hr
  have hp0 := h.cell0
  have hkl : k < L.length := (List.getElem?_eq_some_iff.1 hk).1
  have hL := h.2.2.2.2.2.1
  have hlr := h.1.lt
  have hlb := hc.lt
  have hcap := a5.cap
  have g2 : w.cell? ⟨rb, k * 3 + 2, none⟩ = some (.slice y b.data.length q) := by rw [hc.cell]; exact a4
  have hg0 : g = 0 := by omega
  have hbl : b.data.length = f := by omega
  obtain ⟨hm0, hcut0⟩ := BytesAt.cut2 (w := w) (m := b.data.length - g - f) a5 (by omega) hcf
  have hcut : BytesAt w.drew (.slice y 0 0) ((b.data.drop f).take (b.data.length - g - f)) := hcut0
  subst hcf hg0
  obtain ⟨v', w1, hrun, hown, hon⟩ := run_append_bytes (w := w.drew) (ty := 29) Try.underlying29 u8_info w.heap.size [] _ (own_nil _ _ _) hcut (by simp; omega) (Nat.le_refl _)
  rw [List.nil_append] at hown
  obtain ⟨a', c', rfl, hnil⟩ := hown.form
  have hlen : ((b.data.drop q).take (b.data.length - 0 - q)).length = 0 := by rw [List.length_take, List.length_drop]; omega
  rw [hlen] at hown hrun
  have hc1 := hon.blk hc (by omega)
  have hq0 : w1.cell? ⟨r, 0, none⟩ = some (.slice (some ⟨rb, 0, none⟩) L.length L.length) := by rw [hon.cell (a := ⟨r, 0, none⟩) hlr (by simp; omega)]; exact hp0
  have g3 : w1.cell? ⟨rb, k * 3 + 2, none⟩ = some (.slice y b.data.length q) := by rw [hc1.cell]; exact a4
  have hz := fun o => hc1.fz o
  have e1 : (0 : Int) ≤ (b.data.length : Int) - (0 : Int) := by omega
  have e2 : (b.data.length : Int) - (0 : Int) ≤ (q : Int) := by omega
  have e3 : ((b.data.length : Int) - (0 : Int)).toNat = b.data.length - 0 := by omega
  have e4 : (q : Int) ≤ (b.data.length : Int) - (0 : Int) := by omega
  have e5 : q ≤ b.data.length - 0 := by omega
  have e6 : (q : Int) ≤ (b.data.length : Int) := by omega
  have e7 : (0 : Int) ≤ (b.data.length : Int) - (q : Int) := by omega
  have ew : IntKind.i64.wrap ((b.data.length : Int) - (0 : Int)) = (b.data.length : Int) - (0 : Int) := IntWalk.i64_in _ (by omega)
  rw [hbl] at g2 g3
  clear e1 e2 e3 e4 e5 e6 e7 ew
  have ew : IntKind.i64.wrap (q : Int) = (q : Int) := IntWalk.i64_in _ (by omega)
  have e1 : (0 : Int) ≤ (q : Int) := by omega
  have HBL := Lib.hid hbl
  have H := Lib.hid (And.intro h (And.intro hk (And.intro hc (And.intro hc1 (And.intro hcl (And.intro hown (And.intro hon hlen)))))))
  clear h hk hc hcl hown hon hc1 hnil hr a4 a5 hcut hcut0 hm0 hlen hbl hfg hcap
  go_enter Try.func31, Try.ntmps31
  go_wp2_with (go_at_call 35; refine hO.mono ?_; rintro e w' ⟨rfl, rfl⟩)
  refine wp_region_two 15 12 w1 (by kernel_rfl) (by kernel_rfl) (by rfl) ?_
  simp only [List.take_succ_cons, List.take_zero, List.drop_succ_cons, List.drop_zero]
  repeat (apply two_quiet (by decide) (by rfl); (focus (go_simp; rfl)); (focus go_simp))
  simp only [Act.put, List.setIfInBounds_toArray, List.set_cons_zero, List.set_cons_succ]
  refine two_turns (by rfl) (exec_append (by rfl) hrun) ?_
  repeat (apply two_quiet (by decide) (by rfl); (focus (go_simp; rfl)); (focus go_simp))
  refine wpSpread_end ?_
  simp only [Act.put, List.setIfInBounds_toArray, List.set_cons_zero, List.set_cons_succ]
  go_wp2
  go_ret
  obtain ⟨h, hk, hc, hc1, hcl, hown, hon, hlen⟩ := H.out
  have hbs := h.2.2.2.2.2.2.1
  have hO1 : Only (fun x => x = rb) w w1 := hon.undrew _
  have hst : Only (fun x => x = rb) w1 (w1.setCell ⟨rb, k * 3 + 2, none⟩ (.slice a' 0 c')) := Only.st (Only.refl (fun x => x = rb) w1) rfl _ _
  refine ⟨rfl, h.newData hk hc (hO1.trans hst) (hc1.set _ _) ((hown.bytes (by rw [hlen]; omega)).only hst ?_) (fun b o n c e hn => hbs b (hown.sliceIn b o n c e hn)), hO1.trans hst⟩
  intro b o n c e hn
  have := hown.sliceIn b o n c e hn
  omega

theorem rtrim_in {w : World} {r rb : Nat} {base : Nat → Prop} {L : List Bf} (h : RefAt w r rb base L) {k : Nat} {b : Bf} (hk : L[k]? = some b) (hr : b.refs = 1) {f g : Int} (hm : MayTrim b f g) (hbd : b.data.length ≤ 288) :
    Calls Try.prog 31 #[.pointer (some ⟨r, 0, none⟩), .int .i64 (k : Int), .int .i64 f, .int .i64 g] w fun e w' => e = .returned (.int .i64 0) ∧
      RefAt w' r rb base (L.set k { b with data := (b.data.drop f.toNat).take (b.data.length - f.toNat - g.toNat) }) ∧ Only (fun x => x = rb) w w' := by
  obtain ⟨m1, m2, m3, m4⟩ := hm
  obtain ⟨f, rfl⟩ := Int.eq_ofNat_of_zero_le m1
  obtain ⟨g, rfl⟩ := Int.eq_ofNat_of_zero_le m2
  rw [Int.toNat_natCast, Int.toNat_natCast, show b.data.length - f - g = b.data.length - g - f by omega]
  obtain ⟨cs, hc, hcl, hb⟩ := h.2.2.2.2.2.2.2
  obtain ⟨a0, -, ⟨y, n2, q', a4, a5, a6⟩⟩ := hb k b hk
  have hn2 : n2 = b.data.length := by
    obtain ⟨a', c', e⟩ := a5.form
    simp at e; exact e.2.1
  subst hn2
  by_cases hcf : q' = f
  · exact rtrim_b h hk hr (by omega) hbd hc hcl a4 a5 hcf
  · exact rtrim_a h hk hr (by omega) hbd hc hcl a4 a5 hcf

end Go.Proofs.Ythofjobcjkeomaa
