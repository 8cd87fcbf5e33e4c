/-
  The document's pool: Set, Append, Trim, Front, for every input.
-/
import Derived.Test.YthofjobcjkeomaaRefRep
namespace Go.Proofs.Ythofjobcjkeomaa
open Go.RowKit
set_option maxRecDepth 100000
set_option maxHeartbeats 1000000

theorem u8_info : (Try.prog.info? 5).map (fun i => (i.zero, i.size, i.bytes)) = some (some (.int .u8 0), 1, 1) := by kernel_rfl

theorem rset_in {w : World} {r rb : Nat} {base : Nat → Prop} {L : List Bf} (h : RefAt w r rb base L) {k : Nat} {b : Bf} (hk : L[k]? = some b) (hr : b.refs = 1) {d : List UInt8} {a : Option Addr} {n c : Nat} (hd : BytesAt w (.slice a n c) d) (hn : d.length ≤ 288) :
    Calls Try.prog 29 #[.pointer (some ⟨r, 0, none⟩), .int .i64 (k : Int), .slice a n c] w fun e w' => e = .returned (.int .i64 0) ∧ RefAt w' r rb base (L.set k ⟨1, [], d⟩) ∧ Only (fun x => x = rb) w w' := by
  have hnd : n = d.length := by
    obtain ⟨a', c', e⟩ := hd.form
    simp at e; exact e.2.1
  subst hnd
  have hO := rown_in h hk hr
  have hp0 := h.cell0
  have hkl : k < L.length := (List.getElem?_eq_some_iff.1 hk).1
  have hL := h.2.2.2.2.2.1
  have hlr := h.1.lt
  obtain ⟨cs, hc, hcl, hb⟩ := h.2.2.2.2.2.2.2
  obtain ⟨a0, ⟨x, n1, q, a1, a2, a3⟩, ⟨y, n2, q', a4, a5, a6⟩⟩ := hb k b hk
  have hlb := hc.lt
  obtain ⟨v', w1, hrun, hown, hon⟩ := run_append_bytes (w := w.drew) (ty := 29) Try.underlying29 u8_info w.heap.size [] d (own_nil _ _ _) hd (by simp; omega) (Nat.le_refl _)
  rw [List.nil_append] at hown
  obtain ⟨a', c', rfl, hnil⟩ := hown.form
  have hc1 := hon.blk hc (by omega)
  have hq0 : w1.cell? ⟨r, 0, none⟩ = some (.slice (some ⟨rb, 0, none⟩) L.length L.length) := by rw [hon.cell (a := ⟨r, 0, none⟩) hlr (by simp; omega)]; exact hp0
  have g1 : w1.cell? ⟨rb, k * 3 + 1, none⟩ = some (.slice x n1 q) := by rw [hc1.cell]; exact a1
  have g2 : w1.cell? ⟨rb, k * 3 + 2, none⟩ = some (.slice y n2 q') := by rw [hc1.cell]; exact a4
  have hz := fun o => hc1.fz o
  have hn' : (d.length : Int) ≤ 288 := by omega
  have H := Lib.hid (And.intro h (And.intro hk (And.intro hc (And.intro hc1 (And.intro hcl (And.intro hown (And.intro hon (And.intro a0 hr))))))))
  clear h hk hc hb a0 a1 a2 a3 a4 a5 a6 hcl hown hon hc1 hd hnil hr
  go_enter Try.func29, Try.ntmps29
  go_wp2_with (go_at_call 35; refine hO.mono ?_; rintro e w' ⟨rfl, rfl⟩)
  refine wp_region_two 9 6 w1 (by kernel_rfl) (by kernel_rfl) (by rfl) ?_
  simp only [List.take_succ_cons, List.take_zero, List.drop_succ_cons, List.drop_zero]
  repeat (apply two_quiet (by decide) (by rfl); (focus (go_simp; rfl)); (focus go_simp))
  refine two_turns (by rfl) (exec_append (by rfl) hrun) ?_
  repeat (apply two_quiet (by decide) (by rfl); (focus (go_simp; rfl)); (focus go_simp))
  refine wpSpread_end ?_
  simp only [Act.put, List.setIfInBounds_toArray, List.set_cons_zero, List.set_cons_succ]
  go_wp2
  go_ret
  obtain ⟨h, hk, hc, hc1, hcl, hown, hon, a0, hr⟩ := H.out
  have hbs := h.2.2.2.2.2.2.1
  have hO1 : Only (fun x => x = rb) w w1 := hon.undrew _
  have hst : Only (fun x => x = rb) w1 ((w1.setCell ⟨rb, k * 3 + 2, none⟩ (.slice a' d.length c')).setCell ⟨rb, k * 3 + 1, none⟩ (.slice none 0 0)) := Only.st (Only.st (Only.refl (fun x => x = rb) w1) rfl _ _) rfl _ _
  have hO2 := hO1.trans hst
  refine ⟨rfl, h.turn hc hO2 ((hc1.set _ _).set _ _) (by simp) (fun o ho => by rw [set_ne_at (by omega), set_ne_at (by omega)]) ⟨?_, ⟨none, 0, 0, ?_, .nil _, sliceIn_nil⟩, ⟨a', d.length, c', ?_, (hown.bytes (by omega)).only hst ?_, fun b o n c e hn => hbs b (hown.sliceIn b o n c e hn)⟩⟩, hO2⟩
  · rw [set_ne_at (by omega), set_ne_at (by omega), a0, hr]
  · rw [List.getElem?_set_self (by simp; omega)]
  · rw [set_ne_at (by omega), List.getElem?_set_self (by omega)]
  · intro b o n c e hn
    have := hown.sliceIn b o n c e hn
    omega

theorem rset_err {w : World} {r rb : Nat} {base : Nat → Prop} {L : List Bf} (h : RefAt w r rb base L) {id x : Int} (hn : OwnErr L id x) (a : Option Addr) (n m : Nat) :
    Calls Try.prog 29 #[.pointer (some ⟨r, 0, none⟩), .int .i64 id, .slice a n m] w fun e w' => e = .returned (.int .i64 x) ∧ w = w' := by
  have hx := hn.ne
  have hx2 : (x == 0) = false := by rcases hn with ⟨_, rfl⟩ | ⟨_, _, _, _, _, rfl⟩ <;> rfl
  go_enter Try.func29, Try.ntmps29
  go_wp2_with (go_at_call 35; refine (rown_err h hn).mono ?_; rintro e w' ⟨rfl, rfl⟩)
  go_ret
  exact ⟨rfl, rfl⟩

theorem rfront_err {w : World} {r rb : Nat} {base : Nat → Prop} {L : List Bf} (h : RefAt w r rb base L) {id x : Int} (hn : OwnErr L id x) (a : Option Addr) (n m : Nat) :
    Calls Try.prog 32 #[.pointer (some ⟨r, 0, none⟩), .int .i64 id, .slice a n m] w fun e w' => e = .returned (.int .i64 x) ∧ w = w' := by
  have hx := hn.ne
  have hx2 : (x == 0) = false := by rcases hn with ⟨_, rfl⟩ | ⟨_, _, _, _, _, rfl⟩ <;> rfl
  go_enter Try.func32, Try.ntmps32
  go_wp2_with (go_at_call 35; refine (rown_err h hn).mono ?_; rintro e w' ⟨rfl, rfl⟩)
  go_ret
  exact ⟨rfl, rfl⟩

theorem rappend_err {w : World} {r rb : Nat} {base : Nat → Prop} {L : List Bf} (h : RefAt w r rb base L) {id x : Int} (hn : OwnErr L id x) (a : Option Addr) (n m : Nat) :
    Calls Try.prog 30 #[.pointer (some ⟨r, 0, none⟩), .int .i64 id, .slice a n m] w fun e w' => e = .returned (.int .i64 x) ∧ w = w' := by
  have hx := hn.ne
  have hx2 : (x == 0) = false := by rcases hn with ⟨_, rfl⟩ | ⟨_, _, _, _, _, rfl⟩ <;> rfl
  go_enter Try.func30, Try.ntmps30
  go_wp2_with (go_at_call 35; refine (rown_err h hn).mono ?_; rintro e w' ⟨rfl, rfl⟩)
  go_ret
  exact ⟨rfl, rfl⟩

theorem rtrim_err {w : World} {r rb : Nat} {base : Nat → Prop} {L : List Bf} (h : RefAt w r rb base L) {id x : Int} (hn : OwnErr L id x) (f g : Int) :
    Calls Try.prog 31 #[.pointer (some ⟨r, 0, none⟩), .int .i64 id, .int .i64 f, .int .i64 g] w fun e w' => e = .returned (.int .i64 x) ∧ w = w' := by
  have hx := hn.ne
  have hx2 : (x == 0) = false := by rcases hn with ⟨_, rfl⟩ | ⟨_, _, _, _, _, rfl⟩ <;> rfl
  go_enter Try.func31, Try.ntmps31
  go_wp2_with (go_at_call 35; refine (rown_err h hn).mono ?_; rintro e w' ⟨rfl, rfl⟩)
  go_ret
  exact ⟨rfl, rfl⟩

theorem rset_long {w : World} {r rb : Nat} {base : Nat → Prop} {L : List Bf} (h : RefAt w r rb base L) {k : Nat} {b : Bf} (hk : L[k]? = some b) (hr : b.refs = 1) (a : Option Addr) (n m : Nat) (hn : 288 < n) :
    Calls Try.prog 29 #[.pointer (some ⟨r, 0, none⟩), .int .i64 (k : Int), .slice a n m] w fun e w' => e = .returned (.int .i64 2) ∧ w = w' := by
  have hO := rown_in h hk hr
  have hn' : (288 : Int) < (n : Int) := by omega
  clear hr hk h
  go_enter Try.func29, Try.ntmps29
  go_wp2_with (go_at_call 35; refine hO.mono ?_; rintro e w' ⟨rfl, rfl⟩)
  go_ret
  exact ⟨rfl, rfl⟩

theorem rfront_long {w : World} {r rb : Nat} {base : Nat → Prop} {L : List Bf} (h : RefAt w r rb base L) {k : Nat} {b : Bf} (hk : L[k]? = some b) (hr : b.refs = 1) (a : Option Addr) (n m : Nat) (hn : 104 < n) :
    Calls Try.prog 32 #[.pointer (some ⟨r, 0, none⟩), .int .i64 (k : Int), .slice a n m] w fun e w' => e = .returned (.int .i64 2) ∧ w = w' := by
  have hO := rown_in h hk hr
  have hn' : (104 : Int) < (n : Int) := by omega
  clear hr hk h
  go_enter Try.func32, Try.ntmps32
  go_wp2_with (go_at_call 35; refine hO.mono ?_; rintro e w' ⟨rfl, rfl⟩)
  go_ret
  exact ⟨rfl, rfl⟩

theorem rfront_in {w : World} {r rb : Nat} {base : Nat → Prop} {L : List Bf} (h : RefAt w r rb base L) {k : Nat} {b : Bf} (hk : L[k]? = some b) (hr : b.refs = 1) {d : List UInt8} {a : Option Addr} {n c : Nat} (hd : BytesAt w (.slice a n c) d) (hn : d.length ≤ 104) :
    Calls Try.prog 32 #[.pointer (some ⟨r, 0, none⟩), .int .i64 (k : Int), .slice a n c] w fun e w' => e = .returned (.int .i64 0) ∧ RefAt w' r rb base (L.set k { b with head := d }) ∧ Only (fun x => x = rb) w w' := by
  have hnd : n = d.length := by
    obtain ⟨a', c', e⟩ := hd.form
    simp at e; exact e.2.1
  subst hnd
  have hO := rown_in h hk hr
  have hp0 := h.cell0
  have hkl : k < L.length := (List.getElem?_eq_some_iff.1 hk).1
  have hL := h.2.2.2.2.2.1
  have hlr := h.1.lt
  obtain ⟨cs, hc, hcl, hb⟩ := h.2.2.2.2.2.2.2
  obtain ⟨a0, ⟨x, n1, q, a1, a2, a3⟩, ⟨y, n2, q', a4, a5, a6⟩⟩ := hb k b hk
  have hlb := hc.lt
  have H2 := Lib.hid (And.intro hc (And.intro hcl hb))
  obtain ⟨v', w1, hrun, hown, hon⟩ := run_append_bytes (w := w.drew) (ty := 29) Try.underlying29 u8_info w.heap.size [] d (own_nil _ _ _) hd (by simp; omega) (Nat.le_refl _)
  rw [List.nil_append] at hown
  obtain ⟨a', c', rfl, hnil⟩ := hown.form
  have hc1 := hon.blk hc (by omega)
  have hq0 : w1.cell? ⟨r, 0, none⟩ = some (.slice (some ⟨rb, 0, none⟩) L.length L.length) := by rw [hon.cell (a := ⟨r, 0, none⟩) hlr (by simp; omega)]; exact hp0
  have g1 : w1.cell? ⟨rb, k * 3 + 1, none⟩ = some (.slice x n1 q) := by rw [hc1.cell]; exact a1
  have g2 : w1.cell? ⟨rb, k * 3 + 2, none⟩ = some (.slice y n2 q') := by rw [hc1.cell]; exact a4
  have hz := fun o => hc1.fz o
  have hn' : (d.length : Int) ≤ 104 := by omega
  have H := Lib.hid (And.intro h (And.intro hk (And.intro hc (And.intro hc1 (And.intro hcl (And.intro hown (And.intro hon (And.intro a0 hr))))))))
  clear h hk hc hb a0 a1 a2 a3 a4 a5 a6 hcl hown hon hc1 hd hnil hr
  go_enter Try.func32, Try.ntmps32
  go_wp2_with (go_at_call 35; refine hO.mono ?_; rintro e w' ⟨rfl, rfl⟩)
  refine wp_region_two 9 6 w1 (by kernel_rfl) (by kernel_rfl) (by rfl) ?_
  simp only [List.take_succ_cons, List.take_zero, List.drop_succ_cons, List.drop_zero]
  repeat (apply two_quiet (by decide) (by rfl); (focus (go_simp; rfl)); (focus go_simp))
  refine two_turns (by rfl) (exec_append (by rfl) hrun) ?_
  repeat (apply two_quiet (by decide) (by rfl); (focus (go_simp; rfl)); (focus go_simp))
  refine wpSpread_end ?_
  simp only [Act.put, List.setIfInBounds_toArray, List.set_cons_zero, List.set_cons_succ]
  go_wp2
  go_ret
  obtain ⟨h, hk, hc, hc1, hcl, hown, hon, a0, hr⟩ := H.out
  have hbs := h.2.2.2.2.2.2.1
  have hO1 : Only (fun x => x = rb) w w1 := hon.undrew _
  have hst : Only (fun x => x = rb) w1 (w1.setCell ⟨rb, k * 3 + 1, none⟩ (.slice a' d.length c')) := Only.st (Only.refl (fun x => x = rb) w1) rfl _ _
  have hO2 := hO1.trans hst
  obtain ⟨-, -, ⟨y, n2, q', b4, b5, b6⟩⟩ := (H2.out.2.2 k b hk).only hO2 (fun x hx _ hs => h.2.2.2.1 (by have e' : x = rb := hs; exact e' ▸ hx))
  refine ⟨rfl, h.turn hc hO2 (hc1.set _ _) (by simp) (fun o ho => by rw [set_ne_at (by omega)]) ⟨?_, ⟨a', d.length, c', ?_, (hown.bytes (by omega)).only hst ?_, fun b o n c e hn => hbs b (hown.sliceIn b o n c e hn)⟩, ⟨y, n2, q', ?_, b5, b6⟩⟩, hO2⟩
  · rw [set_ne_at (by omega), a0]
  · rw [List.getElem?_set_self (by omega)]
  · intro b o n c e hn
    have := hown.sliceIn b o n c e hn
    omega
  · rw [set_ne_at (by omega)]; exact b4

end Go.Proofs.Ythofjobcjkeomaa
