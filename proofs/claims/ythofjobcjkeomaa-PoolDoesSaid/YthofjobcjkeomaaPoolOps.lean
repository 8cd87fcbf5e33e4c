/-
  What the pool's calls that change a buffer do, for every input.
-/
import Derived.Test.YthofjobcjkeomaaPoolRep
namespace Go.Proofs.Ythofjobcjkeomaa
open Go.RowKit
set_option maxRecDepth 100000
set_option maxHeartbeats 400000

theorem free_no {w : World} {p ab : Nat} {L : List Bf} (h : PoolAt w p ab L) {id : Int} (hn : ¬ Used L id) :
    Calls Try.prog 14 #[.pointer (some ⟨p, 0, none⟩), .int .i64 id] w fun e w' => e = .returned (.int .i64 7) ∧ w = w' := by
  go_enter Try.func14, Try.ntmps14
  go_wp2_with (go_at_call 23; refine (used_no h hn).mono ?_; rintro e w' ⟨rfl, rfl⟩)
  go_ret
  exact ⟨rfl, rfl⟩

theorem free_in {w : World} {p ab : Nat} {L : List Bf} (h : PoolAt w p ab L) {k : Nat} {b : Bf} (hk : L[k]? = some b) (hr : 0 < b.refs) (hm : b.refs < 1000000000000000) :
    Calls Try.prog 14 #[.pointer (some ⟨p, 0, none⟩), .int .i64 (k : Int)] w fun e w' => e = .returned (.int .i64 0) ∧ PoolAt w' p ab (L.set k { b with refs := b.refs - 1 }) ∧ Only (fun b => b = p ∨ b = ab) w w' := by
  have hb0 := h.cellr hk
  have hp1 := h.cell1
  obtain ⟨c, hc, hcl, hcb⟩ := h.2.2.2.2
  have hz := fun o => hc.fz o
  have hzp := fun o => h.1.fz o
  have hne : ¬ p = ab := h.2.1
  have hne' : ¬ ab = p := fun e => h.2.1 e.symm
  have hnf := nfree_le L
  have hL := h.2.2.2.1
  have hkl : k < L.length := (List.getElem?_eq_some_iff.1 hk).1
  have hU := used_in h hk hr
  have H := Lib.hid (And.intro h (And.intro hk (And.intro hc (And.intro hcl hcb))))
  clear hk hc hcl hcb h
  by_cases h1 : b.refs = 1
  · have H1 := Lib.hid h1
    have ht0 : ((b.refs : Int) - 1 == 0) = true := by simp; omega
    clear h1
    go_enter Try.func14, Try.ntmps14
    go_wp2_with (go_at_call 23; refine hU.mono ?_; rintro e w' ⟨rfl, rfl⟩)
    go_ret
    obtain ⟨h, hk, hc, hcl, hcb⟩ := H.out
    have h1 := H1.out
    refine ⟨rfl, h.turn hc ?_ ((hc.set _ _).set_ne hne _) (by simp) (fun o ho => set_ne_at (by omega)) ?_, Only.st (Only.st (Only.refl (fun b => b = p ∨ b = ab) _) (.inr rfl) _ _) (.inl rfl) _ _⟩
    · have e := nfree_set (b1 := { b with refs := b.refs - 1 }) hk
      rw [if_neg (by omega), if_pos (by simp; omega)] at e
      have e' : nfree (L.set k { b with refs := b.refs - 1 }) = nfree L + 1 := by omega
      rw [e']
      have := (h.1.set_ne (a := ⟨ab, k * 396, none⟩) hne' (.int .i64 ((b.refs : Int) - 1))).set 1 (.int .i64 ((nfree L : Int) + 1))
      simpa using this
    · exact (hcb k b hk).refs (by omega) (by omega)
  · have H1 := Lib.hid h1
    have ht0 : ((b.refs : Int) - 1 == 0) = false := by simp; omega
    clear h1
    go_enter Try.func14, Try.ntmps14
    go_wp2_with (go_at_call 23; refine hU.mono ?_; rintro e w' ⟨rfl, rfl⟩)
    go_ret
    obtain ⟨h, hk, hc, hcl, hcb⟩ := H.out
    have h1 := H1.out
    refine ⟨rfl, h.turn hc ?_ (hc.set _ _) (by simp) (fun o ho => set_ne_at (by omega)) ?_, Only.st (Only.refl (fun b => b = p ∨ b = ab) _) (.inr rfl) _ _⟩
    · have e := nfree_set (b1 := { b with refs := b.refs - 1 }) hk
      rw [if_neg (by omega), if_neg (by simp; omega)] at e
      have e' : nfree (L.set k { b with refs := b.refs - 1 }) = nfree L := by omega
      rw [e']
      exact h.1.set_ne hne' _
    · exact (hcb k b hk).refs (by omega) (by omega)

/-- What keeps a buffer from being changed. -/
def OwnErr (L : List Bf) (id : Int) (e : Int) : Prop := (¬ Used L id ∧ e = 7) ∨ ∃ (k : Nat) (b : Bf), id = (k : Int) ∧ L[k]? = some b ∧ 1 < b.refs ∧ e = 9

theorem own_cases (L : List Bf) (id : Int) : OwnErr L id 7 ∨ OwnErr L id 9 ∨ ∃ (k : Nat) (b : Bf), id = (k : Int) ∧ L[k]? = some b ∧ b.refs = 1 := by
  by_cases hu : Used L id
  · obtain ⟨k, b, h1, h2, h3⟩ := hu
    by_cases h : b.refs = 1
    · exact .inr (.inr ⟨k, b, h1, h2, h⟩)
    · exact .inr (.inl (.inr ⟨k, b, h1, h2, by omega, rfl⟩))
  · exact .inl (.inl ⟨hu, rfl⟩)

theorem OwnErr.ne {L : List Bf} {id e : Int} (h : OwnErr L id e) : (e != 0) = true := by
  rcases h with ⟨_, rfl⟩ | ⟨_, _, _, _, _, rfl⟩ <;> rfl

theorem own_err {w : World} {p ab : Nat} {L : List Bf} (h : PoolAt w p ab L) {id x : Int} (hn : OwnErr L id x) :
    Calls Try.prog 25 #[.pointer (some ⟨p, 0, none⟩), .int .i64 id] w fun e w' => e = .returned (.tuple #[.pointer none, .int .i64 x]) ∧ w = w' := by
  rcases hn with ⟨hn, rfl⟩ | ⟨k, b, rfl, hk, hr, rfl⟩
  · exact own_no h hn
  · exact own_shared h hk hr

theorem trim_err {w : World} {p ab : Nat} {L : List Bf} (h : PoolAt w p ab L) {id x : Int} (hn : OwnErr L id x) (f g : Int) :
    Calls Try.prog 22 #[.pointer (some ⟨p, 0, none⟩), .int .i64 id, .int .i64 f, .int .i64 g] w fun e w' => e = .returned (.int .i64 x) ∧ w = w' := by
  have hx := hn.ne
  go_enter Try.func22, Try.ntmps22
  go_wp2_with (go_at_call 25; refine (own_err h hn).mono ?_; rintro e w' ⟨rfl, rfl⟩)
  go_ret
  exact ⟨rfl, rfl⟩

theorem set_err {w : World} {p ab : Nat} {L : List Bf} (h : PoolAt w p ab L) {id x : Int} (hn : OwnErr L id x) (a : Option Addr) (n m : Nat) :
    Calls Try.prog 12 #[.pointer (some ⟨p, 0, none⟩), .int .i64 id, .slice a n m] w fun e w' => e = .returned (.int .i64 x) ∧ w = w' := by
  have hx := hn.ne
  go_enter Try.func12, Try.ntmps12
  go_wp2_with (go_at_call 25; refine (own_err h hn).mono ?_; rintro e w' ⟨rfl, rfl⟩)
  go_ret
  exact ⟨rfl, rfl⟩

theorem front_err {w : World} {p ab : Nat} {L : List Bf} (h : PoolAt w p ab L) {id x : Int} (hn : OwnErr L id x) (a : Option Addr) (n m : Nat) :
    Calls Try.prog 20 #[.pointer (some ⟨p, 0, none⟩), .int .i64 id, .slice a n m] w fun e w' => e = .returned (.int .i64 x) ∧ w = w' := by
  have hx := hn.ne
  go_enter Try.func20, Try.ntmps20
  go_wp2_with (go_at_call 25; refine (own_err h hn).mono ?_; rintro e w' ⟨rfl, rfl⟩)
  go_ret
  exact ⟨rfl, rfl⟩

theorem append_err {w : World} {p ab : Nat} {L : List Bf} (h : PoolAt w p ab L) {id x : Int} (hn : OwnErr L id x) (a : Option Addr) (n m : Nat) :
    Calls Try.prog 21 #[.pointer (some ⟨p, 0, none⟩), .int .i64 id, .slice a n m] w fun e w' => e = .returned (.int .i64 x) ∧ w = w' := by
  have hx := hn.ne
  go_enter Try.func21, Try.ntmps21
  go_wp2_with (go_at_call 25; refine (own_err h hn).mono ?_; rintro e w' ⟨rfl, rfl⟩)
  go_ret
  exact ⟨rfl, rfl⟩

/-- May so much be trimmed? -/
def MayTrim (b : Bf) (f g : Int) : Prop := 0 ≤ f ∧ 0 ≤ g ∧ f ≤ b.data.length ∧ g ≤ b.data.length - f

theorem trim_arg {w : World} {p ab : Nat} {L : List Bf} (h : PoolAt w p ab L) {k : Nat} {b : Bf} (hk : L[k]? = some b) (hr : b.refs = 1) {f g : Int} (hm : ¬ MayTrim b f g) :
    Calls Try.prog 22 #[.pointer (some ⟨p, 0, none⟩), .int .i64 (k : Int), .int .i64 f, .int .i64 g] w fun e w' => e = .returned (.int .i64 1) ∧ w = w' := by
  have hO := own_in h hk hr
  obtain ⟨c, hc, hcl, hcb⟩ := h.2.2.2.2
  obtain ⟨mem, fr, hmm, h0, h1, h2, h3, h4, h5, h6, h7, h8⟩ := hcb k b hk
  have hs : w.cell? ⟨ab, k * 396 + 394, none⟩ = some (.int .i64 (b.data.length : Int)) := by rw [hc.cell]; exact h3
  unfold MayTrim at hm
  generalize b.data.length = n at *
  clear h6 h5 h4 h3 h2 h1 h0 hcb hcl hc hk h hmm hr h7
  by_cases c0 : f < 0
  · go_enter Try.func22, Try.ntmps22
    go_wp2_with (go_at_call 25; refine hO.mono ?_; rintro e w' ⟨rfl, rfl⟩)
    go_ret
    exact ⟨rfl, rfl⟩
  have c0' : 0 ≤ f := by omega
  by_cases c1 : g < 0
  · clear hm
    go_enter Try.func22, Try.ntmps22
    go_wp2_with (go_at_call 25; refine hO.mono ?_; rintro e w' ⟨rfl, rfl⟩)
    go_ret
    exact ⟨rfl, rfl⟩
  have c1' : 0 ≤ g := by omega
  by_cases c2 : (n : Int) < f
  · clear hm
    go_enter Try.func22, Try.ntmps22
    go_wp2_with (go_at_call 25; refine hO.mono ?_; rintro e w' ⟨rfl, rfl⟩)
    go_ret
    exact ⟨rfl, rfl⟩
  have c2' : f ≤ (n : Int) := by omega
  have c3 : (n : Int) - f < g := by omega
  clear hm
  go_enter Try.func22, Try.ntmps22
  go_wp2_with (go_at_call 25; refine hO.mono ?_; rintro e w' ⟨rfl, rfl⟩)
  go_ret
  exact ⟨rfl, rfl⟩

theorem drop_take_cut {l : List UInt8} {a n f m : Nat} (h : m + f ≤ n) : (((l.drop a).take n).drop f).take m = (l.drop (a + f)).take m := by
  rw [List.drop_take, List.take_take, List.drop_drop, Nat.min_eq_left (by omega)]

theorem trim_in {w : World} {p ab : Nat} {L : List Bf} (h : PoolAt w p ab L) {k : Nat} {b : Bf} (hk : L[k]? = some b) (hr : b.refs = 1) {f g : Int} (hm : MayTrim b f g) :
    Calls Try.prog 22 #[.pointer (some ⟨p, 0, none⟩), .int .i64 (k : Int), .int .i64 f, .int .i64 g] w fun e w' => e = .returned (.int .i64 0) ∧
      PoolAt w' p ab (L.set k { b with data := (b.data.drop f.toNat).take (b.data.length - f.toNat - g.toNat) }) ∧ Only (fun b => b = ab) w w' := by
  have hO := own_in h hk hr
  obtain ⟨c, hc, hcl, hcb⟩ := h.2.2.2.2
  obtain ⟨mem, fr, hmm, h0, h1, h2, h3, h4, h5, h6, h7, h8⟩ := hcb k b hk
  have hs : w.cell? ⟨ab, k * 396 + 394, none⟩ = some (.int .i64 (b.data.length : Int)) := by rw [hc.cell]; exact h3
  have hf : w.cell? ⟨ab, k * 396 + 395, none⟩ = some (.int .i64 (fr : Int)) := by rw [hc.cell]; exact h4
  have hz := fun o => hc.fz o
  have hne' : ¬ ab = p := fun e => h.2.1 e.symm
  obtain ⟨m1, m2, m3, m4⟩ := hm
  obtain ⟨f, rfl⟩ := Int.eq_ofNat_of_zero_le m1
  obtain ⟨g, rfl⟩ := Int.eq_ofNat_of_zero_le m2
  rw [Int.toNat_natCast, Int.toNat_natCast]
  have hkl : k < L.length := (List.getElem?_eq_some_iff.1 hk).1
  have H := Lib.hid (And.intro h (And.intro hk (And.intro hc (And.intro hcl (And.intro hmm (And.intro h0 (And.intro h1 (And.intro h2 (And.intro h3 (And.intro h4 (And.intro h5 (And.intro h6 h7))))))))))))
  clear h6 h5 h4 h3 h2 h1 h0 hcb hcl hc hk h hmm hr h7
  go_enter Try.func22, Try.ntmps22
  go_wp2_with (go_at_call 25; refine hO.mono ?_; rintro e w' ⟨rfl, rfl⟩)
  go_ret
  obtain ⟨h, hk, hc, hcl, hmm, h0, h1, h2, h3, h4, h5, h6, h7⟩ := H.out
  refine ⟨rfl, h.turn hc ?_ ((hc.set _ _).set _ _) (by simp) (fun o ho => by rw [set_ne_at (by omega), set_ne_at (by omega)]) ?_, Only.st (Only.st (Only.refl (fun b => b = ab) _) rfl _ _) rfl _ _⟩
  · have e := nfree_set (b1 := { b with data := (b.data.drop f).take (b.data.length - f - g) }) hk
    have e' : nfree (L.set k { b with data := (b.data.drop f).take (b.data.length - f - g) }) = nfree L := by simp only at e; omega
    rw [e']
    exact (h.1.set_ne hne' _).set_ne hne' _
  · have hlen : ((b.data.drop f).take (b.data.length - f - g)).length = b.data.length - f - g := by rw [List.length_take, List.length_drop]; omega
    refine ⟨mem, fr + f, hmm, ?_, ?_, ?_, ?_, ?_, h5, ?_, h7, ?_⟩
    · rw [set_ne_at (by omega), set_ne_at (by omega)]; exact h0
    · intro j hj; rw [set_ne_at (by omega), set_ne_at (by omega)]; exact h1 j hj
    · rw [set_ne_at (by omega), set_ne_at (by omega)]; exact h2
    · rw [List.getElem?_set_self (by simp; omega), hlen]; congr 2; omega
    · rw [set_ne_at (by omega), List.getElem?_set_self (by omega)]; congr 2
    · simp only [hlen]
      have key : (b.data.drop f).take (b.data.length - f - g) = (((mem.drop (104 + fr)).take b.data.length).drop f).take (b.data.length - f - g) := by rw [← h6]
      rw [key, drop_take_cut (by omega), Nat.add_assoc]
    · simp only [hlen]; omega

end Go.Proofs.Ythofjobcjkeomaa
