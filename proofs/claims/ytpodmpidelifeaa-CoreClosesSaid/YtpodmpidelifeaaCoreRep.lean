/-
  The core's types in memory, and what its small functions answer, for every input.
-/
import Derived.Test.YtpodmpidelifeaaHeap
import Derived.Test.YtpodmpidelifeaaProg
import Derived.Lib.Hide
import Derived.StillTailTactics
import Derived.Deep.QuietTactic
import Derived.BigQuiet
import Derived.BigRegion
import Derived.Outline
namespace Go.Proofs.Ytpodmpidelifeaa
open Go.RowKit
set_option maxRecDepth 100000
set_option maxHeartbeats 400000

/-- How a connection stands. -/
structure Ctl where
  st : Int
  iss : Int
  una : Int
  nxt : Int
  fs : Bool
  wnd : Int
  wl1 : Int
  wl2 : Int
  irs : Int
  rcv : Int
  adv : Int
/-- A segment; its two slices as they lie. -/
structure Seg where
  fr : Int
  to : Int
  sq : Int
  ak : Int
  fl : Int
  wnd : Int
  mss : Int
  sacks : Bool
  ga : Option Addr
  gn : Nat
  gc : Nat
  da : Option Addr
  dn : Nat
  dc : Nat
/-- What a segment means. -/
structure Vd where
  next : Ctl
  reply : Int
  ended : Int
  acked : Bool
  again : Bool
  skip : Int
  take : Int
  fin : Bool

abbrev Ctl.cs (c : Ctl) : List Value := [.int .i64 c.st, .int .u32 c.iss, .int .u32 c.una, .int .u32 c.nxt, .bool c.fs, .int .i64 c.wnd, .int .u32 c.wl1, .int .u32 c.wl2, .int .u32 c.irs, .int .u32 c.rcv, .int .u32 c.adv]
abbrev Seg.cs (s : Seg) : List Value := [.int .i64 s.fr, .int .i64 s.to, .int .u32 s.sq, .int .u32 s.ak, .int .i64 s.fl, .int .i64 s.wnd, .int .i64 s.mss, .bool s.sacks, .slice s.ga s.gn s.gc, .slice s.da s.dn s.dc]
abbrev Vd.cs (v : Vd) : List Value := v.next.cs ++ [.int .i64 v.reply, .int .i64 v.ended, .bool v.acked, .bool v.again, .int .i64 v.skip, .int .i64 v.take, .bool v.fin]

/-- The verdict that is being found, in a block of its own. -/
def JAt (w : World) (b : Nat) (c : Ctl) (s : Seg) (v : Vd) : Prop := Blk w b (c.cs ++ s.cs ++ v.cs) 51

/-- By how much one number lies behind another one. -/
def df (a b : Int) : Int := wrap64 (wrap32 ((a - b) % 4294967296))
theorem df_bd (a b : Int) : -2147483648 ≤ df a b ∧ df a b ≤ 2147483647 := by unfold df wrap64 wrap32; omega
/-- How far behind. -/
def up (a b : Int) : Int := (a - b) % 4294967296
theorem up_bd (a b : Int) : 0 ≤ up a b ∧ up a b < 4294967296 := by unfold up; omega

/-- Has a segment with these flags that one? -/
def hb (fl k : Int) : Bool := bits .and .i64 fl k != 0

theorem and32 (x : Int) (m : Nat) (hm : m < 32) : bits .and .i64 x (m : Int) = bits .and .i64 (x % 32) (m : Int) := by
  have key : ∀ y : Int, bits .and .i64 y (m : Int) = IntKind.i64.wrap (((y % 18446744073709551616).toNat &&& m : Nat) : Int) := by
    intro y
    unfold bits
    show IntKind.i64.wrap (((BitVec.ofInt 64 y &&& BitVec.ofInt 64 (m : Int)).toNat : Nat) : Int) = _
    rw [BitVec.toNat_and, BitVec.toNat_ofInt, BitVec.toNat_ofInt]
    have h2 : ((m : Int) % ((2 ^ 64 : Nat) : Int)).toNat = m := by omega
    rw [h2]
    rfl
  rw [key, key]
  obtain ⟨n, hn⟩ : ∃ n : Nat, n = (x % 18446744073709551616).toNat := ⟨_, rfl⟩
  have h1 : (x % 32 % 18446744073709551616).toNat = n % 32 := by omega
  rw [← hn, h1]
  have h3 : m = 31 &&& m := by
    have : ∀ k : Fin 32, (31 &&& k.val) = k.val := by decide
    exact (this ⟨m, hm⟩).symm
  have h4 : n % 32 = n &&& 31 := by
    have := Nat.and_two_pow_sub_one_eq_mod n 5
    exact this.symm
  have h5 : n &&& m = n % 32 &&& m := by
    rw [h4, Nat.and_assoc, ← h3]
  rw [h5]

theorem diff_any (w : World) (a b : Int) : Calls Try.prog 32 #[.int .u32 a, .int .u32 b] w fun e w' => e = .returned (.int .i64 (df a b)) ∧ w = w' := by
  go_enter Try.func32, Try.ntmps32
  go_wp2
  go_ret
  exact ⟨rfl, rfl⟩

theorem within_any (w : World) (a b m : Int) : Calls Try.prog 39 #[.int .u32 a, .int .u32 b, .int .i64 m] w fun e w' => e = .returned (.bool (decide (up a b < m))) ∧ w = w' := by
  go_enter Try.func39, Try.ntmps39
  go_wp2
  go_ret
  exact ⟨rfl, rfl⟩
/-- The first number of whoever begins at a tick. -/
def ft (a : Int) : Int := a % 4294967296 * 4096 % 4294967296
theorem first_any (w : World) (a : Int) : Calls Try.prog 29 #[.int .i64 a] w fun e w' => e = .returned (.int .u32 (ft a)) ∧ w = w' := by
  go_enter Try.func29, Try.ntmps29
  go_wp2
  go_ret
  exact ⟨rfl, rfl⟩

/-- The flag Fin as a number. -/
def fb (fl : Int) : Int := bits .and .i64 fl 1
theorem fb_bd (fl : Int) : 0 ≤ fb fl ∧ fb fl ≤ 1 := by
  unfold fb
  have h := and32 fl 1 (by decide)
  simp only [Int.natCast_one] at h
  rw [h]
  obtain ⟨n, hn, hl⟩ : ∃ n : Nat, fl % 32 = (n : Int) ∧ n < 32 := ⟨(fl % 32).toNat, by omega, by omega⟩
  rw [hn]
  have : ∀ k : Fin 32, 0 ≤ bits .and .i64 (k.val : Int) 1 ∧ bits .and .i64 (k.val : Int) 1 ≤ 1 := by decide
  exact this ⟨n, hl⟩

/-- How many numbers a segment takes. -/
def sz (s : Seg) : Int := s.dn + fb s.fl + if hb s.fl 2 then 1 else 0
theorem sz_bd (s : Seg) : (s.dn : Int) ≤ sz s ∧ sz s ≤ s.dn + 2 := by
  have := fb_bd s.fl
  unfold sz; split <;> omega

theorem ret_int {k : IntKind} {a b : Int} (h : a = b) : Ending.returned (.int k a) = .returned (.int k b) := by rw [h]
theorem size_any (w : World) (s : Seg) (hs : s.dn ≤ 140737488351232) : Calls Try.prog 33 #[.agg s.cs.toArray] w fun e w' => e = .returned (.int .i64 (sz s)) ∧ Only (fun _ => False) w w' := by
  have hf := fb_bd s.fl
  have hsz : ∀ b, hb s.fl 2 = b → sz s = s.dn + fb s.fl + if b then 1 else 0 := by intro b h; unfold sz; rw [h]
  have w1 : wrap64 ((s.dn : Int) + fb s.fl) = s.dn + fb s.fl := by unfold wrap64; omega
  have w2 : wrap64 ((s.dn : Int) + fb s.fl + 1) = s.dn + fb s.fl + 1 := by unfold wrap64; omega
  have hfb : bits BinOp.and IntKind.i64 s.fl 1 = fb s.fl := rfl
  have H := Lib.hid (And.intro hsz (And.intro w1 (And.intro w2 (And.intro hf hfb))))
  clear hsz w1 w2 hf hfb
  cases hc : hb s.fl 2
  all_goals
    have hcc : (bits BinOp.and IntKind.i64 s.fl 2 != 0) = hb s.fl 2 := rfl
    rw [hc] at hcc
    have HC := Lib.hid hc
    clear hc
    go_enter Try.func33, Try.ntmps33
    go_wp2
    go_ret
    obtain ⟨hsz, w1, w2, hf, hfb⟩ := H.out
    refine ⟨ret_int ?_, (Only.refl _ _).alloc _⟩
    rw [hsz _ HC.out, hfb, w1]
    simp only [w2, if_true, Bool.false_eq_true, if_false, Int.add_zero]

section
variable {w : World} {b : Nat} {c : Ctl} {s : Seg} {v : Vd}
theorem JAt.c0 (h : JAt w b c s v) : w.cell? ⟨b, 0, none⟩ = some (.int .i64 c.st) := by rw [Blk.cell h]; rfl
theorem JAt.c1 (h : JAt w b c s v) : w.cell? ⟨b, 1, none⟩ = some (.int .u32 c.iss) := by rw [Blk.cell h]; rfl
theorem JAt.c2 (h : JAt w b c s v) : w.cell? ⟨b, 2, none⟩ = some (.int .u32 c.una) := by rw [Blk.cell h]; rfl
theorem JAt.c3 (h : JAt w b c s v) : w.cell? ⟨b, 3, none⟩ = some (.int .u32 c.nxt) := by rw [Blk.cell h]; rfl
theorem JAt.c4 (h : JAt w b c s v) : w.cell? ⟨b, 4, none⟩ = some (.bool c.fs) := by rw [Blk.cell h]; rfl
theorem JAt.c5 (h : JAt w b c s v) : w.cell? ⟨b, 5, none⟩ = some (.int .i64 c.wnd) := by rw [Blk.cell h]; rfl
theorem JAt.c6 (h : JAt w b c s v) : w.cell? ⟨b, 6, none⟩ = some (.int .u32 c.wl1) := by rw [Blk.cell h]; rfl
theorem JAt.c7 (h : JAt w b c s v) : w.cell? ⟨b, 7, none⟩ = some (.int .u32 c.wl2) := by rw [Blk.cell h]; rfl
theorem JAt.c8 (h : JAt w b c s v) : w.cell? ⟨b, 8, none⟩ = some (.int .u32 c.irs) := by rw [Blk.cell h]; rfl
theorem JAt.c9 (h : JAt w b c s v) : w.cell? ⟨b, 9, none⟩ = some (.int .u32 c.rcv) := by rw [Blk.cell h]; rfl
theorem JAt.c10 (h : JAt w b c s v) : w.cell? ⟨b, 10, none⟩ = some (.int .u32 c.adv) := by rw [Blk.cell h]; rfl
theorem JAt.c11 (h : JAt w b c s v) : w.cell? ⟨b, 11, none⟩ = some (.int .i64 s.fr) := by rw [Blk.cell h]; rfl
theorem JAt.c12 (h : JAt w b c s v) : w.cell? ⟨b, 12, none⟩ = some (.int .i64 s.to) := by rw [Blk.cell h]; rfl
theorem JAt.c13 (h : JAt w b c s v) : w.cell? ⟨b, 13, none⟩ = some (.int .u32 s.sq) := by rw [Blk.cell h]; rfl
theorem JAt.c14 (h : JAt w b c s v) : w.cell? ⟨b, 14, none⟩ = some (.int .u32 s.ak) := by rw [Blk.cell h]; rfl
theorem JAt.c15 (h : JAt w b c s v) : w.cell? ⟨b, 15, none⟩ = some (.int .i64 s.fl) := by rw [Blk.cell h]; rfl
theorem JAt.c16 (h : JAt w b c s v) : w.cell? ⟨b, 16, none⟩ = some (.int .i64 s.wnd) := by rw [Blk.cell h]; rfl
theorem JAt.c17 (h : JAt w b c s v) : w.cell? ⟨b, 17, none⟩ = some (.int .i64 s.mss) := by rw [Blk.cell h]; rfl
theorem JAt.c18 (h : JAt w b c s v) : w.cell? ⟨b, 18, none⟩ = some (.bool s.sacks) := by rw [Blk.cell h]; rfl
theorem JAt.c19 (h : JAt w b c s v) : w.cell? ⟨b, 19, none⟩ = some (.slice s.ga s.gn s.gc) := by rw [Blk.cell h]; rfl
theorem JAt.c20 (h : JAt w b c s v) : w.cell? ⟨b, 20, none⟩ = some (.slice s.da s.dn s.dc) := by rw [Blk.cell h]; rfl
theorem JAt.c21 (h : JAt w b c s v) : w.cell? ⟨b, 21, none⟩ = some (.int .i64 v.next.st) := by rw [Blk.cell h]; rfl
theorem JAt.c22 (h : JAt w b c s v) : w.cell? ⟨b, 22, none⟩ = some (.int .u32 v.next.iss) := by rw [Blk.cell h]; rfl
theorem JAt.c23 (h : JAt w b c s v) : w.cell? ⟨b, 23, none⟩ = some (.int .u32 v.next.una) := by rw [Blk.cell h]; rfl
theorem JAt.c24 (h : JAt w b c s v) : w.cell? ⟨b, 24, none⟩ = some (.int .u32 v.next.nxt) := by rw [Blk.cell h]; rfl
theorem JAt.c25 (h : JAt w b c s v) : w.cell? ⟨b, 25, none⟩ = some (.bool v.next.fs) := by rw [Blk.cell h]; rfl
theorem JAt.c26 (h : JAt w b c s v) : w.cell? ⟨b, 26, none⟩ = some (.int .i64 v.next.wnd) := by rw [Blk.cell h]; rfl
theorem JAt.c27 (h : JAt w b c s v) : w.cell? ⟨b, 27, none⟩ = some (.int .u32 v.next.wl1) := by rw [Blk.cell h]; rfl
theorem JAt.c28 (h : JAt w b c s v) : w.cell? ⟨b, 28, none⟩ = some (.int .u32 v.next.wl2) := by rw [Blk.cell h]; rfl
theorem JAt.c29 (h : JAt w b c s v) : w.cell? ⟨b, 29, none⟩ = some (.int .u32 v.next.irs) := by rw [Blk.cell h]; rfl
theorem JAt.c30 (h : JAt w b c s v) : w.cell? ⟨b, 30, none⟩ = some (.int .u32 v.next.rcv) := by rw [Blk.cell h]; rfl
theorem JAt.c31 (h : JAt w b c s v) : w.cell? ⟨b, 31, none⟩ = some (.int .u32 v.next.adv) := by rw [Blk.cell h]; rfl
theorem JAt.c32 (h : JAt w b c s v) : w.cell? ⟨b, 32, none⟩ = some (.int .i64 v.reply) := by rw [Blk.cell h]; rfl
theorem JAt.c33 (h : JAt w b c s v) : w.cell? ⟨b, 33, none⟩ = some (.int .i64 v.ended) := by rw [Blk.cell h]; rfl
theorem JAt.c34 (h : JAt w b c s v) : w.cell? ⟨b, 34, none⟩ = some (.bool v.acked) := by rw [Blk.cell h]; rfl
theorem JAt.c35 (h : JAt w b c s v) : w.cell? ⟨b, 35, none⟩ = some (.bool v.again) := by rw [Blk.cell h]; rfl
theorem JAt.c36 (h : JAt w b c s v) : w.cell? ⟨b, 36, none⟩ = some (.int .i64 v.skip) := by rw [Blk.cell h]; rfl
theorem JAt.c37 (h : JAt w b c s v) : w.cell? ⟨b, 37, none⟩ = some (.int .i64 v.take) := by rw [Blk.cell h]; rfl
theorem JAt.c38 (h : JAt w b c s v) : w.cell? ⟨b, 38, none⟩ = some (.bool v.fin) := by rw [Blk.cell h]; rfl

theorem has_any (h : JAt w b c s v) (k : Int) : Calls Try.prog 36 #[.pointer (some ⟨b, 0, none⟩), .int .i64 k] w fun e w' => e = .returned (.bool (hb s.fl k)) ∧ w = w' := by
  have h15 := h.c15
  go_enter Try.func36, Try.ntmps36
  go_wp2
  go_ret
  exact ⟨rfl, rfl⟩

/-- How many numbers are wanted. -/
def wn (c : Ctl) : Int := max 0 (df c.adv c.rcv)
theorem wn_bd (c : Ctl) : 0 ≤ wn c ∧ wn c ≤ 2147483647 := by have := df_bd c.adv c.rcv; unfold wn; omega

theorem window_any (h : JAt w b c s v) : Calls Try.prog 34 #[.pointer (some ⟨b, 0, none⟩)] w fun e w' => e = .returned (.int .i64 (wn c)) ∧ ∃ n, w' = w.drewN n := by
  have h9 := h.c9
  have h10 := h.c10
  go_enter Try.func34, Try.ntmps34
  go_wp2
  go_quiet ((go_at_call 32; exact Calls.quiet_of_same ((diff_any _ _ _).mono fun _ _ ⟨h1, h2⟩ => ⟨h1, h2.symm⟩)))
  go_wp2
  all_goals
    go_ret
    exact ⟨ret_int (by unfold wn; omega), _, rfl⟩

/-- Is a number wanted? -/
def inB (c : Ctl) (n : Int) : Bool := decide (up n c.rcv < wn c)
theorem in_any (h : JAt w b c s v) (n : Int) : Calls Try.prog 35 #[.pointer (some ⟨b, 0, none⟩), .int .u32 n] w fun e w' => e = .returned (.bool (inB c n)) ∧ ∃ n, w' = w.drewN n := by
  have h9 := h.c9
  have h10 := h.c10
  go_enter Try.func35, Try.ntmps35
  go_wp2
  go_quiet ((first | (go_at_call 34; exact Calls.quiet_of (window_any (v := v) (s := s) (c := c) (Blk.drewN h _))) | (go_at_call 39; exact Calls.quiet_of_same ((within_any _ _ _ _).mono fun _ _ ⟨h1, h2⟩ => ⟨h1, h2.symm⟩))))
  go_wp2
  go_ret
  exact ⟨rfl, _, rfl⟩
theorem says_any (h : JAt w b c s v) (n : Int) : Calls Try.prog 37 #[.pointer (some ⟨b, 0, none⟩), .int .i64 n] w fun e w' => e = .returned (.int .i64 1) ∧ JAt w' b c s { v with reply := n } ∧ Only (fun k => k = b) w w' := by
  have hz := fun o => Blk.fz h o
  have hc := h.c32
  go_enter Try.func37, Try.ntmps37
  go_wp2
  go_ret
  exact ⟨rfl, Blk.set h _ _, Only.st (S := fun k => k = b) (Only.refl _ _) rfl _ _⟩
theorem lets_any (h : JAt w b c s v) : Calls Try.prog 38 #[.pointer (some ⟨b, 0, none⟩)] w fun e w' => e = .returned (.tuple #[]) ∧ JAt w' b c s { v with next := { v.next with wnd := s.wnd, wl1 := s.sq, wl2 := s.ak } } ∧ Only (fun k => k = b) w w' := by
  have hz := fun o => Blk.fz h o
  have h13 := h.c13
  have h14 := h.c14
  have h16 := h.c16
  have h26 := h.c26
  have h27 := h.c27
  have h28 := h.c28
  go_enter Try.func38, Try.ntmps38
  go_wp2
  go_region
  go_end0
  exact ⟨rfl, ((Blk.set h 26 (.int .i64 s.wnd)).set 27 (.int .u32 s.sq)).set 28 (.int .u32 s.ak), (((Only.refl (fun k => k = b) w).st rfl _ _).st rfl _ _).st rfl _ _ |>.drew⟩
end
end Go.Proofs.Ytpodmpidelifeaa
