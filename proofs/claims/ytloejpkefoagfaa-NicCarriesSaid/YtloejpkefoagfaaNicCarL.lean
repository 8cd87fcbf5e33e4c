/-
  What is known in NicCarries' loop.
-/
import Derived.Test.YtloejpkefoagfaaNicCar
import Derived.Test.YtloejpkefoagfaaNicLaw
import Derived.Test.YtloejpkefoagfaaSyRow
namespace Go.Proofs.Ytloejpkefoagfaa
open Go.RowKit
structure CG where
  A : NicA
  F : Nat → Prop
  S : List Value
  B : List (List UInt8)
  T : List Int
  C : List Value
  t : Nat
  q1 : Option Addr
  n1 : Nat
  c1 : Nat
  q2 : Option Addr
  n2 : Nat
  c2 : Nat
  q3 : Option Addr
  n3 : Nat
  c3 : Nat
  tail : Int
  free : Int
  clk : Int
  tk : Int
structure CGok (w : World) (n nn : Nat) (g : CG) : Prop where
  hn : nn ≤ n
  hk : NicOk g.A
  hC : Car g.A g.B g.T g.t g.C.length
  hSB : g.S.length = g.B.length
  hb1 : g.B.length + nn ≤ n
  hb2 : g.C.length + nn ≤ n
  hrd : ∀ (j : Nat) (v : Value) (f : List UInt8), g.S[j]? = some v → g.B[j]? = some f → BytesAt w v f
  hq1 : ∀ b, (Value.slice g.q1 g.n1 g.c1).ownBlock = some b → w.heap.size ≤ b
  hq2 : ∀ b, (Value.slice g.q2 g.n2 g.c2).ownBlock = some b → w.heap.size ≤ b
  hq3 : ∀ b, (Value.slice g.q3 g.n3 g.c3).ownBlock = some b → w.heap.size ≤ b
  e1 : g.n1 = g.S.length
  e2 : g.n2 = g.T.length
  e3 : g.n3 = g.C.length
  e4 : g.tail = ((g.B.length % 16 : Nat) : Int)
  e5 : g.free = ((g.C.length % 16 : Nat) : Int)
  e6 : g.clk = g.A.clk
  e7 : g.tk = (g.t : Int)
theorem car_start (w : World) (n : Nat) (F : Nat → Prop) : CGok w n n ⟨{ newA with r := up newA.r 0 1 }, F, [], [], [], [], 0, none, 0, 0, none, 0, 0, none, 0, 0, 0, 0, 0, 0⟩ :=
  ⟨Nat.le_refl _, write_ok newA_ok 0 1, car_new, rfl, by simp, by simp, (fun j v f h => by simp at h), (fun b h => by cases h), (fun b h => by cases h), (fun b h => by cases h), rfl, rfl, rfl, rfl, rfl, rfl, rfl⟩
theorem beq_f {a b : Int} (h : a ≠ b) : (a == b) = false := by simp [h]
theorem beq_t {a b : Int} (h : a = b) : (a == b) = true := by simp [h]
theorem rd_snoc {w : World} {S : List Value} {B : List (List UInt8)} {v : Value} {f : List UInt8} (h : ∀ (j : Nat) (v : Value) (f : List UInt8), S[j]? = some v → B[j]? = some f → BytesAt w v f) (e : S.length = B.length) (hb : BytesAt w v f) : ∀ (j : Nat) (v' : Value) (f' : List UInt8), (S ++ [v])[j]? = some v' → (B ++ [f])[j]? = some f' → BytesAt w v' f' := by
  intro j v' f' h1 h2
  by_cases hj : j < S.length
  · rw [List.getElem?_append_left hj] at h1
    rw [List.getElem?_append_left (by omega)] at h2
    exact h j v' f' h1 h2
  · rw [List.getElem?_append_right (by omega)] at h1
    rw [List.getElem?_append_right (by omega)] at h2
    by_cases e2 : j - S.length = 0
    · rw [e2] at h1
      rw [show j - B.length = 0 by omega] at h2
      simp at h1 h2
      subst h1 h2
      exact hb
    · have : 1 ≤ j - S.length := by omega
      rw [List.getElem?_eq_none (by simpa using this)] at h1
      cases h1
end Go.Proofs.Ytloejpkefoagfaa
