/-
  What is posted is taken once, in order: plain.
-/
import Derived.Test.YtloejpkefoagfaaNicF
namespace Go.Proofs.Ytloejpkefoagfaa
open Go.RowKit

/-- The device, where S was posted (at the ticks T), of which t were taken, and k came. -/
structure Car (A : NicA) (S : List (List UInt8)) (T : List Int) (t k : Nat) : Prop where
  r0 : A.r 0 = 1
  r1 : A.r 1 = 1
  lo : t ≤ S.length
  hi : S.length ≤ t + 15
  tl : T.length = S.length
  r5 : A.r 5 = ((S.length % 16 : Nat) : Int)
  r4 : A.r 4 = ((t % 16 : Nat) : Int)
  r2 : A.r 2 = ((k % 16 : Nat) : Int)
  r3 : A.r 3 = ((k % 16 : Nat) : Int)
  bs : ∀ j, t ≤ j → j < S.length → S[j]? = some (A.tb (j % 16))
  ts : ∀ j, t ≤ j → j < S.length → T[j]? = some (A.tp (j % 16))
theorem host_self {i h : Int} (h0 : 0 ≤ i ∧ i < 16) : hostB i h i = true := by
  unfold hostB
  simp [h0.1, h0.2]
theorem nx_nat {n : Nat} : nx ((n % 16 : Nat) : Int) = (((n + 1) % 16 : Nat) : Int) := by unfold nx; omega
variable {A : NicA} {S : List (List UInt8)} {T : List Int} {t k : Nat}
theorem car_new : Car { newA with r := up newA.r 0 1 } [] [] 0 0 := by
  refine ⟨rfl, rfl, by simp, by simp, rfl, rfl, rfl, rfl, rfl, fun j _ h => by simp at h, fun j _ h => by simp at h⟩
theorem send_e {f : List UInt8} {i : Nat} (h5 : A.r 5 = ((i % 16 : Nat) : Int)) (hf : 1 ≤ f.length ∧ f.length ≤ 274) : setTxF A ((i % 16 : Nat) : Int) f = (0, { A with tb := up A.tb (i % 16) f }) := by
  unfold setTxF
  rw [h5, host_self (by omega), if_neg (by simp), if_neg (by omega), if_neg (by omega), Int.toNat_natCast]
theorem write5_e {v : Int} (hv : 0 ≤ v ∧ v < 16) : writeF A 5 v = (0, { A with tp := posts A.tp (A.r 5) v A.clk, r := up A.r 5 v }) := by
  unfold writeF
  rw [if_neg (by omega), if_neg (by omega), if_neg (by omega), if_pos rfl]; rfl
theorem write3_e {v : Int} (hv : 0 ≤ v ∧ v < 16) : writeF A 3 v = (0, { A with r := up A.r 3 v }) := by
  unfold writeF
  rw [if_neg (by omega), if_neg (by omega), if_neg (by omega), if_neg (by omega), if_pos rfl]; rfl
theorem car_send {f : List UInt8} (h : Car A S T t k) (hf : 1 ≤ f.length ∧ f.length ≤ 274) (hn : ¬ S.length = t + 15) :
    (setTxF A ((S.length % 16 : Nat) : Int) f).1 = 0 ∧ (writeF (setTxF A ((S.length % 16 : Nat) : Int) f).2 5 (nx ((S.length % 16 : Nat) : Int))).1 = 0 ∧
      Car (writeF (setTxF A ((S.length % 16 : Nat) : Int) f).2 5 (nx ((S.length % 16 : Nat) : Int))).2 (S ++ [f]) (T ++ [A.clk]) t k ∧ (writeF (setTxF A ((S.length % 16 : Nat) : Int) f).2 5 (nx ((S.length % 16 : Nat) : Int))).2.clk = A.clk := by
  obtain ⟨r0, r1, lo, hi, tl, r5, r4, r2, r3, bs, ts⟩ := h
  rw [send_e r5 hf, write5_e nx_bd]
  refine ⟨rfl, rfl, ⟨by simp [up, r0], by simp [up, r1], by simp; omega, by simp; omega, by simp [tl], ?_, by simp [up, r4], by simp [up, r2], by simp [up, r3], fun j h1 h2 => ?_, fun j h1 h2 => ?_⟩, rfl⟩
  · simp only [up, if_true, List.length_append, List.length_singleton]; exact nx_nat
  · simp only [List.length_append, List.length_singleton] at h2
    by_cases e : j = S.length
    · subst e; simp [up]
    · rw [List.getElem?_append_left (by omega), bs j h1 (by omega)]
      simp only [up]
      rw [if_neg (by omega)]
  · simp only [List.length_append, List.length_singleton] at h2
    simp only [posts, r5, nx_nat]
    by_cases e : j = S.length
    · subst e
      rw [if_pos (by omega), List.getElem?_append_right (by omega), tl]; simp
    · rw [if_neg (by omega), List.getElem?_append_left (by omega)]; exact ts j h1 (by omega)
theorem car_on (h : Car A S T t k) : offB A = false := by unfold offB; simp [h.r0, h.r1]
theorem car_none (h : Car A S T t k) (e : t = S.length) : takeR A = ((([], 0), 7), A) := by
  unfold takeR
  rw [car_on h, if_neg (by simp), if_pos (by rw [h.r4, h.r5, e])]
theorem car_some (h : Car A S T t k) (e : ¬ t = S.length) : takeR A = (((A.tb (t % 16), A.tp (t % 16)), 0), takeF A) := by
  have := h.lo; have := h.hi
  unfold takeR
  rw [car_on h, if_neg (by simp), if_neg (by rw [h.r4, h.r5]; omega), h.r4, Int.toNat_natCast]
theorem car_take (h : Car A S T t k) (e : ¬ t = S.length) : Car (takeF A) S T (t + 1) k := by
  obtain ⟨r0, r1, lo, hi, tl, r5, r4, r2, r3, bs, ts⟩ := h
  refine ⟨by simp [takeF, up, r0], by simp [takeF, up, r1], by omega, by omega, tl, by simp [takeF, up, r5], ?_, by simp [takeF, up, r2], by simp [takeF, up, r3], fun j h1 h2 => bs j (by omega) h2, fun j h1 h2 => ts j (by omega) h2⟩
  simp only [takeF, up, if_true]
  rw [if_neg (by decide), r4]; exact nx_nat
theorem car_tick (h : Car A S T t k) : Car (tickF A) S T t k := ⟨h.r0, h.r1, h.lo, h.hi, h.tl, h.r5, h.r4, h.r2, h.r3, h.bs, h.ts⟩
theorem setRx_e {i : Nat} (h3 : A.r 3 = ((i % 16 : Nat) : Int)) : setRxF A ((i % 16 : Nat) : Int) 274 = (0, { A with room := up A.room (i % 16) 274, has := up A.has (i % 16) false, cb := up A.cb (i % 16) [], bad := up A.bad (i % 16) false }) := by
  unfold setRxF
  rw [h3, host_self (by omega), if_neg (by simp), Int.toNat_natCast]
theorem give_e {B : NicA} {f : List UInt8} (h0 : B.r 0 = 1) (h1 : B.r 1 = 1) (h2 : B.r 2 = ((k % 16 : Nat) : Int)) (h3 : B.r 3 = nx ((k % 16 : Nat) : Int)) (hr : B.room (k % 16) = 274) (hf : f.length ≤ 274) : giveF B f false = (0, comeA B f false) := by
  have ho : offB B = false := by unfold offB; simp [h0, h1]
  unfold giveF
  rw [ho, if_neg (by simp), if_neg (by rw [h2, h3]; unfold nx; omega), h2, Int.toNat_natCast, hr, if_neg (by omega)]
theorem come_car {B : NicA} {f : List UInt8} (h0 : B.r 0 = 1) (h1 : B.r 1 = 1) (h2 : B.r 2 = ((k % 16 : Nat) : Int)) (h3 : B.r 3 = nx ((k % 16 : Nat) : Int)) (h4 : B.r 4 = ((t % 16 : Nat) : Int)) (h5 : B.r 5 = ((S.length % 16 : Nat) : Int))
    (lo : t ≤ S.length) (hi : S.length ≤ t + 15) (tl : T.length = S.length) (bs : ∀ j, t ≤ j → j < S.length → S[j]? = some (B.tb (j % 16))) (ts : ∀ j, t ≤ j → j < S.length → T[j]? = some (B.tp (j % 16))) :
    rxR (comeA B f false) ((k % 16 : Nat) : Int) = ((f, false), 0) ∧ Car (comeA B f false) S T t (k + 1) := by
  refine ⟨?_, ⟨by simp [comeA, up, h0], by simp [comeA, up, h1], lo, hi, tl, by simp [comeA, up, h5], by simp [comeA, up, h4], ?_, ?_, bs, ts⟩⟩
  · have hq : (B.r 2).toNat = k % 16 := by rw [h2]; omega
    have e1 : (comeA B f false).has (k % 16) = true := by show up B.has (B.r 2).toNat true (k % 16) = true; rw [hq]; exact up_same _ _ _
    have e2 : (comeA B f false).cb (k % 16) = f := by show up B.cb (B.r 2).toNat f (k % 16) = f; rw [hq]; exact up_same _ _ _
    have e3 : (comeA B f false).bad (k % 16) = false := by show up B.bad (B.r 2).toNat false (k % 16) = false; rw [hq]; exact up_same _ _ _
    unfold rxR
    rw [if_neg (by omega), Int.toNat_natCast, e1, e2, e3, if_neg (by simp)]
  · have : (comeA B f false).r 2 = nx (B.r 2) := by simp [comeA, up]
    rw [this, h2]; exact nx_nat
  · have : (comeA B f false).r 3 = B.r 3 := by simp [comeA, up]
    rw [this, h3]; exact nx_nat
theorem car_come {f : List UInt8} (h : Car A S T t k) (hf : f.length ≤ 274) :
    (setRxF A ((k % 16 : Nat) : Int) 274).1 = 0 ∧ (writeF (setRxF A ((k % 16 : Nat) : Int) 274).2 3 (nx ((k % 16 : Nat) : Int))).1 = 0 ∧ (giveF (writeF (setRxF A ((k % 16 : Nat) : Int) 274).2 3 (nx ((k % 16 : Nat) : Int))).2 f false).1 = 0 ∧
      rxR (giveF (writeF (setRxF A ((k % 16 : Nat) : Int) 274).2 3 (nx ((k % 16 : Nat) : Int))).2 f false).2 ((k % 16 : Nat) : Int) = ((f, false), 0) ∧
      Car (giveF (writeF (setRxF A ((k % 16 : Nat) : Int) 274).2 3 (nx ((k % 16 : Nat) : Int))).2 f false).2 S T t (k + 1) ∧ (giveF (writeF (setRxF A ((k % 16 : Nat) : Int) 274).2 3 (nx ((k % 16 : Nat) : Int))).2 f false).2.clk = A.clk := by
  obtain ⟨r0, r1, lo, hi, tl, r5, r4, r2, r3, bs, ts⟩ := h
  have e1 := setRx_e r3
  obtain ⟨B, hB⟩ : ∃ B : NicA, B = { A with room := up A.room (k % 16) 274, has := up A.has (k % 16) false, cb := up A.cb (k % 16) [], bad := up A.bad (k % 16) false, r := up A.r 3 (nx ((k % 16 : Nat) : Int)) } := ⟨_, rfl⟩
  have e2 : writeF (setRxF A ((k % 16 : Nat) : Int) 274).2 3 (nx ((k % 16 : Nat) : Int)) = (0, B) := by rw [e1, hB]; exact write3_e nx_bd
  have b0 : B.r 0 = 1 := by rw [hB]; simp [up, r0]
  have b1 : B.r 1 = 1 := by rw [hB]; simp [up, r1]
  have b2 : B.r 2 = ((k % 16 : Nat) : Int) := by rw [hB]; simp [up, r2]
  have b3 : B.r 3 = nx ((k % 16 : Nat) : Int) := by rw [hB]; simp [up]
  have b4 : B.r 4 = ((t % 16 : Nat) : Int) := by rw [hB]; simp [up, r4]
  have b5 : B.r 5 = ((S.length % 16 : Nat) : Int) := by rw [hB]; simp [up, r5]
  have br : B.room (k % 16) = 274 := by rw [hB]; simp [up]
  have bc : B.clk = A.clk := by rw [hB]
  have bt : B.tb = A.tb := by rw [hB]
  have bp : B.tp = A.tp := by rw [hB]
  have e3 : giveF (writeF (setRxF A ((k % 16 : Nat) : Int) 274).2 3 (nx ((k % 16 : Nat) : Int))).2 f false = (0, comeA B f false) := by rw [e2]; exact give_e b0 b1 b2 b3 br hf
  have hc := come_car (f := f) (S := S) (T := T) (t := t) b0 b1 b2 b3 b4 b5 lo hi tl (by rw [bt]; exact bs) (by rw [bp]; exact ts)
  refine ⟨by rw [e1], by rw [e2], by rw [e3], by rw [e3]; exact hc.1, by rw [e3]; exact hc.2, by rw [e3]; exact bc⟩
end Go.Proofs.Ytloejpkefoagfaa
