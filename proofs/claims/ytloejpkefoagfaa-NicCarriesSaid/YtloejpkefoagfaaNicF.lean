/-
  What a device's calls do, as the document has it: plain.
-/
import Derived.Test.YtloejpkefoagfaaNicRep
namespace Go.Proofs.Ytloejpkefoagfaa
open Go.RowKit

/-- What a device keeps to. -/
structure NicOk (A : NicA) : Prop where
  h2 : 0 ≤ A.r 2 ∧ A.r 2 < 16
  h3 : 0 ≤ A.r 3 ∧ A.r 3 < 16
  h4 : 0 ≤ A.r 4 ∧ A.r 4 < 16
  h5 : 0 ≤ A.r 5 ∧ A.r 5 < 16
  h6 : 0 ≤ A.r 6 ∧ A.r 6 < 8
  tl : ∀ i, (A.tb i).length ≤ 274
  cl : ∀ i, (A.cb i).length ≤ 65535
  rm : ∀ i, 0 ≤ A.room i ∧ A.room i ≤ 65535
def newA : NicA := ⟨up (fun _ => 0) 1 1, fun _ => [], fun _ => 0, fun _ => 0, fun _ => false, fun _ => [], fun _ => false, 0⟩
def nx (i : Int) : Int := (i + 1) % 16
def ev (x e : Int) : Int := bits .or .i64 x e
def offB (A : NicA) : Bool := (A.r 0 != 1) || (A.r 1 != 1)
/-- Is a descriptor the host's? -/
def hostB (i h t : Int) : Bool := decide (0 ≤ i) && (decide (i < 16) && !decide ((i - h) % 16 < (t - h) % 16))
def inc (x : Int) : Int := IntKind.i64.wrap (x + 1)
def readF (A : NicA) (reg : Int) : (Int × Int) × NicA := if reg < 0 ∨ 8 ≤ reg then ((0, 1), A) else ((A.r reg.toNat, 0), if reg = 6 then { A with r := up A.r reg.toNat 0 } else A)
def resetA (A : NicA) : NicA := { newA with r := up newA.r 1 (A.r 1), clk := A.clk }
/-- The descriptors from h up to t are posted at a tick. -/
def posts (tp : Nat → Int) (h t clk : Int) : Nat → Int := fun j => if j < 16 ∧ ((j : Int) - h) % 16 < (t - h) % 16 then clk else tp j
def writeF (A : NicA) (reg v : Int) : Int × NicA :=
  if reg = 0 ∧ v = 2 then (0, resetA A)
  else if reg = 0 ∧ (v = 0 ∨ v = 1) then (0, { A with r := up A.r reg.toNat v })
  else if v < 0 ∨ 16 ≤ v then (1, A)
  else if reg = 5 then (0, { A with tp := posts A.tp (A.r 5) v A.clk, r := up A.r reg.toNat v })
  else if reg = 3 then (0, { A with r := up A.r reg.toNat v })
  else (1, A)
def setTxF (A : NicA) (i : Int) (f : List UInt8) : Int × NicA :=
  if hostB i (A.r 4) (A.r 5) = false then (1, A) else if f.length = 0 then (3, A) else if 274 < f.length then (2, A) else (0, { A with tb := up A.tb i.toNat f })
def setRxF (A : NicA) (i room : Int) : Int × NicA :=
  if hostB i (A.r 2) (A.r 3) = false ∨ room < 0 ∨ 65535 < room then (1, A)
  else (0, { A with room := up A.room i.toNat room, has := up A.has i.toNat false, cb := up A.cb i.toNat [], bad := up A.bad i.toNat false })
def takeF (A : NicA) : NicA := { A with r := up (up A.r 4 (nx (A.r 4))) 6 (ev (A.r 6) 2) }
def missA (A : NicA) : NicA := { A with r := up A.r 7 (inc (A.r 7)) }
def comeA (A : NicA) (f : List UInt8) (bad : Bool) : NicA :=
  { A with room := up A.room (A.r 2).toNat (A.room (A.r 2).toNat), has := up A.has (A.r 2).toNat true, cb := up A.cb (A.r 2).toNat f, bad := up A.bad (A.r 2).toNat bad, r := up (up A.r 2 (nx (A.r 2))) 6 (ev (A.r 6) 1) }
def giveF (A : NicA) (f : List UInt8) (bad : Bool) : Int × NicA :=
  if offB A then (20, A) else if A.r 2 = A.r 3 then (21, missA A) else if A.room (A.r 2).toNat < f.length then (2, missA A) else (0, comeA A f bad)
def oldF (A : NicA) : Int × Bool := if A.r 4 = A.r 5 then (0, false) else (A.tp (A.r 4).toNat, true)
/-- What a call hands out: nothing, or bytes in a block of their own. -/
def Out (U : TypeId) (w w' : World) (v : Value) (f : List UInt8) : Prop := (v = .slice none 0 0 ∧ f = []) ∨ ∃ g, w.heap.size ≤ g ∧ v = sl g 0 f.length f.length ∧ Blk w' g (f.map bv) U
/-- .. or bytes that lie there. -/
def Lent (F : Nat → Prop) (w' : World) (v : Value) (f : List UInt8) : Prop := BytesAt w' v f ∧ sliceIn v F
def takeR (A : NicA) : ((List UInt8 × Int) × Int) × NicA :=
  if offB A then ((([], 0), 20), A) else if A.r 4 = A.r 5 then ((([], 0), 7), A) else (((A.tb (A.r 4).toNat, A.tp (A.r 4).toNat), 0), takeF A)
def rxR (A : NicA) (i : Int) : (List UInt8 × Bool) × Int :=
  if i < 0 ∨ 16 ≤ i then (([], false), 1) else if A.has i.toNat = false then (([], false), 7) else ((A.cb i.toNat, A.bad i.toNat), 0)
def linkF (A : NicA) (u : Bool) : NicA := if A.r 1 = (if u then 1 else 0) then A else { A with r := up (up A.r 1 (if u then 1 else 0)) 6 (ev (A.r 6) 4) }
def tickF (A : NicA) : NicA := { A with clk := inc A.clk }
theorem nx_bd {i : Int} : 0 ≤ nx i ∧ nx i < 16 := by unfold nx; omega
theorem ev_bd {x e : Int} (h : 0 ≤ x ∧ x < 8) (he : e = 1 ∨ e = 2 ∨ e = 4) : 0 ≤ ev x e ∧ ev x e < 8 := by
  obtain ⟨n, hn, rfl⟩ : ∃ n : Nat, n < 8 ∧ x = (n : Int) := ⟨x.toNat, by omega, by omega⟩
  have h1 : ∀ k : Fin 8, 0 ≤ ev (k.val : Int) 1 ∧ ev (k.val : Int) 1 < 8 := by decide +kernel
  have h2 : ∀ k : Fin 8, 0 ≤ ev (k.val : Int) 2 ∧ ev (k.val : Int) 2 < 8 := by decide +kernel
  have h4 : ∀ k : Fin 8, 0 ≤ ev (k.val : Int) 4 ∧ ev (k.val : Int) 4 < 8 := by decide +kernel
  rcases he with rfl | rfl | rfl
  · exact h1 ⟨n, hn⟩
  · exact h2 ⟨n, hn⟩
  · exact h4 ⟨n, hn⟩
theorem posts_self {tp : Nat → Int} {h clk : Int} : posts tp h h clk = tp := by
  funext j; unfold posts; rw [if_neg (by omega)]
theorem posts_up {tp : Nat → Int} {h t clk : Int} {n : Nat} (hh : 0 ≤ h ∧ h < 16) (ht : 0 ≤ t ∧ t < 16) (h0 : 0 < n) (hn : n ≤ ((t - h) % 16).toNat) :
    up (posts tp h ((t - (n : Int)) % 16) clk) ((t - (n : Int)) % 16).toNat clk = posts tp h ((t - ((n - 1 : Nat) : Int)) % 16) clk := by
  funext j
  unfold up posts
  by_cases e : j = ((t - (n : Int)) % 16).toNat
  · rw [if_pos e, if_pos (by omega)]
  · rw [if_neg e]
    by_cases e2 : j < 16 ∧ ((j : Int) - h) % 16 < ((t - (n : Int)) % 16 - h) % 16
    · rw [if_pos e2, if_pos (by omega)]
    · rw [if_neg e2, if_neg (by omega)]
theorem nc_posts {A : NicA} {tv cv : Nat → Value} {t : Int} (hh : 0 ≤ A.r 5 ∧ A.r 5 < 16) (ht : 0 ≤ t ∧ t < 16) :
    nc A tv cv = nc { A with tp := posts A.tp (A.r 5) ((t - ((((t - A.r 5) % 16).toNat : Nat) : Int)) % 16) A.clk } tv cv := by
  rw [show (t - ((((t - A.r 5) % 16).toNat : Nat) : Int)) % 16 = A.r 5 by omega, posts_self]
theorem nc_posts' {A : NicA} {tv cv : Nat → Value} {t : Int} {n : Nat} (hh : 0 ≤ A.r 5 ∧ A.r 5 < 16) (ht : 0 ≤ t ∧ t < 16) (h0 : 0 < n) (hn : n ≤ ((t - A.r 5) % 16).toNat) :
    nc { A with tp := up (posts A.tp (A.r 5) ((t - (n : Int)) % 16) A.clk) ((t - (n : Int)) % 16).toNat A.clk } tv cv = nc { A with tp := posts A.tp (A.r 5) ((t - ((n - 1 : Nat) : Int)) % 16) A.clk } tv cv := by
  rw [posts_up hh ht h0 hn]
theorem w_0 {a b : Int} {x : Bool} (e : (a == b && x) = true) : a = b := by simp only [Bool.and_eq_true, beq_iff_eq] at e; exact e.1
theorem w_rng {x : Bool} {v : Int} (e : (x || decide ((v : Int) < 0) || decide ((16 : Int) ≤ v)) = false) : 0 ≤ v ∧ v < 16 := by
  simp only [Bool.or_eq_false_iff, decide_eq_false_iff_not] at e; omega
theorem w_reg {x y : Bool} {a : Int} (e : ((((a : Int) != 3) && ((a : Int) != 5)) || x || y) = false) : a = 3 ∨ a = 5 := by
  simp only [Bool.or_eq_false_iff, Bool.and_eq_false_iff, bne_eq_false_iff_eq] at e; exact e.1.1
theorem w_5 {a b : Int} (e : (a == b) = true) : a = b := by simpa using e
theorem nx_step {t : Int} {n : Nat} (h : 0 < n) : nx ((t - (n : Int)) % 16) = (t - ((n - 1 : Nat) : Int)) % 16 := by unfold nx; omega
theorem newA_ok : NicOk newA := by refine ⟨?_, ?_, ?_, ?_, ?_, fun i => ?_, fun i => ?_, fun i => ?_⟩ <;> simp [newA, up]
theorem bne_f {a b : Int} (h : a = b) : (a != b) = false := by simp [h]
theorem bne_t {a b : Int} (h : a ≠ b) : (a != b) = true := by simp [h]
theorem host_out {i h t : Int} (e : (decide ((i : Int) < 0) || decide ((16 : Int) ≤ i)) = true) : hostB i h t = false := by
  simp only [Bool.or_eq_true, decide_eq_true_eq] at e
  unfold hostB
  rcases e with e | e
  · have : decide (0 ≤ i) = false := by simp; omega
    rw [this]; rfl
  · have : decide (i < 16) = false := by simp; omega
    rw [this]; simp
theorem host_in {i : Int} (e : (decide ((i : Int) < 0) || decide ((16 : Int) ≤ i)) = false) : 0 ≤ i ∧ i < 16 := by
  simp only [Bool.or_eq_false_iff, decide_eq_false_iff_not] at e; omega
theorem host_bd {i h t : Int} (e : hostB i h t = true) : 0 ≤ i ∧ i < 16 := by
  unfold hostB at e
  simp only [Bool.and_eq_true, decide_eq_true_eq] at e
  exact ⟨e.1, e.2.1⟩
theorem host_bd1 {i h t : Int} (e : (!hostB i h t) = false) : 0 ≤ i ∧ i < 16 := host_bd (by simpa using e)
theorem host_bd3 {i h t : Int} {x y : Bool} (e : ((!hostB i h t || x) || y) = false) : 0 ≤ i ∧ i < 16 := by
  simp only [Bool.or_eq_false_iff, Bool.not_eq_false'] at e; exact host_bd e.1.1
theorem host_yes {i h t : Int} (hi : 0 ≤ i ∧ i < 16) (ht : 0 ≤ t ∧ t < 16) (H : ∀ j : Nat, 0 < j → j ≤ ((t - h) % 16).toNat → (t - (j : Int)) % 16 ≠ i) : hostB i h t = true := by
  have h2 : ¬ (i - h) % 16 < (t - h) % 16 := by
    intro hlt
    refine H ((t - h) % 16 - (i - h) % 16).toNat (by omega) (by omega) ?_
    omega
  unfold hostB
  simp [hi.1, hi.2, h2]
theorem host_no {i h t : Int} {n : Nat} (h0 : 0 < n) (hn : n ≤ ((t - h) % 16).toNat) (e : ((t - (n : Int)) % 16 != i) = false) : hostB i h t = false := by
  have e' : (t - (n : Int)) % 16 = i := by simpa using e
  have h2 : (i - h) % 16 < (t - h) % 16 := by omega
  unfold hostB
  simp [h2]
section
variable {A : NicA}
theorem read_ok (h : NicOk A) (reg : Int) : NicOk (readF A reg).2 := by
  obtain ⟨h2, h3, h4, h5, h6, tl, cl, rm⟩ := h
  unfold readF
  split
  · exact ⟨h2, h3, h4, h5, h6, tl, cl, rm⟩
  · split
    · rename_i e; subst e; exact ⟨h2, h3, h4, h5, by simp [up], tl, cl, rm⟩
    · exact ⟨h2, h3, h4, h5, h6, tl, cl, rm⟩
theorem write_ok (h : NicOk A) (reg v : Int) : NicOk (writeF A reg v).2 := by
  obtain ⟨h2, h3, h4, h5, h6, tl, cl, rm⟩ := h
  unfold writeF
  split
  · refine ⟨?_, ?_, ?_, ?_, ?_, fun i => ?_, fun i => ?_, fun i => ?_⟩ <;> simp [resetA, newA, up]
  · split
    · rename_i e; obtain ⟨rfl, _⟩ := e; exact ⟨h2, h3, h4, h5, h6, tl, cl, rm⟩
    · split
      · exact ⟨h2, h3, h4, h5, h6, tl, cl, rm⟩
      · split
        · rename_i e; subst e
          refine ⟨h2, h3, h4, ?_, h6, tl, cl, rm⟩
          simp [up]; omega
        · split
          · rename_i e; subst e
            refine ⟨h2, ?_, h4, h5, h6, tl, cl, rm⟩
            simp [up]; omega
          · exact ⟨h2, h3, h4, h5, h6, tl, cl, rm⟩
theorem up_all {α : Type} {f : Nat → α} {k : Nat} {v : α} {p : α → Prop} (h : ∀ i, p (f i)) (hv : p v) : ∀ i, p (up f k v i) := by
  intro i; unfold up; split
  · exact hv
  · exact h i
theorem setTx_ok (h : NicOk A) (i : Int) (f : List UInt8) : NicOk (setTxF A i f).2 := by
  obtain ⟨h2, h3, h4, h5, h6, tl, cl, rm⟩ := h
  unfold setTxF
  split
  · exact ⟨h2, h3, h4, h5, h6, tl, cl, rm⟩
  · split
    · exact ⟨h2, h3, h4, h5, h6, tl, cl, rm⟩
    · split
      · exact ⟨h2, h3, h4, h5, h6, tl, cl, rm⟩
      · exact ⟨h2, h3, h4, h5, h6, up_all (p := fun l : List UInt8 => l.length ≤ 274) tl (by omega), cl, rm⟩
theorem setRx_ok (h : NicOk A) (i room : Int) : NicOk (setRxF A i room).2 := by
  obtain ⟨h2, h3, h4, h5, h6, tl, cl, rm⟩ := h
  unfold setRxF
  split
  · exact ⟨h2, h3, h4, h5, h6, tl, cl, rm⟩
  · exact ⟨h2, h3, h4, h5, h6, tl, up_all (p := fun l : List UInt8 => l.length ≤ 65535) cl (by simp), up_all (p := fun x : Int => 0 ≤ x ∧ x ≤ 65535) rm (by omega)⟩
theorem take_ok (h : NicOk A) : NicOk (takeF A) := by
  obtain ⟨h2, h3, h4, h5, h6, tl, cl, rm⟩ := h
  exact ⟨h2, h3, nx_bd, h5, ev_bd h6 (.inr (.inl rfl)), tl, cl, rm⟩
theorem give_ok (h : NicOk A) (f : List UInt8) (bad : Bool) : NicOk (giveF A f bad).2 := by
  obtain ⟨h2, h3, h4, h5, h6, tl, cl, rm⟩ := h
  unfold giveF
  split
  · exact ⟨h2, h3, h4, h5, h6, tl, cl, rm⟩
  · split
    · exact ⟨h2, h3, h4, h5, h6, tl, cl, rm⟩
    · split
      · exact ⟨h2, h3, h4, h5, h6, tl, cl, rm⟩
      · have := rm (A.r 2).toNat
        exact ⟨nx_bd, h3, h4, h5, ev_bd h6 (.inl rfl), tl, up_all (p := fun l : List UInt8 => l.length ≤ 65535) cl (by omega), up_all (p := fun x : Int => 0 ≤ x ∧ x ≤ 65535) rm this⟩
theorem link_ok (h : NicOk A) (u : Bool) : NicOk (linkF A u) := by
  obtain ⟨h2, h3, h4, h5, h6, tl, cl, rm⟩ := h
  unfold linkF
  generalize (if u = true then 1 else 0 : Int) = q
  split
  · exact ⟨h2, h3, h4, h5, h6, tl, cl, rm⟩
  · exact ⟨h2, h3, h4, h5, ev_bd h6 (.inr (.inr rfl)), tl, cl, rm⟩
theorem tick_ok (h : NicOk A) : NicOk (tickF A) := by
  obtain ⟨h2, h3, h4, h5, h6, tl, cl, rm⟩ := h
  exact ⟨h2, h3, h4, h5, h6, tl, cl, rm⟩
end
end Go.Proofs.Ytloejpkefoagfaa
