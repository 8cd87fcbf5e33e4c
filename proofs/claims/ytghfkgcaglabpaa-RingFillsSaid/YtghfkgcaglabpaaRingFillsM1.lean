/-
  What the proof of RingFills stands on, part 1: each theorem by itself, under the conditions that it names.
-/
import Derived.Test.YtghfkgcaglabpaaRingFillsM0
import Derived.Lib.Hide
import Derived.Outline
/-
  What a device's calls do, as the document has it: plain.
-/
namespace Go.Proofs.Ytghfkgcaglabpaa
open Go.RowKit

/-- What a device keeps to. -/
structure NicOk (A : NicA) : Prop where
  h2 : 0 ≤ A.r 2 ∧ A.r 2 < 16
  h3 : 0 ≤ A.r 3 ∧ A.r 3 < 16
  h4 : 0 ≤ A.r 4 ∧ A.r 4 < 16
  h5 : 0 ≤ A.r 5 ∧ A.r 5 < 16
  h6 : 0 ≤ A.r 6 ∧ A.r 6 < 8
  tl : ∀ i, (A.tb i).length ≤ 274
  cl : ∀ i, (A.cb i).length ≤ 65535
  rm : ∀ i, 0 ≤ A.room i ∧ A.room i ≤ 65535
def newA : NicA := ⟨up (fun _ => 0) 1 1, fun _ => [], fun _ => 0, fun _ => 0, fun _ => false, fun _ => [], fun _ => false, 0⟩
def nx (i : Int) : Int := (i + 1) % 16
def ev (x e : Int) : Int := bits .or .i64 x e
def offB (A : NicA) : Bool := (A.r 0 != 1) || (A.r 1 != 1)
/-- Is a descriptor the host's? -/
def hostB (i h t : Int) : Bool := decide (0 ≤ i) && (decide (i < 16) && !decide ((i - h) % 16 < (t - h) % 16))
def inc (x : Int) : Int := IntKind.i64.wrap (x + 1)
def readF (A : NicA) (reg : Int) : (Int × Int) × NicA := if reg < 0 ∨ 8 ≤ reg then ((0, 1), A) else ((A.r reg.toNat, 0), if reg = 6 then { A with r := up A.r reg.toNat 0 } else A)
def resetA (A : NicA) : NicA := { newA with r := up newA.r 1 (A.r 1), clk := A.clk }
/-- The descriptors from h up to t are posted at a tick. -/
def posts (tp : Nat → Int) (h t clk : Int) : Nat → Int := fun j => if j < 16 ∧ ((j : Int) - h) % 16 < (t - h) % 16 then clk else tp j
def writeF (A : NicA) (reg v : Int) : Int × NicA :=
  if reg = 0 ∧ v = 2 then (0, resetA A)
  else if reg = 0 ∧ (v = 0 ∨ v = 1) then (0, { A with r := up A.r reg.toNat v })
  else if v < 0 ∨ 16 ≤ v then (1, A)
  else if reg = 5 then (0, { A with tp := posts A.tp (A.r 5) v A.clk, r := up A.r reg.toNat v })
  else if reg = 3 then (0, { A with r := up A.r reg.toNat v })
  else (1, A)
def setTxF (A : NicA) (i : Int) (f : List UInt8) : Int × NicA :=
  if hostB i (A.r 4) (A.r 5) = false then (1, A) else if f.length = 0 then (3, A) else if 274 < f.length then (2, A) else (0, { A with tb := up A.tb i.toNat f })
def setRxF (A : NicA) (i room : Int) : Int × NicA :=
  if hostB i (A.r 2) (A.r 3) = false ∨ room < 0 ∨ 65535 < room then (1, A)
  else (0, { A with room := up A.room i.toNat room, has := up A.has i.toNat false, cb := up A.cb i.toNat [], bad := up A.bad i.toNat false })
def takeF (A : NicA) : NicA := { A with r := up (up A.r 4 (nx (A.r 4))) 6 (ev (A.r 6) 2) }
def missA (A : NicA) : NicA := { A with r := up A.r 7 (inc (A.r 7)) }
def comeA (A : NicA) (f : List UInt8) (bad : Bool) : NicA :=
  { A with room := up A.room (A.r 2).toNat (A.room (A.r 2).toNat), has := up A.has (A.r 2).toNat true, cb := up A.cb (A.r 2).toNat f, bad := up A.bad (A.r 2).toNat bad, r := up (up A.r 2 (nx (A.r 2))) 6 (ev (A.r 6) 1) }
def giveF (A : NicA) (f : List UInt8) (bad : Bool) : Int × NicA :=
  if offB A then (20, A) else if A.r 2 = A.r 3 then (21, missA A) else if A.room (A.r 2).toNat < f.length then (2, missA A) else (0, comeA A f bad)
def oldF (A : NicA) : Int × Bool := if A.r 4 = A.r 5 then (0, false) else (A.tp (A.r 4).toNat, true)
/-- What a call hands out: nothing, or bytes in a block of their own. -/
def Out (U : TypeId) (w w' : World) (v : Value) (f : List UInt8) : Prop := (v = .slice none 0 0 ∧ f = []) ∨ ∃ g, w.heap.size ≤ g ∧ v = sl g 0 f.length f.length ∧ Blk w' g (f.map bv) U
/-- .. or bytes that lie there. -/
def Lent (F : Nat → Prop) (w' : World) (v : Value) (f : List UInt8) : Prop := BytesAt w' v f ∧ sliceIn v F
def takeR (A : NicA) : ((List UInt8 × Int) × Int) × NicA :=
  if offB A then ((([], 0), 20), A) else if A.r 4 = A.r 5 then ((([], 0), 7), A) else (((A.tb (A.r 4).toNat, A.tp (A.r 4).toNat), 0), takeF A)
def rxR (A : NicA) (i : Int) : (List UInt8 × Bool) × Int :=
  if i < 0 ∨ 16 ≤ i then (([], false), 1) else if A.has i.toNat = false then (([], false), 7) else ((A.cb i.toNat, A.bad i.toNat), 0)
def linkF (A : NicA) (u : Bool) : NicA := if A.r 1 = (if u then 1 else 0) then A else { A with r := up (up A.r 1 (if u then 1 else 0)) 6 (ev (A.r 6) 4) }
def tickF (A : NicA) : NicA := { A with clk := inc A.clk }
theorem nx_bd {i : Int} : 0 ≤ nx i ∧ nx i < 16 := by unfold nx; omega
theorem ev_bd {x e : Int} (h : 0 ≤ x ∧ x < 8) (he : e = 1 ∨ e = 2 ∨ e = 4) : 0 ≤ ev x e ∧ ev x e < 8 := by
  obtain ⟨n, hn, rfl⟩ : ∃ n : Nat, n < 8 ∧ x = (n : Int) := ⟨x.toNat, by omega, by omega⟩
  have h1 : ∀ k : Fin 8, 0 ≤ ev (k.val : Int) 1 ∧ ev (k.val : Int) 1 < 8 := by decide +kernel
  have h2 : ∀ k : Fin 8, 0 ≤ ev (k.val : Int) 2 ∧ ev (k.val : Int) 2 < 8 := by decide +kernel
  have h4 : ∀ k : Fin 8, 0 ≤ ev (k.val : Int) 4 ∧ ev (k.val : Int) 4 < 8 := by decide +kernel
  rcases he with rfl | rfl | rfl
  · exact h1 ⟨n, hn⟩
  · exact h2 ⟨n, hn⟩
  · exact h4 ⟨n, hn⟩
theorem posts_self {tp : Nat → Int} {h clk : Int} : posts tp h h clk = tp := by
  funext j; unfold posts; rw [if_neg (by omega)]
theorem posts_up {tp : Nat → Int} {h t clk : Int} {n : Nat} (hh : 0 ≤ h ∧ h < 16) (ht : 0 ≤ t ∧ t < 16) (h0 : 0 < n) (hn : n ≤ ((t - h) % 16).toNat) :
    up (posts tp h ((t - (n : Int)) % 16) clk) ((t - (n : Int)) % 16).toNat clk = posts tp h ((t - ((n - 1 : Nat) : Int)) % 16) clk := by
  funext j
  unfold up posts
  by_cases e : j = ((t - (n : Int)) % 16).toNat
  · rw [if_pos e, if_pos (by omega)]
  · rw [if_neg e]
    by_cases e2 : j < 16 ∧ ((j : Int) - h) % 16 < ((t - (n : Int)) % 16 - h) % 16
    · rw [if_pos e2, if_pos (by omega)]
    · rw [if_neg e2, if_neg (by omega)]
theorem nc_posts {A : NicA} {tv cv : Nat → Value} {t : Int} (hh : 0 ≤ A.r 5 ∧ A.r 5 < 16) (ht : 0 ≤ t ∧ t < 16) :
    nc A tv cv = nc { A with tp := posts A.tp (A.r 5) ((t - ((((t - A.r 5) % 16).toNat : Nat) : Int)) % 16) A.clk } tv cv := by
  rw [show (t - ((((t - A.r 5) % 16).toNat : Nat) : Int)) % 16 = A.r 5 by omega, posts_self]
theorem nc_posts' {A : NicA} {tv cv : Nat → Value} {t : Int} {n : Nat} (hh : 0 ≤ A.r 5 ∧ A.r 5 < 16) (ht : 0 ≤ t ∧ t < 16) (h0 : 0 < n) (hn : n ≤ ((t - A.r 5) % 16).toNat) :
    nc { A with tp := up (posts A.tp (A.r 5) ((t - (n : Int)) % 16) A.clk) ((t - (n : Int)) % 16).toNat A.clk } tv cv = nc { A with tp := posts A.tp (A.r 5) ((t - ((n - 1 : Nat) : Int)) % 16) A.clk } tv cv := by
  rw [posts_up hh ht h0 hn]
theorem w_0 {a b : Int} {x : Bool} (e : (a == b && x) = true) : a = b := by simp only [Bool.and_eq_true, beq_iff_eq] at e; exact e.1
theorem w_rng {x : Bool} {v : Int} (e : (x || decide ((v : Int) < 0) || decide ((16 : Int) ≤ v)) = false) : 0 ≤ v ∧ v < 16 := by
  simp only [Bool.or_eq_false_iff, decide_eq_false_iff_not] at e; omega
theorem w_reg {x y : Bool} {a : Int} (e : ((((a : Int) != 3) && ((a : Int) != 5)) || x || y) = false) : a = 3 ∨ a = 5 := by
  simp only [Bool.or_eq_false_iff, Bool.and_eq_false_iff, bne_eq_false_iff_eq] at e; exact e.1.1
theorem w_5 {a b : Int} (e : (a == b) = true) : a = b := by simpa using e
theorem nx_step {t : Int} {n : Nat} (h : 0 < n) : nx ((t - (n : Int)) % 16) = (t - ((n - 1 : Nat) : Int)) % 16 := by unfold nx; omega
theorem newA_ok : NicOk newA := by refine ⟨?_, ?_, ?_, ?_, ?_, fun i => ?_, fun i => ?_, fun i => ?_⟩ <;> simp [newA, up]
theorem bne_f {a b : Int} (h : a = b) : (a != b) = false := by simp [h]
theorem bne_t {a b : Int} (h : a ≠ b) : (a != b) = true := by simp [h]
theorem host_out {i h t : Int} (e : (decide ((i : Int) < 0) || decide ((16 : Int) ≤ i)) = true) : hostB i h t = false := by
  simp only [Bool.or_eq_true, decide_eq_true_eq] at e
  unfold hostB
  rcases e with e | e
  · have : decide (0 ≤ i) = false := by simp; omega
    rw [this]; rfl
  · have : decide (i < 16) = false := by simp; omega
    rw [this]; simp
theorem host_in {i : Int} (e : (decide ((i : Int) < 0) || decide ((16 : Int) ≤ i)) = false) : 0 ≤ i ∧ i < 16 := by
  simp only [Bool.or_eq_false_iff, decide_eq_false_iff_not] at e; omega
theorem host_bd {i h t : Int} (e : hostB i h t = true) : 0 ≤ i ∧ i < 16 := by
  unfold hostB at e
  simp only [Bool.and_eq_true, decide_eq_true_eq] at e
  exact ⟨e.1, e.2.1⟩
theorem host_bd1 {i h t : Int} (e : (!hostB i h t) = false) : 0 ≤ i ∧ i < 16 := host_bd (by simpa using e)
theorem host_bd3 {i h t : Int} {x y : Bool} (e : ((!hostB i h t || x) || y) = false) : 0 ≤ i ∧ i < 16 := by
  simp only [Bool.or_eq_false_iff, Bool.not_eq_false'] at e; exact host_bd e.1.1
theorem host_yes {i h t : Int} (hi : 0 ≤ i ∧ i < 16) (ht : 0 ≤ t ∧ t < 16) (H : ∀ j : Nat, 0 < j → j ≤ ((t - h) % 16).toNat → (t - (j : Int)) % 16 ≠ i) : hostB i h t = true := by
  have h2 : ¬ (i - h) % 16 < (t - h) % 16 := by
    intro hlt
    refine H ((t - h) % 16 - (i - h) % 16).toNat (by omega) (by omega) ?_
    omega
  unfold hostB
  simp [hi.1, hi.2, h2]
theorem host_no {i h t : Int} {n : Nat} (h0 : 0 < n) (hn : n ≤ ((t - h) % 16).toNat) (e : ((t - (n : Int)) % 16 != i) = false) : hostB i h t = false := by
  have e' : (t - (n : Int)) % 16 = i := by simpa using e
  have h2 : (i - h) % 16 < (t - h) % 16 := by omega
  unfold hostB
  simp [h2]
section
variable {A : NicA}
theorem read_ok (h : NicOk A) (reg : Int) : NicOk (readF A reg).2 := by
  obtain ⟨h2, h3, h4, h5, h6, tl, cl, rm⟩ := h
  unfold readF
  split
  · exact ⟨h2, h3, h4, h5, h6, tl, cl, rm⟩
  · split
    · rename_i e; subst e; exact ⟨h2, h3, h4, h5, by simp [up], tl, cl, rm⟩
    · exact ⟨h2, h3, h4, h5, h6, tl, cl, rm⟩
theorem write_ok (h : NicOk A) (reg v : Int) : NicOk (writeF A reg v).2 := by
  obtain ⟨h2, h3, h4, h5, h6, tl, cl, rm⟩ := h
  unfold writeF
  split
  · refine ⟨?_, ?_, ?_, ?_, ?_, fun i => ?_, fun i => ?_, fun i => ?_⟩ <;> simp [resetA, newA, up]
  · split
    · rename_i e; obtain ⟨rfl, _⟩ := e; exact ⟨h2, h3, h4, h5, h6, tl, cl, rm⟩
    · split
      · exact ⟨h2, h3, h4, h5, h6, tl, cl, rm⟩
      · split
        · rename_i e; subst e
          refine ⟨h2, h3, h4, ?_, h6, tl, cl, rm⟩
          simp [up]; omega
        · split
          · rename_i e; subst e
            refine ⟨h2, ?_, h4, h5, h6, tl, cl, rm⟩
            simp [up]; omega
          · exact ⟨h2, h3, h4, h5, h6, tl, cl, rm⟩
theorem up_all {α : Type} {f : Nat → α} {k : Nat} {v : α} {p : α → Prop} (h : ∀ i, p (f i)) (hv : p v) : ∀ i, p (up f k v i) := by
  intro i; unfold up; split
  · exact hv
  · exact h i
theorem setTx_ok (h : NicOk A) (i : Int) (f : List UInt8) : NicOk (setTxF A i f).2 := by
  obtain ⟨h2, h3, h4, h5, h6, tl, cl, rm⟩ := h
  unfold setTxF
  split
  · exact ⟨h2, h3, h4, h5, h6, tl, cl, rm⟩
  · split
    · exact ⟨h2, h3, h4, h5, h6, tl, cl, rm⟩
    · split
      · exact ⟨h2, h3, h4, h5, h6, tl, cl, rm⟩
      · exact ⟨h2, h3, h4, h5, h6, up_all (p := fun l : List UInt8 => l.length ≤ 274) tl (by omega), cl, rm⟩
theorem setRx_ok (h : NicOk A) (i room : Int) : NicOk (setRxF A i room).2 := by
  obtain ⟨h2, h3, h4, h5, h6, tl, cl, rm⟩ := h
  unfold setRxF
  split
  · exact ⟨h2, h3, h4, h5, h6, tl, cl, rm⟩
  · exact ⟨h2, h3, h4, h5, h6, tl, up_all (p := fun l : List UInt8 => l.length ≤ 65535) cl (by simp), up_all (p := fun x : Int => 0 ≤ x ∧ x ≤ 65535) rm (by omega)⟩
theorem take_ok (h : NicOk A) : NicOk (takeF A) := by
  obtain ⟨h2, h3, h4, h5, h6, tl, cl, rm⟩ := h
  exact ⟨h2, h3, nx_bd, h5, ev_bd h6 (.inr (.inl rfl)), tl, cl, rm⟩
theorem give_ok (h : NicOk A) (f : List UInt8) (bad : Bool) : NicOk (giveF A f bad).2 := by
  obtain ⟨h2, h3, h4, h5, h6, tl, cl, rm⟩ := h
  unfold giveF
  split
  · exact ⟨h2, h3, h4, h5, h6, tl, cl, rm⟩
  · split
    · exact ⟨h2, h3, h4, h5, h6, tl, cl, rm⟩
    · split
      · exact ⟨h2, h3, h4, h5, h6, tl, cl, rm⟩
      · have := rm (A.r 2).toNat
        exact ⟨nx_bd, h3, h4, h5, ev_bd h6 (.inl rfl), tl, up_all (p := fun l : List UInt8 => l.length ≤ 65535) cl (by omega), up_all (p := fun x : Int => 0 ≤ x ∧ x ≤ 65535) rm this⟩
theorem link_ok (h : NicOk A) (u : Bool) : NicOk (linkF A u) := by
  obtain ⟨h2, h3, h4, h5, h6, tl, cl, rm⟩ := h
  unfold linkF
  generalize (if u = true then 1 else 0 : Int) = q
  split
  · exact ⟨h2, h3, h4, h5, h6, tl, cl, rm⟩
  · exact ⟨h2, h3, h4, h5, ev_bd h6 (.inr (.inr rfl)), tl, cl, rm⟩
theorem tick_ok (h : NicOk A) : NicOk (tickF A) := by
  obtain ⟨h2, h3, h4, h5, h6, tl, cl, rm⟩ := h
  exact ⟨h2, h3, h4, h5, h6, tl, cl, rm⟩
end
end Go.Proofs.Ytghfkgcaglabpaa

/-
  The device's small functions.
-/
namespace Go.Proofs.Ytghfkgcaglabpaa
open Go.RowKit
set_option maxRecDepth 100000
set_option maxHeartbeats 4000000
theorem next_any (w : World) {i : Int} (h : 0 ≤ i ∧ i < 16) : Calls Try.prog 42 #[.int .i64 i] w fun e w' => e = .returned (.int .i64 (nx i)) ∧ w = w' := by
  obtain ⟨h0, h1⟩ := h
  go_enter Try.func42, Try.ntmps42
  go_wp2
  go_ret
  exact ⟨by unfold nx; rfl, rfl⟩

theorem copied_any {w : World} {v : Value} {f : List UInt8} (hb : BytesAt w v f) : Calls Try.prog 43 #[v] w fun e w' => e = .returned (sl w.heap.size 0 f.length f.length) ∧ Blk w' w.heap.size (f.map bv) 5 ∧ Only (fun _ => False) w w' := by
  obtain ⟨a, c, rfl⟩ := hb.form
  have hl := hb.len
  have hmk := fun w => make_u8 (P := Try.prog) (n := f.length) Try.underlying28 (by kernel_rfl) (by omega) w
  have HB := Lib.hid hb
  clear hb
  go_enter Try.func43, Try.ntmps43
  go_wp2_with (at_builtin; refine wpList_room (x := .tmp 5) (y := .tmp 6) (t := 28) (e := 5) (g := w.heap.size) (n := 0) (cap := f.length) (c := (madeCells #[.int .u8 0] f.length).toList) (f := f) (by rfl) (by rfl) Try.underlying28 (by kernel_rfl) (by rfl) (by rfl) (Blk.new' w _ _) (HB.out.only ((Only.refl (fun _ => False) w).alloc _) (fun _ _ _ _ _ _ h => h)) (by omega) (by rw [made_len]; omega) ?_; intro w1 hB hO)
  have HO := Lib.hid (And.intro hB (Only.step (((Only.refl (fun _ => False) w).alloc _)) hO (by intro k hk; omega)))
  clear hB hO
  go_wp2
  go_ret
  obtain ⟨hB, hO⟩ := HO.out
  refine ⟨rfl, ?_, hO⟩
  rw [List.take_zero, List.drop_eq_nil_of_le (by rw [made_len]; omega)] at hB
  simpa using hB

theorem p_off {w : World} {d : Nat} {F : Nat → Prop} {A : NicA} (hk : NicOk A) (h : NicAt 99 w d F A)  : Calls Try.prog 41 #[pt d 0] w fun e w' => e = .returned (bo (offB A)) ∧ Only (fun _ => False) w w' := by
  have hok := hk
  obtain ⟨r2, r3, r4, r5, r6, _, _, _⟩ := hok
  obtain ⟨tv, cv, hI⟩ := h.inv 17 (fun _ => False)
  refine calls_sc (l0 := _) (args := [pt d 0]) (fun _ => False) Try.func41 rfl 17 Try.ntmps41 (le_b rfl) hI ?_
  show SC _ _ _ _ [(0, pt d 0)] [rBlk d (nc A tv cv) 99, rFrs F tv cv A.tb A.cb]
  refine SC.sr ?_
  refine SL.as ?_
  refine SL.nn [(0, pt d 0), (2, bo false)] [rBlk d (nc A tv cv) 99, rFrs F tv cv A.tb A.cb] ⟨rfl, rfl, trivial⟩ ?_
  refine SC.sr ?_
  refine SL.mv ?_
  refine SL.nk ?_
  refine SL.uu (ru_fieldAddr (o2 := 0) fd99_0 rfl rfl rfl) ?_
  refine SL.uu (ru_indexA (o2 := 0) ar91 rfl rfl rfl (by decide) (by decide) rfl) ?_
  refine SL.uu (ru_load (i := 0) (v := iw (A.r 0)) ts3 rfl rfl rfl (nc_r (by decide))) ?_
  refine SL.uu (ru_ne (b := (((A.r 0) : Int) != 1)) rfl rfl rfl rfl) ?_
  refine SL.mv ?_
  refine SL.join 7 [(0, pt d 0), (2, bo false), (3, pt d 0), (4, pt d 0), (5, pt d 0), (6, pt d 0), (7, iw (A.r 0)), (8, bo (((A.r 0) : Int) != 1)), (9, bo (((A.r 0) : Int) != 1)), (16, bo ((((A.r 0) : Int) != 1) || (((A.r 1) : Int) != 1)))] [rBlk d (nc A tv cv) 99, rFrs F tv cv A.tb A.cb] ?_ ?_
  rotate_left
  · intro K hK
    rcases tf (((A.r 0) : Int) != 1) with h1 | h1
    · skip
      refine SL.norm [(0, pt d 0), (2, bo false), (3, pt d 0), (4, pt d 0), (5, pt d 0), (6, pt d 0), (7, iw (A.r 0)), (8, bo true), (9, bo true)] _ ⟨rfl, rfl, rfl, rfl, rfl, rfl, rfl, (congrArg (fun x => some (Value.bool x)) h1), (congrArg (fun x => some (Value.bool x)) h1), trivial⟩ rfl ?_
      refine SL.off (b := true) rfl rfl rfl rfl rfl (lt_b rfl) ?_
      refine SL.off (b := true) rfl rfl rfl rfl rfl (lt_b rfl) ?_
      refine SL.off (b := true) rfl rfl rfl rfl rfl (lt_b rfl) ?_
      refine SL.off (b := true) rfl rfl rfl rfl rfl (lt_b rfl) ?_
      refine SL.off (b := true) rfl rfl rfl rfl rfl (lt_b rfl) ?_
      refine SL.off (b := true) rfl rfl rfl rfl rfl (lt_b rfl) ?_
      refine SL.uu (ru_pick (u := bo true) (v := undef) rfl rfl rfl rfl) ?_
      exact SL.joined hK ⟨rfl, rfl, rfl, rfl, rfl, rfl, rfl, (congrArg (fun x => some (Value.bool x)) h1.symm), (congrArg (fun x => some (Value.bool x)) h1.symm), (congrArg (fun x => some (Value.bool (x || (((A.r 1) : Int) != 1)))) h1.symm), trivial⟩ rfl
    refine SL.norm [(0, pt d 0), (2, bo false), (3, pt d 0), (4, pt d 0), (5, pt d 0), (6, pt d 0), (7, iw (A.r 0)), (8, bo false), (9, bo false)] _ ⟨rfl, rfl, rfl, rfl, rfl, rfl, rfl, (congrArg (fun x => some (Value.bool x)) h1), (congrArg (fun x => some (Value.bool x)) h1), trivial⟩ rfl ?_
    refine SL.rug rfl rfl rfl rfl (lt_b rfl) (ru_move rfl rfl) ?_
    refine SL.rug rfl rfl rfl rfl (lt_b rfl) (ru_nilCheck rfl rfl) ?_
    refine SL.rug rfl rfl rfl rfl (lt_b rfl) (ru_fieldAddr (o2 := 0) fd99_0 rfl rfl rfl) ?_
    refine SL.rug rfl rfl rfl rfl (lt_b rfl) (ru_indexA (o2 := 1) ar91 rfl rfl rfl (by decide) (by decide) rfl) ?_
    refine SL.rug rfl rfl rfl rfl (lt_b rfl) (ru_load (i := 0) (v := iw (A.r 1)) ts3 rfl rfl rfl (nc_r (by decide))) ?_
    refine SL.rug rfl rfl rfl rfl (lt_b rfl) (ru_ne (b := (((A.r 1) : Int) != 1)) rfl rfl rfl rfl) ?_
    refine SL.uu (ru_pick (u := bo true) (v := bo (((A.r 1) : Int) != 1)) rfl rfl rfl rfl) ?_
    exact SL.joined hK ⟨rfl, rfl, rfl, rfl, rfl, rfl, rfl, (congrArg (fun x => some (Value.bool x)) h1.symm), (congrArg (fun x => some (Value.bool x)) h1.symm), (congrArg (fun x => some (Value.bool (x || (((A.r 1) : Int) != 1)))) h1.symm), trivial⟩ rfl
  skip
  refine SL.as ?_
  refine SL.nn [(2, bo ((((A.r 0) : Int) != 1) || (((A.r 1) : Int) != 1)))] _ ⟨rfl, trivial⟩ ?_
  refine SC.ret ?_
  refine SE.res (.inl rfl) (res1 Try.results41 rfl) fun w1 hI => ?_
  exact ⟨rfl, hI.2⟩

theorem q_off {w : World} {d : Nat} {F : Nat → Prop} {A : NicA} (hk : NicOk A) (h : NicAt 108 w d F A)  : Calls Try.prog 77 #[pt d 0] w fun e w' => e = .returned (bo (offB A)) ∧ Only (fun _ => False) w w' := by
  have hok := hk
  obtain ⟨r2, r3, r4, r5, r6, _, _, _⟩ := hok
  obtain ⟨tv, cv, hI⟩ := h.inv 17 (fun _ => False)
  refine calls_sc (l0 := _) (args := [pt d 0]) (fun _ => False) Try.func77 rfl 17 Try.ntmps77 (le_b rfl) hI ?_
  show SC _ _ _ _ [(0, pt d 0)] [rBlk d (nc A tv cv) 108, rFrs F tv cv A.tb A.cb]
  refine SC.sr ?_
  refine SL.as ?_
  refine SL.nn [(0, pt d 0), (2, bo false)] [rBlk d (nc A tv cv) 108, rFrs F tv cv A.tb A.cb] ⟨rfl, rfl, trivial⟩ ?_
  refine SC.sr ?_
  refine SL.mv ?_
  refine SL.nk ?_
  refine SL.uu (ru_fieldAddr (o2 := 0) fd108_0 rfl rfl rfl) ?_
  refine SL.uu (ru_indexA (o2 := 0) ar91 rfl rfl rfl (by decide) (by decide) rfl) ?_
  refine SL.uu (ru_load (i := 0) (v := iw (A.r 0)) ts3 rfl rfl rfl (nc_r (by decide))) ?_
  refine SL.uu (ru_ne (b := (((A.r 0) : Int) != 1)) rfl rfl rfl rfl) ?_
  refine SL.mv ?_
  refine SL.join 7 [(0, pt d 0), (2, bo false), (3, pt d 0), (4, pt d 0), (5, pt d 0), (6, pt d 0), (7, iw (A.r 0)), (8, bo (((A.r 0) : Int) != 1)), (9, bo (((A.r 0) : Int) != 1)), (16, bo ((((A.r 0) : Int) != 1) || (((A.r 1) : Int) != 1)))] [rBlk d (nc A tv cv) 108, rFrs F tv cv A.tb A.cb] ?_ ?_
  rotate_left
  · intro K hK
    rcases tf (((A.r 0) : Int) != 1) with h1 | h1
    · skip
      refine SL.norm [(0, pt d 0), (2, bo false), (3, pt d 0), (4, pt d 0), (5, pt d 0), (6, pt d 0), (7, iw (A.r 0)), (8, bo true), (9, bo true)] _ ⟨rfl, rfl, rfl, rfl, rfl, rfl, rfl, (congrArg (fun x => some (Value.bool x)) h1), (congrArg (fun x => some (Value.bool x)) h1), trivial⟩ rfl ?_
      refine SL.off (b := true) rfl rfl rfl rfl rfl (lt_b rfl) ?_
      refine SL.off (b := true) rfl rfl rfl rfl rfl (lt_b rfl) ?_
      refine SL.off (b := true) rfl rfl rfl rfl rfl (lt_b rfl) ?_
      refine SL.off (b := true) rfl rfl rfl rfl rfl (lt_b rfl) ?_
      refine SL.off (b := true) rfl rfl rfl rfl rfl (lt_b rfl) ?_
      refine SL.off (b := true) rfl rfl rfl rfl rfl (lt_b rfl) ?_
      refine SL.uu (ru_pick (u := bo true) (v := undef) rfl rfl rfl rfl) ?_
      exact SL.joined hK ⟨rfl, rfl, rfl, rfl, rfl, rfl, rfl, (congrArg (fun x => some (Value.bool x)) h1.symm), (congrArg (fun x => some (Value.bool x)) h1.symm), (congrArg (fun x => some (Value.bool (x || (((A.r 1) : Int) != 1)))) h1.symm), trivial⟩ rfl
    refine SL.norm [(0, pt d 0), (2, bo false), (3, pt d 0), (4, pt d 0), (5, pt d 0), (6, pt d 0), (7, iw (A.r 0)), (8, bo false), (9, bo false)] _ ⟨rfl, rfl, rfl, rfl, rfl, rfl, rfl, (congrArg (fun x => some (Value.bool x)) h1), (congrArg (fun x => some (Value.bool x)) h1), trivial⟩ rfl ?_
    refine SL.rug rfl rfl rfl rfl (lt_b rfl) (ru_move rfl rfl) ?_
    refine SL.rug rfl rfl rfl rfl (lt_b rfl) (ru_nilCheck rfl rfl) ?_
    refine SL.rug rfl rfl rfl rfl (lt_b rfl) (ru_fieldAddr (o2 := 0) fd108_0 rfl rfl rfl) ?_
    refine SL.rug rfl rfl rfl rfl (lt_b rfl) (ru_indexA (o2 := 1) ar91 rfl rfl rfl (by decide) (by decide) rfl) ?_
    refine SL.rug rfl rfl rfl rfl (lt_b rfl) (ru_load (i := 0) (v := iw (A.r 1)) ts3 rfl rfl rfl (nc_r (by decide))) ?_
    refine SL.rug rfl rfl rfl rfl (lt_b rfl) (ru_ne (b := (((A.r 1) : Int) != 1)) rfl rfl rfl rfl) ?_
    refine SL.uu (ru_pick (u := bo true) (v := bo (((A.r 1) : Int) != 1)) rfl rfl rfl rfl) ?_
    exact SL.joined hK ⟨rfl, rfl, rfl, rfl, rfl, rfl, rfl, (congrArg (fun x => some (Value.bool x)) h1.symm), (congrArg (fun x => some (Value.bool x)) h1.symm), (congrArg (fun x => some (Value.bool (x || (((A.r 1) : Int) != 1)))) h1.symm), trivial⟩ rfl
  skip
  refine SL.as ?_
  refine SL.nn [(2, bo ((((A.r 0) : Int) != 1) || (((A.r 1) : Int) != 1)))] _ ⟨rfl, trivial⟩ ?_
  refine SC.ret ?_
  refine SE.res (.inl rfl) (res1 Try.results77 rfl) fun w1 hI => ?_
  exact ⟨rfl, hI.2⟩

end Go.Proofs.Ytghfkgcaglabpaa

/-
  Whose is a descriptor.
-/
namespace Go.Proofs.Ytghfkgcaglabpaa
open Go.RowKit
set_option maxRecDepth 100000
set_option maxHeartbeats 4000000
theorem p_hosttx {w : World} {d : Nat} {F : Nat → Prop} {A : NicA} (hk : NicOk A) (h : NicAt 99 w d F A) (i : Int) : Calls Try.prog 64 #[pt d 0, iw i, iw 4, iw 5] w fun e w' => e = .returned (bo (hostB i (A.r 4) (A.r 5))) ∧ Only (fun _ => False) w w' := by
  have hok := hk
  obtain ⟨r2, r3, r4, r5, r6, _, _, _⟩ := hok
  obtain ⟨tv, cv, hI⟩ := h.inv 35 (fun _ => False)
  refine calls_sc (l0 := _) (args := [pt d 0, iw i, iw 4, iw 5]) (fun _ => False) Try.func64 rfl 35 Try.ntmps64 (le_b rfl) hI ?_
  show SC _ _ _ _ [(0, pt d 0), (1, iw i), (2, iw 4), (3, iw 5)] [rBlk d (nc A tv cv) 99, rFrs F tv cv A.tb A.cb]
  refine SC.sr ?_
  refine SL.as ?_
  refine SL.nn [(0, pt d 0), (1, iw i), (2, iw 4), (3, iw 5), (8, bo false)] [rBlk d (nc A tv cv) 99, rFrs F tv cv A.tb A.cb] ⟨rfl, rfl, rfl, rfl, rfl, trivial⟩ ?_
  refine SC.scope ?_
  refine SC.seq ?_
  refine SC.sr ?_
  refine SL.mv ?_
  refine SL.uu (ru_lt (b := (decide ((i : Int) < 0))) rfl rfl rfl rfl) ?_
  refine SL.mv ?_
  refine SL.join 3 [(0, pt d 0), (1, iw i), (2, iw 4), (3, iw 5), (8, bo false), (10, iw i), (11, bo (decide ((i : Int) < 0))), (12, bo (decide ((i : Int) < 0))), (15, bo ((decide ((i : Int) < 0)) || (decide ((16 : Int) ≤ i))))] [rBlk d (nc A tv cv) 99, rFrs F tv cv A.tb A.cb] ?_ ?_
  rotate_left
  · intro K hK
    rcases tf (decide ((i : Int) < 0)) with h1 | h1
    · skip
      refine SL.norm [(0, pt d 0), (1, iw i), (2, iw 4), (3, iw 5), (8, bo false), (10, iw i), (11, bo true), (12, bo true)] _ ⟨rfl, rfl, rfl, rfl, rfl, rfl, (congrArg (fun x => some (Value.bool x)) h1), (congrArg (fun x => some (Value.bool x)) h1), trivial⟩ rfl ?_
      refine SL.off (b := true) rfl rfl rfl rfl rfl (lt_b rfl) ?_
      refine SL.off (b := true) rfl rfl rfl rfl rfl (lt_b rfl) ?_
      refine SL.uu (ru_pick (u := bo true) (v := undef) rfl rfl rfl rfl) ?_
      exact SL.joined hK ⟨rfl, rfl, rfl, rfl, rfl, rfl, (congrArg (fun x => some (Value.bool x)) h1.symm), (congrArg (fun x => some (Value.bool x)) h1.symm), (congrArg (fun x => some (Value.bool (x || (decide ((16 : Int) ≤ i))))) h1.symm), trivial⟩ rfl
    refine SL.norm [(0, pt d 0), (1, iw i), (2, iw 4), (3, iw 5), (8, bo false), (10, iw i), (11, bo false), (12, bo false)] _ ⟨rfl, rfl, rfl, rfl, rfl, rfl, (congrArg (fun x => some (Value.bool x)) h1), (congrArg (fun x => some (Value.bool x)) h1), trivial⟩ rfl ?_
    refine SL.rug rfl rfl rfl rfl (lt_b rfl) (ru_move rfl rfl) ?_
    refine SL.rug rfl rfl rfl rfl (lt_b rfl) (ru_ge (b := (decide ((16 : Int) ≤ i))) rfl rfl rfl rfl) ?_
    refine SL.uu (ru_pick (u := bo true) (v := bo (decide ((16 : Int) ≤ i))) rfl rfl rfl rfl) ?_
    exact SL.joined hK ⟨rfl, rfl, rfl, rfl, rfl, rfl, (congrArg (fun x => some (Value.bool x)) h1.symm), (congrArg (fun x => some (Value.bool x)) h1.symm), (congrArg (fun x => some (Value.bool (x || (decide ((16 : Int) ≤ i))))) h1.symm), trivial⟩ rfl
  skip
  refine SL.nn [(0, pt d 0), (1, iw i), (2, iw 4), (3, iw 5), (8, bo false), (15, bo ((decide ((i : Int) < 0)) || (decide ((16 : Int) ≤ i))))] _ ⟨rfl, rfl, rfl, rfl, rfl, rfl, trivial⟩ ?_
  refine SC.both ((decide ((i : Int) < 0)) || (decide ((16 : Int) ≤ i))) rfl (fun h2 => ?_) (fun h2 => ?_)
  · skip
    refine SC.sr ?_
    refine SL.as ?_
    refine SL.nn [(0, pt d 0), (1, iw i), (2, iw 4), (3, iw 5), (8, bo false)] _ ⟨rfl, rfl, rfl, rfl, rfl, trivial⟩ ?_
    refine SC.ret ?_
    refine SE.passr ?_
    refine SE.scoper ?_
    refine SE.res (.inl rfl) (res1 Try.results64 rfl) fun w1 hI => ⟨ret_bo ?_, hI.2⟩
    exact host_out h2
  have hi := host_in h2
  refine SC.skip ?_
  refine SC.of_SE ?_
  refine SC.norm [(0, pt d 0), (1, iw i), (2, iw 4), (3, iw 5), (8, bo false)] _ ⟨rfl, rfl, rfl, rfl, rfl, trivial⟩ rfl ?_
  refine SC.seq ?_
  refine SC.label ?_
  refine SC.of_SE ?_
  refine SC.norm [(0, pt d 0), (1, iw i), (2, iw 4), (3, iw 5), (8, bo false)] _ ⟨rfl, rfl, rfl, rfl, rfl, trivial⟩ rfl ?_
  refine SC.seq ?_
  refine SC.sr ?_
  refine SL.mv ?_
  refine SL.mv ?_
  refine SL.nk ?_
  refine SL.uu (ru_fieldAddr (o2 := 0) fd99_0 rfl rfl rfl) ?_
  refine SL.uu (ru_indexA (o2 := 4) ar91 rfl rfl rfl (by decide) (by decide) rfl) ?_
  refine SL.uu (ru_load (i := 0) (v := iw (A.r 4)) ts3 rfl rfl rfl (nc_r (by decide))) ?_
  refine SL.as ?_
  refine SL.nn [(0, pt d 0), (1, iw i), (3, iw 5), (8, bo false), (9, iw (A.r 4))] _ ⟨rfl, rfl, rfl, rfl, rfl, trivial⟩ ?_
  refine SC.block ?_
  refine SC.loop (γ := Unit) (fun n _ => [(0, pt d 0), (1, iw i), (3, iw 5), (8, bo false), (9, iw (((A.r 5) - (n : Int)) % 16))]) (fun n _ => [rBlk d (nc A tv cv) 99, rFrs F tv cv A.tb A.cb]) (fun n _ => n ≤ (((A.r 5) - (A.r 4)) % 16).toNat ∧ ∀ j : Nat, n < j → j ≤ (((A.r 5) - (A.r 4)) % 16).toNat → ((A.r 5) - (j : Int)) % 16 ≠ i) ((((A.r 5) - (A.r 4)) % 16).toNat) () ⟨Nat.le_refl _, fun j h1 h2 => by omega⟩ ⟨rfl, rfl, rfl, rfl, (congrArg (fun x => some (iw x)) (show A.r 4 = ((A.r 5) - ((((((A.r 5) - (A.r 4)) % 16).toNat : Nat) : Int) : Int)) % 16 by omega)), trivial⟩ rfl ?_
  rintro n ⟨⟩ ⟨hn, hne⟩
  rcases Nat.eq_zero_or_pos n with h0 | h0
  · skip
    refine SC.seq ?_
    refine SC.sr ?_
    refine SL.mv ?_
    refine SL.mv ?_
    refine SL.mv ?_
    refine SL.nk ?_
    refine SL.uu (ru_fieldAddr (o2 := 0) fd99_0 rfl rfl rfl) ?_
    refine SL.uu (ru_indexA (o2 := 5) ar91 rfl rfl rfl (by decide) (by decide) rfl) ?_
    refine SL.uu (ru_load (i := 0) (v := iw (A.r 5)) ts3 rfl rfl rfl (nc_r (by decide))) ?_
    refine SL.uu (ru_ne (b := (((((A.r 5) - (n : Int)) % 16) : Int) != (A.r 5))) rfl rfl rfl rfl) ?_
    refine SL.nn [(0, pt d 0), (1, iw i), (3, iw 5), (8, bo false), (9, iw (((A.r 5) - (n : Int)) % 16)), (29, bo (((((A.r 5) - (n : Int)) % 16) : Int) != (A.r 5)))] _ ⟨rfl, rfl, rfl, rfl, rfl, rfl, trivial⟩ ?_
    refine SC.no (show some (Value.bool (((((A.r 5) - (n : Int)) % 16) : Int) != (A.r 5))) = some (Value.bool false) from congrArg (fun x => some (Value.bool x)) (bne_f (by omega))) ?_
    refine SC.exit ?_
    refine SE.passe ?_
    refine SE.passe ?_
    refine SE.blke ?_
    refine SC.of_SE ?_
    refine SC.norm [(8, bo false)] _ ⟨rfl, trivial⟩ rfl ?_
    refine SC.sr ?_
    refine SL.as ?_
    refine SL.nn [(8, bo true)] _ ⟨rfl, trivial⟩ ?_
    refine SC.ret ?_
    refine SE.scoper ?_
    refine SE.res (.inl rfl) (res1 Try.results64 rfl) fun w1 hI => ⟨ret_bo ?_, hI.2⟩
    exact host_yes hi (by omega) (fun j h1 h2 => hne j (by omega) h2)
  refine SC.seq ?_
  refine SC.sr ?_
  refine SL.mv ?_
  refine SL.mv ?_
  refine SL.mv ?_
  refine SL.nk ?_
  refine SL.uu (ru_fieldAddr (o2 := 0) fd99_0 rfl rfl rfl) ?_
  refine SL.uu (ru_indexA (o2 := 5) ar91 rfl rfl rfl (by decide) (by decide) rfl) ?_
  refine SL.uu (ru_load (i := 0) (v := iw (A.r 5)) ts3 rfl rfl rfl (nc_r (by decide))) ?_
  refine SL.uu (ru_ne (b := (((((A.r 5) - (n : Int)) % 16) : Int) != (A.r 5))) rfl rfl rfl rfl) ?_
  refine SL.nn [(0, pt d 0), (1, iw i), (3, iw 5), (8, bo false), (9, iw (((A.r 5) - (n : Int)) % 16)), (29, bo (((((A.r 5) - (n : Int)) % 16) : Int) != (A.r 5)))] _ ⟨rfl, rfl, rfl, rfl, rfl, rfl, trivial⟩ ?_
  refine SC.yes (show some (Value.bool (((((A.r 5) - (n : Int)) % 16) : Int) != (A.r 5))) = some (Value.bool true) from congrArg (fun x => some (Value.bool x)) (bne_t (by omega))) ?_
  refine SC.skip ?_
  refine SC.of_SE ?_
  refine SC.norm [(0, pt d 0), (1, iw i), (3, iw 5), (8, bo false), (9, iw (((A.r 5) - (n : Int)) % 16))] _ ⟨rfl, rfl, rfl, rfl, rfl, trivial⟩ rfl ?_
  refine SC.seq ?_
  refine SC.block ?_
  refine SC.seq ?_
  refine SC.sr ?_
  refine SL.mv ?_
  refine SL.mv ?_
  refine SL.uu (ru_ne (b := (((((A.r 5) - (n : Int)) % 16) : Int) != i)) rfl rfl rfl rfl) ?_
  refine SL.nn [(0, pt d 0), (1, iw i), (3, iw 5), (8, bo false), (9, iw (((A.r 5) - (n : Int)) % 16)), (34, bo (((((A.r 5) - (n : Int)) % 16) : Int) != i))] _ ⟨rfl, rfl, rfl, rfl, rfl, rfl, trivial⟩ ?_
  refine SC.both (((((A.r 5) - (n : Int)) % 16) : Int) != i) rfl (fun h3 => ?_) (fun h3 => ?_)
  · skip
    have hq := h3
    refine SC.exit ?_
    refine SE.passe ?_
    refine SE.blke ?_
    refine SC.of_SE ?_
    refine SC.norm [(0, pt d 0), (1, iw i), (3, iw 5), (8, bo false), (9, iw (((A.r 5) - (n : Int)) % 16))] _ ⟨rfl, rfl, rfl, rfl, rfl, trivial⟩ rfl ?_
    refine SC.region ?_
    refine SL.mv ?_
    refine SL.callv (iw (nx (((A.r 5) - (n : Int)) % 16))) rfl rfl co42 rfl rfl rfl (lt_b rfl) (fun w hI => H_same hI (next_any w (by omega))) ?_
    refine SL.as ?_
    refine SL.nil ?_
    refine SE.again (n - 1) () (by omega) ⟨by omega, fun j h1 h2 => ?_⟩ ⟨rfl, rfl, rfl, rfl, (congrArg (fun x => some (iw x)) (show nx (((A.r 5) - (n : Int)) % 16) = ((A.r 5) - (((n - 1 : Nat) : Int) : Int)) % 16 by unfold nx; omega)), trivial⟩ rfl
    by_cases e : j = n
    · subst e; simpa using hq
    · exact hne j (by omega) h2
  have hq := h3
  refine SC.skip ?_
  refine SC.of_SE ?_
  refine SC.norm [(0, pt d 0), (1, iw i), (3, iw 5), (8, bo false), (9, iw (((A.r 5) - (n : Int)) % 16))] _ ⟨rfl, rfl, rfl, rfl, rfl, trivial⟩ rfl ?_
  refine SC.sr ?_
  refine SL.as ?_
  refine SL.nn [(0, pt d 0), (1, iw i), (3, iw 5), (8, bo false), (9, iw (((A.r 5) - (n : Int)) % 16))] _ ⟨rfl, rfl, rfl, rfl, rfl, trivial⟩ ?_
  refine SC.ret ?_
  refine SE.blkr ?_
  refine SE.passr ?_
  refine SE.passr ?_
  refine SE.blkr ?_
  refine SE.passr ?_
  refine SE.scoper ?_
  refine SE.res (.inl rfl) (res1 Try.results64 rfl) fun w1 hI => ⟨ret_bo ?_, hI.2⟩
  exact host_no h0 hn hq

theorem p_hostrx {w : World} {d : Nat} {F : Nat → Prop} {A : NicA} (hk : NicOk A) (h : NicAt 99 w d F A) (i : Int) : Calls Try.prog 64 #[pt d 0, iw i, iw 2, iw 3] w fun e w' => e = .returned (bo (hostB i (A.r 2) (A.r 3))) ∧ Only (fun _ => False) w w' := by
  have hok := hk
  obtain ⟨r2, r3, r4, r5, r6, _, _, _⟩ := hok
  obtain ⟨tv, cv, hI⟩ := h.inv 35 (fun _ => False)
  refine calls_sc (l0 := _) (args := [pt d 0, iw i, iw 2, iw 3]) (fun _ => False) Try.func64 rfl 35 Try.ntmps64 (le_b rfl) hI ?_
  show SC _ _ _ _ [(0, pt d 0), (1, iw i), (2, iw 2), (3, iw 3)] [rBlk d (nc A tv cv) 99, rFrs F tv cv A.tb A.cb]
  refine SC.sr ?_
  refine SL.as ?_
  refine SL.nn [(0, pt d 0), (1, iw i), (2, iw 2), (3, iw 3), (8, bo false)] [rBlk d (nc A tv cv) 99, rFrs F tv cv A.tb A.cb] ⟨rfl, rfl, rfl, rfl, rfl, trivial⟩ ?_
  refine SC.scope ?_
  refine SC.seq ?_
  refine SC.sr ?_
  refine SL.mv ?_
  refine SL.uu (ru_lt (b := (decide ((i : Int) < 0))) rfl rfl rfl rfl) ?_
  refine SL.mv ?_
  refine SL.join 3 [(0, pt d 0), (1, iw i), (2, iw 2), (3, iw 3), (8, bo false), (10, iw i), (11, bo (decide ((i : Int) < 0))), (12, bo (decide ((i : Int) < 0))), (15, bo ((decide ((i : Int) < 0)) || (decide ((16 : Int) ≤ i))))] [rBlk d (nc A tv cv) 99, rFrs F tv cv A.tb A.cb] ?_ ?_
  rotate_left
  · intro K hK
    rcases tf (decide ((i : Int) < 0)) with h1 | h1
    · skip
      refine SL.norm [(0, pt d 0), (1, iw i), (2, iw 2), (3, iw 3), (8, bo false), (10, iw i), (11, bo true), (12, bo true)] _ ⟨rfl, rfl, rfl, rfl, rfl, rfl, (congrArg (fun x => some (Value.bool x)) h1), (congrArg (fun x => some (Value.bool x)) h1), trivial⟩ rfl ?_
      refine SL.off (b := true) rfl rfl rfl rfl rfl (lt_b rfl) ?_
      refine SL.off (b := true) rfl rfl rfl rfl rfl (lt_b rfl) ?_
      refine SL.uu (ru_pick (u := bo true) (v := undef) rfl rfl rfl rfl) ?_
      exact SL.joined hK ⟨rfl, rfl, rfl, rfl, rfl, rfl, (congrArg (fun x => some (Value.bool x)) h1.symm), (congrArg (fun x => some (Value.bool x)) h1.symm), (congrArg (fun x => some (Value.bool (x || (decide ((16 : Int) ≤ i))))) h1.symm), trivial⟩ rfl
    refine SL.norm [(0, pt d 0), (1, iw i), (2, iw 2), (3, iw 3), (8, bo false), (10, iw i), (11, bo false), (12, bo false)] _ ⟨rfl, rfl, rfl, rfl, rfl, rfl, (congrArg (fun x => some (Value.bool x)) h1), (congrArg (fun x => some (Value.bool x)) h1), trivial⟩ rfl ?_
    refine SL.rug rfl rfl rfl rfl (lt_b rfl) (ru_move rfl rfl) ?_
    refine SL.rug rfl rfl rfl rfl (lt_b rfl) (ru_ge (b := (decide ((16 : Int) ≤ i))) rfl rfl rfl rfl) ?_
    refine SL.uu (ru_pick (u := bo true) (v := bo (decide ((16 : Int) ≤ i))) rfl rfl rfl rfl) ?_
    exact SL.joined hK ⟨rfl, rfl, rfl, rfl, rfl, rfl, (congrArg (fun x => some (Value.bool x)) h1.symm), (congrArg (fun x => some (Value.bool x)) h1.symm), (congrArg (fun x => some (Value.bool (x || (decide ((16 : Int) ≤ i))))) h1.symm), trivial⟩ rfl
  skip
  refine SL.nn [(0, pt d 0), (1, iw i), (2, iw 2), (3, iw 3), (8, bo false), (15, bo ((decide ((i : Int) < 0)) || (decide ((16 : Int) ≤ i))))] _ ⟨rfl, rfl, rfl, rfl, rfl, rfl, trivial⟩ ?_
  refine SC.both ((decide ((i : Int) < 0)) || (decide ((16 : Int) ≤ i))) rfl (fun h2 => ?_) (fun h2 => ?_)
  · skip
    refine SC.sr ?_
    refine SL.as ?_
    refine SL.nn [(0, pt d 0), (1, iw i), (2, iw 2), (3, iw 3), (8, bo false)] _ ⟨rfl, rfl, rfl, rfl, rfl, trivial⟩ ?_
    refine SC.ret ?_
    refine SE.passr ?_
    refine SE.scoper ?_
    refine SE.res (.inl rfl) (res1 Try.results64 rfl) fun w1 hI => ⟨ret_bo ?_, hI.2⟩
    exact host_out h2
  have hi := host_in h2
  refine SC.skip ?_
  refine SC.of_SE ?_
  refine SC.norm [(0, pt d 0), (1, iw i), (2, iw 2), (3, iw 3), (8, bo false)] _ ⟨rfl, rfl, rfl, rfl, rfl, trivial⟩ rfl ?_
  refine SC.seq ?_
  refine SC.label ?_
  refine SC.of_SE ?_
  refine SC.norm [(0, pt d 0), (1, iw i), (2, iw 2), (3, iw 3), (8, bo false)] _ ⟨rfl, rfl, rfl, rfl, rfl, trivial⟩ rfl ?_
  refine SC.seq ?_
  refine SC.sr ?_
  refine SL.mv ?_
  refine SL.mv ?_
  refine SL.nk ?_
  refine SL.uu (ru_fieldAddr (o2 := 0) fd99_0 rfl rfl rfl) ?_
  refine SL.uu (ru_indexA (o2 := 2) ar91 rfl rfl rfl (by decide) (by decide) rfl) ?_
  refine SL.uu (ru_load (i := 0) (v := iw (A.r 2)) ts3 rfl rfl rfl (nc_r (by decide))) ?_
  refine SL.as ?_
  refine SL.nn [(0, pt d 0), (1, iw i), (3, iw 3), (8, bo false), (9, iw (A.r 2))] _ ⟨rfl, rfl, rfl, rfl, rfl, trivial⟩ ?_
  refine SC.block ?_
  refine SC.loop (γ := Unit) (fun n _ => [(0, pt d 0), (1, iw i), (3, iw 3), (8, bo false), (9, iw (((A.r 3) - (n : Int)) % 16))]) (fun n _ => [rBlk d (nc A tv cv) 99, rFrs F tv cv A.tb A.cb]) (fun n _ => n ≤ (((A.r 3) - (A.r 2)) % 16).toNat ∧ ∀ j : Nat, n < j → j ≤ (((A.r 3) - (A.r 2)) % 16).toNat → ((A.r 3) - (j : Int)) % 16 ≠ i) ((((A.r 3) - (A.r 2)) % 16).toNat) () ⟨Nat.le_refl _, fun j h1 h2 => by omega⟩ ⟨rfl, rfl, rfl, rfl, (congrArg (fun x => some (iw x)) (show A.r 2 = ((A.r 3) - ((((((A.r 3) - (A.r 2)) % 16).toNat : Nat) : Int) : Int)) % 16 by omega)), trivial⟩ rfl ?_
  rintro n ⟨⟩ ⟨hn, hne⟩
  rcases Nat.eq_zero_or_pos n with h0 | h0
  · skip
    refine SC.seq ?_
    refine SC.sr ?_
    refine SL.mv ?_
    refine SL.mv ?_
    refine SL.mv ?_
    refine SL.nk ?_
    refine SL.uu (ru_fieldAddr (o2 := 0) fd99_0 rfl rfl rfl) ?_
    refine SL.uu (ru_indexA (o2 := 3) ar91 rfl rfl rfl (by decide) (by decide) rfl) ?_
    refine SL.uu (ru_load (i := 0) (v := iw (A.r 3)) ts3 rfl rfl rfl (nc_r (by decide))) ?_
    refine SL.uu (ru_ne (b := (((((A.r 3) - (n : Int)) % 16) : Int) != (A.r 3))) rfl rfl rfl rfl) ?_
    refine SL.nn [(0, pt d 0), (1, iw i), (3, iw 3), (8, bo false), (9, iw (((A.r 3) - (n : Int)) % 16)), (29, bo (((((A.r 3) - (n : Int)) % 16) : Int) != (A.r 3)))] _ ⟨rfl, rfl, rfl, rfl, rfl, rfl, trivial⟩ ?_
    refine SC.no (show some (Value.bool (((((A.r 3) - (n : Int)) % 16) : Int) != (A.r 3))) = some (Value.bool false) from congrArg (fun x => some (Value.bool x)) (bne_f (by omega))) ?_
    refine SC.exit ?_
    refine SE.passe ?_
    refine SE.passe ?_
    refine SE.blke ?_
    refine SC.of_SE ?_
    refine SC.norm [(8, bo false)] _ ⟨rfl, trivial⟩ rfl ?_
    refine SC.sr ?_
    refine SL.as ?_
    refine SL.nn [(8, bo true)] _ ⟨rfl, trivial⟩ ?_
    refine SC.ret ?_
    refine SE.scoper ?_
    refine SE.res (.inl rfl) (res1 Try.results64 rfl) fun w1 hI => ⟨ret_bo ?_, hI.2⟩
    exact host_yes hi (by omega) (fun j h1 h2 => hne j (by omega) h2)
  refine SC.seq ?_
  refine SC.sr ?_
  refine SL.mv ?_
  refine SL.mv ?_
  refine SL.mv ?_
  refine SL.nk ?_
  refine SL.uu (ru_fieldAddr (o2 := 0) fd99_0 rfl rfl rfl) ?_
  refine SL.uu (ru_indexA (o2 := 3) ar91 rfl rfl rfl (by decide) (by decide) rfl) ?_
  refine SL.uu (ru_load (i := 0) (v := iw (A.r 3)) ts3 rfl rfl rfl (nc_r (by decide))) ?_
  refine SL.uu (ru_ne (b := (((((A.r 3) - (n : Int)) % 16) : Int) != (A.r 3))) rfl rfl rfl rfl) ?_
  refine SL.nn [(0, pt d 0), (1, iw i), (3, iw 3), (8, bo false), (9, iw (((A.r 3) - (n : Int)) % 16)), (29, bo (((((A.r 3) - (n : Int)) % 16) : Int) != (A.r 3)))] _ ⟨rfl, rfl, rfl, rfl, rfl, rfl, trivial⟩ ?_
  refine SC.yes (show some (Value.bool (((((A.r 3) - (n : Int)) % 16) : Int) != (A.r 3))) = some (Value.bool true) from congrArg (fun x => some (Value.bool x)) (bne_t (by omega))) ?_
  refine SC.skip ?_
  refine SC.of_SE ?_
  refine SC.norm [(0, pt d 0), (1, iw i), (3, iw 3), (8, bo false), (9, iw (((A.r 3) - (n : Int)) % 16))] _ ⟨rfl, rfl, rfl, rfl, rfl, trivial⟩ rfl ?_
  refine SC.seq ?_
  refine SC.block ?_
  refine SC.seq ?_
  refine SC.sr ?_
  refine SL.mv ?_
  refine SL.mv ?_
  refine SL.uu (ru_ne (b := (((((A.r 3) - (n : Int)) % 16) : Int) != i)) rfl rfl rfl rfl) ?_
  refine SL.nn [(0, pt d 0), (1, iw i), (3, iw 3), (8, bo false), (9, iw (((A.r 3) - (n : Int)) % 16)), (34, bo (((((A.r 3) - (n : Int)) % 16) : Int) != i))] _ ⟨rfl, rfl, rfl, rfl, rfl, rfl, trivial⟩ ?_
  refine SC.both (((((A.r 3) - (n : Int)) % 16) : Int) != i) rfl (fun h3 => ?_) (fun h3 => ?_)
  · skip
    have hq := h3
    refine SC.exit ?_
    refine SE.passe ?_
    refine SE.blke ?_
    refine SC.of_SE ?_
    refine SC.norm [(0, pt d 0), (1, iw i), (3, iw 3), (8, bo false), (9, iw (((A.r 3) - (n : Int)) % 16))] _ ⟨rfl, rfl, rfl, rfl, rfl, trivial⟩ rfl ?_
    refine SC.region ?_
    refine SL.mv ?_
    refine SL.callv (iw (nx (((A.r 3) - (n : Int)) % 16))) rfl rfl co42 rfl rfl rfl (lt_b rfl) (fun w hI => H_same hI (next_any w (by omega))) ?_
    refine SL.as ?_
    refine SL.nil ?_
    refine SE.again (n - 1) () (by omega) ⟨by omega, fun j h1 h2 => ?_⟩ ⟨rfl, rfl, rfl, rfl, (congrArg (fun x => some (iw x)) (show nx (((A.r 3) - (n : Int)) % 16) = ((A.r 3) - (((n - 1 : Nat) : Int) : Int)) % 16 by unfold nx; omega)), trivial⟩ rfl
    by_cases e : j = n
    · subst e; simpa using hq
    · exact hne j (by omega) h2
  have hq := h3
  refine SC.skip ?_
  refine SC.of_SE ?_
  refine SC.norm [(0, pt d 0), (1, iw i), (3, iw 3), (8, bo false), (9, iw (((A.r 3) - (n : Int)) % 16))] _ ⟨rfl, rfl, rfl, rfl, rfl, trivial⟩ rfl ?_
  refine SC.sr ?_
  refine SL.as ?_
  refine SL.nn [(0, pt d 0), (1, iw i), (3, iw 3), (8, bo false), (9, iw (((A.r 3) - (n : Int)) % 16))] _ ⟨rfl, rfl, rfl, rfl, rfl, trivial⟩ ?_
  refine SC.ret ?_
  refine SE.blkr ?_
  refine SE.passr ?_
  refine SE.passr ?_
  refine SE.blkr ?_
  refine SE.passr ?_
  refine SE.scoper ?_
  refine SE.res (.inl rfl) (res1 Try.results64 rfl) fun w1 hI => ⟨ret_bo ?_, hI.2⟩
  exact host_no h0 hn hq

theorem dev_q {a b : Int} (h : (a == b) = false) : (a != b) = true := by simpa using h
theorem dev_e {a b : Int} (h : (a == b) = true) : (a != b) = false := by simpa using h
theorem dev_nx {t : Int} {n : Nat} (h : 0 < n) : Int.tmod (IntKind.i64.wrap ((t - (n : Int)) % 16 + 1)) 16 = (t - ((n - 1 : Nat) : Int)) % 16 := by
  rw [IntKind.wrap_i64, Int.tmod_eq_emod_of_nonneg (by omega)]; omega
theorem devices_any {w : World} {i h t : Int} (hi : 0 ≤ i ∧ i < 16) (hh : 0 ≤ h ∧ h < 16) (ht : 0 ≤ t ∧ t < 16) : Calls Try.prog 83 #[.int .i64 i, .int .i64 h, .int .i64 t] w fun e w' => e = .returned (bo (!hostB i h t)) ∧ Only (fun _ => False) w w' := by
  refine calls_sc (l0 := []) (args := [iw i, iw h, iw t]) (fun _ => False) Try.func83 rfl 18 Try.ntmps83 (le_b rfl) ⟨⟨by simp, List.Pairwise.nil⟩, Only.refl _ _⟩ ?_
  show SC _ _ _ _ [(0, iw i), (1, iw h), (2, iw t)] []
  refine SC.sr ?_
  refine SL.as ?_
  refine SL.nn [(0, iw i), (1, iw h), (2, iw t), (6, bo false)] [] ⟨rfl, rfl, rfl, rfl, trivial⟩ ?_
  refine SC.seq ?_
  refine SC.sr ?_
  refine SL.mv ?_
  refine SL.as ?_
  refine SL.nn [(0, iw i), (2, iw t), (6, bo false), (7, iw h)] _ ⟨rfl, rfl, rfl, rfl, trivial⟩ ?_
  refine SC.block ?_
  refine SC.loop (γ := Unit) (fun n _ => [(0, iw i), (2, iw t), (6, bo false), (7, iw ((t - (n : Int)) % 16))]) (fun n _ => []) (fun n _ => n ≤ ((t - h) % 16).toNat ∧ ∀ j : Nat, n < j → j ≤ ((t - h) % 16).toNat → (t - (j : Int)) % 16 ≠ i) (((t - h) % 16).toNat) () ⟨Nat.le_refl _, fun j h1 h2 => by omega⟩ ⟨rfl, rfl, rfl, (congrArg (fun x => some (iw x)) (show h = (t - (((((t - h) % 16).toNat : Nat) : Int) : Int)) % 16 by omega)), trivial⟩ rfl ?_
  rintro n ⟨⟩ ⟨hn, hne⟩
  rcases Nat.eq_zero_or_pos n with h0 | h0
  · skip
    refine SC.seq ?_
    refine SC.sr ?_
    refine SL.mv ?_
    refine SL.mv ?_
    refine SL.uu (ru_ne (b := ((((t - (n : Int)) % 16) : Int) != t)) rfl rfl rfl rfl) ?_
    refine SL.nn [(0, iw i), (2, iw t), (6, bo false), (7, iw ((t - (n : Int)) % 16)), (11, bo ((((t - (n : Int)) % 16) : Int) != t))] _ ⟨rfl, rfl, rfl, rfl, rfl, trivial⟩ ?_
    refine SC.no (show some (Value.bool ((((t - (n : Int)) % 16) : Int) != t)) = some (Value.bool false) from congrArg (fun x => some (Value.bool x)) (bne_f (by omega))) ?_
    refine SC.exit ?_
    refine SE.passe ?_
    refine SE.passe ?_
    refine SE.blke ?_
    refine SC.of_SE ?_
    refine SC.norm [(6, bo false)] _ ⟨rfl, trivial⟩ rfl ?_
    refine SC.sr ?_
    refine SL.as ?_
    refine SL.nn [(6, bo false)] _ ⟨rfl, trivial⟩ ?_
    refine SC.ret ?_
    refine SE.res (.inl rfl) (res1 Try.results83 rfl) fun w1 hI => ⟨ret_bo ?_, hI.2⟩
    exact congrArg (!·) (host_yes hi ht (fun j h1 h2 => hne j (by omega) h2))
  refine SC.seq ?_
  refine SC.sr ?_
  refine SL.mv ?_
  refine SL.mv ?_
  refine SL.uu (ru_ne (b := ((((t - (n : Int)) % 16) : Int) != t)) rfl rfl rfl rfl) ?_
  refine SL.nn [(0, iw i), (2, iw t), (6, bo false), (7, iw ((t - (n : Int)) % 16)), (11, bo ((((t - (n : Int)) % 16) : Int) != t))] _ ⟨rfl, rfl, rfl, rfl, rfl, trivial⟩ ?_
  refine SC.yes (show some (Value.bool ((((t - (n : Int)) % 16) : Int) != t)) = some (Value.bool true) from congrArg (fun x => some (Value.bool x)) (bne_t (by omega))) ?_
  refine SC.skip ?_
  refine SC.of_SE ?_
  refine SC.norm [(0, iw i), (2, iw t), (6, bo false), (7, iw ((t - (n : Int)) % 16))] _ ⟨rfl, rfl, rfl, rfl, trivial⟩ rfl ?_
  refine SC.seq ?_
  refine SC.block ?_
  refine SC.sr ?_
  refine SL.mv ?_
  refine SL.mv ?_
  refine SL.uu (ru_eq (b := ((((t - (n : Int)) % 16) : Int) == i)) rfl rfl rfl rfl) ?_
  refine SL.nn [(0, iw i), (2, iw t), (6, bo false), (7, iw ((t - (n : Int)) % 16)), (17, bo ((((t - (n : Int)) % 16) : Int) == i))] _ ⟨rfl, rfl, rfl, rfl, rfl, trivial⟩ ?_
  refine SC.both ((((t - (n : Int)) % 16) : Int) == i) rfl (fun h1 => ?_) (fun h1 => ?_)
  · skip
    have hq := dev_e h1
    refine SC.sr ?_
    refine SL.as ?_
    refine SL.nn [(0, iw i), (2, iw t), (6, bo true), (7, iw ((t - (n : Int)) % 16))] _ ⟨rfl, rfl, rfl, rfl, trivial⟩ ?_
    refine SC.ret ?_
    refine SE.blkr ?_
    refine SE.passr ?_
    refine SE.passr ?_
    refine SE.blkr ?_
    refine SE.passr ?_
    refine SE.res (.inl rfl) (res1 Try.results83 rfl) fun w1 hI => ⟨ret_bo ?_, hI.2⟩
    exact congrArg (!·) (host_no h0 hn hq)
  have hq := dev_q h1
  refine SC.skip ?_
  refine SE.blkn ?_
  refine SC.of_SE ?_
  refine SC.norm [(0, iw i), (2, iw t), (6, bo false), (7, iw ((t - (n : Int)) % 16))] _ ⟨rfl, rfl, rfl, rfl, trivial⟩ rfl ?_
  refine SC.region ?_
  refine SL.mv ?_
  refine SL.uu (ru_add (r := (IntKind.i64.wrap (((t - (n : Int)) % 16) + 1))) rfl rfl rfl rfl) ?_
  refine SL.uu (ru_rem (r := (Int.tmod (IntKind.i64.wrap (((t - (n : Int)) % 16) + 1)) 16)) rfl rfl rfl (by decide) rfl) ?_
  refine SL.as ?_
  refine SL.nil ?_
  refine SE.again (n - 1) () (by omega) ⟨by omega, fun j h1 h2 => ?_⟩ ⟨rfl, rfl, rfl, (congrArg (fun x => some (iw x)) (show Int.tmod (IntKind.i64.wrap (((t - (n : Int)) % 16) + 1)) 16 = (t - (((n - 1 : Nat) : Int) : Int)) % 16 from dev_nx (by omega))), trivial⟩ rfl
  by_cases e : j = n
  · subst e; simpa using hq
  · exact hne j (by omega) h2

end Go.Proofs.Ytghfkgcaglabpaa

/-
  A device's ends where a frame was laid down in bytes of one's own; its events.
-/
namespace Go.Proofs.Ytghfkgcaglabpaa
open Go.RowKit

theorem appV_new {t : World} {e : TypeId} {n k : Nat} (h : k ≤ t.heap.size) : ∀ b, (appV t e n).ownBlock = some b → k ≤ b := fun b hb => by have := appV_own hb; omega
theorem nil_in {S : Nat → Prop} {n c : Nat} : sliceIn (.slice none n c) S := fun b o n c e _ => by simp at e
theorem mine_in {v : Value} {S : Nat → Prop} (h : ∀ b, v.ownBlock = some b → S b) : sliceIn v S := fun b o n c e _ => h b (by rw [e]; rfl)
theorem NicAt.fin_txM {T U : TypeId} {w w' : World} {d n i : Nat} {F : Nat → Prop} {A : NicA} {tv cv : Nat → Value} {f : List UInt8} {v : Value} (hf : f.length ≤ 140737488351232) (hg : ∀ b, v.ownBlock = some b → w.heap.size ≤ b)
    (h : Inv ⟨n, w, fun b => b = d⟩ w' [rBlk d (nc A (up tv i v) cv) T, rFrs F tv cv A.tb A.cb, rMine v f U]) : NicTo T w d F { A with tb := up A.tb i f } w' := by
  have hd := h.1.2
  simp only [List.pairwise_cons] at hd
  have h1 : Blk w' d (nc A (up tv i v) cv) T := h.1.1 (rBlk d (nc A (up tv i v) cv) T) (by simp)
  have h2 : FrsAt w' F tv cv A.tb A.cb := h.1.1 (rFrs F tv cv A.tb A.cb) (by simp)
  have h3 : OwnBytes w' 0 U v f := h.1.1 (rMine v f U) (by simp)
  refine ⟨fun b => F b ∨ v.ownBlock = some b, ⟨up tv i v, cv, h1, ?_, ?_, ?_, ?_⟩, fun b hb => hb.imp id (fun e => hg b e), h.2⟩
  · rintro (hF | e)
    · exact hd.1 (rFrs F tv cv A.tb A.cb) (by simp) d rfl hF
    · exact hd.1 (rMine v f U) (by simp) d rfl e
  · rintro b (hF | e)
    · exact h2.1 b hF
    · exact (World.ownsRow.lt h3 b e).2
  · intro j hj
    by_cases e : j = i
    · subst e
      show BytesAt w' (up tv j _ j) (up A.tb j f j) ∧ sliceIn (up tv j _ j) _
      rw [up_same, up_same]
      exact ⟨h3.bytes hf, mine_in fun b hb => .inr hb⟩
    · show BytesAt w' (up tv i _ j) (up A.tb i f j) ∧ sliceIn (up tv i _ j) _
      rw [up_ne _ _ e, up_ne _ _ e]
      exact ⟨(h2.2.1 j hj).1, fun b o n c hv hn => .inl ((h2.2.1 j hj).2 b o n c hv hn)⟩
  · intro j hj
    exact ⟨(h2.2.2 j hj).1, fun b o n c hv hn => .inl ((h2.2.2 j hj).2 b o n c hv hn)⟩
theorem NicAt.fin_rxM {T U : TypeId} {w w' : World} {d n i : Nat} {F : Nat → Prop} {A : NicA} {tv cv : Nat → Value} {f : List UInt8} {v : Value} (hf : f.length ≤ 140737488351232) (hg : ∀ b, v.ownBlock = some b → w.heap.size ≤ b)
    (h : Inv ⟨n, w, fun b => b = d⟩ w' [rBlk d (nc A tv (up cv i v)) T, rFrs F tv cv A.tb A.cb, rMine v f U]) : NicTo T w d F { A with cb := up A.cb i f } w' := by
  have hd := h.1.2
  simp only [List.pairwise_cons] at hd
  have h1 : Blk w' d (nc A tv (up cv i v)) T := h.1.1 (rBlk d (nc A tv (up cv i v)) T) (by simp)
  have h2 : FrsAt w' F tv cv A.tb A.cb := h.1.1 (rFrs F tv cv A.tb A.cb) (by simp)
  have h3 : OwnBytes w' 0 U v f := h.1.1 (rMine v f U) (by simp)
  refine ⟨fun b => F b ∨ v.ownBlock = some b, ⟨tv, up cv i v, h1, ?_, ?_, ?_, ?_⟩, fun b hb => hb.imp id (fun e => hg b e), h.2⟩
  · rintro (hF | e)
    · exact hd.1 (rFrs F tv cv A.tb A.cb) (by simp) d rfl hF
    · exact hd.1 (rMine v f U) (by simp) d rfl e
  · rintro b (hF | e)
    · exact h2.1 b hF
    · exact (World.ownsRow.lt h3 b e).2
  · intro j hj
    exact ⟨(h2.2.1 j hj).1, fun b o n c hv hn => .inl ((h2.2.1 j hj).2 b o n c hv hn)⟩
  · intro j hj
    by_cases e : j = i
    · subst e
      show BytesAt w' (up cv j _ j) (up A.cb j f j) ∧ sliceIn (up cv j _ j) _
      rw [up_same, up_same]
      exact ⟨h3.bytes hf, mine_in fun b hb => .inr hb⟩
    · show BytesAt w' (up cv i _ j) (up A.cb i f j) ∧ sliceIn (up cv i _ j) _
      rw [up_ne _ _ e, up_ne _ _ e]
      exact ⟨(h2.2.2 j hj).1, fun b o n c hv hn => .inl ((h2.2.2 j hj).2 b o n c hv hn)⟩
theorem nx_q {x : Int} (h : 0 ≤ x ∧ x < 16) : Int.tmod (IntKind.i64.wrap (x + 1)) 16 = nx x := by
  rw [IntKind.wrap_i64, Int.tmod_eq_emod_of_nonneg (by omega)]; unfold nx; omega
theorem host_in3 {i : Int} {x y : Bool} (e : (((decide ((i : Int) < 0) || decide ((16 : Int) ≤ i)) || x) || y) = false) : 0 ≤ i ∧ i < 16 := by
  simp only [Bool.or_eq_false_iff, decide_eq_false_iff_not] at e; omega
section
variable {x : Int} (h : 0 ≤ x ∧ x < 8)
include h
theorem ev_t1 (e : ((Int.tmod (IntKind.i64.wrap (Int.tdiv x 1)) 2 : Int) == 0) = true) : IntKind.i64.wrap (x + 1) = ev x 1 := by
  obtain ⟨n, hn, rfl⟩ : ∃ n : Nat, n < 8 ∧ x = (n : Int) := ⟨x.toNat, by omega, by omega⟩
  have k : ∀ k : Fin 8, ((Int.tmod (IntKind.i64.wrap (Int.tdiv (k.val : Int) 1)) 2 : Int) == 0) = true → IntKind.i64.wrap ((k.val : Int) + 1) = ev (k.val : Int) 1 := by decide +kernel
  exact k ⟨n, hn⟩ e
theorem ev_f1 (e : ((Int.tmod (IntKind.i64.wrap (Int.tdiv x 1)) 2 : Int) == 0) = false) : ev x 1 = x := by
  obtain ⟨n, hn, rfl⟩ : ∃ n : Nat, n < 8 ∧ x = (n : Int) := ⟨x.toNat, by omega, by omega⟩
  have k : ∀ k : Fin 8, ((Int.tmod (IntKind.i64.wrap (Int.tdiv (k.val : Int) 1)) 2 : Int) == 0) = false → ev (k.val : Int) 1 = (k.val : Int) := by decide +kernel
  exact k ⟨n, hn⟩ e
theorem ev_t2 (e : ((Int.tmod (IntKind.i64.wrap (Int.tdiv x 2)) 2 : Int) == 0) = true) : IntKind.i64.wrap (x + 2) = ev x 2 := by
  obtain ⟨n, hn, rfl⟩ : ∃ n : Nat, n < 8 ∧ x = (n : Int) := ⟨x.toNat, by omega, by omega⟩
  have k : ∀ k : Fin 8, ((Int.tmod (IntKind.i64.wrap (Int.tdiv (k.val : Int) 2)) 2 : Int) == 0) = true → IntKind.i64.wrap ((k.val : Int) + 2) = ev (k.val : Int) 2 := by decide +kernel
  exact k ⟨n, hn⟩ e
theorem ev_f2 (e : ((Int.tmod (IntKind.i64.wrap (Int.tdiv x 2)) 2 : Int) == 0) = false) : ev x 2 = x := by
  obtain ⟨n, hn, rfl⟩ : ∃ n : Nat, n < 8 ∧ x = (n : Int) := ⟨x.toNat, by omega, by omega⟩
  have k : ∀ k : Fin 8, ((Int.tmod (IntKind.i64.wrap (Int.tdiv (k.val : Int) 2)) 2 : Int) == 0) = false → ev (k.val : Int) 2 = (k.val : Int) := by decide +kernel
  exact k ⟨n, hn⟩ e
theorem ev_t4 (e : ((Int.tmod (IntKind.i64.wrap (Int.tdiv x 4)) 2 : Int) == 0) = true) : IntKind.i64.wrap (x + 4) = ev x 4 := by
  obtain ⟨n, hn, rfl⟩ : ∃ n : Nat, n < 8 ∧ x = (n : Int) := ⟨x.toNat, by omega, by omega⟩
  have k : ∀ k : Fin 8, ((Int.tmod (IntKind.i64.wrap (Int.tdiv (k.val : Int) 4)) 2 : Int) == 0) = true → IntKind.i64.wrap ((k.val : Int) + 4) = ev (k.val : Int) 4 := by decide +kernel
  exact k ⟨n, hn⟩ e
theorem ev_f4 (e : ((Int.tmod (IntKind.i64.wrap (Int.tdiv x 4)) 2 : Int) == 0) = false) : ev x 4 = x := by
  obtain ⟨n, hn, rfl⟩ : ∃ n : Nat, n < 8 ∧ x = (n : Int) := ⟨x.toNat, by omega, by omega⟩
  have k : ∀ k : Fin 8, ((Int.tmod (IntKind.i64.wrap (Int.tdiv (k.val : Int) 4)) 2 : Int) == 0) = false → ev (k.val : Int) 4 = (k.val : Int) := by decide +kernel
  exact k ⟨n, hn⟩ e
end
end Go.Proofs.Ytghfkgcaglabpaa

/-
  What a device's other calls do (the program's).
-/
namespace Go.Proofs.Ytghfkgcaglabpaa
open Go.RowKit
set_option maxRecDepth 100000
set_option maxHeartbeats 4000000
theorem p_settx {w : World} {d : Nat} {F : Nat → Prop} {A : NicA} (hk : NicOk A) (h : NicAt 99 w d F A) {v : Value} {f : List UInt8} (hb : BytesAt w v f) (hs : sliceIn v (fun b => ¬ b = d)) (i : Int) : Calls Try.prog 35 #[pt d 0, iw i, v] w fun e w' => e = .returned (iw (setTxF A i f).1) ∧ NicTo 99 w d F (setTxF A i f).2 w' := by
  have hok := hk
  obtain ⟨r2, r3, r4, r5, r6, _, _, _⟩ := hok
  obtain ⟨a, c, rfl⟩ := hb.form
  have hbl := hb.len
  obtain ⟨tv, cv, hI⟩ := h.inv 28 (fun b => b = d)
  refine calls_sc (l0 := _) (args := [pt d 0, iw i, Value.slice a f.length c]) (fun b => b = d) Try.func35 rfl 28 Try.ntmps35 (le_b rfl) hI ?_
  show SC _ _ _ _ [(0, pt d 0), (1, iw i), (2, Value.slice a f.length c)] [rBlk d (nc A tv cv) 99, rFrs F tv cv A.tb A.cb]
  refine SC.sr ?_
  refine SL.as ?_
  refine SL.nn [(0, pt d 0), (1, iw i), (2, Value.slice a f.length c), (6, iw 0)] [rBlk d (nc A tv cv) 99, rFrs F tv cv A.tb A.cb] ⟨rfl, rfl, rfl, rfl, trivial⟩ ?_
  refine SC.seq ?_
  refine SC.block ?_
  refine SC.sr ?_
  refine SL.mv ?_
  refine SL.mv ?_
  refine SL.callv (bo (hostB i (A.r 4) (A.r 5))) rfl rfl co64 rfl rfl rfl (lt_b rfl) (fun w hI => H_only hI (p_hosttx hk (NicAt.of hI) i)) ?_
  refine SL.uu (ru_not (c := (!(hostB i (A.r 4) (A.r 5)))) rfl rfl rfl) ?_
  refine SL.as ?_
  refine SL.nn [(0, pt d 0), (1, iw i), (2, Value.slice a f.length c), (6, iw 0), (7, bo (!(hostB i (A.r 4) (A.r 5))))] _ ⟨rfl, rfl, rfl, rfl, rfl, trivial⟩ ?_
  refine SC.both (!(hostB i (A.r 4) (A.r 5))) rfl (fun h1 => ?_) (fun h1 => ?_)
  · skip
    refine SC.sr ?_
    refine SL.as ?_
    refine SL.nn [(0, pt d 0), (1, iw i), (2, Value.slice a f.length c), (6, iw 1)] _ ⟨rfl, rfl, rfl, rfl, trivial⟩ ?_
    refine SC.ret ?_
    refine SE.blkr ?_
    refine SE.passr ?_
    refine SE.res (.inl rfl) (res1 Try.results35 rfl) fun w1 hI => ?_
    have e : setTxF A i f = (1, A) := by
      try simp at h1
      unfold setTxF
      (repeat' split) <;> first | rfl | (exfalso; omega) | (exfalso; simp_all; done) | (exfalso; simp_all; omega)
    rw [e]
    exact ⟨rfl, NicAt.fin hI⟩
  have hi := host_bd1 h1
  refine SC.sr ?_
  refine SL.mv ?_
  refine SL.uu (ru_len Try.underlying28 rfl rfl) ?_
  refine SL.uu (ru_eq (b := (((f.length : Int) : Int) == 0)) rfl rfl rfl rfl) ?_
  refine SL.as ?_
  refine SL.nn [(0, pt d 0), (1, iw i), (2, Value.slice a f.length c), (6, iw 0), (12, bo (((f.length : Int) : Int) == 0))] _ ⟨rfl, rfl, rfl, rfl, rfl, trivial⟩ ?_
  refine SC.both (((f.length : Int) : Int) == 0) rfl (fun h2 => ?_) (fun h2 => ?_)
  · skip
    refine SC.sr ?_
    refine SL.as ?_
    refine SL.nn [(0, pt d 0), (1, iw i), (2, Value.slice a f.length c), (6, iw 3)] _ ⟨rfl, rfl, rfl, rfl, trivial⟩ ?_
    refine SC.ret ?_
    refine SE.blkr ?_
    refine SE.passr ?_
    refine SE.res (.inl rfl) (res1 Try.results35 rfl) fun w1 hI => ?_
    have e : setTxF A i f = (3, A) := by
      try simp at h1 h2
      unfold setTxF
      (repeat' split) <;> first | rfl | (exfalso; omega) | (exfalso; simp_all; done) | (exfalso; simp_all; omega)
    rw [e]
    exact ⟨rfl, NicAt.fin hI⟩
  refine SC.sr ?_
  refine SL.mv ?_
  refine SL.uu (ru_len Try.underlying28 rfl rfl) ?_
  refine SL.uu (ru_gt (b := (decide ((274 : Int) < (f.length : Int)))) rfl rfl rfl rfl) ?_
  refine SL.as ?_
  refine SL.nn [(0, pt d 0), (1, iw i), (2, Value.slice a f.length c), (6, iw 0), (16, bo (decide ((274 : Int) < (f.length : Int))))] _ ⟨rfl, rfl, rfl, rfl, rfl, trivial⟩ ?_
  refine SC.both (decide ((274 : Int) < (f.length : Int))) rfl (fun h3 => ?_) (fun h3 => ?_)
  · skip
    refine SC.sr ?_
    refine SL.as ?_
    refine SL.nn [(0, pt d 0), (1, iw i), (2, Value.slice a f.length c), (6, iw 2)] _ ⟨rfl, rfl, rfl, rfl, trivial⟩ ?_
    refine SC.ret ?_
    refine SE.blkr ?_
    refine SE.passr ?_
    refine SE.res (.inl rfl) (res1 Try.results35 rfl) fun w1 hI => ?_
    have e : setTxF A i f = (2, A) := by
      try simp at h1 h2 h3
      unfold setTxF
      (repeat' split) <;> first | rfl | (exfalso; omega) | (exfalso; simp_all; done) | (exfalso; simp_all; omega)
    rw [e]
    exact ⟨rfl, NicAt.fin hI⟩
  refine SC.skip ?_
  refine SE.blkn ?_
  refine SC.of_SE ?_
  refine SC.norm [(0, pt d 0), (1, iw i), (2, Value.slice a f.length c), (6, iw 0)] _ ⟨rfl, rfl, rfl, rfl, trivial⟩ rfl ?_
  refine SC.seq ?_
  refine SC.region_alloc 8 3 (fun b4 => rBlk b4 (f.map bv) 5) (by kernel_rfl) (by kernel_rfl) rfl (fun b4 hb4 => ?_)
  refine SS.ru _ CA.base rfl rfl rfl (lt_b rfl) (ru_move rfl rfl) ?_
  refine SS.ru _ CA.base rfl rfl rfl (lt_b rfl) (ru_move rfl rfl) ?_
  refine SS.ru _ CA.base rfl rfl rfl (lt_b rfl) (ru_move rfl rfl) ?_
  refine SS.newcall (sl b4 0 f.length f.length) rfl rfl co43 rfl rfl rfl (lt_b rfl) (fun w hI hz => (copied_any (hb.only hI.2 hs)).mono fun e w2 ⟨h1, h2, h3⟩ => ⟨by rw [h1, hz], hI.add h3 (hz ▸ h2) (fun q hq => by cases hq; rw [hz]; exact Nat.le_refl _)⟩) ?_
  refine SS.ru _ CA.base rfl rfl rfl (lt_b rfl) (ru_nilCheck rfl rfl) ?_
  refine SS.ru _ CA.base rfl rfl rfl (lt_b rfl) (ru_fieldAddr (o2 := 8) fd99_1 rfl rfl rfl) ?_
  refine SS.ru _ CA.base rfl rfl rfl (lt_b rfl) (ru_indexA (o2 := 8 + i.toNat * 2) ar94 rfl rfl rfl (by omega) (by omega) rfl) ?_
  refine SS.ru _ CA.base rfl rfl rfl (lt_b rfl) (ru_fieldAddr (o2 := (8 + i.toNat * 2)) fd93_0 rfl rfl rfl) ?_
  refine SS.nilA ?_
  refine SL.store (i := 0) (c' := (nc A (up tv i.toNat (sl b4 0 f.length f.length)) cv)) rfl rfl ts28 rfl rfl rfl rfl rfl (by rw [nc_len]; omega) (.inl rfl) (set_tv (by omega) (sl b4 0 f.length f.length)) ?_
  refine SL.nn [(6, iw 0)] [rBlk d (nc A (up tv i.toNat (sl b4 0 f.length f.length)) cv) 99, rFrs F tv cv A.tb A.cb, rBlk b4 (f.map bv) 5] ⟨rfl, trivial⟩ ?_
  refine SC.sr ?_
  refine SL.as ?_
  refine SL.nn [(6, iw 0)] _ ⟨rfl, trivial⟩ ?_
  refine SC.ret ?_
  refine SE.res (.inl rfl) (res1 Try.results35 rfl) fun w1 hI => ?_
  have e : setTxF A i f = (0, { A with tb := up A.tb i.toNat f }) := by
    try simp at h1 h2 h3
    unfold setTxF
    (repeat' split) <;> first | rfl | (exfalso; omega) | (exfalso; simp_all; done) | (exfalso; simp_all; omega)
  rw [e]
  exact ⟨rfl, NicAt.fin_tx hbl hb4 hI⟩

theorem p_setrx {w : World} {d : Nat} {F : Nat → Prop} {A : NicA} (hk : NicOk A) (h : NicAt 99 w d F A) (i room : Int) : Calls Try.prog 79 #[pt d 0, iw i, iw room] w fun e w' => e = .returned (iw (setRxF A i room).1) ∧ NicTo 99 w d F (setRxF A i room).2 w' := by
  have hok := hk
  obtain ⟨r2, r3, r4, r5, r6, _, _, _⟩ := hok
  obtain ⟨tv, cv, hI⟩ := h.inv 26 (fun b => b = d)
  refine calls_sc (l0 := _) (args := [pt d 0, iw i, iw room]) (fun b => b = d) Try.func79 rfl 26 Try.ntmps79 (le_b rfl) hI ?_
  show SC _ _ _ _ [(0, pt d 0), (1, iw i), (2, iw room)] [rBlk d (nc A tv cv) 99, rFrs F tv cv A.tb A.cb]
  refine SC.sr ?_
  refine SL.as ?_
  refine SL.nn [(0, pt d 0), (1, iw i), (2, iw room), (6, iw 0)] [rBlk d (nc A tv cv) 99, rFrs F tv cv A.tb A.cb] ⟨rfl, rfl, rfl, rfl, trivial⟩ ?_
  refine SC.seq ?_
  refine SC.sr ?_
  refine SL.mv ?_
  refine SL.mv ?_
  refine SL.callv (bo (hostB i (A.r 2) (A.r 3))) rfl rfl co64 rfl rfl rfl (lt_b rfl) (fun w hI => H_only hI (p_hostrx hk (NicAt.of hI) i)) ?_
  refine SL.uu (ru_not (c := (!(hostB i (A.r 2) (A.r 3)))) rfl rfl rfl) ?_
  refine SL.mv ?_
  refine SL.join 3 [(0, pt d 0), (1, iw i), (2, iw room), (6, iw 0), (7, pt d 0), (8, iw i), (9, bo (hostB i (A.r 2) (A.r 3))), (10, bo (!(hostB i (A.r 2) (A.r 3)))), (11, bo (!(hostB i (A.r 2) (A.r 3)))), (14, bo ((!(hostB i (A.r 2) (A.r 3))) || (decide ((room : Int) < 0))))] [rBlk d (nc A tv cv) 99, rFrs F tv cv A.tb A.cb] ?_ ?_
  rotate_left
  · intro K hK
    rcases tf (!(hostB i (A.r 2) (A.r 3))) with h1 | h1
    · skip
      refine SL.norm [(0, pt d 0), (1, iw i), (2, iw room), (6, iw 0), (7, pt d 0), (8, iw i), (9, bo (hostB i (A.r 2) (A.r 3))), (10, bo true), (11, bo true)] _ ⟨rfl, rfl, rfl, rfl, rfl, rfl, rfl, (congrArg (fun x => some (Value.bool x)) h1), (congrArg (fun x => some (Value.bool x)) h1), trivial⟩ rfl ?_
      refine SL.off (b := true) rfl rfl rfl rfl rfl (lt_b rfl) ?_
      refine SL.off (b := true) rfl rfl rfl rfl rfl (lt_b rfl) ?_
      refine SL.uu (ru_pick (u := bo true) (v := undef) rfl rfl rfl rfl) ?_
      exact SL.joined hK ⟨rfl, rfl, rfl, rfl, rfl, rfl, rfl, (congrArg (fun x => some (Value.bool x)) h1.symm), (congrArg (fun x => some (Value.bool x)) h1.symm), (congrArg (fun x => some (Value.bool (x || (decide ((room : Int) < 0))))) h1.symm), trivial⟩ rfl
    refine SL.norm [(0, pt d 0), (1, iw i), (2, iw room), (6, iw 0), (7, pt d 0), (8, iw i), (9, bo (hostB i (A.r 2) (A.r 3))), (10, bo false), (11, bo false)] _ ⟨rfl, rfl, rfl, rfl, rfl, rfl, rfl, (congrArg (fun x => some (Value.bool x)) h1), (congrArg (fun x => some (Value.bool x)) h1), trivial⟩ rfl ?_
    refine SL.rug rfl rfl rfl rfl (lt_b rfl) (ru_move rfl rfl) ?_
    refine SL.rug rfl rfl rfl rfl (lt_b rfl) (ru_lt (b := (decide ((room : Int) < 0))) rfl rfl rfl rfl) ?_
    refine SL.uu (ru_pick (u := bo true) (v := bo (decide ((room : Int) < 0))) rfl rfl rfl rfl) ?_
    exact SL.joined hK ⟨rfl, rfl, rfl, rfl, rfl, rfl, rfl, (congrArg (fun x => some (Value.bool x)) h1.symm), (congrArg (fun x => some (Value.bool x)) h1.symm), (congrArg (fun x => some (Value.bool (x || (decide ((room : Int) < 0))))) h1.symm), trivial⟩ rfl
  skip
  refine SL.mv ?_
  refine SL.join 3 [(0, pt d 0), (1, iw i), (2, iw room), (6, iw 0), (7, pt d 0), (8, iw i), (9, bo (hostB i (A.r 2) (A.r 3))), (10, bo (!(hostB i (A.r 2) (A.r 3)))), (11, bo (!(hostB i (A.r 2) (A.r 3)))), (14, bo ((!(hostB i (A.r 2) (A.r 3))) || (decide ((room : Int) < 0)))), (15, bo ((!(hostB i (A.r 2) (A.r 3))) || (decide ((room : Int) < 0)))), (18, bo (((!(hostB i (A.r 2) (A.r 3))) || (decide ((room : Int) < 0))) || (decide ((65535 : Int) < room))))] [rBlk d (nc A tv cv) 99, rFrs F tv cv A.tb A.cb] ?_ ?_
  rotate_left
  · intro K hK
    rcases tf ((!(hostB i (A.r 2) (A.r 3))) || (decide ((room : Int) < 0))) with h2 | h2
    · skip
      refine SL.norm [(0, pt d 0), (1, iw i), (2, iw room), (6, iw 0), (7, pt d 0), (8, iw i), (9, bo (hostB i (A.r 2) (A.r 3))), (10, bo (!(hostB i (A.r 2) (A.r 3)))), (11, bo (!(hostB i (A.r 2) (A.r 3)))), (14, bo true), (15, bo true)] _ ⟨rfl, rfl, rfl, rfl, rfl, rfl, rfl, rfl, rfl, (congrArg (fun x => some (Value.bool x)) h2), (congrArg (fun x => some (Value.bool x)) h2), trivial⟩ rfl ?_
      refine SL.off (b := true) rfl rfl rfl rfl rfl (lt_b rfl) ?_
      refine SL.off (b := true) rfl rfl rfl rfl rfl (lt_b rfl) ?_
      refine SL.uu (ru_pick (u := bo true) (v := undef) rfl rfl rfl rfl) ?_
      exact SL.joined hK ⟨rfl, rfl, rfl, rfl, rfl, rfl, rfl, rfl, rfl, (congrArg (fun x => some (Value.bool x)) h2.symm), (congrArg (fun x => some (Value.bool x)) h2.symm), (congrArg (fun x => some (Value.bool (x || (decide ((65535 : Int) < room))))) h2.symm), trivial⟩ rfl
    refine SL.norm [(0, pt d 0), (1, iw i), (2, iw room), (6, iw 0), (7, pt d 0), (8, iw i), (9, bo (hostB i (A.r 2) (A.r 3))), (10, bo (!(hostB i (A.r 2) (A.r 3)))), (11, bo (!(hostB i (A.r 2) (A.r 3)))), (14, bo false), (15, bo false)] _ ⟨rfl, rfl, rfl, rfl, rfl, rfl, rfl, rfl, rfl, (congrArg (fun x => some (Value.bool x)) h2), (congrArg (fun x => some (Value.bool x)) h2), trivial⟩ rfl ?_
    refine SL.rug rfl rfl rfl rfl (lt_b rfl) (ru_move rfl rfl) ?_
    refine SL.rug rfl rfl rfl rfl (lt_b rfl) (ru_gt (b := (decide ((65535 : Int) < room))) rfl rfl rfl rfl) ?_
    refine SL.uu (ru_pick (u := bo true) (v := bo (decide ((65535 : Int) < room))) rfl rfl rfl rfl) ?_
    exact SL.joined hK ⟨rfl, rfl, rfl, rfl, rfl, rfl, rfl, rfl, rfl, (congrArg (fun x => some (Value.bool x)) h2.symm), (congrArg (fun x => some (Value.bool x)) h2.symm), (congrArg (fun x => some (Value.bool (x || (decide ((65535 : Int) < room))))) h2.symm), trivial⟩ rfl
  skip
  refine SL.nn [(0, pt d 0), (1, iw i), (2, iw room), (6, iw 0), (18, bo (((!(hostB i (A.r 2) (A.r 3))) || (decide ((room : Int) < 0))) || (decide ((65535 : Int) < room))))] _ ⟨rfl, rfl, rfl, rfl, rfl, trivial⟩ ?_
  refine SC.both (((!(hostB i (A.r 2) (A.r 3))) || (decide ((room : Int) < 0))) || (decide ((65535 : Int) < room))) rfl (fun h3 => ?_) (fun h3 => ?_)
  · skip
    refine SC.sr ?_
    refine SL.as ?_
    refine SL.nn [(0, pt d 0), (1, iw i), (2, iw room), (6, iw 1)] _ ⟨rfl, rfl, rfl, rfl, trivial⟩ ?_
    refine SC.ret ?_
    refine SE.passr ?_
    refine SE.res (.inl rfl) (res1 Try.results79 rfl) fun w1 hI => ?_
    have e : setRxF A i room = (1, A) := by
      try simp at h3
      unfold setRxF
      (repeat' split) <;> first | rfl | (exfalso; omega) | (exfalso; simp_all; done) | (exfalso; simp_all; omega)
    rw [e]
    exact ⟨rfl, NicAt.fin hI⟩
  have hi := host_bd3 h3
  refine SC.skip ?_
  refine SC.of_SE ?_
  refine SC.norm [(0, pt d 0), (1, iw i), (2, iw room), (6, iw 0)] _ ⟨rfl, rfl, rfl, rfl, trivial⟩ rfl ?_
  refine SC.sr ?_
  refine SL.mv ?_
  refine SL.mv ?_
  refine SL.mv ?_
  refine SL.uu (ru_build (vals := [(0, iw room)]) (cells := [iw room, bo false, Value.slice none 0 0, bo false]) rfl rfl (by kernel_rfl)) ?_
  refine SL.nk ?_
  refine SL.uu (ru_fieldAddr (o2 := 40) fd99_2 rfl rfl rfl) ?_
  refine SL.uu (ru_indexA (o2 := 40 + i.toNat * 4) ar97 rfl rfl rfl (by omega) (by omega) rfl) ?_
  refine SL.storea (i := 0) (vs := [iw room, bo false, Value.slice none 0 0, bo false]) (c' := (nc { A with room := up A.room i.toNat room, has := up A.has i.toNat false, bad := up A.bad i.toNat false } tv (up cv i.toNat (Value.slice none 0 0)))) rfl rfl ta96 rfl rfl rfl rfl rfl rfl (by rw [nc_len]; simp; omega) (.inl rfl) (set_rx (by omega) room false false (Value.slice none 0 0)) ?_
  refine SL.nn [(6, iw 0)] [rBlk d (nc { A with room := up A.room i.toNat room, has := up A.has i.toNat false, bad := up A.bad i.toNat false } tv (up cv i.toNat (Value.slice none 0 0))) 99, rFrs F tv cv A.tb A.cb] ⟨rfl, trivial⟩ ?_
  refine SC.sr ?_
  refine SL.as ?_
  refine SL.nn [(6, iw 0)] _ ⟨rfl, trivial⟩ ?_
  refine SC.ret ?_
  refine SE.res (.inl rfl) (res1 Try.results79 rfl) fun w1 hI => ?_
  have e : setRxF A i room = (0, { A with cb := up A.cb i.toNat [], room := up A.room i.toNat room, has := up A.has i.toNat false, bad := up A.bad i.toNat false }) := by
    try simp at h3
    unfold setRxF
    (repeat' split) <;> first | rfl | (exfalso; omega) | (exfalso; simp_all; done) | (exfalso; simp_all; omega)
  rw [e]
  exact ⟨rfl, NicAt.fin_no hI⟩

theorem p_give {w : World} {d : Nat} {F : Nat → Prop} {A : NicA} (hk : NicOk A) (h : NicAt 99 w d F A) {v : Value} {f : List UInt8} (hb : BytesAt w v f) (hs : sliceIn v (fun b => ¬ b = d)) (bad : Bool) : Calls Try.prog 13 #[pt d 0, v, bo bad] w fun e w' => e = .returned (iw (giveF A f bad).1) ∧ NicTo 99 w d F (giveF A f bad).2 w' := by
  have hok := hk
  obtain ⟨r2, r3, r4, r5, r6, _, _, _⟩ := hok
  obtain ⟨a, c, rfl⟩ := hb.form
  have hbl := hb.len
  obtain ⟨tv, cv, hI⟩ := h.inv 84 (fun b => b = d)
  refine calls_sc (l0 := _) (args := [pt d 0, Value.slice a f.length c, bo bad]) (fun b => b = d) Try.func13 rfl 84 Try.ntmps13 (le_b rfl) hI ?_
  show SC _ _ _ _ [(0, pt d 0), (1, Value.slice a f.length c), (2, bo bad)] [rBlk d (nc A tv cv) 99, rFrs F tv cv A.tb A.cb]
  refine SC.sr ?_
  refine SL.as ?_
  refine SL.nn [(0, pt d 0), (1, Value.slice a f.length c), (2, bo bad), (6, iw 0)] [rBlk d (nc A tv cv) 99, rFrs F tv cv A.tb A.cb] ⟨rfl, rfl, rfl, rfl, trivial⟩ ?_
  refine SC.sr ?_
  refine SL.mv ?_
  refine SL.nk ?_
  refine SL.uu (ru_fieldAddr (o2 := 0) fd99_0 rfl rfl rfl) ?_
  refine SL.uu (ru_indexA (o2 := 2) ar91 rfl rfl rfl (by decide) (by decide) rfl) ?_
  refine SL.uu (ru_load (i := 0) (v := iw (A.r 2)) ts3 rfl rfl rfl (nc_r (by decide))) ?_
  refine SL.as ?_
  refine SL.nn [(0, pt d 0), (1, Value.slice a f.length c), (2, bo bad), (6, iw 0), (7, iw (A.r 2))] _ ⟨rfl, rfl, rfl, rfl, rfl, trivial⟩ ?_
  refine SC.seq ?_
  refine SC.block ?_
  refine SC.sr ?_
  refine SL.mv ?_
  refine SL.callv (bo (offB A)) rfl rfl co41 rfl rfl rfl (lt_b rfl) (fun w hI => H_only hI (p_off hk (NicAt.of hI))) ?_
  refine SL.as ?_
  refine SL.nn [(0, pt d 0), (1, Value.slice a f.length c), (2, bo bad), (6, iw 0), (7, iw (A.r 2)), (13, bo (offB A))] _ ⟨rfl, rfl, rfl, rfl, rfl, rfl, trivial⟩ ?_
  refine SC.both (offB A) rfl (fun h1 => ?_) (fun h1 => ?_)
  · skip
    refine SC.sr ?_
    refine SL.as ?_
    refine SL.nn [(0, pt d 0), (1, Value.slice a f.length c), (2, bo bad), (6, iw 20), (7, iw (A.r 2))] _ ⟨rfl, rfl, rfl, rfl, rfl, trivial⟩ ?_
    refine SC.ret ?_
    refine SE.blkr ?_
    refine SE.passr ?_
    refine SE.res (.inl rfl) (res1 Try.results13 rfl) fun w1 hI => ?_
    have e : giveF A f bad = (20, A) := by
      try simp at h1
      unfold giveF
      (repeat' split) <;> first | rfl | (exfalso; omega) | (exfalso; simp_all; done) | (exfalso; simp_all; omega)
    rw [e]
    exact ⟨rfl, NicAt.fin hI⟩
  refine SC.sr ?_
  refine SL.mv ?_
  refine SL.mv ?_
  refine SL.nk ?_
  refine SL.uu (ru_fieldAddr (o2 := 0) fd99_0 rfl rfl rfl) ?_
  refine SL.uu (ru_indexA (o2 := 3) ar91 rfl rfl rfl (by decide) (by decide) rfl) ?_
  refine SL.uu (ru_load (i := 0) (v := iw (A.r 3)) ts3 rfl rfl rfl (nc_r (by decide))) ?_
  refine SL.uu (ru_eq (b := (((A.r 2) : Int) == (A.r 3))) rfl rfl rfl rfl) ?_
  refine SL.as ?_
  refine SL.nn [(0, pt d 0), (1, Value.slice a f.length c), (2, bo bad), (6, iw 0), (7, iw (A.r 2)), (16, bo (((A.r 2) : Int) == (A.r 3)))] _ ⟨rfl, rfl, rfl, rfl, rfl, rfl, trivial⟩ ?_
  refine SC.both (((A.r 2) : Int) == (A.r 3)) rfl (fun h2 => ?_) (fun h2 => ?_)
  · skip
    refine SC.seq ?_
    refine SC.region_tail 9 (by kernel_rfl) (by kernel_rfl) ?_
    refine SQ.ru rfl rfl (lt_b rfl) (ru_move rfl rfl) ?_
    refine SQ.ru rfl rfl (lt_b rfl) (ru_nilCheck rfl rfl) ?_
    refine SQ.ru rfl rfl (lt_b rfl) (ru_fieldAddr (o2 := 0) fd99_0 rfl rfl rfl) ?_
    refine SQ.ru rfl rfl (lt_b rfl) (ru_indexA (o2 := 7) ar91 rfl rfl rfl (by decide) (by decide) rfl) ?_
    refine SQ.ru rfl rfl (lt_b rfl) (ru_load (i := 0) (v := iw (A.r 7)) ts3 rfl rfl rfl (nc_r (by decide))) ?_
    refine SQ.ru rfl rfl (lt_b rfl) (ru_add (r := (IntKind.i64.wrap ((A.r 7) + 1))) rfl rfl rfl rfl) ?_
    refine SQ.ru rfl rfl (lt_b rfl) (ru_nilCheck rfl rfl) ?_
    refine SQ.ru rfl rfl (lt_b rfl) (ru_fieldAddr (o2 := 0) fd99_0 rfl rfl rfl) ?_
    refine SQ.ru rfl rfl (lt_b rfl) (ru_indexA (o2 := 7) ar91 rfl rfl rfl (by decide) (by decide) rfl) ?_
    refine SQ.nilL ?_
    refine SL.store (i := 0) (c' := (nc { A with r := up A.r 7 (IntKind.i64.wrap ((A.r 7) + 1)) } tv cv)) rfl rfl ts3 rfl rfl rfl rfl rfl (by rw [nc_len]; omega) (.inl rfl) (set_r (by decide) (IntKind.i64.wrap ((A.r 7) + 1))) ?_
    refine SL.nn [(0, pt d 0), (1, Value.slice a f.length c), (2, bo bad), (6, iw 0), (7, iw (A.r 2))] [rBlk d (nc { A with r := up A.r 7 (IntKind.i64.wrap ((A.r 7) + 1)) } tv cv) 99, rFrs F tv cv A.tb A.cb] ⟨rfl, rfl, rfl, rfl, rfl, trivial⟩ ?_
    refine SC.sr ?_
    refine SL.as ?_
    refine SL.nn [(0, pt d 0), (1, Value.slice a f.length c), (2, bo bad), (6, iw 21), (7, iw (A.r 2))] _ ⟨rfl, rfl, rfl, rfl, rfl, trivial⟩ ?_
    refine SC.ret ?_
    refine SE.blkr ?_
    refine SE.passr ?_
    refine SE.res (.inl rfl) (res1 Try.results13 rfl) fun w1 hI => ?_
    have e : giveF A f bad = (21, { A with r := up A.r 7 (IntKind.i64.wrap ((A.r 7) + 1)) }) := by
      try simp at h1 h2
      unfold giveF
      (repeat' split) <;> first | rfl | (exfalso; omega) | (exfalso; simp_all; done) | (exfalso; simp_all; omega)
    rw [e]
    exact ⟨rfl, NicAt.fin hI⟩
  refine SC.sr ?_
  refine SL.mv ?_
  refine SL.uu (ru_len Try.underlying28 rfl rfl) ?_
  refine SL.mv ?_
  refine SL.mv ?_
  refine SL.nk ?_
  refine SL.uu (ru_fieldAddr (o2 := 40) fd99_2 rfl rfl rfl) ?_
  refine SL.uu (ru_indexA (o2 := 40 + ((A.r 2).toNat) * 4) ar97 rfl rfl rfl (by omega) (by omega) rfl) ?_
  refine SL.uu (ru_fieldAddr (o2 := (40 + ((A.r 2).toNat) * 4)) fd96_0 rfl rfl rfl) ?_
  refine SL.uu (ru_load (i := 0) (v := iw (A.room ((A.r 2).toNat))) ts3 rfl rfl rfl (nc_room (by omega))) ?_
  refine SL.uu (ru_gt (b := (decide (((A.room ((A.r 2).toNat)) : Int) < (f.length : Int)))) rfl rfl rfl rfl) ?_
  refine SL.as ?_
  refine SL.nn [(0, pt d 0), (1, Value.slice a f.length c), (2, bo bad), (6, iw 0), (7, iw (A.r 2)), (33, bo (decide (((A.room ((A.r 2).toNat)) : Int) < (f.length : Int))))] _ ⟨rfl, rfl, rfl, rfl, rfl, rfl, trivial⟩ ?_
  refine SC.both (decide (((A.room ((A.r 2).toNat)) : Int) < (f.length : Int))) rfl (fun h3 => ?_) (fun h3 => ?_)
  · skip
    refine SC.seq ?_
    refine SC.region_tail 9 (by kernel_rfl) (by kernel_rfl) ?_
    refine SQ.ru rfl rfl (lt_b rfl) (ru_move rfl rfl) ?_
    refine SQ.ru rfl rfl (lt_b rfl) (ru_nilCheck rfl rfl) ?_
    refine SQ.ru rfl rfl (lt_b rfl) (ru_fieldAddr (o2 := 0) fd99_0 rfl rfl rfl) ?_
    refine SQ.ru rfl rfl (lt_b rfl) (ru_indexA (o2 := 7) ar91 rfl rfl rfl (by decide) (by decide) rfl) ?_
    refine SQ.ru rfl rfl (lt_b rfl) (ru_load (i := 0) (v := iw (A.r 7)) ts3 rfl rfl rfl (nc_r (by decide))) ?_
    refine SQ.ru rfl rfl (lt_b rfl) (ru_add (r := (IntKind.i64.wrap ((A.r 7) + 1))) rfl rfl rfl rfl) ?_
    refine SQ.ru rfl rfl (lt_b rfl) (ru_nilCheck rfl rfl) ?_
    refine SQ.ru rfl rfl (lt_b rfl) (ru_fieldAddr (o2 := 0) fd99_0 rfl rfl rfl) ?_
    refine SQ.ru rfl rfl (lt_b rfl) (ru_indexA (o2 := 7) ar91 rfl rfl rfl (by decide) (by decide) rfl) ?_
    refine SQ.nilL ?_
    refine SL.store (i := 0) (c' := (nc { A with r := up A.r 7 (IntKind.i64.wrap ((A.r 7) + 1)) } tv cv)) rfl rfl ts3 rfl rfl rfl rfl rfl (by rw [nc_len]; omega) (.inl rfl) (set_r (by decide) (IntKind.i64.wrap ((A.r 7) + 1))) ?_
    refine SL.nn [(0, pt d 0), (1, Value.slice a f.length c), (2, bo bad), (6, iw 0), (7, iw (A.r 2))] [rBlk d (nc { A with r := up A.r 7 (IntKind.i64.wrap ((A.r 7) + 1)) } tv cv) 99, rFrs F tv cv A.tb A.cb] ⟨rfl, rfl, rfl, rfl, rfl, trivial⟩ ?_
    refine SC.sr ?_
    refine SL.as ?_
    refine SL.nn [(0, pt d 0), (1, Value.slice a f.length c), (2, bo bad), (6, iw 2), (7, iw (A.r 2))] _ ⟨rfl, rfl, rfl, rfl, rfl, trivial⟩ ?_
    refine SC.ret ?_
    refine SE.blkr ?_
    refine SE.passr ?_
    refine SE.res (.inl rfl) (res1 Try.results13 rfl) fun w1 hI => ?_
    have e : giveF A f bad = (2, { A with r := up A.r 7 (IntKind.i64.wrap ((A.r 7) + 1)) }) := by
      try simp at h1 h2 h3
      unfold giveF
      (repeat' split) <;> first | rfl | (exfalso; omega) | (exfalso; simp_all; done) | (exfalso; simp_all; omega)
    rw [e]
    exact ⟨rfl, NicAt.fin hI⟩
  refine SC.skip ?_
  refine SE.blkn ?_
  refine SC.of_SE ?_
  refine SC.norm [(0, pt d 0), (1, Value.slice a f.length c), (2, bo bad), (6, iw 0), (7, iw (A.r 2))] _ ⟨rfl, rfl, rfl, rfl, rfl, trivial⟩ rfl ?_
  refine SC.seq ?_
  refine SC.region_alloc 16 10 (fun b4 => rBlk b4 (f.map bv) 5) (by kernel_rfl) (by kernel_rfl) rfl (fun b4 hb4 => ?_)
  refine SS.ru _ CA.base rfl rfl rfl (lt_b rfl) (ru_move rfl rfl) ?_
  refine SS.ru _ CA.base rfl rfl rfl (lt_b rfl) (ru_move rfl rfl) ?_
  refine SS.ru _ CA.base rfl rfl rfl (lt_b rfl) (ru_move rfl rfl) ?_
  refine SS.ru _ CA.base rfl rfl rfl (lt_b rfl) (ru_move rfl rfl) ?_
  refine SS.ru _ CA.base rfl rfl rfl (lt_b rfl) (ru_nilCheck rfl rfl) ?_
  refine SS.ru _ CA.base rfl rfl rfl (lt_b rfl) (ru_fieldAddr (o2 := 40) fd99_2 rfl rfl rfl) ?_
  refine SS.ru _ CA.base rfl rfl rfl (lt_b rfl) (ru_indexA (o2 := 40 + ((A.r 2).toNat) * 4) ar97 rfl rfl rfl (by omega) (by omega) rfl) ?_
  refine SS.ru _ CA.base rfl rfl rfl (lt_b rfl) (ru_fieldAddr (o2 := (40 + ((A.r 2).toNat) * 4)) fd96_0 rfl rfl rfl) ?_
  refine SS.ru _ CA.base rfl rfl rfl (lt_b rfl) (ru_load (i := 0) (v := iw (A.room ((A.r 2).toNat))) ts3 rfl rfl rfl (nc_room (by omega))) ?_
  refine SS.ru _ CA.base rfl rfl rfl (lt_b rfl) (ru_move rfl rfl) ?_
  refine SS.newcall (sl b4 0 f.length f.length) rfl rfl co43 rfl rfl rfl (lt_b rfl) (fun w hI hz => (copied_any (hb.only hI.2 hs)).mono fun e w2 ⟨h1, h2, h3⟩ => ⟨by rw [h1, hz], hI.add h3 (hz ▸ h2) (fun q hq => by cases hq; rw [hz]; exact Nat.le_refl _)⟩) ?_
  refine SS.ru _ CA.base rfl rfl rfl (lt_b rfl) (ru_move rfl rfl) ?_
  refine SS.ru _ CA.base rfl rfl rfl (lt_b rfl) (ru_build (vals := [(0, iw (A.room ((A.r 2).toNat))), (1, bo true), (2, sl b4 0 f.length f.length), (3, bo bad)]) (cells := [iw (A.room ((A.r 2).toNat)), bo true, sl b4 0 f.length f.length, bo bad]) rfl rfl (by kernel_rfl)) ?_
  refine SS.ru _ CA.base rfl rfl rfl (lt_b rfl) (ru_nilCheck rfl rfl) ?_
  refine SS.ru _ CA.base rfl rfl rfl (lt_b rfl) (ru_fieldAddr (o2 := 40) fd99_2 rfl rfl rfl) ?_
  refine SS.ru _ CA.base rfl rfl rfl (lt_b rfl) (ru_indexA (o2 := 40 + ((A.r 2).toNat) * 4) ar97 rfl rfl rfl (by omega) (by omega) rfl) ?_
  refine SS.nilA ?_
  refine SL.storea (i := 0) (vs := [iw (A.room ((A.r 2).toNat)), bo true, sl b4 0 f.length f.length, bo bad]) (c' := (nc { A with room := up A.room ((A.r 2).toNat) (A.room ((A.r 2).toNat)), has := up A.has ((A.r 2).toNat) true, bad := up A.bad ((A.r 2).toNat) bad } tv (up cv ((A.r 2).toNat) (sl b4 0 f.length f.length)))) rfl rfl ta96 rfl rfl rfl rfl rfl rfl (by rw [nc_len]; simp; omega) (.inl rfl) (set_rx (by omega) (A.room ((A.r 2).toNat)) true bad (sl b4 0 f.length f.length)) ?_
  refine SL.nn [(0, pt d 0), (6, iw 0), (7, iw (A.r 2))] [rBlk d (nc { A with room := up A.room ((A.r 2).toNat) (A.room ((A.r 2).toNat)), has := up A.has ((A.r 2).toNat) true, bad := up A.bad ((A.r 2).toNat) bad } tv (up cv ((A.r 2).toNat) (sl b4 0 f.length f.length))) 99, rFrs F tv cv A.tb A.cb, rBlk b4 (f.map bv) 5] ⟨rfl, rfl, rfl, trivial⟩ ?_
  refine SC.seq ?_
  refine SC.region_tail 6 (by kernel_rfl) (by kernel_rfl) ?_
  refine SQ.ru rfl rfl (lt_b rfl) (ru_move rfl rfl) ?_
  refine SQ.ru rfl rfl (lt_b rfl) (ru_move rfl rfl) ?_
  refine SQ.call (iw (nx (A.r 2))) rfl rfl co42 rfl rfl rfl (lt_b rfl) (fun w hI => H_same hI (next_any w (by omega))) ?_
  refine SQ.ru rfl rfl (lt_b rfl) (ru_nilCheck rfl rfl) ?_
  refine SQ.ru rfl rfl (lt_b rfl) (ru_fieldAddr (o2 := 0) fd99_0 rfl rfl rfl) ?_
  refine SQ.ru rfl rfl (lt_b rfl) (ru_indexA (o2 := 2) ar91 rfl rfl rfl (by decide) (by decide) rfl) ?_
  refine SQ.nilL ?_
  refine SL.store (i := 0) (c' := (nc { A with r := up A.r 2 (nx (A.r 2)), room := up A.room ((A.r 2).toNat) (A.room ((A.r 2).toNat)), has := up A.has ((A.r 2).toNat) true, bad := up A.bad ((A.r 2).toNat) bad } tv (up cv ((A.r 2).toNat) (sl b4 0 f.length f.length)))) rfl rfl ts3 rfl rfl rfl rfl rfl (by rw [nc_len]; omega) (.inl rfl) (set_r (by decide) (nx (A.r 2))) ?_
  refine SL.nn [(0, pt d 0), (6, iw 0)] [rBlk d (nc { A with r := up A.r 2 (nx (A.r 2)), room := up A.room ((A.r 2).toNat) (A.room ((A.r 2).toNat)), has := up A.has ((A.r 2).toNat) true, bad := up A.bad ((A.r 2).toNat) bad } tv (up cv ((A.r 2).toNat) (sl b4 0 f.length f.length))) 99, rFrs F tv cv A.tb A.cb, rBlk b4 (f.map bv) 5] ⟨rfl, rfl, trivial⟩ ?_
  refine SC.seq ?_
  refine SC.region_tail 9 (by kernel_rfl) (by kernel_rfl) ?_
  refine SQ.ru rfl rfl (lt_b rfl) (ru_move rfl rfl) ?_
  refine SQ.ru rfl rfl (lt_b rfl) (ru_nilCheck rfl rfl) ?_
  refine SQ.ru rfl rfl (lt_b rfl) (ru_fieldAddr (o2 := 0) fd99_0 rfl rfl rfl) ?_
  refine SQ.ru rfl rfl (lt_b rfl) (ru_indexA (o2 := 6) ar91 rfl rfl rfl (by decide) (by decide) rfl) ?_
  refine SQ.ru rfl rfl (lt_b rfl) (ru_load (i := 0) (v := iw (A.r 6)) ts3 rfl rfl rfl (nc_r (by decide))) ?_
  refine SQ.ru rfl rfl (lt_b rfl) (ru_or (r := (bits .or .i64 (A.r 6) 1)) rfl rfl rfl rfl) ?_
  refine SQ.ru rfl rfl (lt_b rfl) (ru_nilCheck rfl rfl) ?_
  refine SQ.ru rfl rfl (lt_b rfl) (ru_fieldAddr (o2 := 0) fd99_0 rfl rfl rfl) ?_
  refine SQ.ru rfl rfl (lt_b rfl) (ru_indexA (o2 := 6) ar91 rfl rfl rfl (by decide) (by decide) rfl) ?_
  refine SQ.nilL ?_
  refine SL.store (i := 0) (c' := (nc { A with r := up (up A.r 2 (nx (A.r 2))) 6 (bits .or .i64 (A.r 6) 1), room := up A.room ((A.r 2).toNat) (A.room ((A.r 2).toNat)), has := up A.has ((A.r 2).toNat) true, bad := up A.bad ((A.r 2).toNat) bad } tv (up cv ((A.r 2).toNat) (sl b4 0 f.length f.length)))) rfl rfl ts3 rfl rfl rfl rfl rfl (by rw [nc_len]; omega) (.inl rfl) (set_r (by decide) (bits .or .i64 (A.r 6) 1)) ?_
  refine SL.nn [(6, iw 0)] [rBlk d (nc { A with r := up (up A.r 2 (nx (A.r 2))) 6 (bits .or .i64 (A.r 6) 1), room := up A.room ((A.r 2).toNat) (A.room ((A.r 2).toNat)), has := up A.has ((A.r 2).toNat) true, bad := up A.bad ((A.r 2).toNat) bad } tv (up cv ((A.r 2).toNat) (sl b4 0 f.length f.length))) 99, rFrs F tv cv A.tb A.cb, rBlk b4 (f.map bv) 5] ⟨rfl, trivial⟩ ?_
  refine SC.sr ?_
  refine SL.as ?_
  refine SL.nn [(6, iw 0)] _ ⟨rfl, trivial⟩ ?_
  refine SC.ret ?_
  refine SE.res (.inl rfl) (res1 Try.results13 rfl) fun w1 hI => ?_
  have e : giveF A f bad = (0, { A with cb := up A.cb (A.r 2).toNat f, r := up (up A.r 2 (nx (A.r 2))) 6 (bits .or .i64 (A.r 6) 1), room := up A.room ((A.r 2).toNat) (A.room ((A.r 2).toNat)), has := up A.has ((A.r 2).toNat) true, bad := up A.bad ((A.r 2).toNat) bad }) := by
    try simp at h1 h2 h3
    unfold giveF
    (repeat' split) <;> first | rfl | (exfalso; omega) | (exfalso; simp_all; done) | (exfalso; simp_all; omega)
  rw [e]
  exact ⟨rfl, NicAt.fin_rx hbl hb4 hI⟩

theorem p_take {w : World} {d : Nat} {F : Nat → Prop} {A : NicA} (hk : NicOk A) (h : NicAt 99 w d F A)  : Calls Try.prog 12 #[pt d 0] w fun e w' => ∃ v, e = .returned (.tuple #[.agg #[v, bo false, iw (takeR A).1.1.2], iw (takeR A).1.2]) ∧ NicAt 99 w' d F (takeR A).2 ∧ Only (fun b => b = d) w w' ∧ Out 5 w w' v (takeR A).1.1.1 := by
  have hok := hk
  obtain ⟨r2, r3, r4, r5, r6, _, _, _⟩ := hok
  obtain ⟨tv, cv, hI⟩ := h.inv 54 (fun b => b = d)
  refine calls_sc (l0 := _) (args := [pt d 0]) (fun b => b = d) Try.func12 rfl 54 Try.ntmps12 (le_b rfl) hI ?_
  show SC _ _ _ _ [(0, pt d 0)] [rBlk d (nc A tv cv) 99, rFrs F tv cv A.tb A.cb]
  refine SC.sr ?_
  refine SL.alloca rfl rfl (lt_b rfl) ta49 rfl fun b1 hb1 => ?_
  refine SL.as ?_
  refine SL.nn [(0, pt d 0), (2, pt b1 0), (3, iw 0)] [rBlk d (nc A tv cv) 99, rFrs F tv cv A.tb A.cb, rBlk b1 [Value.slice none 0 0, bo false, iw 0] 49] ⟨rfl, rfl, rfl, trivial⟩ ?_
  refine SC.sr ?_
  refine SL.mv ?_
  refine SL.nk ?_
  refine SL.uu (ru_fieldAddr (o2 := 0) fd99_0 rfl rfl rfl) ?_
  refine SL.uu (ru_indexA (o2 := 4) ar91 rfl rfl rfl (by decide) (by decide) rfl) ?_
  refine SL.uu (ru_load (i := 0) (v := iw (A.r 4)) ts3 rfl rfl rfl (nc_r (by decide))) ?_
  refine SL.as ?_
  refine SL.nn [(0, pt d 0), (2, pt b1 0), (3, iw 0), (4, iw (A.r 4))] _ ⟨rfl, rfl, rfl, rfl, trivial⟩ ?_
  refine SC.seq ?_
  refine SC.block ?_
  refine SC.sr ?_
  refine SL.mv ?_
  refine SL.callv (bo (offB A)) rfl rfl co41 rfl rfl rfl (lt_b rfl) (fun w hI => H_only hI (p_off hk (NicAt.of hI))) ?_
  refine SL.as ?_
  refine SL.nn [(0, pt d 0), (2, pt b1 0), (3, iw 0), (4, iw (A.r 4)), (10, bo (offB A))] _ ⟨rfl, rfl, rfl, rfl, rfl, trivial⟩ ?_
  refine SC.both (offB A) rfl (fun h2 => ?_) (fun h2 => ?_)
  · skip
    refine SC.sr ?_
    refine SL.uu (ru_build (vals := []) (cells := [Value.slice none 0 0, bo false, iw 0]) rfl rfl (by kernel_rfl)) ?_
    refine SL.storea (i := 2) (vs := [Value.slice none 0 0, bo false, iw 0]) (c' := [Value.slice none 0 0, bo false, iw 0]) rfl rfl ta49 rfl rfl rfl rfl rfl rfl (le_b rfl) (.inr hb1) rfl ?_
    refine SL.as ?_
    refine SL.nn [(0, pt d 0), (2, pt b1 0), (3, iw 20), (4, iw (A.r 4))] _ ⟨rfl, rfl, rfl, rfl, trivial⟩ ?_
    refine SC.ret ?_
    refine SE.blkr ?_
    refine SE.passr ?_
    refine SE.res (.inl rfl) (res_ct (z := [Value.slice none 0 0, bo false, iw 0]) (c := [Value.slice none 0 0, bo false, iw 0]) Try.results12 ta49 rfl rfl 2 rfl rfl) fun w1 hI => ?_
    have e : takeR A = ((([], 0), 20), A) := by
      try simp at h2
      unfold takeR
      (repeat' split) <;> first | rfl | (exfalso; omega) | (exfalso; simp_all; done) | (exfalso; simp_all; omega)
    rw [e]
    exact ⟨_, rfl, NicAt.of hI, hI.2, .inl ⟨rfl, rfl⟩⟩
  refine SC.sr ?_
  refine SL.mv ?_
  refine SL.mv ?_
  refine SL.nk ?_
  refine SL.uu (ru_fieldAddr (o2 := 0) fd99_0 rfl rfl rfl) ?_
  refine SL.uu (ru_indexA (o2 := 5) ar91 rfl rfl rfl (by decide) (by decide) rfl) ?_
  refine SL.uu (ru_load (i := 0) (v := iw (A.r 5)) ts3 rfl rfl rfl (nc_r (by decide))) ?_
  refine SL.uu (ru_eq (b := (((A.r 4) : Int) == (A.r 5))) rfl rfl rfl rfl) ?_
  refine SL.as ?_
  refine SL.nn [(0, pt d 0), (2, pt b1 0), (3, iw 0), (4, iw (A.r 4)), (14, bo (((A.r 4) : Int) == (A.r 5)))] _ ⟨rfl, rfl, rfl, rfl, rfl, trivial⟩ ?_
  refine SC.both (((A.r 4) : Int) == (A.r 5)) rfl (fun h3 => ?_) (fun h3 => ?_)
  · skip
    refine SC.sr ?_
    refine SL.uu (ru_build (vals := []) (cells := [Value.slice none 0 0, bo false, iw 0]) rfl rfl (by kernel_rfl)) ?_
    refine SL.storea (i := 2) (vs := [Value.slice none 0 0, bo false, iw 0]) (c' := [Value.slice none 0 0, bo false, iw 0]) rfl rfl ta49 rfl rfl rfl rfl rfl rfl (le_b rfl) (.inr hb1) rfl ?_
    refine SL.as ?_
    refine SL.nn [(0, pt d 0), (2, pt b1 0), (3, iw 7), (4, iw (A.r 4))] _ ⟨rfl, rfl, rfl, rfl, trivial⟩ ?_
    refine SC.ret ?_
    refine SE.blkr ?_
    refine SE.passr ?_
    refine SE.res (.inl rfl) (res_ct (z := [Value.slice none 0 0, bo false, iw 0]) (c := [Value.slice none 0 0, bo false, iw 0]) Try.results12 ta49 rfl rfl 2 rfl rfl) fun w1 hI => ?_
    have e : takeR A = ((([], 0), 7), A) := by
      try simp at h2 h3
      unfold takeR
      (repeat' split) <;> first | rfl | (exfalso; omega) | (exfalso; simp_all; done) | (exfalso; simp_all; omega)
    rw [e]
    exact ⟨_, rfl, NicAt.of hI, hI.2, .inl ⟨rfl, rfl⟩⟩
  refine SC.skip ?_
  refine SE.blkn ?_
  refine SC.of_SE ?_
  refine SC.norm [(0, pt d 0), (2, pt b1 0), (3, iw 0), (4, iw (A.r 4))] _ ⟨rfl, rfl, rfl, rfl, trivial⟩ rfl ?_
  refine SC.seq ?_
  refine SC.region_tail 6 (by kernel_rfl) (by kernel_rfl) ?_
  refine SQ.ru rfl rfl (lt_b rfl) (ru_move rfl rfl) ?_
  refine SQ.ru rfl rfl (lt_b rfl) (ru_move rfl rfl) ?_
  refine SQ.call (iw (nx (A.r 4))) rfl rfl co42 rfl rfl rfl (lt_b rfl) (fun w hI => H_same hI (next_any w (by omega))) ?_
  refine SQ.ru rfl rfl (lt_b rfl) (ru_nilCheck rfl rfl) ?_
  refine SQ.ru rfl rfl (lt_b rfl) (ru_fieldAddr (o2 := 0) fd99_0 rfl rfl rfl) ?_
  refine SQ.ru rfl rfl (lt_b rfl) (ru_indexA (o2 := 4) ar91 rfl rfl rfl (by decide) (by decide) rfl) ?_
  refine SQ.nilL ?_
  refine SL.store (i := 0) (c' := (nc { A with r := up A.r 4 (nx (A.r 4)) } tv cv)) rfl rfl ts3 rfl rfl rfl rfl rfl (by rw [nc_len]; omega) (.inl rfl) (set_r (by decide) (nx (A.r 4))) ?_
  refine SL.nn [(0, pt d 0), (2, pt b1 0), (3, iw 0), (4, iw (A.r 4))] [rBlk d (nc { A with r := up A.r 4 (nx (A.r 4)) } tv cv) 99, rFrs F tv cv A.tb A.cb, rBlk b1 [Value.slice none 0 0, bo false, iw 0] 49] ⟨rfl, rfl, rfl, rfl, trivial⟩ ?_
  refine SC.seq ?_
  refine SC.region_tail 9 (by kernel_rfl) (by kernel_rfl) ?_
  refine SQ.ru rfl rfl (lt_b rfl) (ru_move rfl rfl) ?_
  refine SQ.ru rfl rfl (lt_b rfl) (ru_nilCheck rfl rfl) ?_
  refine SQ.ru rfl rfl (lt_b rfl) (ru_fieldAddr (o2 := 0) fd99_0 rfl rfl rfl) ?_
  refine SQ.ru rfl rfl (lt_b rfl) (ru_indexA (o2 := 6) ar91 rfl rfl rfl (by decide) (by decide) rfl) ?_
  refine SQ.ru rfl rfl (lt_b rfl) (ru_load (i := 0) (v := iw (A.r 6)) ts3 rfl rfl rfl (nc_r (by decide))) ?_
  refine SQ.ru rfl rfl (lt_b rfl) (ru_or (r := (bits .or .i64 (A.r 6) 2)) rfl rfl rfl rfl) ?_
  refine SQ.ru rfl rfl (lt_b rfl) (ru_nilCheck rfl rfl) ?_
  refine SQ.ru rfl rfl (lt_b rfl) (ru_fieldAddr (o2 := 0) fd99_0 rfl rfl rfl) ?_
  refine SQ.ru rfl rfl (lt_b rfl) (ru_indexA (o2 := 6) ar91 rfl rfl rfl (by decide) (by decide) rfl) ?_
  refine SQ.nilL ?_
  refine SL.store (i := 0) (c' := (nc { A with r := up (up A.r 4 (nx (A.r 4))) 6 (bits .or .i64 (A.r 6) 2) } tv cv)) rfl rfl ts3 rfl rfl rfl rfl rfl (by rw [nc_len]; omega) (.inl rfl) (set_r (by decide) (bits .or .i64 (A.r 6) 2)) ?_
  refine SL.nn [(0, pt d 0), (2, pt b1 0), (3, iw 0), (4, iw (A.r 4))] [rBlk d (nc { A with r := up (up A.r 4 (nx (A.r 4))) 6 (bits .or .i64 (A.r 6) 2) } tv cv) 99, rFrs F tv cv A.tb A.cb, rBlk b1 [Value.slice none 0 0, bo false, iw 0] 49] ⟨rfl, rfl, rfl, rfl, trivial⟩ ?_
  refine SC.seq ?_
  refine SC.region_alloc 16 7 (fun b4 => rBlk b4 ((A.tb (A.r 4).toNat).map bv) 5) (by kernel_rfl) (by kernel_rfl) rfl (fun b4 hb4 => ?_)
  refine SS.ru _ CA.base rfl rfl rfl (lt_b rfl) (ru_move rfl rfl) ?_
  refine SS.ru _ CA.base rfl rfl rfl (lt_b rfl) (ru_move rfl rfl) ?_
  refine SS.ru _ CA.base rfl rfl rfl (lt_b rfl) (ru_nilCheck rfl rfl) ?_
  refine SS.ru _ CA.base rfl rfl rfl (lt_b rfl) (ru_fieldAddr (o2 := 8) fd99_1 rfl rfl rfl) ?_
  refine SS.ru _ CA.base rfl rfl rfl (lt_b rfl) (ru_indexA (o2 := 8 + ((A.r 4).toNat) * 2) ar94 rfl rfl rfl (by omega) (by omega) rfl) ?_
  refine SS.ru _ CA.base rfl rfl rfl (lt_b rfl) (ru_fieldAddr (o2 := (8 + ((A.r 4).toNat) * 2)) fd93_0 rfl rfl rfl) ?_
  refine SS.ru _ CA.base rfl rfl rfl (lt_b rfl) (ru_load (i := 0) (v := tv ((A.r 4).toNat)) ts28 rfl rfl rfl (nc_tv (by omega))) ?_
  refine SS.newcall (sl b4 0 ((A.tb (A.r 4).toNat).length) ((A.tb (A.r 4).toNat).length)) rfl rfl co43 rfl rfl rfl (lt_b rfl) (fun w hI hz => (copied_any (frs_tx hI (by omega))).mono fun e w2 ⟨h1, h2, h3⟩ => ⟨by rw [h1, hz], hI.add h3 (hz ▸ h2) (fun q hq => by cases hq; rw [hz]; exact Nat.le_refl _)⟩) ?_
  refine SS.ru _ CA.base rfl rfl rfl (lt_b rfl) (ru_move rfl rfl) ?_
  refine SS.ru _ CA.base rfl rfl rfl (lt_b rfl) (ru_move rfl rfl) ?_
  refine SS.ru _ CA.base rfl rfl rfl (lt_b rfl) (ru_nilCheck rfl rfl) ?_
  refine SS.ru _ CA.base rfl rfl rfl (lt_b rfl) (ru_fieldAddr (o2 := 8) fd99_1 rfl rfl rfl) ?_
  refine SS.ru _ CA.base rfl rfl rfl (lt_b rfl) (ru_indexA (o2 := 8 + ((A.r 4).toNat) * 2) ar94 rfl rfl rfl (by omega) (by omega) rfl) ?_
  refine SS.ru _ CA.base rfl rfl rfl (lt_b rfl) (ru_fieldAddr (o2 := (8 + ((A.r 4).toNat) * 2 + 1)) fd93_1 rfl rfl rfl) ?_
  refine SS.ru _ CA.base rfl rfl rfl (lt_b rfl) (ru_load (i := 0) (v := iw (A.tp ((A.r 4).toNat))) ts3 rfl rfl rfl (nc_tp (by omega))) ?_
  refine SS.ru _ CA.base rfl rfl rfl (lt_b rfl) (ru_build (vals := [(0, sl b4 0 ((A.tb (A.r 4).toNat).length) ((A.tb (A.r 4).toNat).length)), (2, iw (A.tp ((A.r 4).toNat)))]) (cells := [sl b4 0 ((A.tb (A.r 4).toNat).length) ((A.tb (A.r 4).toNat).length), bo false, iw (A.tp ((A.r 4).toNat))]) rfl rfl (by kernel_rfl)) ?_
  refine SS.nilA ?_
  refine SL.storea (i := 2) (vs := [sl b4 0 ((A.tb (A.r 4).toNat).length) ((A.tb (A.r 4).toNat).length), bo false, iw (A.tp ((A.r 4).toNat))]) (c' := [sl b4 0 ((A.tb (A.r 4).toNat).length) ((A.tb (A.r 4).toNat).length), bo false, iw (A.tp ((A.r 4).toNat))]) rfl rfl ta49 rfl rfl rfl rfl rfl rfl (le_b rfl) (.inr hb1) rfl ?_
  refine SL.as ?_
  refine SL.nn [(2, pt b1 0), (3, iw 0)] [rBlk d (nc { A with r := up (up A.r 4 (nx (A.r 4))) 6 (bits .or .i64 (A.r 6) 2) } tv cv) 99, rFrs F tv cv A.tb A.cb, rBlk b1 [sl b4 0 ((A.tb (A.r 4).toNat).length) ((A.tb (A.r 4).toNat).length), bo false, iw (A.tp ((A.r 4).toNat))] 49, rBlk b4 ((A.tb (A.r 4).toNat).map bv) 5] ⟨rfl, rfl, trivial⟩ ?_
  refine SC.ret ?_
  refine SE.res (.inl rfl) (res_ct (z := [Value.slice none 0 0, bo false, iw 0]) (c := [sl b4 0 ((A.tb (A.r 4).toNat).length) ((A.tb (A.r 4).toNat).length), bo false, iw (A.tp ((A.r 4).toNat))]) Try.results12 ta49 rfl rfl 2 rfl rfl) fun w1 hI => ?_
  have e : takeR A = (((A.tb (A.r 4).toNat, A.tp (A.r 4).toNat), 0), takeF A) := by
    try simp at h2 h3
    unfold takeR
    (repeat' split) <;> first | rfl | (exfalso; omega) | (exfalso; simp_all; done) | (exfalso; simp_all; omega)
  rw [e]
  exact ⟨_, rfl, NicAt.of hI, hI.2, .inr ⟨b4, hb4, rfl, hI.1.get (i := 3) rfl⟩⟩

theorem p_rx {w : World} {d : Nat} {F : Nat → Prop} {A : NicA} (hk : NicOk A) (h : NicAt 99 w d F A) (i : Int) : Calls Try.prog 58 #[pt d 0, iw i] w fun e w' => ∃ v, e = .returned (.tuple #[v, bo (rxR A i).1.2, iw (rxR A i).2]) ∧ Only (fun _ => False) w w' ∧ Out 5 w w' v (rxR A i).1.1 := by
  have hok := hk
  obtain ⟨r2, r3, r4, r5, r6, _, _, _⟩ := hok
  obtain ⟨tv, cv, hI⟩ := h.inv 38 (fun _ => False)
  refine calls_sc (l0 := _) (args := [pt d 0, iw i]) (fun _ => False) Try.func58 rfl 38 Try.ntmps58 (le_b rfl) hI ?_
  show SC _ _ _ _ [(0, pt d 0), (1, iw i)] [rBlk d (nc A tv cv) 99, rFrs F tv cv A.tb A.cb]
  refine SC.sr ?_
  refine SL.as ?_
  refine SL.as ?_
  refine SL.as ?_
  refine SL.nn [(0, pt d 0), (1, iw i), (4, Value.slice none 0 0), (5, bo false), (6, iw 0)] [rBlk d (nc A tv cv) 99, rFrs F tv cv A.tb A.cb] ⟨rfl, rfl, rfl, rfl, rfl, trivial⟩ ?_
  refine SC.seq ?_
  refine SC.block ?_
  refine SC.sr ?_
  refine SL.mv ?_
  refine SL.uu (ru_lt (b := (decide ((i : Int) < 0))) rfl rfl rfl rfl) ?_
  refine SL.mv ?_
  refine SL.join 3 [(0, pt d 0), (1, iw i), (4, Value.slice none 0 0), (5, bo false), (6, iw 0), (8, iw i), (9, bo (decide ((i : Int) < 0))), (10, bo (decide ((i : Int) < 0))), (13, bo ((decide ((i : Int) < 0)) || (decide ((16 : Int) ≤ i))))] [rBlk d (nc A tv cv) 99, rFrs F tv cv A.tb A.cb] ?_ ?_
  rotate_left
  · intro K hK
    rcases tf (decide ((i : Int) < 0)) with h1 | h1
    · skip
      refine SL.norm [(0, pt d 0), (1, iw i), (4, Value.slice none 0 0), (5, bo false), (6, iw 0), (8, iw i), (9, bo true), (10, bo true)] _ ⟨rfl, rfl, rfl, rfl, rfl, rfl, (congrArg (fun x => some (Value.bool x)) h1), (congrArg (fun x => some (Value.bool x)) h1), trivial⟩ rfl ?_
      refine SL.off (b := true) rfl rfl rfl rfl rfl (lt_b rfl) ?_
      refine SL.off (b := true) rfl rfl rfl rfl rfl (lt_b rfl) ?_
      refine SL.uu (ru_pick (u := bo true) (v := undef) rfl rfl rfl rfl) ?_
      exact SL.joined hK ⟨rfl, rfl, rfl, rfl, rfl, rfl, (congrArg (fun x => some (Value.bool x)) h1.symm), (congrArg (fun x => some (Value.bool x)) h1.symm), (congrArg (fun x => some (Value.bool (x || (decide ((16 : Int) ≤ i))))) h1.symm), trivial⟩ rfl
    refine SL.norm [(0, pt d 0), (1, iw i), (4, Value.slice none 0 0), (5, bo false), (6, iw 0), (8, iw i), (9, bo false), (10, bo false)] _ ⟨rfl, rfl, rfl, rfl, rfl, rfl, (congrArg (fun x => some (Value.bool x)) h1), (congrArg (fun x => some (Value.bool x)) h1), trivial⟩ rfl ?_
    refine SL.rug rfl rfl rfl rfl (lt_b rfl) (ru_move rfl rfl) ?_
    refine SL.rug rfl rfl rfl rfl (lt_b rfl) (ru_ge (b := (decide ((16 : Int) ≤ i))) rfl rfl rfl rfl) ?_
    refine SL.uu (ru_pick (u := bo true) (v := bo (decide ((16 : Int) ≤ i))) rfl rfl rfl rfl) ?_
    exact SL.joined hK ⟨rfl, rfl, rfl, rfl, rfl, rfl, (congrArg (fun x => some (Value.bool x)) h1.symm), (congrArg (fun x => some (Value.bool x)) h1.symm), (congrArg (fun x => some (Value.bool (x || (decide ((16 : Int) ≤ i))))) h1.symm), trivial⟩ rfl
  skip
  refine SL.as ?_
  refine SL.nn [(0, pt d 0), (1, iw i), (4, Value.slice none 0 0), (5, bo false), (6, iw 0), (7, bo ((decide ((i : Int) < 0)) || (decide ((16 : Int) ≤ i))))] _ ⟨rfl, rfl, rfl, rfl, rfl, rfl, trivial⟩ ?_
  refine SC.both ((decide ((i : Int) < 0)) || (decide ((16 : Int) ≤ i))) rfl (fun h2 => ?_) (fun h2 => ?_)
  · skip
    refine SC.sr ?_
    refine SL.as ?_
    refine SL.as ?_
    refine SL.as ?_
    refine SL.nn [(0, pt d 0), (1, iw i), (4, Value.slice none 0 0), (5, bo false), (6, iw 1)] _ ⟨rfl, rfl, rfl, rfl, rfl, trivial⟩ ?_
    refine SC.ret ?_
    refine SE.blkr ?_
    refine SE.passr ?_
    refine SE.res (.inl rfl) (res3 Try.results58 rfl rfl rfl) fun w1 hI => ?_
    have e : rxR A i = (([], false), 1) := by
      try simp at h2
      unfold rxR
      (repeat' split) <;> first | rfl | (exfalso; omega) | (exfalso; simp_all; done) | (exfalso; simp_all; omega)
    rw [e]
    exact ⟨_, rfl, hI.2, .inl ⟨rfl, rfl⟩⟩
  have hi := host_in h2
  refine SC.sr ?_
  refine SL.mv ?_
  refine SL.mv ?_
  refine SL.nk ?_
  refine SL.uu (ru_fieldAddr (o2 := 40) fd99_2 rfl rfl rfl) ?_
  refine SL.uu (ru_indexA (o2 := 40 + i.toNat * 4) ar97 rfl rfl rfl (by omega) (by omega) rfl) ?_
  refine SL.uu (ru_fieldAddr (o2 := (40 + i.toNat * 4 + 1)) fd96_1 rfl rfl rfl) ?_
  refine SL.uu (ru_load (i := 0) (v := bo (A.has i.toNat)) ts4 rfl rfl rfl (nc_has (by omega))) ?_
  refine SL.uu (ru_not (c := (!(A.has i.toNat))) rfl rfl rfl) ?_
  refine SL.as ?_
  refine SL.nn [(0, pt d 0), (1, iw i), (4, Value.slice none 0 0), (5, bo false), (6, iw 0), (14, bo (!(A.has i.toNat)))] _ ⟨rfl, rfl, rfl, rfl, rfl, rfl, trivial⟩ ?_
  refine SC.both (!(A.has i.toNat)) rfl (fun h3 => ?_) (fun h3 => ?_)
  · skip
    refine SC.sr ?_
    refine SL.as ?_
    refine SL.as ?_
    refine SL.as ?_
    refine SL.nn [(0, pt d 0), (1, iw i), (4, Value.slice none 0 0), (5, bo false), (6, iw 7)] _ ⟨rfl, rfl, rfl, rfl, rfl, trivial⟩ ?_
    refine SC.ret ?_
    refine SE.blkr ?_
    refine SE.passr ?_
    refine SE.res (.inl rfl) (res3 Try.results58 rfl rfl rfl) fun w1 hI => ?_
    have e : rxR A i = (([], false), 7) := by
      try simp at h2 h3
      unfold rxR
      (repeat' split) <;> first | rfl | (exfalso; omega) | (exfalso; simp_all; done) | (exfalso; simp_all; omega)
    rw [e]
    exact ⟨_, rfl, hI.2, .inl ⟨rfl, rfl⟩⟩
  refine SC.skip ?_
  refine SE.blkn ?_
  refine SC.of_SE ?_
  refine SC.norm [(0, pt d 0), (1, iw i), (4, Value.slice none 0 0), (5, bo false), (6, iw 0)] _ ⟨rfl, rfl, rfl, rfl, rfl, trivial⟩ rfl ?_
  refine SC.seq ?_
  refine SC.region_alloc0 7 (fun b4 => rBlk b4 ((A.cb i.toNat).map bv) 5) (by kernel_rfl) (by kernel_rfl) (by kernel_rfl) rfl (fun b4 hb4 => ?_)
  refine SS.ru _ CA.base rfl rfl rfl (lt_b rfl) (ru_move rfl rfl) ?_
  refine SS.ru _ CA.base rfl rfl rfl (lt_b rfl) (ru_move rfl rfl) ?_
  refine SS.ru _ CA.base rfl rfl rfl (lt_b rfl) (ru_nilCheck rfl rfl) ?_
  refine SS.ru _ CA.base rfl rfl rfl (lt_b rfl) (ru_fieldAddr (o2 := 40) fd99_2 rfl rfl rfl) ?_
  refine SS.ru _ CA.base rfl rfl rfl (lt_b rfl) (ru_indexA (o2 := 40 + i.toNat * 4) ar97 rfl rfl rfl (by omega) (by omega) rfl) ?_
  refine SS.ru _ CA.base rfl rfl rfl (lt_b rfl) (ru_fieldAddr (o2 := (40 + i.toNat * 4 + 2)) fd96_2 rfl rfl rfl) ?_
  refine SS.ru _ CA.base rfl rfl rfl (lt_b rfl) (ru_load (i := 0) (v := cv i.toNat) ts28 rfl rfl rfl (nc_cv (by omega))) ?_
  refine SS.newcall (sl b4 0 ((A.cb i.toNat).length) ((A.cb i.toNat).length)) rfl rfl co43 rfl rfl rfl (lt_b rfl) (fun w hI hz => (copied_any (frs_rx hI (by omega))).mono fun e w2 ⟨h1, h2, h3⟩ => ⟨by rw [h1, hz], hI.add h3 (hz ▸ h2) (fun q hq => by cases hq; rw [hz]; exact Nat.le_refl _)⟩) ?_
  refine SS.ru _ CA.base rfl rfl rfl (lt_b rfl) (ru_move rfl rfl) ?_
  refine SS.ru _ CA.base rfl rfl rfl (lt_b rfl) (ru_move rfl rfl) ?_
  refine SS.ru _ CA.base rfl rfl rfl (lt_b rfl) (ru_nilCheck rfl rfl) ?_
  refine SS.ru _ CA.base rfl rfl rfl (lt_b rfl) (ru_fieldAddr (o2 := 40) fd99_2 rfl rfl rfl) ?_
  refine SS.ru _ CA.base rfl rfl rfl (lt_b rfl) (ru_indexA (o2 := 40 + i.toNat * 4) ar97 rfl rfl rfl (by omega) (by omega) rfl) ?_
  refine SS.ru _ CA.base rfl rfl rfl (lt_b rfl) (ru_fieldAddr (o2 := (40 + i.toNat * 4 + 3)) fd96_3 rfl rfl rfl) ?_
  refine SS.ru _ CA.base rfl rfl rfl (lt_b rfl) (ru_load (i := 0) (v := bo (A.bad i.toNat)) ts4 rfl rfl rfl (nc_bad (by omega))) ?_
  refine SS.ru _ CA.base rfl rfl rfl (lt_b rfl) (ru_assign rfl rfl) ?_
  refine SS.ru _ CA.base rfl rfl rfl (lt_b rfl) (ru_assign rfl rfl) ?_
  refine SS.ru _ CA.base rfl rfl rfl (lt_b rfl) (ru_assign rfl rfl) ?_
  refine SS.nilE ?_
  refine SC.of_SE ?_
  refine SC.norm [(4, sl b4 0 ((A.cb i.toNat).length) ((A.cb i.toNat).length)), (5, bo (A.bad i.toNat)), (6, iw 0)] [rBlk d (nc A tv cv) 99, rFrs F tv cv A.tb A.cb, rBlk b4 ((A.cb i.toNat).map bv) 5] ⟨rfl, rfl, rfl, trivial⟩ rfl ?_
  refine SC.ret ?_
  refine SE.res (.inl rfl) (res3 Try.results58 rfl rfl rfl) fun w1 hI => ?_
  have e : rxR A i = ((A.cb i.toNat, A.bad i.toNat), 0) := by
    try simp at h2 h3
    unfold rxR
    (repeat' split) <;> first | rfl | (exfalso; omega) | (exfalso; simp_all; done) | (exfalso; simp_all; omega)
  rw [e]
  exact ⟨_, rfl, hI.2, .inr ⟨b4, hb4, rfl, hI.1.get (i := 2) rfl⟩⟩

end Go.Proofs.Ytghfkgcaglabpaa

/-
  An event (the reference's).
-/
namespace Go.Proofs.Ytghfkgcaglabpaa
open Go.RowKit
set_option maxRecDepth 100000
set_option maxHeartbeats 4000000
theorem q_event1 {w : World} {d : Nat} {A : NicA} {tv cv : Nat → Value} (h6 : 0 ≤ A.r 6 ∧ A.r 6 < 8) (h : Blk w d (nc A tv cv) 108) : Calls Try.prog 78 #[pt d 0, iw 1] w fun e w' => e = .returned (.tuple #[]) ∧ Blk w' d (nc { A with r := up A.r 6 (ev (A.r 6) 1) } tv cv) 108 ∧ Only (fun b => b = d) w w' := by
  refine calls_sc (l0 := _) (args := [pt d 0, iw 1]) (fun b => b = d) Try.func78 rfl 24 Try.ntmps78 (le_b rfl) (Inv.one h) ?_
  show SC _ _ _ _ [(0, pt d 0), (1, iw 1)] [rBlk d (nc A tv cv) 108]
  refine SC.sr ?_
  refine SL.mv ?_
  refine SL.nk ?_
  refine SL.uu (ru_fieldAddr (o2 := 0) fd108_0 rfl rfl rfl) ?_
  refine SL.uu (ru_indexA (o2 := 6) ar91 rfl rfl rfl (by decide) (by decide) rfl) ?_
  refine SL.uu (ru_load (i := 0) (v := iw (A.r 6)) ts3 rfl rfl rfl (nc_r (by decide))) ?_
  refine SL.mv ?_
  refine SL.uu (ru_quo (r := (IntKind.i64.wrap (Int.tdiv (A.r 6) 1))) rfl rfl rfl (by decide) rfl) ?_
  refine SL.uu (ru_rem (r := (Int.tmod (IntKind.i64.wrap (Int.tdiv (A.r 6) 1)) 2)) rfl rfl rfl (by decide) rfl) ?_
  refine SL.uu (ru_eq (b := (((Int.tmod (IntKind.i64.wrap (Int.tdiv (A.r 6) 1)) 2) : Int) == 0)) rfl rfl rfl rfl) ?_
  refine SL.nn [(0, pt d 0), (1, iw 1), (12, bo (((Int.tmod (IntKind.i64.wrap (Int.tdiv (A.r 6) 1)) 2) : Int) == 0))] [rBlk d (nc A tv cv) 108] ⟨rfl, rfl, rfl, trivial⟩ ?_
  refine SC.both (((Int.tmod (IntKind.i64.wrap (Int.tdiv (A.r 6) 1)) 2) : Int) == 0) rfl (fun h1 => ?_) (fun h1 => ?_)
  · skip
    refine SC.region_tail 11 (by kernel_rfl) (by kernel_rfl) ?_
    refine SQ.ru rfl rfl (lt_b rfl) (ru_move rfl rfl) ?_
    refine SQ.ru rfl rfl (lt_b rfl) (ru_move rfl rfl) ?_
    refine SQ.ru rfl rfl (lt_b rfl) (ru_nilCheck rfl rfl) ?_
    refine SQ.ru rfl rfl (lt_b rfl) (ru_fieldAddr (o2 := 0) fd108_0 rfl rfl rfl) ?_
    refine SQ.ru rfl rfl (lt_b rfl) (ru_indexA (o2 := 6) ar91 rfl rfl rfl (by decide) (by decide) rfl) ?_
    refine SQ.ru rfl rfl (lt_b rfl) (ru_load (i := 0) (v := iw (A.r 6)) ts3 rfl rfl rfl (nc_r (by decide))) ?_
    refine SQ.ru rfl rfl (lt_b rfl) (ru_move rfl rfl) ?_
    refine SQ.ru rfl rfl (lt_b rfl) (ru_add (r := (IntKind.i64.wrap ((A.r 6) + 1))) rfl rfl rfl rfl) ?_
    refine SQ.ru rfl rfl (lt_b rfl) (ru_nilCheck rfl rfl) ?_
    refine SQ.ru rfl rfl (lt_b rfl) (ru_fieldAddr (o2 := 0) fd108_0 rfl rfl rfl) ?_
    refine SQ.ru rfl rfl (lt_b rfl) (ru_indexA (o2 := 6) ar91 rfl rfl rfl (by decide) (by decide) rfl) ?_
    refine SQ.nilL ?_
    refine SL.store (i := 0) (c' := (nc { A with r := up A.r 6 (IntKind.i64.wrap ((A.r 6) + 1)) } tv cv)) rfl rfl ts3 rfl rfl rfl rfl rfl (by rw [nc_len]; omega) (.inl rfl) (set_r (by decide) (IntKind.i64.wrap ((A.r 6) + 1))) ?_
    refine SL.nil ?_
    refine SE.res (.inr rfl) (res0 Try.results78) fun w1 hI => ⟨rfl, ?_, hI.2⟩
    rw [ev_t1 h6 h1] at hI
    exact hI.1.get (i := 0) rfl
  refine SC.skip ?_
  refine SE.res (.inr rfl) (res0 Try.results78) fun w1 hI => ⟨rfl, ?_, hI.2⟩
  rw [ev_f1 h6 h1, up_id]
  exact hI.1.get (i := 0) rfl

theorem q_event2 {w : World} {d : Nat} {A : NicA} {tv cv : Nat → Value} (h6 : 0 ≤ A.r 6 ∧ A.r 6 < 8) (h : Blk w d (nc A tv cv) 108) : Calls Try.prog 78 #[pt d 0, iw 2] w fun e w' => e = .returned (.tuple #[]) ∧ Blk w' d (nc { A with r := up A.r 6 (ev (A.r 6) 2) } tv cv) 108 ∧ Only (fun b => b = d) w w' := by
  refine calls_sc (l0 := _) (args := [pt d 0, iw 2]) (fun b => b = d) Try.func78 rfl 24 Try.ntmps78 (le_b rfl) (Inv.one h) ?_
  show SC _ _ _ _ [(0, pt d 0), (1, iw 2)] [rBlk d (nc A tv cv) 108]
  refine SC.sr ?_
  refine SL.mv ?_
  refine SL.nk ?_
  refine SL.uu (ru_fieldAddr (o2 := 0) fd108_0 rfl rfl rfl) ?_
  refine SL.uu (ru_indexA (o2 := 6) ar91 rfl rfl rfl (by decide) (by decide) rfl) ?_
  refine SL.uu (ru_load (i := 0) (v := iw (A.r 6)) ts3 rfl rfl rfl (nc_r (by decide))) ?_
  refine SL.mv ?_
  refine SL.uu (ru_quo (r := (IntKind.i64.wrap (Int.tdiv (A.r 6) 2))) rfl rfl rfl (by decide) rfl) ?_
  refine SL.uu (ru_rem (r := (Int.tmod (IntKind.i64.wrap (Int.tdiv (A.r 6) 2)) 2)) rfl rfl rfl (by decide) rfl) ?_
  refine SL.uu (ru_eq (b := (((Int.tmod (IntKind.i64.wrap (Int.tdiv (A.r 6) 2)) 2) : Int) == 0)) rfl rfl rfl rfl) ?_
  refine SL.nn [(0, pt d 0), (1, iw 2), (12, bo (((Int.tmod (IntKind.i64.wrap (Int.tdiv (A.r 6) 2)) 2) : Int) == 0))] [rBlk d (nc A tv cv) 108] ⟨rfl, rfl, rfl, trivial⟩ ?_
  refine SC.both (((Int.tmod (IntKind.i64.wrap (Int.tdiv (A.r 6) 2)) 2) : Int) == 0) rfl (fun h1 => ?_) (fun h1 => ?_)
  · skip
    refine SC.region_tail 11 (by kernel_rfl) (by kernel_rfl) ?_
    refine SQ.ru rfl rfl (lt_b rfl) (ru_move rfl rfl) ?_
    refine SQ.ru rfl rfl (lt_b rfl) (ru_move rfl rfl) ?_
    refine SQ.ru rfl rfl (lt_b rfl) (ru_nilCheck rfl rfl) ?_
    refine SQ.ru rfl rfl (lt_b rfl) (ru_fieldAddr (o2 := 0) fd108_0 rfl rfl rfl) ?_
    refine SQ.ru rfl rfl (lt_b rfl) (ru_indexA (o2 := 6) ar91 rfl rfl rfl (by decide) (by decide) rfl) ?_
    refine SQ.ru rfl rfl (lt_b rfl) (ru_load (i := 0) (v := iw (A.r 6)) ts3 rfl rfl rfl (nc_r (by decide))) ?_
    refine SQ.ru rfl rfl (lt_b rfl) (ru_move rfl rfl) ?_
    refine SQ.ru rfl rfl (lt_b rfl) (ru_add (r := (IntKind.i64.wrap ((A.r 6) + 2))) rfl rfl rfl rfl) ?_
    refine SQ.ru rfl rfl (lt_b rfl) (ru_nilCheck rfl rfl) ?_
    refine SQ.ru rfl rfl (lt_b rfl) (ru_fieldAddr (o2 := 0) fd108_0 rfl rfl rfl) ?_
    refine SQ.ru rfl rfl (lt_b rfl) (ru_indexA (o2 := 6) ar91 rfl rfl rfl (by decide) (by decide) rfl) ?_
    refine SQ.nilL ?_
    refine SL.store (i := 0) (c' := (nc { A with r := up A.r 6 (IntKind.i64.wrap ((A.r 6) + 2)) } tv cv)) rfl rfl ts3 rfl rfl rfl rfl rfl (by rw [nc_len]; omega) (.inl rfl) (set_r (by decide) (IntKind.i64.wrap ((A.r 6) + 2))) ?_
    refine SL.nil ?_
    refine SE.res (.inr rfl) (res0 Try.results78) fun w1 hI => ⟨rfl, ?_, hI.2⟩
    rw [ev_t2 h6 h1] at hI
    exact hI.1.get (i := 0) rfl
  refine SC.skip ?_
  refine SE.res (.inr rfl) (res0 Try.results78) fun w1 hI => ⟨rfl, ?_, hI.2⟩
  rw [ev_f2 h6 h1, up_id]
  exact hI.1.get (i := 0) rfl

theorem q_event4 {w : World} {d : Nat} {A : NicA} {tv cv : Nat → Value} (h6 : 0 ≤ A.r 6 ∧ A.r 6 < 8) (h : Blk w d (nc A tv cv) 108) : Calls Try.prog 78 #[pt d 0, iw 4] w fun e w' => e = .returned (.tuple #[]) ∧ Blk w' d (nc { A with r := up A.r 6 (ev (A.r 6) 4) } tv cv) 108 ∧ Only (fun b => b = d) w w' := by
  refine calls_sc (l0 := _) (args := [pt d 0, iw 4]) (fun b => b = d) Try.func78 rfl 24 Try.ntmps78 (le_b rfl) (Inv.one h) ?_
  show SC _ _ _ _ [(0, pt d 0), (1, iw 4)] [rBlk d (nc A tv cv) 108]
  refine SC.sr ?_
  refine SL.mv ?_
  refine SL.nk ?_
  refine SL.uu (ru_fieldAddr (o2 := 0) fd108_0 rfl rfl rfl) ?_
  refine SL.uu (ru_indexA (o2 := 6) ar91 rfl rfl rfl (by decide) (by decide) rfl) ?_
  refine SL.uu (ru_load (i := 0) (v := iw (A.r 6)) ts3 rfl rfl rfl (nc_r (by decide))) ?_
  refine SL.mv ?_
  refine SL.uu (ru_quo (r := (IntKind.i64.wrap (Int.tdiv (A.r 6) 4))) rfl rfl rfl (by decide) rfl) ?_
  refine SL.uu (ru_rem (r := (Int.tmod (IntKind.i64.wrap (Int.tdiv (A.r 6) 4)) 2)) rfl rfl rfl (by decide) rfl) ?_
  refine SL.uu (ru_eq (b := (((Int.tmod (IntKind.i64.wrap (Int.tdiv (A.r 6) 4)) 2) : Int) == 0)) rfl rfl rfl rfl) ?_
  refine SL.nn [(0, pt d 0), (1, iw 4), (12, bo (((Int.tmod (IntKind.i64.wrap (Int.tdiv (A.r 6) 4)) 2) : Int) == 0))] [rBlk d (nc A tv cv) 108] ⟨rfl, rfl, rfl, trivial⟩ ?_
  refine SC.both (((Int.tmod (IntKind.i64.wrap (Int.tdiv (A.r 6) 4)) 2) : Int) == 0) rfl (fun h1 => ?_) (fun h1 => ?_)
  · skip
    refine SC.region_tail 11 (by kernel_rfl) (by kernel_rfl) ?_
    refine SQ.ru rfl rfl (lt_b rfl) (ru_move rfl rfl) ?_
    refine SQ.ru rfl rfl (lt_b rfl) (ru_move rfl rfl) ?_
    refine SQ.ru rfl rfl (lt_b rfl) (ru_nilCheck rfl rfl) ?_
    refine SQ.ru rfl rfl (lt_b rfl) (ru_fieldAddr (o2 := 0) fd108_0 rfl rfl rfl) ?_
    refine SQ.ru rfl rfl (lt_b rfl) (ru_indexA (o2 := 6) ar91 rfl rfl rfl (by decide) (by decide) rfl) ?_
    refine SQ.ru rfl rfl (lt_b rfl) (ru_load (i := 0) (v := iw (A.r 6)) ts3 rfl rfl rfl (nc_r (by decide))) ?_
    refine SQ.ru rfl rfl (lt_b rfl) (ru_move rfl rfl) ?_
    refine SQ.ru rfl rfl (lt_b rfl) (ru_add (r := (IntKind.i64.wrap ((A.r 6) + 4))) rfl rfl rfl rfl) ?_
    refine SQ.ru rfl rfl (lt_b rfl) (ru_nilCheck rfl rfl) ?_
    refine SQ.ru rfl rfl (lt_b rfl) (ru_fieldAddr (o2 := 0) fd108_0 rfl rfl rfl) ?_
    refine SQ.ru rfl rfl (lt_b rfl) (ru_indexA (o2 := 6) ar91 rfl rfl rfl (by decide) (by decide) rfl) ?_
    refine SQ.nilL ?_
    refine SL.store (i := 0) (c' := (nc { A with r := up A.r 6 (IntKind.i64.wrap ((A.r 6) + 4)) } tv cv)) rfl rfl ts3 rfl rfl rfl rfl rfl (by rw [nc_len]; omega) (.inl rfl) (set_r (by decide) (IntKind.i64.wrap ((A.r 6) + 4))) ?_
    refine SL.nil ?_
    refine SE.res (.inr rfl) (res0 Try.results78) fun w1 hI => ⟨rfl, ?_, hI.2⟩
    rw [ev_t4 h6 h1] at hI
    exact hI.1.get (i := 0) rfl
  refine SC.skip ?_
  refine SE.res (.inr rfl) (res0 Try.results78) fun w1 hI => ⟨rfl, ?_, hI.2⟩
  rw [ev_f4 h6 h1, up_id]
  exact hI.1.get (i := 0) rfl

end Go.Proofs.Ytghfkgcaglabpaa

/-
  What a device's other calls do (the reference's).
-/
namespace Go.Proofs.Ytghfkgcaglabpaa
open Go.RowKit
set_option maxRecDepth 100000
set_option maxHeartbeats 4000000
theorem q_settx {w : World} {d : Nat} {F : Nat → Prop} {A : NicA} (hk : NicOk A) (h : NicAt 108 w d F A) {v : Value} {f : List UInt8} (hb : BytesAt w v f) (hs : sliceIn v (fun b => ¬ b = d)) (i : Int) : Calls Try.prog 71 #[pt d 0, iw i, v] w fun e w' => e = .returned (iw (setTxF A i f).1) ∧ NicTo 108 w d F (setTxF A i f).2 w' := by
  have hok := hk
  obtain ⟨r2, r3, r4, r5, r6, _, _, _⟩ := hok
  obtain ⟨a, c, rfl⟩ := hb.form
  have hbl := hb.len
  obtain ⟨tv, cv, hI⟩ := h.inv 41 (fun b => b = d)
  refine calls_sc (l0 := _) (args := [pt d 0, iw i, Value.slice a f.length c]) (fun b => b = d) Try.func71 rfl 41 Try.ntmps71 (le_b rfl) hI ?_
  show SC _ _ _ _ [(0, pt d 0), (1, iw i), (2, Value.slice a f.length c)] [rBlk d (nc A tv cv) 108, rFrs F tv cv A.tb A.cb]
  refine SC.sr ?_
  refine SL.as ?_
  refine SL.nn [(0, pt d 0), (1, iw i), (2, Value.slice a f.length c), (6, iw 0)] [rBlk d (nc A tv cv) 108, rFrs F tv cv A.tb A.cb] ⟨rfl, rfl, rfl, rfl, trivial⟩ ?_
  refine SC.seq ?_
  refine SC.sr ?_
  refine SL.mv ?_
  refine SL.uu (ru_lt (b := (decide ((i : Int) < 0))) rfl rfl rfl rfl) ?_
  refine SL.mv ?_
  refine SL.join 3 [(0, pt d 0), (1, iw i), (2, Value.slice a f.length c), (6, iw 0), (8, iw i), (9, bo (decide ((i : Int) < 0))), (10, bo (decide ((i : Int) < 0))), (13, bo ((decide ((i : Int) < 0)) || (decide ((16 : Int) ≤ i))))] [rBlk d (nc A tv cv) 108, rFrs F tv cv A.tb A.cb] ?_ ?_
  rotate_left
  · intro K hK
    rcases tf (decide ((i : Int) < 0)) with h1 | h1
    · skip
      refine SL.norm [(0, pt d 0), (1, iw i), (2, Value.slice a f.length c), (6, iw 0), (8, iw i), (9, bo true), (10, bo true)] _ ⟨rfl, rfl, rfl, rfl, rfl, (congrArg (fun x => some (Value.bool x)) h1), (congrArg (fun x => some (Value.bool x)) h1), trivial⟩ rfl ?_
      refine SL.off (b := true) rfl rfl rfl rfl rfl (lt_b rfl) ?_
      refine SL.off (b := true) rfl rfl rfl rfl rfl (lt_b rfl) ?_
      refine SL.uu (ru_pick (u := bo true) (v := undef) rfl rfl rfl rfl) ?_
      exact SL.joined hK ⟨rfl, rfl, rfl, rfl, rfl, (congrArg (fun x => some (Value.bool x)) h1.symm), (congrArg (fun x => some (Value.bool x)) h1.symm), (congrArg (fun x => some (Value.bool (x || (decide ((16 : Int) ≤ i))))) h1.symm), trivial⟩ rfl
    refine SL.norm [(0, pt d 0), (1, iw i), (2, Value.slice a f.length c), (6, iw 0), (8, iw i), (9, bo false), (10, bo false)] _ ⟨rfl, rfl, rfl, rfl, rfl, (congrArg (fun x => some (Value.bool x)) h1), (congrArg (fun x => some (Value.bool x)) h1), trivial⟩ rfl ?_
    refine SL.rug rfl rfl rfl rfl (lt_b rfl) (ru_move rfl rfl) ?_
    refine SL.rug rfl rfl rfl rfl (lt_b rfl) (ru_ge (b := (decide ((16 : Int) ≤ i))) rfl rfl rfl rfl) ?_
    refine SL.uu (ru_pick (u := bo true) (v := bo (decide ((16 : Int) ≤ i))) rfl rfl rfl rfl) ?_
    exact SL.joined hK ⟨rfl, rfl, rfl, rfl, rfl, (congrArg (fun x => some (Value.bool x)) h1.symm), (congrArg (fun x => some (Value.bool x)) h1.symm), (congrArg (fun x => some (Value.bool (x || (decide ((16 : Int) ≤ i))))) h1.symm), trivial⟩ rfl
  skip
  refine SL.nn [(0, pt d 0), (1, iw i), (2, Value.slice a f.length c), (6, iw 0), (13, bo ((decide ((i : Int) < 0)) || (decide ((16 : Int) ≤ i))))] _ ⟨rfl, rfl, rfl, rfl, rfl, trivial⟩ ?_
  refine SC.both ((decide ((i : Int) < 0)) || (decide ((16 : Int) ≤ i))) rfl (fun h2 => ?_) (fun h2 => ?_)
  · skip
    have hbd := fun (e : hostB i (A.r 4) (A.r 5) = true) => host_bd e
    refine SC.sr ?_
    refine SL.as ?_
    refine SL.nn [(0, pt d 0), (1, iw i), (2, Value.slice a f.length c), (6, iw 1)] _ ⟨rfl, rfl, rfl, rfl, trivial⟩ ?_
    refine SC.ret ?_
    refine SE.passr ?_
    refine SE.res (.inl rfl) (res1 Try.results71 rfl) fun w1 hI => ?_
    have e : setTxF A i f = (1, A) := by
      try simp at h2
      unfold setTxF
      (repeat' split) <;> first | rfl | (exfalso; omega) | (exfalso; simp_all; done) | (exfalso; simp_all; omega)
    rw [e]
    exact ⟨rfl, NicAt.fin hI⟩
  have hi := host_in h2
  refine SC.skip ?_
  refine SC.of_SE ?_
  refine SC.norm [(0, pt d 0), (1, iw i), (2, Value.slice a f.length c), (6, iw 0)] _ ⟨rfl, rfl, rfl, rfl, trivial⟩ rfl ?_
  refine SC.seq ?_
  refine SC.region_quiet (by kernel_rfl) (by kernel_rfl) ?_
  refine SQ.ru rfl rfl (lt_b rfl) (ru_move rfl rfl) ?_
  refine SQ.ru rfl rfl (lt_b rfl) (ru_move rfl rfl) ?_
  refine SQ.ru rfl rfl (lt_b rfl) (ru_nilCheck rfl rfl) ?_
  refine SQ.ru rfl rfl (lt_b rfl) (ru_fieldAddr (o2 := 0) fd108_0 rfl rfl rfl) ?_
  refine SQ.ru rfl rfl (lt_b rfl) (ru_indexA (o2 := 4) ar91 rfl rfl rfl (by decide) (by decide) rfl) ?_
  refine SQ.ru rfl rfl (lt_b rfl) (ru_load (i := 0) (v := iw (A.r 4)) ts3 rfl rfl rfl (nc_r (by decide))) ?_
  refine SQ.ru rfl rfl (lt_b rfl) (ru_move rfl rfl) ?_
  refine SQ.ru rfl rfl (lt_b rfl) (ru_nilCheck rfl rfl) ?_
  refine SQ.ru rfl rfl (lt_b rfl) (ru_fieldAddr (o2 := 0) fd108_0 rfl rfl rfl) ?_
  refine SQ.ru rfl rfl (lt_b rfl) (ru_indexA (o2 := 5) ar91 rfl rfl rfl (by decide) (by decide) rfl) ?_
  refine SQ.ru rfl rfl (lt_b rfl) (ru_load (i := 0) (v := iw (A.r 5)) ts3 rfl rfl rfl (nc_r (by decide))) ?_
  refine SQ.call (bo (!(hostB i (A.r 4) (A.r 5)))) rfl rfl co83 rfl rfl rfl (lt_b rfl) (fun w hI => H_only hI (devices_any (by omega) (by omega) (by omega))) ?_
  refine SQ.ru rfl rfl (lt_b rfl) (ru_assign rfl rfl) ?_
  refine SQ.nilE ?_
  refine SC.of_SE ?_
  refine SC.norm [(0, pt d 0), (1, iw i), (2, Value.slice a f.length c), (6, iw 0), (7, bo (!(hostB i (A.r 4) (A.r 5))))] _ ⟨rfl, rfl, rfl, rfl, rfl, trivial⟩ rfl ?_
  refine SC.seq ?_
  refine SC.sr ?_
  refine SL.mv ?_
  refine SL.nn [(0, pt d 0), (1, iw i), (2, Value.slice a f.length c), (6, iw 0), (26, bo (!(hostB i (A.r 4) (A.r 5))))] _ ⟨rfl, rfl, rfl, rfl, rfl, trivial⟩ ?_
  refine SC.both (!(hostB i (A.r 4) (A.r 5))) rfl (fun h3 => ?_) (fun h3 => ?_)
  · skip
    refine SC.sr ?_
    refine SL.as ?_
    refine SL.nn [(0, pt d 0), (1, iw i), (2, Value.slice a f.length c), (6, iw 1)] _ ⟨rfl, rfl, rfl, rfl, trivial⟩ ?_
    refine SC.ret ?_
    refine SE.passr ?_
    refine SE.res (.inl rfl) (res1 Try.results71 rfl) fun w1 hI => ?_
    have e : setTxF A i f = (1, A) := by
      try simp at h2 h3
      unfold setTxF
      (repeat' split) <;> first | rfl | (exfalso; omega) | (exfalso; simp_all; done) | (exfalso; simp_all; omega)
    rw [e]
    exact ⟨rfl, NicAt.fin hI⟩
  refine SC.skip ?_
  refine SC.of_SE ?_
  refine SC.norm [(0, pt d 0), (1, iw i), (2, Value.slice a f.length c), (6, iw 0)] _ ⟨rfl, rfl, rfl, rfl, trivial⟩ rfl ?_
  refine SC.seq ?_
  refine SC.sr ?_
  refine SL.mv ?_
  refine SL.uu (ru_len Try.underlying28 rfl rfl) ?_
  refine SL.uu (ru_eq (b := (((f.length : Int) : Int) == 0)) rfl rfl rfl rfl) ?_
  refine SL.nn [(0, pt d 0), (1, iw i), (2, Value.slice a f.length c), (6, iw 0), (29, bo (((f.length : Int) : Int) == 0))] _ ⟨rfl, rfl, rfl, rfl, rfl, trivial⟩ ?_
  refine SC.both (((f.length : Int) : Int) == 0) rfl (fun h4 => ?_) (fun h4 => ?_)
  · skip
    refine SC.sr ?_
    refine SL.as ?_
    refine SL.nn [(0, pt d 0), (1, iw i), (2, Value.slice a f.length c), (6, iw 3)] _ ⟨rfl, rfl, rfl, rfl, trivial⟩ ?_
    refine SC.ret ?_
    refine SE.passr ?_
    refine SE.res (.inl rfl) (res1 Try.results71 rfl) fun w1 hI => ?_
    have e : setTxF A i f = (3, A) := by
      try simp at h2 h3 h4
      unfold setTxF
      (repeat' split) <;> first | rfl | (exfalso; omega) | (exfalso; simp_all; done) | (exfalso; simp_all; omega)
    rw [e]
    exact ⟨rfl, NicAt.fin hI⟩
  refine SC.skip ?_
  refine SC.of_SE ?_
  refine SC.norm [(0, pt d 0), (1, iw i), (2, Value.slice a f.length c), (6, iw 0)] _ ⟨rfl, rfl, rfl, rfl, trivial⟩ rfl ?_
  refine SC.seq ?_
  refine SC.sr ?_
  refine SL.mv ?_
  refine SL.uu (ru_len Try.underlying28 rfl rfl) ?_
  refine SL.uu (ru_gt (b := (decide ((274 : Int) < (f.length : Int)))) rfl rfl rfl rfl) ?_
  refine SL.nn [(0, pt d 0), (1, iw i), (2, Value.slice a f.length c), (6, iw 0), (32, bo (decide ((274 : Int) < (f.length : Int))))] _ ⟨rfl, rfl, rfl, rfl, rfl, trivial⟩ ?_
  refine SC.both (decide ((274 : Int) < (f.length : Int))) rfl (fun h5 => ?_) (fun h5 => ?_)
  · skip
    refine SC.sr ?_
    refine SL.as ?_
    refine SL.nn [(0, pt d 0), (1, iw i), (2, Value.slice a f.length c), (6, iw 2)] _ ⟨rfl, rfl, rfl, rfl, trivial⟩ ?_
    refine SC.ret ?_
    refine SE.passr ?_
    refine SE.res (.inl rfl) (res1 Try.results71 rfl) fun w1 hI => ?_
    have e : setTxF A i f = (2, A) := by
      try simp at h2 h3 h4 h5
      unfold setTxF
      (repeat' split) <;> first | rfl | (exfalso; omega) | (exfalso; simp_all; done) | (exfalso; simp_all; omega)
    rw [e]
    exact ⟨rfl, NicAt.fin hI⟩
  refine SC.skip ?_
  refine SC.of_SE ?_
  refine SC.norm [(0, pt d 0), (1, iw i), (2, Value.slice a f.length c), (6, iw 0)] _ ⟨rfl, rfl, rfl, rfl, trivial⟩ rfl ?_
  refine SC.seq ?_
  refine SC.region_app 8 3 (fun t6 => rMine (appV t6 5 f.length) f 5) (by kernel_rfl) (by kernel_rfl) rfl (fun t6 ht6 => ?_)
  refine SS.ru _ CT.base rfl rfl rfl (lt_b rfl) (ru_move rfl rfl) ?_
  refine SS.ru _ CT.base rfl rfl rfl (lt_b rfl) (ru_move rfl rfl) ?_
  refine SS.ru _ CT.base rfl rfl rfl (lt_b rfl) (ru_move rfl rfl) ?_
  refine SS.append0 (f := f) rfl rfl (lt_b rfl) rfl Try.underlying28 (by kernel_rfl) rfl rfl (fun w hI => (hb.only hI.2 hs)) ?_
  refine SS.ru _ CT.base rfl rfl rfl (lt_b rfl) (ru_nilCheck rfl rfl) ?_
  refine SS.ru _ CT.base rfl rfl rfl (lt_b rfl) (ru_fieldAddr (o2 := 8) fd108_1 rfl rfl rfl) ?_
  refine SS.ru _ CT.base rfl rfl rfl (lt_b rfl) (ru_indexA (o2 := 8 + i.toNat * 2) ar103 rfl rfl rfl (by omega) (by omega) rfl) ?_
  refine SS.ru _ CT.base rfl rfl rfl (lt_b rfl) (ru_fieldAddr (o2 := (8 + i.toNat * 2)) fd102_0 rfl rfl rfl) ?_
  refine SS.nilT ?_
  refine SL.store (i := 0) (c' := (nc A (up tv i.toNat (Value.slice (appA t6 f.length) f.length (appC t6 5 f.length))) cv)) rfl rfl ts28 rfl rfl rfl rfl rfl (by rw [nc_len]; omega) (.inl rfl) (set_tv (by omega) (Value.slice (appA t6 f.length) f.length (appC t6 5 f.length))) ?_
  refine SL.nn [(6, iw 0)] [rBlk d (nc A (up tv i.toNat (Value.slice (appA t6 f.length) f.length (appC t6 5 f.length))) cv) 108, rFrs F tv cv A.tb A.cb, rMine (appV t6 5 f.length) f 5] ⟨rfl, trivial⟩ ?_
  refine SC.sr ?_
  refine SL.as ?_
  refine SL.nn [(6, iw 0)] _ ⟨rfl, trivial⟩ ?_
  refine SC.ret ?_
  refine SE.res (.inl rfl) (res1 Try.results71 rfl) fun w1 hI => ?_
  have e : setTxF A i f = (0, { A with tb := up A.tb i.toNat f }) := by
    try simp at h2 h3 h4 h5
    unfold setTxF
    (repeat' split) <;> first | rfl | (exfalso; omega) | (exfalso; simp_all; done) | (exfalso; simp_all; omega)
  rw [e]
  exact ⟨rfl, NicAt.fin_txM hbl (appV_new ht6) hI⟩

theorem q_setrx {w : World} {d : Nat} {F : Nat → Prop} {A : NicA} (hk : NicOk A) (h : NicAt 108 w d F A) (i room : Int) : Calls Try.prog 88 #[pt d 0, iw i, iw room] w fun e w' => e = .returned (iw (setRxF A i room).1) ∧ NicTo 108 w d F (setRxF A i room).2 w' := by
  have hok := hk
  obtain ⟨r2, r3, r4, r5, r6, _, _, _⟩ := hok
  obtain ⟨tv, cv, hI⟩ := h.inv 42 (fun b => b = d)
  refine calls_sc (l0 := _) (args := [pt d 0, iw i, iw room]) (fun b => b = d) Try.func88 rfl 42 Try.ntmps88 (le_b rfl) hI ?_
  show SC _ _ _ _ [(0, pt d 0), (1, iw i), (2, iw room)] [rBlk d (nc A tv cv) 108, rFrs F tv cv A.tb A.cb]
  refine SC.sr ?_
  refine SL.as ?_
  refine SL.nn [(0, pt d 0), (1, iw i), (2, iw room), (6, iw 0)] [rBlk d (nc A tv cv) 108, rFrs F tv cv A.tb A.cb] ⟨rfl, rfl, rfl, rfl, trivial⟩ ?_
  refine SC.seq ?_
  refine SC.sr ?_
  refine SL.mv ?_
  refine SL.uu (ru_lt (b := (decide ((i : Int) < 0))) rfl rfl rfl rfl) ?_
  refine SL.mv ?_
  refine SL.join 3 [(0, pt d 0), (1, iw i), (2, iw room), (6, iw 0), (8, iw i), (9, bo (decide ((i : Int) < 0))), (10, bo (decide ((i : Int) < 0))), (13, bo ((decide ((i : Int) < 0)) || (decide ((16 : Int) ≤ i))))] [rBlk d (nc A tv cv) 108, rFrs F tv cv A.tb A.cb] ?_ ?_
  rotate_left
  · intro K hK
    rcases tf (decide ((i : Int) < 0)) with h1 | h1
    · skip
      refine SL.norm [(0, pt d 0), (1, iw i), (2, iw room), (6, iw 0), (8, iw i), (9, bo true), (10, bo true)] _ ⟨rfl, rfl, rfl, rfl, rfl, (congrArg (fun x => some (Value.bool x)) h1), (congrArg (fun x => some (Value.bool x)) h1), trivial⟩ rfl ?_
      refine SL.off (b := true) rfl rfl rfl rfl rfl (lt_b rfl) ?_
      refine SL.off (b := true) rfl rfl rfl rfl rfl (lt_b rfl) ?_
      refine SL.uu (ru_pick (u := bo true) (v := undef) rfl rfl rfl rfl) ?_
      exact SL.joined hK ⟨rfl, rfl, rfl, rfl, rfl, (congrArg (fun x => some (Value.bool x)) h1.symm), (congrArg (fun x => some (Value.bool x)) h1.symm), (congrArg (fun x => some (Value.bool (x || (decide ((16 : Int) ≤ i))))) h1.symm), trivial⟩ rfl
    refine SL.norm [(0, pt d 0), (1, iw i), (2, iw room), (6, iw 0), (8, iw i), (9, bo false), (10, bo false)] _ ⟨rfl, rfl, rfl, rfl, rfl, (congrArg (fun x => some (Value.bool x)) h1), (congrArg (fun x => some (Value.bool x)) h1), trivial⟩ rfl ?_
    refine SL.rug rfl rfl rfl rfl (lt_b rfl) (ru_move rfl rfl) ?_
    refine SL.rug rfl rfl rfl rfl (lt_b rfl) (ru_ge (b := (decide ((16 : Int) ≤ i))) rfl rfl rfl rfl) ?_
    refine SL.uu (ru_pick (u := bo true) (v := bo (decide ((16 : Int) ≤ i))) rfl rfl rfl rfl) ?_
    exact SL.joined hK ⟨rfl, rfl, rfl, rfl, rfl, (congrArg (fun x => some (Value.bool x)) h1.symm), (congrArg (fun x => some (Value.bool x)) h1.symm), (congrArg (fun x => some (Value.bool (x || (decide ((16 : Int) ≤ i))))) h1.symm), trivial⟩ rfl
  skip
  refine SL.mv ?_
  refine SL.join 3 [(0, pt d 0), (1, iw i), (2, iw room), (6, iw 0), (8, iw i), (9, bo (decide ((i : Int) < 0))), (10, bo (decide ((i : Int) < 0))), (13, bo ((decide ((i : Int) < 0)) || (decide ((16 : Int) ≤ i)))), (14, bo ((decide ((i : Int) < 0)) || (decide ((16 : Int) ≤ i)))), (17, bo (((decide ((i : Int) < 0)) || (decide ((16 : Int) ≤ i))) || (decide ((room : Int) < 0))))] [rBlk d (nc A tv cv) 108, rFrs F tv cv A.tb A.cb] ?_ ?_
  rotate_left
  · intro K hK
    rcases tf ((decide ((i : Int) < 0)) || (decide ((16 : Int) ≤ i))) with h2 | h2
    · skip
      refine SL.norm [(0, pt d 0), (1, iw i), (2, iw room), (6, iw 0), (8, iw i), (9, bo (decide ((i : Int) < 0))), (10, bo (decide ((i : Int) < 0))), (13, bo true), (14, bo true)] _ ⟨rfl, rfl, rfl, rfl, rfl, rfl, rfl, (congrArg (fun x => some (Value.bool x)) h2), (congrArg (fun x => some (Value.bool x)) h2), trivial⟩ rfl ?_
      refine SL.off (b := true) rfl rfl rfl rfl rfl (lt_b rfl) ?_
      refine SL.off (b := true) rfl rfl rfl rfl rfl (lt_b rfl) ?_
      refine SL.uu (ru_pick (u := bo true) (v := undef) rfl rfl rfl rfl) ?_
      exact SL.joined hK ⟨rfl, rfl, rfl, rfl, rfl, rfl, rfl, (congrArg (fun x => some (Value.bool x)) h2.symm), (congrArg (fun x => some (Value.bool x)) h2.symm), (congrArg (fun x => some (Value.bool (x || (decide ((room : Int) < 0))))) h2.symm), trivial⟩ rfl
    refine SL.norm [(0, pt d 0), (1, iw i), (2, iw room), (6, iw 0), (8, iw i), (9, bo (decide ((i : Int) < 0))), (10, bo (decide ((i : Int) < 0))), (13, bo false), (14, bo false)] _ ⟨rfl, rfl, rfl, rfl, rfl, rfl, rfl, (congrArg (fun x => some (Value.bool x)) h2), (congrArg (fun x => some (Value.bool x)) h2), trivial⟩ rfl ?_
    refine SL.rug rfl rfl rfl rfl (lt_b rfl) (ru_move rfl rfl) ?_
    refine SL.rug rfl rfl rfl rfl (lt_b rfl) (ru_lt (b := (decide ((room : Int) < 0))) rfl rfl rfl rfl) ?_
    refine SL.uu (ru_pick (u := bo true) (v := bo (decide ((room : Int) < 0))) rfl rfl rfl rfl) ?_
    exact SL.joined hK ⟨rfl, rfl, rfl, rfl, rfl, rfl, rfl, (congrArg (fun x => some (Value.bool x)) h2.symm), (congrArg (fun x => some (Value.bool x)) h2.symm), (congrArg (fun x => some (Value.bool (x || (decide ((room : Int) < 0))))) h2.symm), trivial⟩ rfl
  skip
  refine SL.mv ?_
  refine SL.join 3 [(0, pt d 0), (1, iw i), (2, iw room), (6, iw 0), (8, iw i), (9, bo (decide ((i : Int) < 0))), (10, bo (decide ((i : Int) < 0))), (13, bo ((decide ((i : Int) < 0)) || (decide ((16 : Int) ≤ i)))), (14, bo ((decide ((i : Int) < 0)) || (decide ((16 : Int) ≤ i)))), (17, bo (((decide ((i : Int) < 0)) || (decide ((16 : Int) ≤ i))) || (decide ((room : Int) < 0)))), (18, bo (((decide ((i : Int) < 0)) || (decide ((16 : Int) ≤ i))) || (decide ((room : Int) < 0)))), (21, bo ((((decide ((i : Int) < 0)) || (decide ((16 : Int) ≤ i))) || (decide ((room : Int) < 0))) || (decide ((65535 : Int) < room))))] [rBlk d (nc A tv cv) 108, rFrs F tv cv A.tb A.cb] ?_ ?_
  rotate_left
  · intro K hK
    rcases tf (((decide ((i : Int) < 0)) || (decide ((16 : Int) ≤ i))) || (decide ((room : Int) < 0))) with h3 | h3
    · skip
      refine SL.norm [(0, pt d 0), (1, iw i), (2, iw room), (6, iw 0), (8, iw i), (9, bo (decide ((i : Int) < 0))), (10, bo (decide ((i : Int) < 0))), (13, bo ((decide ((i : Int) < 0)) || (decide ((16 : Int) ≤ i)))), (14, bo ((decide ((i : Int) < 0)) || (decide ((16 : Int) ≤ i)))), (17, bo true), (18, bo true)] _ ⟨rfl, rfl, rfl, rfl, rfl, rfl, rfl, rfl, rfl, (congrArg (fun x => some (Value.bool x)) h3), (congrArg (fun x => some (Value.bool x)) h3), trivial⟩ rfl ?_
      refine SL.off (b := true) rfl rfl rfl rfl rfl (lt_b rfl) ?_
      refine SL.off (b := true) rfl rfl rfl rfl rfl (lt_b rfl) ?_
      refine SL.uu (ru_pick (u := bo true) (v := undef) rfl rfl rfl rfl) ?_
      exact SL.joined hK ⟨rfl, rfl, rfl, rfl, rfl, rfl, rfl, rfl, rfl, (congrArg (fun x => some (Value.bool x)) h3.symm), (congrArg (fun x => some (Value.bool x)) h3.symm), (congrArg (fun x => some (Value.bool (x || (decide ((65535 : Int) < room))))) h3.symm), trivial⟩ rfl
    refine SL.norm [(0, pt d 0), (1, iw i), (2, iw room), (6, iw 0), (8, iw i), (9, bo (decide ((i : Int) < 0))), (10, bo (decide ((i : Int) < 0))), (13, bo ((decide ((i : Int) < 0)) || (decide ((16 : Int) ≤ i)))), (14, bo ((decide ((i : Int) < 0)) || (decide ((16 : Int) ≤ i)))), (17, bo false), (18, bo false)] _ ⟨rfl, rfl, rfl, rfl, rfl, rfl, rfl, rfl, rfl, (congrArg (fun x => some (Value.bool x)) h3), (congrArg (fun x => some (Value.bool x)) h3), trivial⟩ rfl ?_
    refine SL.rug rfl rfl rfl rfl (lt_b rfl) (ru_move rfl rfl) ?_
    refine SL.rug rfl rfl rfl rfl (lt_b rfl) (ru_gt (b := (decide ((65535 : Int) < room))) rfl rfl rfl rfl) ?_
    refine SL.uu (ru_pick (u := bo true) (v := bo (decide ((65535 : Int) < room))) rfl rfl rfl rfl) ?_
    exact SL.joined hK ⟨rfl, rfl, rfl, rfl, rfl, rfl, rfl, rfl, rfl, (congrArg (fun x => some (Value.bool x)) h3.symm), (congrArg (fun x => some (Value.bool x)) h3.symm), (congrArg (fun x => some (Value.bool (x || (decide ((65535 : Int) < room))))) h3.symm), trivial⟩ rfl
  skip
  refine SL.nn [(0, pt d 0), (1, iw i), (2, iw room), (6, iw 0), (21, bo ((((decide ((i : Int) < 0)) || (decide ((16 : Int) ≤ i))) || (decide ((room : Int) < 0))) || (decide ((65535 : Int) < room))))] _ ⟨rfl, rfl, rfl, rfl, rfl, trivial⟩ ?_
  refine SC.both ((((decide ((i : Int) < 0)) || (decide ((16 : Int) ≤ i))) || (decide ((room : Int) < 0))) || (decide ((65535 : Int) < room))) rfl (fun h4 => ?_) (fun h4 => ?_)
  · skip
    have hbd := fun (e : hostB i (A.r 2) (A.r 3) = true) => host_bd e
    refine SC.sr ?_
    refine SL.as ?_
    refine SL.nn [(0, pt d 0), (1, iw i), (2, iw room), (6, iw 1)] _ ⟨rfl, rfl, rfl, rfl, trivial⟩ ?_
    refine SC.ret ?_
    refine SE.passr ?_
    refine SE.res (.inl rfl) (res1 Try.results88 rfl) fun w1 hI => ?_
    have e : setRxF A i room = (1, A) := by
      try simp at h4
      unfold setRxF
      (repeat' split) <;> first | rfl | (exfalso; omega) | (exfalso; simp_all; done) | (exfalso; simp_all; omega)
    rw [e]
    exact ⟨rfl, NicAt.fin hI⟩
  have hi := host_in3 h4
  refine SC.skip ?_
  refine SC.of_SE ?_
  refine SC.norm [(0, pt d 0), (1, iw i), (2, iw room), (6, iw 0)] _ ⟨rfl, rfl, rfl, rfl, trivial⟩ rfl ?_
  refine SC.seq ?_
  refine SC.region_quiet (by kernel_rfl) (by kernel_rfl) ?_
  refine SQ.ru rfl rfl (lt_b rfl) (ru_move rfl rfl) ?_
  refine SQ.ru rfl rfl (lt_b rfl) (ru_move rfl rfl) ?_
  refine SQ.ru rfl rfl (lt_b rfl) (ru_nilCheck rfl rfl) ?_
  refine SQ.ru rfl rfl (lt_b rfl) (ru_fieldAddr (o2 := 0) fd108_0 rfl rfl rfl) ?_
  refine SQ.ru rfl rfl (lt_b rfl) (ru_indexA (o2 := 2) ar91 rfl rfl rfl (by decide) (by decide) rfl) ?_
  refine SQ.ru rfl rfl (lt_b rfl) (ru_load (i := 0) (v := iw (A.r 2)) ts3 rfl rfl rfl (nc_r (by decide))) ?_
  refine SQ.ru rfl rfl (lt_b rfl) (ru_move rfl rfl) ?_
  refine SQ.ru rfl rfl (lt_b rfl) (ru_nilCheck rfl rfl) ?_
  refine SQ.ru rfl rfl (lt_b rfl) (ru_fieldAddr (o2 := 0) fd108_0 rfl rfl rfl) ?_
  refine SQ.ru rfl rfl (lt_b rfl) (ru_indexA (o2 := 3) ar91 rfl rfl rfl (by decide) (by decide) rfl) ?_
  refine SQ.ru rfl rfl (lt_b rfl) (ru_load (i := 0) (v := iw (A.r 3)) ts3 rfl rfl rfl (nc_r (by decide))) ?_
  refine SQ.call (bo (!(hostB i (A.r 2) (A.r 3)))) rfl rfl co83 rfl rfl rfl (lt_b rfl) (fun w hI => H_only hI (devices_any (by omega) (by omega) (by omega))) ?_
  refine SQ.ru rfl rfl (lt_b rfl) (ru_assign rfl rfl) ?_
  refine SQ.nilE ?_
  refine SC.of_SE ?_
  refine SC.norm [(0, pt d 0), (1, iw i), (2, iw room), (6, iw 0), (7, bo (!(hostB i (A.r 2) (A.r 3))))] _ ⟨rfl, rfl, rfl, rfl, rfl, trivial⟩ rfl ?_
  refine SC.seq ?_
  refine SC.sr ?_
  refine SL.mv ?_
  refine SL.nn [(0, pt d 0), (1, iw i), (2, iw room), (6, iw 0), (34, bo (!(hostB i (A.r 2) (A.r 3))))] _ ⟨rfl, rfl, rfl, rfl, rfl, trivial⟩ ?_
  refine SC.both (!(hostB i (A.r 2) (A.r 3))) rfl (fun h5 => ?_) (fun h5 => ?_)
  · skip
    refine SC.sr ?_
    refine SL.as ?_
    refine SL.nn [(0, pt d 0), (1, iw i), (2, iw room), (6, iw 1)] _ ⟨rfl, rfl, rfl, rfl, trivial⟩ ?_
    refine SC.ret ?_
    refine SE.passr ?_
    refine SE.res (.inl rfl) (res1 Try.results88 rfl) fun w1 hI => ?_
    have e : setRxF A i room = (1, A) := by
      try simp at h4 h5
      unfold setRxF
      (repeat' split) <;> first | rfl | (exfalso; omega) | (exfalso; simp_all; done) | (exfalso; simp_all; omega)
    rw [e]
    exact ⟨rfl, NicAt.fin hI⟩
  refine SC.skip ?_
  refine SC.of_SE ?_
  refine SC.norm [(0, pt d 0), (1, iw i), (2, iw room), (6, iw 0)] _ ⟨rfl, rfl, rfl, rfl, trivial⟩ rfl ?_
  refine SC.sr ?_
  refine SL.mv ?_
  refine SL.mv ?_
  refine SL.mv ?_
  refine SL.uu (ru_build (vals := [(0, iw room)]) (cells := [iw room, bo false, Value.slice none 0 0, bo false]) rfl rfl (by kernel_rfl)) ?_
  refine SL.nk ?_
  refine SL.uu (ru_fieldAddr (o2 := 40) fd108_2 rfl rfl rfl) ?_
  refine SL.uu (ru_indexA (o2 := 40 + i.toNat * 4) ar106 rfl rfl rfl (by omega) (by omega) rfl) ?_
  refine SL.storea (i := 0) (vs := [iw room, bo false, Value.slice none 0 0, bo false]) (c' := (nc { A with room := up A.room i.toNat room, has := up A.has i.toNat false, bad := up A.bad i.toNat false } tv (up cv i.toNat (Value.slice none 0 0)))) rfl rfl ta105 rfl rfl rfl rfl rfl rfl (by rw [nc_len]; simp; omega) (.inl rfl) (set_rx (by omega) room false false (Value.slice none 0 0)) ?_
  refine SL.nn [(6, iw 0)] [rBlk d (nc { A with room := up A.room i.toNat room, has := up A.has i.toNat false, bad := up A.bad i.toNat false } tv (up cv i.toNat (Value.slice none 0 0))) 108, rFrs F tv cv A.tb A.cb] ⟨rfl, trivial⟩ ?_
  refine SC.sr ?_
  refine SL.as ?_
  refine SL.nn [(6, iw 0)] _ ⟨rfl, trivial⟩ ?_
  refine SC.ret ?_
  refine SE.res (.inl rfl) (res1 Try.results88 rfl) fun w1 hI => ?_
  have e : setRxF A i room = (0, { A with cb := up A.cb i.toNat [], room := up A.room i.toNat room, has := up A.has i.toNat false, bad := up A.bad i.toNat false }) := by
    try simp at h4 h5
    unfold setRxF
    (repeat' split) <;> first | rfl | (exfalso; omega) | (exfalso; simp_all; done) | (exfalso; simp_all; omega)
  rw [e]
  exact ⟨rfl, NicAt.fin_no hI⟩

theorem q_give {w : World} {d : Nat} {F : Nat → Prop} {A : NicA} (hk : NicOk A) (h : NicAt 108 w d F A) {v : Value} {f : List UInt8} (hb : BytesAt w v f) (hs : sliceIn v (fun b => ¬ b = d)) (bad : Bool) : Calls Try.prog 50 #[pt d 0, v, bo bad] w fun e w' => e = .returned (iw (giveF A f bad).1) ∧ NicTo 108 w d F (giveF A f bad).2 w' := by
  have hok := hk
  obtain ⟨r2, r3, r4, r5, r6, _, _, _⟩ := hok
  obtain ⟨a, c, rfl⟩ := hb.form
  have hbl := hb.len
  obtain ⟨tv, cv, hI⟩ := h.inv 77 (fun b => b = d)
  refine calls_sc (l0 := _) (args := [pt d 0, Value.slice a f.length c, bo bad]) (fun b => b = d) Try.func50 rfl 77 Try.ntmps50 (le_b rfl) hI ?_
  show SC _ _ _ _ [(0, pt d 0), (1, Value.slice a f.length c), (2, bo bad)] [rBlk d (nc A tv cv) 108, rFrs F tv cv A.tb A.cb]
  refine SC.sr ?_
  refine SL.as ?_
  refine SL.nn [(0, pt d 0), (1, Value.slice a f.length c), (2, bo bad), (6, iw 0)] [rBlk d (nc A tv cv) 108, rFrs F tv cv A.tb A.cb] ⟨rfl, rfl, rfl, rfl, trivial⟩ ?_
  refine SC.sr ?_
  refine SL.mv ?_
  refine SL.callv (bo (offB A)) rfl rfl co77 rfl rfl rfl (lt_b rfl) (fun w hI => H_only hI (q_off hk (NicAt.of hI))) ?_
  refine SL.as ?_
  refine SL.nn [(0, pt d 0), (1, Value.slice a f.length c), (2, bo bad), (6, iw 0), (7, bo (offB A))] _ ⟨rfl, rfl, rfl, rfl, rfl, trivial⟩ ?_
  refine SC.seq ?_
  refine SC.sr ?_
  refine SL.mv ?_
  refine SL.nn [(0, pt d 0), (1, Value.slice a f.length c), (2, bo bad), (6, iw 0), (11, bo (offB A))] _ ⟨rfl, rfl, rfl, rfl, rfl, trivial⟩ ?_
  refine SC.both (offB A) rfl (fun h1 => ?_) (fun h1 => ?_)
  · skip
    refine SC.sr ?_
    refine SL.as ?_
    refine SL.nn [(0, pt d 0), (1, Value.slice a f.length c), (2, bo bad), (6, iw 20)] _ ⟨rfl, rfl, rfl, rfl, trivial⟩ ?_
    refine SC.ret ?_
    refine SE.passr ?_
    refine SE.res (.inl rfl) (res1 Try.results50 rfl) fun w1 hI => ?_
    have e : giveF A f bad = (20, A) := by
      try simp at h1
      unfold giveF
      (repeat' split) <;> first | rfl | (exfalso; omega) | (exfalso; simp_all; done) | (exfalso; simp_all; omega)
    rw [e]
    exact ⟨rfl, NicAt.fin hI⟩
  refine SC.skip ?_
  refine SC.of_SE ?_
  refine SC.norm [(0, pt d 0), (1, Value.slice a f.length c), (2, bo bad), (6, iw 0)] _ ⟨rfl, rfl, rfl, rfl, trivial⟩ rfl ?_
  refine SC.sr ?_
  refine SL.mv ?_
  refine SL.nk ?_
  refine SL.uu (ru_fieldAddr (o2 := 0) fd108_0 rfl rfl rfl) ?_
  refine SL.uu (ru_indexA (o2 := 2) ar91 rfl rfl rfl (by decide) (by decide) rfl) ?_
  refine SL.uu (ru_load (i := 0) (v := iw (A.r 2)) ts3 rfl rfl rfl (nc_r (by decide))) ?_
  refine SL.as ?_
  refine SL.nn [(0, pt d 0), (1, Value.slice a f.length c), (2, bo bad), (6, iw 0), (8, iw (A.r 2))] _ ⟨rfl, rfl, rfl, rfl, rfl, trivial⟩ ?_
  refine SC.seq ?_
  refine SC.sr ?_
  refine SL.mv ?_
  refine SL.mv ?_
  refine SL.nk ?_
  refine SL.uu (ru_fieldAddr (o2 := 0) fd108_0 rfl rfl rfl) ?_
  refine SL.uu (ru_indexA (o2 := 3) ar91 rfl rfl rfl (by decide) (by decide) rfl) ?_
  refine SL.uu (ru_load (i := 0) (v := iw (A.r 3)) ts3 rfl rfl rfl (nc_r (by decide))) ?_
  refine SL.uu (ru_eq (b := (((A.r 2) : Int) == (A.r 3))) rfl rfl rfl rfl) ?_
  refine SL.nn [(0, pt d 0), (1, Value.slice a f.length c), (2, bo bad), (6, iw 0), (8, iw (A.r 2)), (23, bo (((A.r 2) : Int) == (A.r 3)))] _ ⟨rfl, rfl, rfl, rfl, rfl, rfl, trivial⟩ ?_
  refine SC.both (((A.r 2) : Int) == (A.r 3)) rfl (fun h2 => ?_) (fun h2 => ?_)
  · skip
    refine SC.seq ?_
    refine SC.region_tail 9 (by kernel_rfl) (by kernel_rfl) ?_
    refine SQ.ru rfl rfl (lt_b rfl) (ru_move rfl rfl) ?_
    refine SQ.ru rfl rfl (lt_b rfl) (ru_nilCheck rfl rfl) ?_
    refine SQ.ru rfl rfl (lt_b rfl) (ru_fieldAddr (o2 := 0) fd108_0 rfl rfl rfl) ?_
    refine SQ.ru rfl rfl (lt_b rfl) (ru_indexA (o2 := 7) ar91 rfl rfl rfl (by decide) (by decide) rfl) ?_
    refine SQ.ru rfl rfl (lt_b rfl) (ru_load (i := 0) (v := iw (A.r 7)) ts3 rfl rfl rfl (nc_r (by decide))) ?_
    refine SQ.ru rfl rfl (lt_b rfl) (ru_add (r := (IntKind.i64.wrap ((A.r 7) + 1))) rfl rfl rfl rfl) ?_
    refine SQ.ru rfl rfl (lt_b rfl) (ru_nilCheck rfl rfl) ?_
    refine SQ.ru rfl rfl (lt_b rfl) (ru_fieldAddr (o2 := 0) fd108_0 rfl rfl rfl) ?_
    refine SQ.ru rfl rfl (lt_b rfl) (ru_indexA (o2 := 7) ar91 rfl rfl rfl (by decide) (by decide) rfl) ?_
    refine SQ.nilL ?_
    refine SL.store (i := 0) (c' := (nc { A with r := up A.r 7 (IntKind.i64.wrap ((A.r 7) + 1)) } tv cv)) rfl rfl ts3 rfl rfl rfl rfl rfl (by rw [nc_len]; omega) (.inl rfl) (set_r (by decide) (IntKind.i64.wrap ((A.r 7) + 1))) ?_
    refine SL.nn [(0, pt d 0), (1, Value.slice a f.length c), (2, bo bad), (6, iw 0), (8, iw (A.r 2))] [rBlk d (nc { A with r := up A.r 7 (IntKind.i64.wrap ((A.r 7) + 1)) } tv cv) 108, rFrs F tv cv A.tb A.cb] ⟨rfl, rfl, rfl, rfl, rfl, trivial⟩ ?_
    refine SC.sr ?_
    refine SL.as ?_
    refine SL.nn [(0, pt d 0), (1, Value.slice a f.length c), (2, bo bad), (6, iw 21), (8, iw (A.r 2))] _ ⟨rfl, rfl, rfl, rfl, rfl, trivial⟩ ?_
    refine SC.ret ?_
    refine SE.passr ?_
    refine SE.res (.inl rfl) (res1 Try.results50 rfl) fun w1 hI => ?_
    have e : giveF A f bad = (21, { A with r := up A.r 7 (IntKind.i64.wrap ((A.r 7) + 1)) }) := by
      try simp at h1 h2
      unfold giveF
      (repeat' split) <;> first | rfl | (exfalso; omega) | (exfalso; simp_all; done) | (exfalso; simp_all; omega)
    rw [e]
    exact ⟨rfl, NicAt.fin hI⟩
  refine SC.skip ?_
  refine SC.of_SE ?_
  refine SC.norm [(0, pt d 0), (1, Value.slice a f.length c), (2, bo bad), (6, iw 0), (8, iw (A.r 2))] _ ⟨rfl, rfl, rfl, rfl, rfl, trivial⟩ rfl ?_
  refine SC.seq ?_
  refine SC.sr ?_
  refine SL.mv ?_
  refine SL.uu (ru_len Try.underlying28 rfl rfl) ?_
  refine SL.mv ?_
  refine SL.mv ?_
  refine SL.nk ?_
  refine SL.uu (ru_fieldAddr (o2 := 40) fd108_2 rfl rfl rfl) ?_
  refine SL.uu (ru_indexA (o2 := 40 + ((A.r 2).toNat) * 4) ar106 rfl rfl rfl (by omega) (by omega) rfl) ?_
  refine SL.uu (ru_fieldAddr (o2 := (40 + ((A.r 2).toNat) * 4)) fd105_0 rfl rfl rfl) ?_
  refine SL.uu (ru_load (i := 0) (v := iw (A.room ((A.r 2).toNat))) ts3 rfl rfl rfl (nc_room (by omega))) ?_
  refine SL.uu (ru_gt (b := (decide (((A.room ((A.r 2).toNat)) : Int) < (f.length : Int)))) rfl rfl rfl rfl) ?_
  refine SL.nn [(0, pt d 0), (1, Value.slice a f.length c), (2, bo bad), (6, iw 0), (8, iw (A.r 2)), (42, bo (decide (((A.room ((A.r 2).toNat)) : Int) < (f.length : Int))))] _ ⟨rfl, rfl, rfl, rfl, rfl, rfl, trivial⟩ ?_
  refine SC.both (decide (((A.room ((A.r 2).toNat)) : Int) < (f.length : Int))) rfl (fun h3 => ?_) (fun h3 => ?_)
  · skip
    refine SC.seq ?_
    refine SC.region_tail 9 (by kernel_rfl) (by kernel_rfl) ?_
    refine SQ.ru rfl rfl (lt_b rfl) (ru_move rfl rfl) ?_
    refine SQ.ru rfl rfl (lt_b rfl) (ru_nilCheck rfl rfl) ?_
    refine SQ.ru rfl rfl (lt_b rfl) (ru_fieldAddr (o2 := 0) fd108_0 rfl rfl rfl) ?_
    refine SQ.ru rfl rfl (lt_b rfl) (ru_indexA (o2 := 7) ar91 rfl rfl rfl (by decide) (by decide) rfl) ?_
    refine SQ.ru rfl rfl (lt_b rfl) (ru_load (i := 0) (v := iw (A.r 7)) ts3 rfl rfl rfl (nc_r (by decide))) ?_
    refine SQ.ru rfl rfl (lt_b rfl) (ru_add (r := (IntKind.i64.wrap ((A.r 7) + 1))) rfl rfl rfl rfl) ?_
    refine SQ.ru rfl rfl (lt_b rfl) (ru_nilCheck rfl rfl) ?_
    refine SQ.ru rfl rfl (lt_b rfl) (ru_fieldAddr (o2 := 0) fd108_0 rfl rfl rfl) ?_
    refine SQ.ru rfl rfl (lt_b rfl) (ru_indexA (o2 := 7) ar91 rfl rfl rfl (by decide) (by decide) rfl) ?_
    refine SQ.nilL ?_
    refine SL.store (i := 0) (c' := (nc { A with r := up A.r 7 (IntKind.i64.wrap ((A.r 7) + 1)) } tv cv)) rfl rfl ts3 rfl rfl rfl rfl rfl (by rw [nc_len]; omega) (.inl rfl) (set_r (by decide) (IntKind.i64.wrap ((A.r 7) + 1))) ?_
    refine SL.nn [(0, pt d 0), (1, Value.slice a f.length c), (2, bo bad), (6, iw 0), (8, iw (A.r 2))] [rBlk d (nc { A with r := up A.r 7 (IntKind.i64.wrap ((A.r 7) + 1)) } tv cv) 108, rFrs F tv cv A.tb A.cb] ⟨rfl, rfl, rfl, rfl, rfl, trivial⟩ ?_
    refine SC.sr ?_
    refine SL.as ?_
    refine SL.nn [(0, pt d 0), (1, Value.slice a f.length c), (2, bo bad), (6, iw 2), (8, iw (A.r 2))] _ ⟨rfl, rfl, rfl, rfl, rfl, trivial⟩ ?_
    refine SC.ret ?_
    refine SE.passr ?_
    refine SE.res (.inl rfl) (res1 Try.results50 rfl) fun w1 hI => ?_
    have e : giveF A f bad = (2, { A with r := up A.r 7 (IntKind.i64.wrap ((A.r 7) + 1)) }) := by
      try simp at h1 h2 h3
      unfold giveF
      (repeat' split) <;> first | rfl | (exfalso; omega) | (exfalso; simp_all; done) | (exfalso; simp_all; omega)
    rw [e]
    exact ⟨rfl, NicAt.fin hI⟩
  refine SC.skip ?_
  refine SC.of_SE ?_
  refine SC.norm [(0, pt d 0), (1, Value.slice a f.length c), (2, bo bad), (6, iw 0), (8, iw (A.r 2))] _ ⟨rfl, rfl, rfl, rfl, rfl, trivial⟩ rfl ?_
  refine SC.seq ?_
  refine SC.region_app 16 10 (fun t4 => rMine (appV t4 5 f.length) f 5) (by kernel_rfl) (by kernel_rfl) rfl (fun t4 ht4 => ?_)
  refine SS.ru _ CT.base rfl rfl rfl (lt_b rfl) (ru_move rfl rfl) ?_
  refine SS.ru _ CT.base rfl rfl rfl (lt_b rfl) (ru_move rfl rfl) ?_
  refine SS.ru _ CT.base rfl rfl rfl (lt_b rfl) (ru_move rfl rfl) ?_
  refine SS.ru _ CT.base rfl rfl rfl (lt_b rfl) (ru_move rfl rfl) ?_
  refine SS.ru _ CT.base rfl rfl rfl (lt_b rfl) (ru_nilCheck rfl rfl) ?_
  refine SS.ru _ CT.base rfl rfl rfl (lt_b rfl) (ru_fieldAddr (o2 := 40) fd108_2 rfl rfl rfl) ?_
  refine SS.ru _ CT.base rfl rfl rfl (lt_b rfl) (ru_indexA (o2 := 40 + ((A.r 2).toNat) * 4) ar106 rfl rfl rfl (by omega) (by omega) rfl) ?_
  refine SS.ru _ CT.base rfl rfl rfl (lt_b rfl) (ru_fieldAddr (o2 := (40 + ((A.r 2).toNat) * 4)) fd105_0 rfl rfl rfl) ?_
  refine SS.ru _ CT.base rfl rfl rfl (lt_b rfl) (ru_load (i := 0) (v := iw (A.room ((A.r 2).toNat))) ts3 rfl rfl rfl (nc_room (by omega))) ?_
  refine SS.ru _ CT.base rfl rfl rfl (lt_b rfl) (ru_move rfl rfl) ?_
  refine SS.append0 (f := f) rfl rfl (lt_b rfl) rfl Try.underlying28 (by kernel_rfl) rfl rfl (fun w hI => (hb.only hI.2 hs)) ?_
  refine SS.ru _ CT.base rfl rfl rfl (lt_b rfl) (ru_move rfl rfl) ?_
  refine SS.ru _ CT.base rfl rfl rfl (lt_b rfl) (ru_build (vals := [(0, iw (A.room ((A.r 2).toNat))), (1, bo true), (2, Value.slice (appA t4 f.length) f.length (appC t4 5 f.length)), (3, bo bad)]) (cells := [iw (A.room ((A.r 2).toNat)), bo true, Value.slice (appA t4 f.length) f.length (appC t4 5 f.length), bo bad]) rfl rfl (by kernel_rfl)) ?_
  refine SS.ru _ CT.base rfl rfl rfl (lt_b rfl) (ru_nilCheck rfl rfl) ?_
  refine SS.ru _ CT.base rfl rfl rfl (lt_b rfl) (ru_fieldAddr (o2 := 40) fd108_2 rfl rfl rfl) ?_
  refine SS.ru _ CT.base rfl rfl rfl (lt_b rfl) (ru_indexA (o2 := 40 + ((A.r 2).toNat) * 4) ar106 rfl rfl rfl (by omega) (by omega) rfl) ?_
  refine SS.nilT ?_
  refine SL.storea (i := 0) (vs := [iw (A.room ((A.r 2).toNat)), bo true, Value.slice (appA t4 f.length) f.length (appC t4 5 f.length), bo bad]) (c' := (nc { A with room := up A.room ((A.r 2).toNat) (A.room ((A.r 2).toNat)), has := up A.has ((A.r 2).toNat) true, bad := up A.bad ((A.r 2).toNat) bad } tv (up cv ((A.r 2).toNat) (Value.slice (appA t4 f.length) f.length (appC t4 5 f.length))))) rfl rfl ta105 rfl rfl rfl rfl rfl rfl (by rw [nc_len]; simp; omega) (.inl rfl) (set_rx (by omega) (A.room ((A.r 2).toNat)) true bad (Value.slice (appA t4 f.length) f.length (appC t4 5 f.length))) ?_
  refine SL.nn [(0, pt d 0), (6, iw 0), (8, iw (A.r 2))] [rBlk d (nc { A with room := up A.room ((A.r 2).toNat) (A.room ((A.r 2).toNat)), has := up A.has ((A.r 2).toNat) true, bad := up A.bad ((A.r 2).toNat) bad } tv (up cv ((A.r 2).toNat) (Value.slice (appA t4 f.length) f.length (appC t4 5 f.length)))) 108, rFrs F tv cv A.tb A.cb, rMine (appV t4 5 f.length) f 5] ⟨rfl, rfl, rfl, trivial⟩ ?_
  refine SC.sr ?_
  refine SL.mv ?_
  refine SL.mv ?_
  refine SL.uu (ru_add (r := (IntKind.i64.wrap ((A.r 2) + 1))) rfl rfl rfl rfl) ?_
  refine SL.uu (ru_rem (r := (nx (A.r 2))) rfl rfl rfl (by decide) (nx_q r2)) ?_
  refine SL.nk ?_
  refine SL.uu (ru_fieldAddr (o2 := 0) fd108_0 rfl rfl rfl) ?_
  refine SL.uu (ru_indexA (o2 := 2) ar91 rfl rfl rfl (by decide) (by decide) rfl) ?_
  refine SL.store (i := 0) (c' := (nc { A with r := up A.r 2 (nx (A.r 2)), room := up A.room ((A.r 2).toNat) (A.room ((A.r 2).toNat)), has := up A.has ((A.r 2).toNat) true, bad := up A.bad ((A.r 2).toNat) bad } tv (up cv ((A.r 2).toNat) (Value.slice (appA t4 f.length) f.length (appC t4 5 f.length))))) rfl rfl ts3 rfl rfl rfl rfl rfl (by rw [nc_len]; omega) (.inl rfl) (set_r (by decide) (nx (A.r 2))) ?_
  refine SL.nn [(0, pt d 0), (6, iw 0)] [rBlk d (nc { A with r := up A.r 2 (nx (A.r 2)), room := up A.room ((A.r 2).toNat) (A.room ((A.r 2).toNat)), has := up A.has ((A.r 2).toNat) true, bad := up A.bad ((A.r 2).toNat) bad } tv (up cv ((A.r 2).toNat) (Value.slice (appA t4 f.length) f.length (appC t4 5 f.length)))) 108, rFrs F tv cv A.tb A.cb, rMine (appV t4 5 f.length) f 5] ⟨rfl, rfl, trivial⟩ ?_
  refine SC.sr ?_
  refine SL.mv ?_
  refine SL.call (ζ := Unit) (fun _ => Value.tuple #[]) (fun _ => [rBlk d (nc { A with r := up (up A.r 2 (nx (A.r 2))) 6 (ev (A.r 6) 1), room := up A.room ((A.r 2).toNat) (A.room ((A.r 2).toNat)), has := up A.has ((A.r 2).toNat) true, bad := up A.bad ((A.r 2).toNat) bad } tv (up cv ((A.r 2).toNat) (Value.slice (appA t4 f.length) f.length (appC t4 5 f.length)))) 108, rFrs F tv cv A.tb A.cb, rMine (appV t4 5 f.length) f 5]) (fun _ => True) rfl rfl co78 rfl rfl rfl (lt_b rfl) (fun w hI => (q_event1 (A := { A with r := up A.r 2 (nx (A.r 2)), room := up A.room ((A.r 2).toNat) (A.room ((A.r 2).toNat)), has := up A.has ((A.r 2).toNat) true, bad := up A.bad ((A.r 2).toNat) bad }) r6 (hI.1.get (i := 0) rfl)).mono fun e w2 ⟨h1, h2, h3⟩ => ⟨(), h1, hI.upd (i := 0) rfl h3 (fun b hb => .inl hb) h2 (fun b hb => .inl hb), trivial⟩) ?_
  intro _ _
  refine SL.nn [(6, iw 0)] [rBlk d (nc { A with r := up (up A.r 2 (nx (A.r 2))) 6 (ev (A.r 6) 1), room := up A.room ((A.r 2).toNat) (A.room ((A.r 2).toNat)), has := up A.has ((A.r 2).toNat) true, bad := up A.bad ((A.r 2).toNat) bad } tv (up cv ((A.r 2).toNat) (Value.slice (appA t4 f.length) f.length (appC t4 5 f.length)))) 108, rFrs F tv cv A.tb A.cb, rMine (appV t4 5 f.length) f 5] ⟨rfl, trivial⟩ ?_
  refine SC.sr ?_
  refine SL.as ?_
  refine SL.nn [(6, iw 0)] _ ⟨rfl, trivial⟩ ?_
  refine SC.ret ?_
  refine SE.res (.inl rfl) (res1 Try.results50 rfl) fun w1 hI => ?_
  have e : giveF A f bad = (0, { A with cb := up A.cb (A.r 2).toNat f, r := up (up A.r 2 (nx (A.r 2))) 6 (ev (A.r 6) 1), room := up A.room ((A.r 2).toNat) (A.room ((A.r 2).toNat)), has := up A.has ((A.r 2).toNat) true, bad := up A.bad ((A.r 2).toNat) bad }) := by
    try simp at h1 h2 h3
    unfold giveF
    (repeat' split) <;> first | rfl | (exfalso; omega) | (exfalso; simp_all; done) | (exfalso; simp_all; omega)
  rw [e]
  exact ⟨rfl, NicAt.fin_rxM hbl (appV_new ht4) hI⟩

theorem q_take {w : World} {d : Nat} {F : Nat → Prop} {A : NicA} (hk : NicOk A) (h : NicAt 108 w d F A)  : Calls Try.prog 49 #[pt d 0] w fun e w' => ∃ v, e = .returned (.tuple #[.agg #[v, bo false, iw (takeR A).1.1.2], iw (takeR A).1.2]) ∧ NicAt 108 w' d F (takeR A).2 ∧ Only (fun b => b = d) w w' ∧ Lent F w' v (takeR A).1.1.1 := by
  have hok := hk
  obtain ⟨r2, r3, r4, r5, r6, _, _, _⟩ := hok
  obtain ⟨tv, cv, hI⟩ := h.inv 47 (fun b => b = d)
  obtain ⟨qa, qc, et⟩ : ∃ qa qc, tv (A.r 4).toNat = .slice qa (A.tb (A.r 4).toNat).length qc := ((show FrsAt w F tv cv A.tb A.cb from hI.1.get (i := 1) rfl).2.1 _ (by omega)).1.form
  refine calls_sc (l0 := _) (args := [pt d 0]) (fun b => b = d) Try.func49 rfl 47 Try.ntmps49 (le_b rfl) hI ?_
  show SC _ _ _ _ [(0, pt d 0)] [rBlk d (nc A tv cv) 108, rFrs F tv cv A.tb A.cb]
  refine SC.sr ?_
  refine SL.alloca rfl rfl (lt_b rfl) ta49 rfl fun b1 hb1 => ?_
  refine SL.as ?_
  refine SL.nn [(0, pt d 0), (2, pt b1 0), (3, iw 0)] [rBlk d (nc A tv cv) 108, rFrs F tv cv A.tb A.cb, rBlk b1 [Value.slice none 0 0, bo false, iw 0] 49] ⟨rfl, rfl, rfl, trivial⟩ ?_
  refine SC.sr ?_
  refine SL.mv ?_
  refine SL.callv (bo (offB A)) rfl rfl co77 rfl rfl rfl (lt_b rfl) (fun w hI => H_only hI (q_off hk (NicAt.of hI))) ?_
  refine SL.as ?_
  refine SL.nn [(0, pt d 0), (2, pt b1 0), (3, iw 0), (4, bo (offB A))] _ ⟨rfl, rfl, rfl, rfl, trivial⟩ ?_
  refine SC.seq ?_
  refine SC.sr ?_
  refine SL.mv ?_
  refine SL.nn [(0, pt d 0), (2, pt b1 0), (3, iw 0), (8, bo (offB A))] _ ⟨rfl, rfl, rfl, rfl, trivial⟩ ?_
  refine SC.both (offB A) rfl (fun h2 => ?_) (fun h2 => ?_)
  · skip
    refine SC.sr ?_
    refine SL.uu (ru_build (vals := []) (cells := [Value.slice none 0 0, bo false, iw 0]) rfl rfl (by kernel_rfl)) ?_
    refine SL.storea (i := 2) (vs := [Value.slice none 0 0, bo false, iw 0]) (c' := [Value.slice none 0 0, bo false, iw 0]) rfl rfl ta49 rfl rfl rfl rfl rfl rfl (le_b rfl) (.inr hb1) rfl ?_
    refine SL.as ?_
    refine SL.nn [(0, pt d 0), (2, pt b1 0), (3, iw 20)] _ ⟨rfl, rfl, rfl, trivial⟩ ?_
    refine SC.ret ?_
    refine SE.passr ?_
    refine SE.res (.inl rfl) (res_ct (z := [Value.slice none 0 0, bo false, iw 0]) (c := [Value.slice none 0 0, bo false, iw 0]) Try.results49 ta49 rfl rfl 2 rfl rfl) fun w1 hI => ?_
    have e : takeR A = ((([], 0), 20), A) := by
      try simp at h2
      unfold takeR
      (repeat' split) <;> first | rfl | (exfalso; omega) | (exfalso; simp_all; done) | (exfalso; simp_all; omega)
    rw [e]
    exact ⟨_, rfl, NicAt.of hI, hI.2, BytesAt.nil _, nil_in⟩
  refine SC.skip ?_
  refine SC.of_SE ?_
  refine SC.norm [(0, pt d 0), (2, pt b1 0), (3, iw 0)] _ ⟨rfl, rfl, rfl, trivial⟩ rfl ?_
  refine SC.sr ?_
  refine SL.mv ?_
  refine SL.nk ?_
  refine SL.uu (ru_fieldAddr (o2 := 0) fd108_0 rfl rfl rfl) ?_
  refine SL.uu (ru_indexA (o2 := 4) ar91 rfl rfl rfl (by decide) (by decide) rfl) ?_
  refine SL.uu (ru_load (i := 0) (v := iw (A.r 4)) ts3 rfl rfl rfl (nc_r (by decide))) ?_
  refine SL.as ?_
  refine SL.nn [(0, pt d 0), (2, pt b1 0), (3, iw 0), (5, iw (A.r 4))] _ ⟨rfl, rfl, rfl, rfl, trivial⟩ ?_
  refine SC.seq ?_
  refine SC.sr ?_
  refine SL.mv ?_
  refine SL.mv ?_
  refine SL.nk ?_
  refine SL.uu (ru_fieldAddr (o2 := 0) fd108_0 rfl rfl rfl) ?_
  refine SL.uu (ru_indexA (o2 := 5) ar91 rfl rfl rfl (by decide) (by decide) rfl) ?_
  refine SL.uu (ru_load (i := 0) (v := iw (A.r 5)) ts3 rfl rfl rfl (nc_r (by decide))) ?_
  refine SL.uu (ru_eq (b := (((A.r 4) : Int) == (A.r 5))) rfl rfl rfl rfl) ?_
  refine SL.nn [(0, pt d 0), (2, pt b1 0), (3, iw 0), (5, iw (A.r 4)), (21, bo (((A.r 4) : Int) == (A.r 5)))] _ ⟨rfl, rfl, rfl, rfl, rfl, trivial⟩ ?_
  refine SC.both (((A.r 4) : Int) == (A.r 5)) rfl (fun h3 => ?_) (fun h3 => ?_)
  · skip
    refine SC.sr ?_
    refine SL.uu (ru_build (vals := []) (cells := [Value.slice none 0 0, bo false, iw 0]) rfl rfl (by kernel_rfl)) ?_
    refine SL.storea (i := 2) (vs := [Value.slice none 0 0, bo false, iw 0]) (c' := [Value.slice none 0 0, bo false, iw 0]) rfl rfl ta49 rfl rfl rfl rfl rfl rfl (le_b rfl) (.inr hb1) rfl ?_
    refine SL.as ?_
    refine SL.nn [(0, pt d 0), (2, pt b1 0), (3, iw 7), (5, iw (A.r 4))] _ ⟨rfl, rfl, rfl, rfl, trivial⟩ ?_
    refine SC.ret ?_
    refine SE.passr ?_
    refine SE.res (.inl rfl) (res_ct (z := [Value.slice none 0 0, bo false, iw 0]) (c := [Value.slice none 0 0, bo false, iw 0]) Try.results49 ta49 rfl rfl 2 rfl rfl) fun w1 hI => ?_
    have e : takeR A = ((([], 0), 7), A) := by
      try simp at h2 h3
      unfold takeR
      (repeat' split) <;> first | rfl | (exfalso; omega) | (exfalso; simp_all; done) | (exfalso; simp_all; omega)
    rw [e]
    exact ⟨_, rfl, NicAt.of hI, hI.2, BytesAt.nil _, nil_in⟩
  refine SC.skip ?_
  refine SC.of_SE ?_
  refine SC.norm [(0, pt d 0), (2, pt b1 0), (3, iw 0), (5, iw (A.r 4))] _ ⟨rfl, rfl, rfl, rfl, trivial⟩ rfl ?_
  refine SC.sr ?_
  refine SL.mv ?_
  refine SL.mv ?_
  refine SL.uu (ru_add (r := (IntKind.i64.wrap ((A.r 4) + 1))) rfl rfl rfl rfl) ?_
  refine SL.uu (ru_rem (r := (nx (A.r 4))) rfl rfl rfl (by decide) (nx_q r4)) ?_
  refine SL.nk ?_
  refine SL.uu (ru_fieldAddr (o2 := 0) fd108_0 rfl rfl rfl) ?_
  refine SL.uu (ru_indexA (o2 := 4) ar91 rfl rfl rfl (by decide) (by decide) rfl) ?_
  refine SL.store (i := 0) (c' := (nc { A with r := up A.r 4 (nx (A.r 4)) } tv cv)) rfl rfl ts3 rfl rfl rfl rfl rfl (by rw [nc_len]; omega) (.inl rfl) (set_r (by decide) (nx (A.r 4))) ?_
  refine SL.nn [(0, pt d 0), (2, pt b1 0), (3, iw 0), (5, iw (A.r 4))] [rBlk d (nc { A with r := up A.r 4 (nx (A.r 4)) } tv cv) 108, rFrs F tv cv A.tb A.cb, rBlk b1 [Value.slice none 0 0, bo false, iw 0] 49] ⟨rfl, rfl, rfl, rfl, trivial⟩ ?_
  refine SC.sr ?_
  refine SL.mv ?_
  refine SL.call (ζ := Unit) (fun _ => Value.tuple #[]) (fun _ => [rBlk d (nc { A with r := up (up A.r 4 (nx (A.r 4))) 6 (ev (A.r 6) 2) } tv cv) 108, rFrs F tv cv A.tb A.cb, rBlk b1 [Value.slice none 0 0, bo false, iw 0] 49]) (fun _ => True) rfl rfl co78 rfl rfl rfl (lt_b rfl) (fun w hI => (q_event2 (A := { A with r := up A.r 4 (nx (A.r 4)) }) r6 (hI.1.get (i := 0) rfl)).mono fun e w2 ⟨h1, h2, h3⟩ => ⟨(), h1, hI.upd (i := 0) rfl h3 (fun b hb => .inl hb) h2 (fun b hb => .inl hb), trivial⟩) ?_
  intro _ _
  refine SL.nn [(0, pt d 0), (2, pt b1 0), (3, iw 0), (5, iw (A.r 4))] [rBlk d (nc { A with r := up (up A.r 4 (nx (A.r 4))) 6 (ev (A.r 6) 2) } tv cv) 108, rFrs F tv cv A.tb A.cb, rBlk b1 [Value.slice none 0 0, bo false, iw 0] 49] ⟨rfl, rfl, rfl, rfl, trivial⟩ ?_
  refine SC.seq ?_
  refine SC.region_tail 15 (by kernel_rfl) (by kernel_rfl) ?_
  refine SQ.ru rfl rfl (lt_b rfl) (ru_move rfl rfl) ?_
  refine SQ.ru rfl rfl (lt_b rfl) (ru_move rfl rfl) ?_
  refine SQ.ru rfl rfl (lt_b rfl) (ru_nilCheck rfl rfl) ?_
  refine SQ.ru rfl rfl (lt_b rfl) (ru_fieldAddr (o2 := 8) fd108_1 rfl rfl rfl) ?_
  refine SQ.ru rfl rfl (lt_b rfl) (ru_indexA (o2 := 8 + ((A.r 4).toNat) * 2) ar103 rfl rfl rfl (by omega) (by omega) rfl) ?_
  refine SQ.ru rfl rfl (lt_b rfl) (ru_fieldAddr (o2 := (8 + ((A.r 4).toNat) * 2)) fd102_0 rfl rfl rfl) ?_
  refine SQ.ru rfl rfl (lt_b rfl) (ru_load (i := 0) (v := Value.slice qa ((A.tb (A.r 4).toNat).length) qc) ts28 rfl rfl rfl ((nc_tv (by omega)).trans (congrArg some et))) ?_
  refine SQ.ru rfl rfl (lt_b rfl) (ru_move rfl rfl) ?_
  refine SQ.ru rfl rfl (lt_b rfl) (ru_move rfl rfl) ?_
  refine SQ.ru rfl rfl (lt_b rfl) (ru_nilCheck rfl rfl) ?_
  refine SQ.ru rfl rfl (lt_b rfl) (ru_fieldAddr (o2 := 8) fd108_1 rfl rfl rfl) ?_
  refine SQ.ru rfl rfl (lt_b rfl) (ru_indexA (o2 := 8 + ((A.r 4).toNat) * 2) ar103 rfl rfl rfl (by omega) (by omega) rfl) ?_
  refine SQ.ru rfl rfl (lt_b rfl) (ru_fieldAddr (o2 := (8 + ((A.r 4).toNat) * 2 + 1)) fd102_1 rfl rfl rfl) ?_
  refine SQ.ru rfl rfl (lt_b rfl) (ru_load (i := 0) (v := iw (A.tp ((A.r 4).toNat))) ts3 rfl rfl rfl (nc_tp (by omega))) ?_
  refine SQ.ru rfl rfl (lt_b rfl) (ru_build (vals := [(0, Value.slice qa ((A.tb (A.r 4).toNat).length) qc), (2, iw (A.tp ((A.r 4).toNat)))]) (cells := [Value.slice qa ((A.tb (A.r 4).toNat).length) qc, bo false, iw (A.tp ((A.r 4).toNat))]) rfl rfl (by kernel_rfl)) ?_
  refine SQ.nilL ?_
  refine SL.storea (i := 2) (vs := [Value.slice qa ((A.tb (A.r 4).toNat).length) qc, bo false, iw (A.tp ((A.r 4).toNat))]) (c' := [Value.slice qa ((A.tb (A.r 4).toNat).length) qc, bo false, iw (A.tp ((A.r 4).toNat))]) rfl rfl ta49 rfl rfl rfl rfl rfl rfl (le_b rfl) (.inr hb1) rfl ?_
  refine SL.as ?_
  refine SL.nn [(2, pt b1 0), (3, iw 0)] [rBlk d (nc { A with r := up (up A.r 4 (nx (A.r 4))) 6 (ev (A.r 6) 2) } tv cv) 108, rFrs F tv cv A.tb A.cb, rBlk b1 [Value.slice qa ((A.tb (A.r 4).toNat).length) qc, bo false, iw (A.tp ((A.r 4).toNat))] 49] ⟨rfl, rfl, trivial⟩ ?_
  refine SC.ret ?_
  refine SE.res (.inl rfl) (res_ct (z := [Value.slice none 0 0, bo false, iw 0]) (c := [Value.slice qa ((A.tb (A.r 4).toNat).length) qc, bo false, iw (A.tp ((A.r 4).toNat))]) Try.results49 ta49 rfl rfl 2 rfl rfl) fun w1 hI => ?_
  have e : takeR A = (((A.tb (A.r 4).toNat, A.tp (A.r 4).toNat), 0), takeF A) := by
    try simp at h2 h3
    unfold takeR
    (repeat' split) <;> first | rfl | (exfalso; omega) | (exfalso; simp_all; done) | (exfalso; simp_all; omega)
  rw [e]
  exact ⟨_, rfl, NicAt.of hI, hI.2, by rw [← et]; exact (show FrsAt w1 F tv cv A.tb A.cb from hI.1.get (i := 1) rfl).2.1 _ (by omega)⟩

theorem q_rx {w : World} {d : Nat} {F : Nat → Prop} {A : NicA} (hk : NicOk A) (h : NicAt 108 w d F A) (i : Int) : Calls Try.prog 86 #[pt d 0, iw i] w fun e w' => ∃ v, e = .returned (.tuple #[v, bo (rxR A i).1.2, iw (rxR A i).2]) ∧ Only (fun _ => False) w w' ∧ Lent F w' v (rxR A i).1.1 := by
  have hok := hk
  obtain ⟨r2, r3, r4, r5, r6, _, _, _⟩ := hok
  obtain ⟨tv, cv, hI⟩ := h.inv 35 (fun _ => False)
  refine calls_sc (l0 := _) (args := [pt d 0, iw i]) (fun _ => False) Try.func86 rfl 35 Try.ntmps86 (le_b rfl) hI ?_
  show SC _ _ _ _ [(0, pt d 0), (1, iw i)] [rBlk d (nc A tv cv) 108, rFrs F tv cv A.tb A.cb]
  refine SC.sr ?_
  refine SL.as ?_
  refine SL.as ?_
  refine SL.as ?_
  refine SL.nn [(0, pt d 0), (1, iw i), (4, Value.slice none 0 0), (5, bo false), (6, iw 0)] [rBlk d (nc A tv cv) 108, rFrs F tv cv A.tb A.cb] ⟨rfl, rfl, rfl, rfl, rfl, trivial⟩ ?_
  refine SC.seq ?_
  refine SC.sr ?_
  refine SL.mv ?_
  refine SL.uu (ru_lt (b := (decide ((i : Int) < 0))) rfl rfl rfl rfl) ?_
  refine SL.mv ?_
  refine SL.join 3 [(0, pt d 0), (1, iw i), (4, Value.slice none 0 0), (5, bo false), (6, iw 0), (7, iw i), (8, bo (decide ((i : Int) < 0))), (9, bo (decide ((i : Int) < 0))), (12, bo ((decide ((i : Int) < 0)) || (decide ((16 : Int) ≤ i))))] [rBlk d (nc A tv cv) 108, rFrs F tv cv A.tb A.cb] ?_ ?_
  rotate_left
  · intro K hK
    rcases tf (decide ((i : Int) < 0)) with h1 | h1
    · skip
      refine SL.norm [(0, pt d 0), (1, iw i), (4, Value.slice none 0 0), (5, bo false), (6, iw 0), (7, iw i), (8, bo true), (9, bo true)] _ ⟨rfl, rfl, rfl, rfl, rfl, rfl, (congrArg (fun x => some (Value.bool x)) h1), (congrArg (fun x => some (Value.bool x)) h1), trivial⟩ rfl ?_
      refine SL.off (b := true) rfl rfl rfl rfl rfl (lt_b rfl) ?_
      refine SL.off (b := true) rfl rfl rfl rfl rfl (lt_b rfl) ?_
      refine SL.uu (ru_pick (u := bo true) (v := undef) rfl rfl rfl rfl) ?_
      exact SL.joined hK ⟨rfl, rfl, rfl, rfl, rfl, rfl, (congrArg (fun x => some (Value.bool x)) h1.symm), (congrArg (fun x => some (Value.bool x)) h1.symm), (congrArg (fun x => some (Value.bool (x || (decide ((16 : Int) ≤ i))))) h1.symm), trivial⟩ rfl
    refine SL.norm [(0, pt d 0), (1, iw i), (4, Value.slice none 0 0), (5, bo false), (6, iw 0), (7, iw i), (8, bo false), (9, bo false)] _ ⟨rfl, rfl, rfl, rfl, rfl, rfl, (congrArg (fun x => some (Value.bool x)) h1), (congrArg (fun x => some (Value.bool x)) h1), trivial⟩ rfl ?_
    refine SL.rug rfl rfl rfl rfl (lt_b rfl) (ru_move rfl rfl) ?_
    refine SL.rug rfl rfl rfl rfl (lt_b rfl) (ru_ge (b := (decide ((16 : Int) ≤ i))) rfl rfl rfl rfl) ?_
    refine SL.uu (ru_pick (u := bo true) (v := bo (decide ((16 : Int) ≤ i))) rfl rfl rfl rfl) ?_
    exact SL.joined hK ⟨rfl, rfl, rfl, rfl, rfl, rfl, (congrArg (fun x => some (Value.bool x)) h1.symm), (congrArg (fun x => some (Value.bool x)) h1.symm), (congrArg (fun x => some (Value.bool (x || (decide ((16 : Int) ≤ i))))) h1.symm), trivial⟩ rfl
  skip
  refine SL.nn [(0, pt d 0), (1, iw i), (4, Value.slice none 0 0), (5, bo false), (6, iw 0), (12, bo ((decide ((i : Int) < 0)) || (decide ((16 : Int) ≤ i))))] _ ⟨rfl, rfl, rfl, rfl, rfl, rfl, trivial⟩ ?_
  refine SC.both ((decide ((i : Int) < 0)) || (decide ((16 : Int) ≤ i))) rfl (fun h2 => ?_) (fun h2 => ?_)
  · skip
    refine SC.sr ?_
    refine SL.as ?_
    refine SL.as ?_
    refine SL.as ?_
    refine SL.nn [(0, pt d 0), (1, iw i), (4, Value.slice none 0 0), (5, bo false), (6, iw 1)] _ ⟨rfl, rfl, rfl, rfl, rfl, trivial⟩ ?_
    refine SC.ret ?_
    refine SE.passr ?_
    refine SE.res (.inl rfl) (res3 Try.results86 rfl rfl rfl) fun w1 hI => ?_
    have e : rxR A i = (([], false), 1) := by
      try simp at h2
      unfold rxR
      (repeat' split) <;> first | rfl | (exfalso; omega) | (exfalso; simp_all; done) | (exfalso; simp_all; omega)
    rw [e]
    exact ⟨_, rfl, hI.2, BytesAt.nil _, nil_in⟩
  have hi := host_in h2
  refine SC.skip ?_
  refine SC.of_SE ?_
  refine SC.norm [(0, pt d 0), (1, iw i), (4, Value.slice none 0 0), (5, bo false), (6, iw 0)] _ ⟨rfl, rfl, rfl, rfl, rfl, trivial⟩ rfl ?_
  refine SC.seq ?_
  refine SC.sr ?_
  refine SL.mv ?_
  refine SL.mv ?_
  refine SL.nk ?_
  refine SL.uu (ru_fieldAddr (o2 := 40) fd108_2 rfl rfl rfl) ?_
  refine SL.uu (ru_indexA (o2 := 40 + i.toNat * 4) ar106 rfl rfl rfl (by omega) (by omega) rfl) ?_
  refine SL.uu (ru_fieldAddr (o2 := (40 + i.toNat * 4 + 1)) fd105_1 rfl rfl rfl) ?_
  refine SL.uu (ru_load (i := 0) (v := bo (A.has i.toNat)) ts4 rfl rfl rfl (nc_has (by omega))) ?_
  refine SL.uu (ru_not (c := (!(A.has i.toNat))) rfl rfl rfl) ?_
  refine SL.nn [(0, pt d 0), (1, iw i), (4, Value.slice none 0 0), (5, bo false), (6, iw 0), (20, bo (!(A.has i.toNat)))] _ ⟨rfl, rfl, rfl, rfl, rfl, rfl, trivial⟩ ?_
  refine SC.both (!(A.has i.toNat)) rfl (fun h3 => ?_) (fun h3 => ?_)
  · skip
    refine SC.sr ?_
    refine SL.as ?_
    refine SL.as ?_
    refine SL.as ?_
    refine SL.nn [(0, pt d 0), (1, iw i), (4, Value.slice none 0 0), (5, bo false), (6, iw 7)] _ ⟨rfl, rfl, rfl, rfl, rfl, trivial⟩ ?_
    refine SC.ret ?_
    refine SE.passr ?_
    refine SE.res (.inl rfl) (res3 Try.results86 rfl rfl rfl) fun w1 hI => ?_
    have e : rxR A i = (([], false), 7) := by
      try simp at h2 h3
      unfold rxR
      (repeat' split) <;> first | rfl | (exfalso; omega) | (exfalso; simp_all; done) | (exfalso; simp_all; omega)
    rw [e]
    exact ⟨_, rfl, hI.2, BytesAt.nil _, nil_in⟩
  refine SC.skip ?_
  refine SC.of_SE ?_
  refine SC.norm [(0, pt d 0), (1, iw i), (4, Value.slice none 0 0), (5, bo false), (6, iw 0)] _ ⟨rfl, rfl, rfl, rfl, rfl, trivial⟩ rfl ?_
  refine SC.seq ?_
  refine SC.region_quiet (by kernel_rfl) (by kernel_rfl) ?_
  refine SQ.ru rfl rfl (lt_b rfl) (ru_move rfl rfl) ?_
  refine SQ.ru rfl rfl (lt_b rfl) (ru_move rfl rfl) ?_
  refine SQ.ru rfl rfl (lt_b rfl) (ru_nilCheck rfl rfl) ?_
  refine SQ.ru rfl rfl (lt_b rfl) (ru_fieldAddr (o2 := 40) fd108_2 rfl rfl rfl) ?_
  refine SQ.ru rfl rfl (lt_b rfl) (ru_indexA (o2 := 40 + i.toNat * 4) ar106 rfl rfl rfl (by omega) (by omega) rfl) ?_
  refine SQ.ru rfl rfl (lt_b rfl) (ru_fieldAddr (o2 := (40 + i.toNat * 4 + 2)) fd105_2 rfl rfl rfl) ?_
  refine SQ.ru rfl rfl (lt_b rfl) (ru_load (i := 0) (v := cv i.toNat) ts28 rfl rfl rfl (nc_cv (by omega))) ?_
  refine SQ.ru rfl rfl (lt_b rfl) (ru_move rfl rfl) ?_
  refine SQ.ru rfl rfl (lt_b rfl) (ru_move rfl rfl) ?_
  refine SQ.ru rfl rfl (lt_b rfl) (ru_nilCheck rfl rfl) ?_
  refine SQ.ru rfl rfl (lt_b rfl) (ru_fieldAddr (o2 := 40) fd108_2 rfl rfl rfl) ?_
  refine SQ.ru rfl rfl (lt_b rfl) (ru_indexA (o2 := 40 + i.toNat * 4) ar106 rfl rfl rfl (by omega) (by omega) rfl) ?_
  refine SQ.ru rfl rfl (lt_b rfl) (ru_fieldAddr (o2 := (40 + i.toNat * 4 + 3)) fd105_3 rfl rfl rfl) ?_
  refine SQ.ru rfl rfl (lt_b rfl) (ru_load (i := 0) (v := bo (A.bad i.toNat)) ts4 rfl rfl rfl (nc_bad (by omega))) ?_
  refine SQ.ru rfl rfl (lt_b rfl) (ru_assign rfl rfl) ?_
  refine SQ.ru rfl rfl (lt_b rfl) (ru_assign rfl rfl) ?_
  refine SQ.ru rfl rfl (lt_b rfl) (ru_assign rfl rfl) ?_
  refine SQ.nilE ?_
  refine SC.of_SE ?_
  refine SC.norm [(4, cv i.toNat), (5, bo (A.bad i.toNat)), (6, iw 0)] _ ⟨rfl, rfl, rfl, trivial⟩ rfl ?_
  refine SC.ret ?_
  refine SE.res (.inl rfl) (res3 Try.results86 rfl rfl rfl) fun w1 hI => ?_
  have e : rxR A i = ((A.cb i.toNat, A.bad i.toNat), 0) := by
    try simp at h2 h3
    unfold rxR
    (repeat' split) <;> first | rfl | (exfalso; omega) | (exfalso; simp_all; done) | (exfalso; simp_all; omega)
  rw [e]
  exact ⟨_, rfl, hI.2, (show FrsAt w1 F tv cv A.tb A.cb from hI.1.get (i := 1) rfl).2.2 _ (by omega)⟩

end Go.Proofs.Ytghfkgcaglabpaa

/-
  What a device's calls do (the program's).
-/
namespace Go.Proofs.Ytghfkgcaglabpaa
open Go.RowKit
set_option maxRecDepth 100000
set_option maxHeartbeats 4000000
theorem rd_in {i : Int} (e : (decide ((i : Int) < 0) || decide ((8 : Int) ≤ i)) = false) : 0 ≤ i ∧ i < 8 := by
  simp only [Bool.or_eq_false_iff, decide_eq_false_iff_not] at e; omega

theorem p_read {w : World} {d : Nat} {F : Nat → Prop} {A : NicA} (hk : NicOk A) (h : NicAt 99 w d F A) (reg : Int) : Calls Try.prog 63 #[pt d 0, iw reg] w fun e w' => e = .returned (.tuple #[iw (readF A reg).1.1, iw (readF A reg).1.2]) ∧ NicTo 99 w d F (readF A reg).2 w' := by
  have hok := hk
  obtain ⟨r2, r3, r4, r5, r6, _, _, _⟩ := hok
  obtain ⟨tv, cv, hI⟩ := h.inv 27 (fun b => b = d)
  refine calls_sc (l0 := _) (args := [pt d 0, iw reg]) (fun b => b = d) Try.func63 rfl 27 Try.ntmps63 (le_b rfl) hI ?_
  show SC _ _ _ _ [(0, pt d 0), (1, iw reg)] [rBlk d (nc A tv cv) 99, rFrs F tv cv A.tb A.cb]
  refine SC.sr ?_
  refine SL.as ?_
  refine SL.as ?_
  refine SL.nn [(0, pt d 0), (1, iw reg), (4, iw 0), (5, iw 0)] [rBlk d (nc A tv cv) 99, rFrs F tv cv A.tb A.cb] ⟨rfl, rfl, rfl, rfl, trivial⟩ ?_
  refine SC.seq ?_
  refine SC.sr ?_
  refine SL.mv ?_
  refine SL.uu (ru_lt (b := (decide ((reg : Int) < 0))) rfl rfl rfl rfl) ?_
  refine SL.mv ?_
  refine SL.join 3 [(0, pt d 0), (1, iw reg), (4, iw 0), (5, iw 0), (7, iw reg), (8, bo (decide ((reg : Int) < 0))), (9, bo (decide ((reg : Int) < 0))), (12, bo ((decide ((reg : Int) < 0)) || (decide ((8 : Int) ≤ reg))))] [rBlk d (nc A tv cv) 99, rFrs F tv cv A.tb A.cb] ?_ ?_
  rotate_left
  · intro K hK
    rcases tf (decide ((reg : Int) < 0)) with h1 | h1
    · skip
      refine SL.norm [(0, pt d 0), (1, iw reg), (4, iw 0), (5, iw 0), (7, iw reg), (8, bo true), (9, bo true)] _ ⟨rfl, rfl, rfl, rfl, rfl, (congrArg (fun x => some (Value.bool x)) h1), (congrArg (fun x => some (Value.bool x)) h1), trivial⟩ rfl ?_
      refine SL.off (b := true) rfl rfl rfl rfl rfl (lt_b rfl) ?_
      refine SL.off (b := true) rfl rfl rfl rfl rfl (lt_b rfl) ?_
      refine SL.uu (ru_pick (u := bo true) (v := undef) rfl rfl rfl rfl) ?_
      exact SL.joined hK ⟨rfl, rfl, rfl, rfl, rfl, (congrArg (fun x => some (Value.bool x)) h1.symm), (congrArg (fun x => some (Value.bool x)) h1.symm), (congrArg (fun x => some (Value.bool (x || (decide ((8 : Int) ≤ reg))))) h1.symm), trivial⟩ rfl
    refine SL.norm [(0, pt d 0), (1, iw reg), (4, iw 0), (5, iw 0), (7, iw reg), (8, bo false), (9, bo false)] _ ⟨rfl, rfl, rfl, rfl, rfl, (congrArg (fun x => some (Value.bool x)) h1), (congrArg (fun x => some (Value.bool x)) h1), trivial⟩ rfl ?_
    refine SL.rug rfl rfl rfl rfl (lt_b rfl) (ru_move rfl rfl) ?_
    refine SL.rug rfl rfl rfl rfl (lt_b rfl) (ru_ge (b := (decide ((8 : Int) ≤ reg))) rfl rfl rfl rfl) ?_
    refine SL.uu (ru_pick (u := bo true) (v := bo (decide ((8 : Int) ≤ reg))) rfl rfl rfl rfl) ?_
    exact SL.joined hK ⟨rfl, rfl, rfl, rfl, rfl, (congrArg (fun x => some (Value.bool x)) h1.symm), (congrArg (fun x => some (Value.bool x)) h1.symm), (congrArg (fun x => some (Value.bool (x || (decide ((8 : Int) ≤ reg))))) h1.symm), trivial⟩ rfl
  skip
  refine SL.nn [(0, pt d 0), (1, iw reg), (4, iw 0), (5, iw 0), (12, bo ((decide ((reg : Int) < 0)) || (decide ((8 : Int) ≤ reg))))] _ ⟨rfl, rfl, rfl, rfl, rfl, trivial⟩ ?_
  refine SC.both ((decide ((reg : Int) < 0)) || (decide ((8 : Int) ≤ reg))) rfl (fun h2 => ?_) (fun h2 => ?_)
  · skip
    refine SC.sr ?_
    refine SL.as ?_
    refine SL.as ?_
    refine SL.nn [(0, pt d 0), (1, iw reg), (4, iw 0), (5, iw 1)] _ ⟨rfl, rfl, rfl, rfl, trivial⟩ ?_
    refine SC.ret ?_
    refine SE.passr ?_
    refine SE.res (.inl rfl) (res2 Try.results63 rfl rfl) fun w1 hI => ?_
    have e : readF A reg = ((0, 1), A) := by
      try simp at h2
      unfold readF
      (repeat' split) <;> first | rfl | (exfalso; omega) | (exfalso; simp_all; done) | (exfalso; simp_all; omega)
    rw [e]
    exact ⟨rfl, NicAt.fin hI⟩
  have hr := rd_in h2
  refine SC.skip ?_
  refine SC.of_SE ?_
  refine SC.norm [(0, pt d 0), (1, iw reg), (4, iw 0), (5, iw 0)] _ ⟨rfl, rfl, rfl, rfl, trivial⟩ rfl ?_
  refine SC.sr ?_
  refine SL.mv ?_
  refine SL.mv ?_
  refine SL.nk ?_
  refine SL.uu (ru_fieldAddr (o2 := 0) fd99_0 rfl rfl rfl) ?_
  refine SL.uu (ru_indexA (o2 := 0 + reg.toNat * 1) ar91 rfl rfl rfl (by omega) (by omega) rfl) ?_
  refine SL.uu (ru_load (i := 0) (v := iw (A.r reg.toNat)) ts3 rfl rfl rfl (nc_r' (by omega))) ?_
  refine SL.as ?_
  refine SL.nn [(0, pt d 0), (1, iw reg), (4, iw 0), (5, iw 0), (6, iw (A.r reg.toNat))] _ ⟨rfl, rfl, rfl, rfl, rfl, trivial⟩ ?_
  refine SC.seq ?_
  refine SC.sr ?_
  refine SL.mv ?_
  refine SL.uu (ru_eq (b := ((reg : Int) == 6)) rfl rfl rfl rfl) ?_
  refine SL.nn [(0, pt d 0), (1, iw reg), (4, iw 0), (5, iw 0), (6, iw (A.r reg.toNat)), (20, bo ((reg : Int) == 6))] _ ⟨rfl, rfl, rfl, rfl, rfl, rfl, trivial⟩ ?_
  refine SC.both ((reg : Int) == 6) rfl (fun h3 => ?_) (fun h3 => ?_)
  · skip
    refine SC.region ?_
    refine SL.mv ?_
    refine SL.mv ?_
    refine SL.nk ?_
    refine SL.uu (ru_fieldAddr (o2 := 0) fd99_0 rfl rfl rfl) ?_
    refine SL.uu (ru_indexA (o2 := 0 + reg.toNat * 1) ar91 rfl rfl rfl (by omega) (by omega) rfl) ?_
    refine SL.store (i := 0) (c' := (nc { A with r := up A.r reg.toNat 0 } tv cv)) rfl rfl ts3 rfl rfl rfl rfl rfl (by rw [nc_len]; omega) (.inl rfl) (set_r' (by omega) 0) ?_
    refine SL.nn [(4, iw 0), (5, iw 0), (6, iw (A.r reg.toNat))] [rBlk d (nc { A with r := up A.r reg.toNat 0 } tv cv) 99, rFrs F tv cv A.tb A.cb] ⟨rfl, rfl, rfl, trivial⟩ ?_
    refine SC.sr ?_
    refine SL.mv ?_
    refine SL.as ?_
    refine SL.as ?_
    refine SL.nn [(4, iw (A.r reg.toNat)), (5, iw 0)] _ ⟨rfl, rfl, trivial⟩ ?_
    refine SC.ret ?_
    refine SE.res (.inl rfl) (res2 Try.results63 rfl rfl) fun w1 hI => ?_
    have e : readF A reg = ((A.r reg.toNat, 0), { A with r := up A.r reg.toNat 0 }) := by
      try simp at h2 h3
      unfold readF
      (repeat' split) <;> first | rfl | (exfalso; omega) | (exfalso; simp_all; done) | (exfalso; simp_all; omega)
    rw [e]
    exact ⟨rfl, NicAt.fin hI⟩
  refine SC.skip ?_
  refine SC.of_SE ?_
  refine SC.norm [(4, iw 0), (5, iw 0), (6, iw (A.r reg.toNat))] _ ⟨rfl, rfl, rfl, trivial⟩ rfl ?_
  refine SC.sr ?_
  refine SL.mv ?_
  refine SL.as ?_
  refine SL.as ?_
  refine SL.nn [(4, iw (A.r reg.toNat)), (5, iw 0)] _ ⟨rfl, rfl, trivial⟩ ?_
  refine SC.ret ?_
  refine SE.res (.inl rfl) (res2 Try.results63 rfl rfl) fun w1 hI => ?_
  have e : readF A reg = ((A.r reg.toNat, 0), A) := by
    try simp at h2 h3
    unfold readF
    (repeat' split) <;> first | rfl | (exfalso; omega) | (exfalso; simp_all; done) | (exfalso; simp_all; omega)
  rw [e]
  exact ⟨rfl, NicAt.fin hI⟩

theorem p_link {w : World} {d : Nat} {F : Nat → Prop} {A : NicA} (hk : NicOk A) (h : NicAt 99 w d F A) (u : Bool) : Calls Try.prog 19 #[pt d 0, bo u] w fun e w' => e = .returned (.tuple #[]) ∧ NicTo 99 w d F (linkF A u) w' := by
  have hok := hk
  obtain ⟨r2, r3, r4, r5, r6, _, _, _⟩ := hok
  obtain ⟨tv, cv, hI⟩ := h.inv 27 (fun b => b = d)
  refine calls_sc (l0 := _) (args := [pt d 0, bo u]) (fun b => b = d) Try.func19 rfl 27 Try.ntmps19 (le_b rfl) hI ?_
  show SC _ _ _ _ [(0, pt d 0), (1, bo u)] [rBlk d (nc A tv cv) 99, rFrs F tv cv A.tb A.cb]
  refine SC.sr ?_
  refine SL.as ?_
  refine SL.nn [(0, pt d 0), (1, bo u), (4, iw 0)] [rBlk d (nc A tv cv) 99, rFrs F tv cv A.tb A.cb] ⟨rfl, rfl, rfl, trivial⟩ ?_
  refine SC.seq ?_
  refine SC.sr ?_
  refine SL.mv ?_
  refine SL.nn [(0, pt d 0), (4, iw 0), (5, bo u)] _ ⟨rfl, rfl, rfl, trivial⟩ ?_
  refine SC.both u rfl (fun h1 => ?_) (fun h1 => ?_)
  · skip
    refine SC.region ?_
    refine SL.as ?_
    refine SL.nn [(0, pt d 0), (4, iw 1)] _ ⟨rfl, rfl, trivial⟩ ?_
    refine SC.sr ?_
    refine SL.mv ?_
    refine SL.nk ?_
    refine SL.uu (ru_fieldAddr (o2 := 0) fd99_0 rfl rfl rfl) ?_
    refine SL.uu (ru_indexA (o2 := 1) ar91 rfl rfl rfl (by decide) (by decide) rfl) ?_
    refine SL.uu (ru_load (i := 0) (v := iw (A.r 1)) ts3 rfl rfl rfl (nc_r (by decide))) ?_
    refine SL.mv ?_
    refine SL.uu (ru_ne (b := (((A.r 1) : Int) != 1)) rfl rfl rfl rfl) ?_
    refine SL.nn [(0, pt d 0), (4, iw 1), (12, bo (((A.r 1) : Int) != 1))] _ ⟨rfl, rfl, rfl, trivial⟩ ?_
    refine SC.both (((A.r 1) : Int) != 1) rfl (fun h2 => ?_) (fun h2 => ?_)
    · skip
      refine SC.sr ?_
      refine SL.mv ?_
      refine SL.mv ?_
      refine SL.nk ?_
      refine SL.uu (ru_fieldAddr (o2 := 0) fd99_0 rfl rfl rfl) ?_
      refine SL.uu (ru_indexA (o2 := 1) ar91 rfl rfl rfl (by decide) (by decide) rfl) ?_
      refine SL.store (i := 0) (c' := (nc { A with r := up A.r 1 1 } tv cv)) rfl rfl ts3 rfl rfl rfl rfl rfl (by rw [nc_len]; omega) (.inl rfl) (set_r (by decide) 1) ?_
      refine SL.nn [(0, pt d 0)] [rBlk d (nc { A with r := up A.r 1 1 } tv cv) 99, rFrs F tv cv A.tb A.cb] ⟨rfl, trivial⟩ ?_
      refine SC.region_tail 9 (by kernel_rfl) (by kernel_rfl) ?_
      refine SQ.ru rfl rfl (lt_b rfl) (ru_move rfl rfl) ?_
      refine SQ.ru rfl rfl (lt_b rfl) (ru_nilCheck rfl rfl) ?_
      refine SQ.ru rfl rfl (lt_b rfl) (ru_fieldAddr (o2 := 0) fd99_0 rfl rfl rfl) ?_
      refine SQ.ru rfl rfl (lt_b rfl) (ru_indexA (o2 := 6) ar91 rfl rfl rfl (by decide) (by decide) rfl) ?_
      refine SQ.ru rfl rfl (lt_b rfl) (ru_load (i := 0) (v := iw (A.r 6)) ts3 rfl rfl rfl (nc_r (by decide))) ?_
      refine SQ.ru rfl rfl (lt_b rfl) (ru_or (r := (bits .or .i64 (A.r 6) 4)) rfl rfl rfl rfl) ?_
      refine SQ.ru rfl rfl (lt_b rfl) (ru_nilCheck rfl rfl) ?_
      refine SQ.ru rfl rfl (lt_b rfl) (ru_fieldAddr (o2 := 0) fd99_0 rfl rfl rfl) ?_
      refine SQ.ru rfl rfl (lt_b rfl) (ru_indexA (o2 := 6) ar91 rfl rfl rfl (by decide) (by decide) rfl) ?_
      refine SQ.nilL ?_
      refine SL.store (i := 0) (c' := (nc { A with r := up (up A.r 1 1) 6 (bits .or .i64 (A.r 6) 4) } tv cv)) rfl rfl ts3 rfl rfl rfl rfl rfl (by rw [nc_len]; omega) (.inl rfl) (set_r (by decide) (bits .or .i64 (A.r 6) 4)) ?_
      refine SL.nil ?_
      refine SE.res (.inr rfl) (res0 Try.results19) fun w1 hI => ?_
      have e : linkF A u = { A with r := up (up A.r 1 1) 6 (bits .or .i64 (A.r 6) 4) } := by
        try simp at h1 h2
        unfold linkF
        (repeat' split) <;> first | rfl | (exfalso; omega) | (exfalso; simp_all; done) | (exfalso; simp_all; omega)
      rw [e]
      exact ⟨rfl, NicAt.fin hI⟩
    refine SC.skip ?_
    refine SE.res (.inr rfl) (res0 Try.results19) fun w1 hI => ?_
    have e : linkF A u = A := by
      try simp at h1 h2
      unfold linkF
      (repeat' split) <;> first | rfl | (exfalso; omega) | (exfalso; simp_all; done) | (exfalso; simp_all; omega)
    rw [e]
    exact ⟨rfl, NicAt.fin hI⟩
  refine SC.skip ?_
  refine SC.of_SE ?_
  refine SC.norm [(0, pt d 0), (4, iw 0)] _ ⟨rfl, rfl, trivial⟩ rfl ?_
  refine SC.sr ?_
  refine SL.mv ?_
  refine SL.nk ?_
  refine SL.uu (ru_fieldAddr (o2 := 0) fd99_0 rfl rfl rfl) ?_
  refine SL.uu (ru_indexA (o2 := 1) ar91 rfl rfl rfl (by decide) (by decide) rfl) ?_
  refine SL.uu (ru_load (i := 0) (v := iw (A.r 1)) ts3 rfl rfl rfl (nc_r (by decide))) ?_
  refine SL.mv ?_
  refine SL.uu (ru_ne (b := (((A.r 1) : Int) != 0)) rfl rfl rfl rfl) ?_
  refine SL.nn [(0, pt d 0), (4, iw 0), (12, bo (((A.r 1) : Int) != 0))] _ ⟨rfl, rfl, rfl, trivial⟩ ?_
  refine SC.both (((A.r 1) : Int) != 0) rfl (fun h3 => ?_) (fun h3 => ?_)
  · skip
    refine SC.sr ?_
    refine SL.mv ?_
    refine SL.mv ?_
    refine SL.nk ?_
    refine SL.uu (ru_fieldAddr (o2 := 0) fd99_0 rfl rfl rfl) ?_
    refine SL.uu (ru_indexA (o2 := 1) ar91 rfl rfl rfl (by decide) (by decide) rfl) ?_
    refine SL.store (i := 0) (c' := (nc { A with r := up A.r 1 0 } tv cv)) rfl rfl ts3 rfl rfl rfl rfl rfl (by rw [nc_len]; omega) (.inl rfl) (set_r (by decide) 0) ?_
    refine SL.nn [(0, pt d 0)] [rBlk d (nc { A with r := up A.r 1 0 } tv cv) 99, rFrs F tv cv A.tb A.cb] ⟨rfl, trivial⟩ ?_
    refine SC.region_tail 9 (by kernel_rfl) (by kernel_rfl) ?_
    refine SQ.ru rfl rfl (lt_b rfl) (ru_move rfl rfl) ?_
    refine SQ.ru rfl rfl (lt_b rfl) (ru_nilCheck rfl rfl) ?_
    refine SQ.ru rfl rfl (lt_b rfl) (ru_fieldAddr (o2 := 0) fd99_0 rfl rfl rfl) ?_
    refine SQ.ru rfl rfl (lt_b rfl) (ru_indexA (o2 := 6) ar91 rfl rfl rfl (by decide) (by decide) rfl) ?_
    refine SQ.ru rfl rfl (lt_b rfl) (ru_load (i := 0) (v := iw (A.r 6)) ts3 rfl rfl rfl (nc_r (by decide))) ?_
    refine SQ.ru rfl rfl (lt_b rfl) (ru_or (r := (bits .or .i64 (A.r 6) 4)) rfl rfl rfl rfl) ?_
    refine SQ.ru rfl rfl (lt_b rfl) (ru_nilCheck rfl rfl) ?_
    refine SQ.ru rfl rfl (lt_b rfl) (ru_fieldAddr (o2 := 0) fd99_0 rfl rfl rfl) ?_
    refine SQ.ru rfl rfl (lt_b rfl) (ru_indexA (o2 := 6) ar91 rfl rfl rfl (by decide) (by decide) rfl) ?_
    refine SQ.nilL ?_
    refine SL.store (i := 0) (c' := (nc { A with r := up (up A.r 1 0) 6 (bits .or .i64 (A.r 6) 4) } tv cv)) rfl rfl ts3 rfl rfl rfl rfl rfl (by rw [nc_len]; omega) (.inl rfl) (set_r (by decide) (bits .or .i64 (A.r 6) 4)) ?_
    refine SL.nil ?_
    refine SE.res (.inr rfl) (res0 Try.results19) fun w1 hI => ?_
    have e : linkF A u = { A with r := up (up A.r 1 0) 6 (bits .or .i64 (A.r 6) 4) } := by
      try simp at h1 h3
      unfold linkF
      (repeat' split) <;> first | rfl | (exfalso; omega) | (exfalso; simp_all; done) | (exfalso; simp_all; omega)
    rw [e]
    exact ⟨rfl, NicAt.fin hI⟩
  refine SC.skip ?_
  refine SE.res (.inr rfl) (res0 Try.results19) fun w1 hI => ?_
  have e : linkF A u = A := by
    try simp at h1 h3
    unfold linkF
    (repeat' split) <;> first | rfl | (exfalso; omega) | (exfalso; simp_all; done) | (exfalso; simp_all; omega)
  rw [e]
  exact ⟨rfl, NicAt.fin hI⟩

theorem p_tick {w : World} {d : Nat} {F : Nat → Prop} {A : NicA} (hk : NicOk A) (h : NicAt 99 w d F A)  : Calls Try.prog 52 #[pt d 0] w fun e w' => e = .returned (.tuple #[]) ∧ NicTo 99 w d F (tickF A) w' := by
  have hok := hk
  obtain ⟨r2, r3, r4, r5, r6, _, _, _⟩ := hok
  obtain ⟨tv, cv, hI⟩ := h.inv 9 (fun b => b = d)
  refine calls_sc (l0 := _) (args := [pt d 0]) (fun b => b = d) Try.func52 rfl 9 Try.ntmps52 (le_b rfl) hI ?_
  show SC _ _ _ _ [(0, pt d 0)] [rBlk d (nc A tv cv) 99, rFrs F tv cv A.tb A.cb]
  refine SC.region ?_
  refine SL.mv ?_
  refine SL.nk ?_
  refine SL.uu (ru_fieldAddr (o2 := 104) fd99_3 rfl rfl rfl) ?_
  refine SL.uu (ru_load (i := 0) (v := iw A.clk) ts3 rfl rfl rfl nc_clk) ?_
  refine SL.uu (ru_add (r := (IntKind.i64.wrap (A.clk + 1))) rfl rfl rfl rfl) ?_
  refine SL.nk ?_
  refine SL.uu (ru_fieldAddr (o2 := 104) fd99_3 rfl rfl rfl) ?_
  refine SL.store (i := 0) (c' := (nc { A with clk := IntKind.i64.wrap (A.clk + 1) } tv cv)) rfl rfl ts3 rfl rfl rfl rfl rfl (by rw [nc_len]; omega) (.inl rfl) (set_clk (IntKind.i64.wrap (A.clk + 1))) ?_
  refine SL.nil ?_
  refine SE.res (.inr rfl) (res0 Try.results52) fun w1 hI => ?_
  have e : tickF A = { A with clk := IntKind.i64.wrap (A.clk + 1) } := by
    unfold tickF
    (repeat' split) <;> first | rfl | (exfalso; omega) | (exfalso; simp_all; done) | (exfalso; simp_all; omega)
  rw [e]
  exact ⟨rfl, NicAt.fin hI⟩

end Go.Proofs.Ytghfkgcaglabpaa

/-
  What a device's calls do (the reference's).
-/
namespace Go.Proofs.Ytghfkgcaglabpaa
open Go.RowKit
set_option maxRecDepth 100000
set_option maxHeartbeats 4000000
theorem rd_inq {i : Int} (e : (decide ((i : Int) < 0) || decide ((7 : Int) < i)) = false) : 0 ≤ i ∧ i < 8 := by
  simp only [Bool.or_eq_false_iff, decide_eq_false_iff_not] at e; omega

theorem q_read {w : World} {d : Nat} {F : Nat → Prop} {A : NicA} (hk : NicOk A) (h : NicAt 108 w d F A) (reg : Int) : Calls Try.prog 84 #[pt d 0, iw reg] w fun e w' => e = .returned (.tuple #[iw (readF A reg).1.1, iw (readF A reg).1.2]) ∧ NicTo 108 w d F (readF A reg).2 w' := by
  have hok := hk
  obtain ⟨r2, r3, r4, r5, r6, _, _, _⟩ := hok
  obtain ⟨tv, cv, hI⟩ := h.inv 27 (fun b => b = d)
  refine calls_sc (l0 := _) (args := [pt d 0, iw reg]) (fun b => b = d) Try.func84 rfl 27 Try.ntmps84 (le_b rfl) hI ?_
  show SC _ _ _ _ [(0, pt d 0), (1, iw reg)] [rBlk d (nc A tv cv) 108, rFrs F tv cv A.tb A.cb]
  refine SC.sr ?_
  refine SL.as ?_
  refine SL.as ?_
  refine SL.nn [(0, pt d 0), (1, iw reg), (4, iw 0), (5, iw 0)] [rBlk d (nc A tv cv) 108, rFrs F tv cv A.tb A.cb] ⟨rfl, rfl, rfl, rfl, trivial⟩ ?_
  refine SC.seq ?_
  refine SC.sr ?_
  refine SL.mv ?_
  refine SL.uu (ru_lt (b := (decide ((reg : Int) < 0))) rfl rfl rfl rfl) ?_
  refine SL.mv ?_
  refine SL.join 3 [(0, pt d 0), (1, iw reg), (4, iw 0), (5, iw 0), (7, iw reg), (8, bo (decide ((reg : Int) < 0))), (9, bo (decide ((reg : Int) < 0))), (12, bo ((decide ((reg : Int) < 0)) || (decide ((7 : Int) < reg))))] [rBlk d (nc A tv cv) 108, rFrs F tv cv A.tb A.cb] ?_ ?_
  rotate_left
  · intro K hK
    rcases tf (decide ((reg : Int) < 0)) with h1 | h1
    · skip
      refine SL.norm [(0, pt d 0), (1, iw reg), (4, iw 0), (5, iw 0), (7, iw reg), (8, bo true), (9, bo true)] _ ⟨rfl, rfl, rfl, rfl, rfl, (congrArg (fun x => some (Value.bool x)) h1), (congrArg (fun x => some (Value.bool x)) h1), trivial⟩ rfl ?_
      refine SL.off (b := true) rfl rfl rfl rfl rfl (lt_b rfl) ?_
      refine SL.off (b := true) rfl rfl rfl rfl rfl (lt_b rfl) ?_
      refine SL.uu (ru_pick (u := bo true) (v := undef) rfl rfl rfl rfl) ?_
      exact SL.joined hK ⟨rfl, rfl, rfl, rfl, rfl, (congrArg (fun x => some (Value.bool x)) h1.symm), (congrArg (fun x => some (Value.bool x)) h1.symm), (congrArg (fun x => some (Value.bool (x || (decide ((7 : Int) < reg))))) h1.symm), trivial⟩ rfl
    refine SL.norm [(0, pt d 0), (1, iw reg), (4, iw 0), (5, iw 0), (7, iw reg), (8, bo false), (9, bo false)] _ ⟨rfl, rfl, rfl, rfl, rfl, (congrArg (fun x => some (Value.bool x)) h1), (congrArg (fun x => some (Value.bool x)) h1), trivial⟩ rfl ?_
    refine SL.rug rfl rfl rfl rfl (lt_b rfl) (ru_move rfl rfl) ?_
    refine SL.rug rfl rfl rfl rfl (lt_b rfl) (ru_gt (b := (decide ((7 : Int) < reg))) rfl rfl rfl rfl) ?_
    refine SL.uu (ru_pick (u := bo true) (v := bo (decide ((7 : Int) < reg))) rfl rfl rfl rfl) ?_
    exact SL.joined hK ⟨rfl, rfl, rfl, rfl, rfl, (congrArg (fun x => some (Value.bool x)) h1.symm), (congrArg (fun x => some (Value.bool x)) h1.symm), (congrArg (fun x => some (Value.bool (x || (decide ((7 : Int) < reg))))) h1.symm), trivial⟩ rfl
  skip
  refine SL.nn [(0, pt d 0), (1, iw reg), (4, iw 0), (5, iw 0), (12, bo ((decide ((reg : Int) < 0)) || (decide ((7 : Int) < reg))))] _ ⟨rfl, rfl, rfl, rfl, rfl, trivial⟩ ?_
  refine SC.both ((decide ((reg : Int) < 0)) || (decide ((7 : Int) < reg))) rfl (fun h2 => ?_) (fun h2 => ?_)
  · skip
    refine SC.sr ?_
    refine SL.as ?_
    refine SL.as ?_
    refine SL.nn [(0, pt d 0), (1, iw reg), (4, iw 0), (5, iw 1)] _ ⟨rfl, rfl, rfl, rfl, trivial⟩ ?_
    refine SC.ret ?_
    refine SE.passr ?_
    refine SE.res (.inl rfl) (res2 Try.results84 rfl rfl) fun w1 hI => ?_
    have e : readF A reg = ((0, 1), A) := by
      try simp at h2
      unfold readF
      (repeat' split) <;> first | rfl | (exfalso; omega) | (exfalso; simp_all; done) | (exfalso; simp_all; omega)
    rw [e]
    exact ⟨rfl, NicAt.fin hI⟩
  have hr := rd_inq h2
  refine SC.skip ?_
  refine SC.of_SE ?_
  refine SC.norm [(0, pt d 0), (1, iw reg), (4, iw 0), (5, iw 0)] _ ⟨rfl, rfl, rfl, rfl, trivial⟩ rfl ?_
  refine SC.sr ?_
  refine SL.mv ?_
  refine SL.mv ?_
  refine SL.nk ?_
  refine SL.uu (ru_fieldAddr (o2 := 0) fd108_0 rfl rfl rfl) ?_
  refine SL.uu (ru_indexA (o2 := 0 + reg.toNat * 1) ar91 rfl rfl rfl (by omega) (by omega) rfl) ?_
  refine SL.uu (ru_load (i := 0) (v := iw (A.r reg.toNat)) ts3 rfl rfl rfl (nc_r' (by omega))) ?_
  refine SL.as ?_
  refine SL.nn [(0, pt d 0), (1, iw reg), (4, iw 0), (5, iw 0), (6, iw (A.r reg.toNat))] _ ⟨rfl, rfl, rfl, rfl, rfl, trivial⟩ ?_
  refine SC.seq ?_
  refine SC.sr ?_
  refine SL.mv ?_
  refine SL.uu (ru_eq (b := ((reg : Int) == 6)) rfl rfl rfl rfl) ?_
  refine SL.nn [(0, pt d 0), (1, iw reg), (4, iw 0), (5, iw 0), (6, iw (A.r reg.toNat)), (20, bo ((reg : Int) == 6))] _ ⟨rfl, rfl, rfl, rfl, rfl, rfl, trivial⟩ ?_
  refine SC.both ((reg : Int) == 6) rfl (fun h3 => ?_) (fun h3 => ?_)
  · skip
    refine SC.region ?_
    refine SL.mv ?_
    refine SL.mv ?_
    refine SL.nk ?_
    refine SL.uu (ru_fieldAddr (o2 := 0) fd108_0 rfl rfl rfl) ?_
    refine SL.uu (ru_indexA (o2 := 0 + reg.toNat * 1) ar91 rfl rfl rfl (by omega) (by omega) rfl) ?_
    refine SL.store (i := 0) (c' := (nc { A with r := up A.r reg.toNat 0 } tv cv)) rfl rfl ts3 rfl rfl rfl rfl rfl (by rw [nc_len]; omega) (.inl rfl) (set_r' (by omega) 0) ?_
    refine SL.nn [(4, iw 0), (5, iw 0), (6, iw (A.r reg.toNat))] [rBlk d (nc { A with r := up A.r reg.toNat 0 } tv cv) 108, rFrs F tv cv A.tb A.cb] ⟨rfl, rfl, rfl, trivial⟩ ?_
    refine SC.sr ?_
    refine SL.mv ?_
    refine SL.as ?_
    refine SL.as ?_
    refine SL.nn [(4, iw (A.r reg.toNat)), (5, iw 0)] _ ⟨rfl, rfl, trivial⟩ ?_
    refine SC.ret ?_
    refine SE.res (.inl rfl) (res2 Try.results84 rfl rfl) fun w1 hI => ?_
    have e : readF A reg = ((A.r reg.toNat, 0), { A with r := up A.r reg.toNat 0 }) := by
      try simp at h2 h3
      unfold readF
      (repeat' split) <;> first | rfl | (exfalso; omega) | (exfalso; simp_all; done) | (exfalso; simp_all; omega)
    rw [e]
    exact ⟨rfl, NicAt.fin hI⟩
  refine SC.skip ?_
  refine SC.of_SE ?_
  refine SC.norm [(4, iw 0), (5, iw 0), (6, iw (A.r reg.toNat))] _ ⟨rfl, rfl, rfl, trivial⟩ rfl ?_
  refine SC.sr ?_
  refine SL.mv ?_
  refine SL.as ?_
  refine SL.as ?_
  refine SL.nn [(4, iw (A.r reg.toNat)), (5, iw 0)] _ ⟨rfl, rfl, trivial⟩ ?_
  refine SC.ret ?_
  refine SE.res (.inl rfl) (res2 Try.results84 rfl rfl) fun w1 hI => ?_
  have e : readF A reg = ((A.r reg.toNat, 0), A) := by
    try simp at h2 h3
    unfold readF
    (repeat' split) <;> first | rfl | (exfalso; omega) | (exfalso; simp_all; done) | (exfalso; simp_all; omega)
  rw [e]
  exact ⟨rfl, NicAt.fin hI⟩

theorem q_link {w : World} {d : Nat} {F : Nat → Prop} {A : NicA} (hk : NicOk A) (h : NicAt 108 w d F A) (u : Bool) : Calls Try.prog 51 #[pt d 0, bo u] w fun e w' => e = .returned (.tuple #[]) ∧ NicTo 108 w d F (linkF A u) w' := by
  have hok := hk
  obtain ⟨r2, r3, r4, r5, r6, _, _, _⟩ := hok
  obtain ⟨tv, cv, hI⟩ := h.inv 20 (fun b => b = d)
  refine calls_sc (l0 := _) (args := [pt d 0, bo u]) (fun b => b = d) Try.func51 rfl 20 Try.ntmps51 (le_b rfl) hI ?_
  show SC _ _ _ _ [(0, pt d 0), (1, bo u)] [rBlk d (nc A tv cv) 108, rFrs F tv cv A.tb A.cb]
  refine SC.sr ?_
  refine SL.as ?_
  refine SL.nn [(0, pt d 0), (1, bo u), (4, iw 0)] [rBlk d (nc A tv cv) 108, rFrs F tv cv A.tb A.cb] ⟨rfl, rfl, rfl, trivial⟩ ?_
  refine SC.seq ?_
  refine SC.sr ?_
  refine SL.mv ?_
  refine SL.nn [(0, pt d 0), (4, iw 0), (5, bo u)] _ ⟨rfl, rfl, rfl, trivial⟩ ?_
  refine SC.both u rfl (fun h1 => ?_) (fun h1 => ?_)
  · skip
    refine SC.region ?_
    refine SL.as ?_
    refine SL.nn [(0, pt d 0), (4, iw 1)] _ ⟨rfl, rfl, trivial⟩ ?_
    refine SC.sr ?_
    refine SL.mv ?_
    refine SL.nk ?_
    refine SL.uu (ru_fieldAddr (o2 := 0) fd108_0 rfl rfl rfl) ?_
    refine SL.uu (ru_indexA (o2 := 1) ar91 rfl rfl rfl (by decide) (by decide) rfl) ?_
    refine SL.uu (ru_load (i := 0) (v := iw (A.r 1)) ts3 rfl rfl rfl (nc_r (by decide))) ?_
    refine SL.mv ?_
    refine SL.uu (ru_ne (b := (((A.r 1) : Int) != 1)) rfl rfl rfl rfl) ?_
    refine SL.nn [(0, pt d 0), (4, iw 1), (12, bo (((A.r 1) : Int) != 1))] _ ⟨rfl, rfl, rfl, trivial⟩ ?_
    refine SC.both (((A.r 1) : Int) != 1) rfl (fun h2 => ?_) (fun h2 => ?_)
    · skip
      refine SC.sr ?_
      refine SL.mv ?_
      refine SL.mv ?_
      refine SL.nk ?_
      refine SL.uu (ru_fieldAddr (o2 := 0) fd108_0 rfl rfl rfl) ?_
      refine SL.uu (ru_indexA (o2 := 1) ar91 rfl rfl rfl (by decide) (by decide) rfl) ?_
      refine SL.store (i := 0) (c' := (nc { A with r := up A.r 1 1 } tv cv)) rfl rfl ts3 rfl rfl rfl rfl rfl (by rw [nc_len]; omega) (.inl rfl) (set_r (by decide) 1) ?_
      refine SL.nn [(0, pt d 0)] [rBlk d (nc { A with r := up A.r 1 1 } tv cv) 108, rFrs F tv cv A.tb A.cb] ⟨rfl, trivial⟩ ?_
      refine SC.region ?_
      refine SL.mv ?_
      refine SL.call (ζ := Unit) (fun _ => Value.tuple #[]) (fun _ => [rBlk d (nc { A with r := up (up A.r 1 1) 6 (ev (A.r 6) 4) } tv cv) 108, rFrs F tv cv A.tb A.cb]) (fun _ => True) rfl rfl co78 rfl rfl rfl (lt_b rfl) (fun w hI => (q_event4 (A := { A with r := up A.r 1 1 }) r6 (hI.1.get (i := 0) rfl)).mono fun e w2 ⟨h1, h2, h3⟩ => ⟨(), h1, hI.upd (i := 0) rfl h3 (fun b hb => .inl hb) h2 (fun b hb => .inl hb), trivial⟩) ?_
      intro _ _
      refine SL.nil ?_
      refine SE.res (.inr rfl) (res0 Try.results51) fun w1 hI => ?_
      have e : linkF A u = { A with r := up (up A.r 1 1) 6 (ev (A.r 6) 4) } := by
        try simp at h1 h2
        unfold linkF
        (repeat' split) <;> first | rfl | (exfalso; omega) | (exfalso; simp_all; done) | (exfalso; simp_all; omega)
      rw [e]
      exact ⟨rfl, NicAt.fin hI⟩
    refine SC.skip ?_
    refine SE.res (.inr rfl) (res0 Try.results51) fun w1 hI => ?_
    have e : linkF A u = A := by
      try simp at h1 h2
      unfold linkF
      (repeat' split) <;> first | rfl | (exfalso; omega) | (exfalso; simp_all; done) | (exfalso; simp_all; omega)
    rw [e]
    exact ⟨rfl, NicAt.fin hI⟩
  refine SC.skip ?_
  refine SC.of_SE ?_
  refine SC.norm [(0, pt d 0), (4, iw 0)] _ ⟨rfl, rfl, trivial⟩ rfl ?_
  refine SC.sr ?_
  refine SL.mv ?_
  refine SL.nk ?_
  refine SL.uu (ru_fieldAddr (o2 := 0) fd108_0 rfl rfl rfl) ?_
  refine SL.uu (ru_indexA (o2 := 1) ar91 rfl rfl rfl (by decide) (by decide) rfl) ?_
  refine SL.uu (ru_load (i := 0) (v := iw (A.r 1)) ts3 rfl rfl rfl (nc_r (by decide))) ?_
  refine SL.mv ?_
  refine SL.uu (ru_ne (b := (((A.r 1) : Int) != 0)) rfl rfl rfl rfl) ?_
  refine SL.nn [(0, pt d 0), (4, iw 0), (12, bo (((A.r 1) : Int) != 0))] _ ⟨rfl, rfl, rfl, trivial⟩ ?_
  refine SC.both (((A.r 1) : Int) != 0) rfl (fun h3 => ?_) (fun h3 => ?_)
  · skip
    refine SC.sr ?_
    refine SL.mv ?_
    refine SL.mv ?_
    refine SL.nk ?_
    refine SL.uu (ru_fieldAddr (o2 := 0) fd108_0 rfl rfl rfl) ?_
    refine SL.uu (ru_indexA (o2 := 1) ar91 rfl rfl rfl (by decide) (by decide) rfl) ?_
    refine SL.store (i := 0) (c' := (nc { A with r := up A.r 1 0 } tv cv)) rfl rfl ts3 rfl rfl rfl rfl rfl (by rw [nc_len]; omega) (.inl rfl) (set_r (by decide) 0) ?_
    refine SL.nn [(0, pt d 0)] [rBlk d (nc { A with r := up A.r 1 0 } tv cv) 108, rFrs F tv cv A.tb A.cb] ⟨rfl, trivial⟩ ?_
    refine SC.region ?_
    refine SL.mv ?_
    refine SL.call (ζ := Unit) (fun _ => Value.tuple #[]) (fun _ => [rBlk d (nc { A with r := up (up A.r 1 0) 6 (ev (A.r 6) 4) } tv cv) 108, rFrs F tv cv A.tb A.cb]) (fun _ => True) rfl rfl co78 rfl rfl rfl (lt_b rfl) (fun w hI => (q_event4 (A := { A with r := up A.r 1 0 }) r6 (hI.1.get (i := 0) rfl)).mono fun e w2 ⟨h1, h2, h3⟩ => ⟨(), h1, hI.upd (i := 0) rfl h3 (fun b hb => .inl hb) h2 (fun b hb => .inl hb), trivial⟩) ?_
    intro _ _
    refine SL.nil ?_
    refine SE.res (.inr rfl) (res0 Try.results51) fun w1 hI => ?_
    have e : linkF A u = { A with r := up (up A.r 1 0) 6 (ev (A.r 6) 4) } := by
      try simp at h1 h3
      unfold linkF
      (repeat' split) <;> first | rfl | (exfalso; omega) | (exfalso; simp_all; done) | (exfalso; simp_all; omega)
    rw [e]
    exact ⟨rfl, NicAt.fin hI⟩
  refine SC.skip ?_
  refine SE.res (.inr rfl) (res0 Try.results51) fun w1 hI => ?_
  have e : linkF A u = A := by
    try simp at h1 h3
    unfold linkF
    (repeat' split) <;> first | rfl | (exfalso; omega) | (exfalso; simp_all; done) | (exfalso; simp_all; omega)
  rw [e]
  exact ⟨rfl, NicAt.fin hI⟩

end Go.Proofs.Ytghfkgcaglabpaa

/-
  A new device, and a write (the program's).
-/
namespace Go.Proofs.Ytghfkgcaglabpaa
open Go.RowKit
set_option maxRecDepth 100000
set_option maxHeartbeats 4000000
theorem p_new (w : World) : Calls Try.prog 29 #[] w fun e w' => ∃ g, w.heap.size ≤ g ∧ e = .returned (pt g 0) ∧ Blk w' g (nc newA nilv nilv) 99 ∧ Only (fun _ => False) w w' := by
  refine calls_sc (l0 := []) (args := []) (fun _ => False) Try.func29 rfl 9 Try.ntmps29 (le_b rfl) ⟨⟨by simp, List.Pairwise.nil⟩, Only.refl _ _⟩ ?_
  show SC _ _ _ _ [] []
  refine SC.sr ?_
  refine SL.as ?_
  refine SL.nn [(0, Value.pointer none)] [] ⟨rfl, trivial⟩ ?_
  refine SC.sr ?_
  refine SL.uu (ru_build (vals := []) (cells := [iw 0, iw 0, iw 0, iw 0, iw 0, iw 0, iw 0, iw 0, Value.slice none 0 0, iw 0, Value.slice none 0 0, iw 0, Value.slice none 0 0, iw 0, Value.slice none 0 0, iw 0, Value.slice none 0 0, iw 0, Value.slice none 0 0, iw 0, Value.slice none 0 0, iw 0, Value.slice none 0 0, iw 0, Value.slice none 0 0, iw 0, Value.slice none 0 0, iw 0, Value.slice none 0 0, iw 0, Value.slice none 0 0, iw 0, Value.slice none 0 0, iw 0, Value.slice none 0 0, iw 0, Value.slice none 0 0, iw 0, Value.slice none 0 0, iw 0, iw 0, bo false, Value.slice none 0 0, bo false, iw 0, bo false, Value.slice none 0 0, bo false, iw 0, bo false, Value.slice none 0 0, bo false, iw 0, bo false, Value.slice none 0 0, bo false, iw 0, bo false, Value.slice none 0 0, bo false, iw 0, bo false, Value.slice none 0 0, bo false, iw 0, bo false, Value.slice none 0 0, bo false, iw 0, bo false, Value.slice none 0 0, bo false, iw 0, bo false, Value.slice none 0 0, bo false, iw 0, bo false, Value.slice none 0 0, bo false, iw 0, bo false, Value.slice none 0 0, bo false, iw 0, bo false, Value.slice none 0 0, bo false, iw 0, bo false, Value.slice none 0 0, bo false, iw 0, bo false, Value.slice none 0 0, bo false, iw 0, bo false, Value.slice none 0 0, bo false, iw 0, bo false, Value.slice none 0 0, bo false, iw 0]) rfl rfl (by kernel_rfl)) ?_
  refine SL.box (c := [iw 0, iw 0, iw 0, iw 0, iw 0, iw 0, iw 0, iw 0, Value.slice none 0 0, iw 0, Value.slice none 0 0, iw 0, Value.slice none 0 0, iw 0, Value.slice none 0 0, iw 0, Value.slice none 0 0, iw 0, Value.slice none 0 0, iw 0, Value.slice none 0 0, iw 0, Value.slice none 0 0, iw 0, Value.slice none 0 0, iw 0, Value.slice none 0 0, iw 0, Value.slice none 0 0, iw 0, Value.slice none 0 0, iw 0, Value.slice none 0 0, iw 0, Value.slice none 0 0, iw 0, Value.slice none 0 0, iw 0, Value.slice none 0 0, iw 0, iw 0, bo false, Value.slice none 0 0, bo false, iw 0, bo false, Value.slice none 0 0, bo false, iw 0, bo false, Value.slice none 0 0, bo false, iw 0, bo false, Value.slice none 0 0, bo false, iw 0, bo false, Value.slice none 0 0, bo false, iw 0, bo false, Value.slice none 0 0, bo false, iw 0, bo false, Value.slice none 0 0, bo false, iw 0, bo false, Value.slice none 0 0, bo false, iw 0, bo false, Value.slice none 0 0, bo false, iw 0, bo false, Value.slice none 0 0, bo false, iw 0, bo false, Value.slice none 0 0, bo false, iw 0, bo false, Value.slice none 0 0, bo false, iw 0, bo false, Value.slice none 0 0, bo false, iw 0, bo false, Value.slice none 0 0, bo false, iw 0, bo false, Value.slice none 0 0, bo false, iw 0, bo false, Value.slice none 0 0, bo false, iw 0]) rfl rfl (lt_b rfl) rfl rfl rfl fun b1 hb1 => ?_
  refine SL.as ?_
  refine SL.nn [(0, Value.pointer none), (1, pt b1 0)] [rBlk b1 [iw 0, iw 0, iw 0, iw 0, iw 0, iw 0, iw 0, iw 0, Value.slice none 0 0, iw 0, Value.slice none 0 0, iw 0, Value.slice none 0 0, iw 0, Value.slice none 0 0, iw 0, Value.slice none 0 0, iw 0, Value.slice none 0 0, iw 0, Value.slice none 0 0, iw 0, Value.slice none 0 0, iw 0, Value.slice none 0 0, iw 0, Value.slice none 0 0, iw 0, Value.slice none 0 0, iw 0, Value.slice none 0 0, iw 0, Value.slice none 0 0, iw 0, Value.slice none 0 0, iw 0, Value.slice none 0 0, iw 0, Value.slice none 0 0, iw 0, iw 0, bo false, Value.slice none 0 0, bo false, iw 0, bo false, Value.slice none 0 0, bo false, iw 0, bo false, Value.slice none 0 0, bo false, iw 0, bo false, Value.slice none 0 0, bo false, iw 0, bo false, Value.slice none 0 0, bo false, iw 0, bo false, Value.slice none 0 0, bo false, iw 0, bo false, Value.slice none 0 0, bo false, iw 0, bo false, Value.slice none 0 0, bo false, iw 0, bo false, Value.slice none 0 0, bo false, iw 0, bo false, Value.slice none 0 0, bo false, iw 0, bo false, Value.slice none 0 0, bo false, iw 0, bo false, Value.slice none 0 0, bo false, iw 0, bo false, Value.slice none 0 0, bo false, iw 0, bo false, Value.slice none 0 0, bo false, iw 0, bo false, Value.slice none 0 0, bo false, iw 0, bo false, Value.slice none 0 0, bo false, iw 0] 99] ⟨rfl, rfl, trivial⟩ ?_
  refine SC.sr ?_
  refine SL.mv ?_
  refine SL.nk ?_
  refine SL.uu (ru_fieldAddr (o2 := 0) fd99_0 rfl rfl rfl) ?_
  refine SL.uu (ru_indexA (o2 := 1) ar91 rfl rfl rfl (by decide) (by decide) rfl) ?_
  refine SL.store (i := 0) (c' := [iw 0, iw 1, iw 0, iw 0, iw 0, iw 0, iw 0, iw 0, Value.slice none 0 0, iw 0, Value.slice none 0 0, iw 0, Value.slice none 0 0, iw 0, Value.slice none 0 0, iw 0, Value.slice none 0 0, iw 0, Value.slice none 0 0, iw 0, Value.slice none 0 0, iw 0, Value.slice none 0 0, iw 0, Value.slice none 0 0, iw 0, Value.slice none 0 0, iw 0, Value.slice none 0 0, iw 0, Value.slice none 0 0, iw 0, Value.slice none 0 0, iw 0, Value.slice none 0 0, iw 0, Value.slice none 0 0, iw 0, Value.slice none 0 0, iw 0, iw 0, bo false, Value.slice none 0 0, bo false, iw 0, bo false, Value.slice none 0 0, bo false, iw 0, bo false, Value.slice none 0 0, bo false, iw 0, bo false, Value.slice none 0 0, bo false, iw 0, bo false, Value.slice none 0 0, bo false, iw 0, bo false, Value.slice none 0 0, bo false, iw 0, bo false, Value.slice none 0 0, bo false, iw 0, bo false, Value.slice none 0 0, bo false, iw 0, bo false, Value.slice none 0 0, bo false, iw 0, bo false, Value.slice none 0 0, bo false, iw 0, bo false, Value.slice none 0 0, bo false, iw 0, bo false, Value.slice none 0 0, bo false, iw 0, bo false, Value.slice none 0 0, bo false, iw 0, bo false, Value.slice none 0 0, bo false, iw 0, bo false, Value.slice none 0 0, bo false, iw 0, bo false, Value.slice none 0 0, bo false, iw 0]) rfl rfl ts3 rfl rfl rfl rfl rfl (lt_b rfl) (.inr hb1) rfl ?_
  refine SL.nn [(0, Value.pointer none), (1, pt b1 0)] [rBlk b1 [iw 0, iw 1, iw 0, iw 0, iw 0, iw 0, iw 0, iw 0, Value.slice none 0 0, iw 0, Value.slice none 0 0, iw 0, Value.slice none 0 0, iw 0, Value.slice none 0 0, iw 0, Value.slice none 0 0, iw 0, Value.slice none 0 0, iw 0, Value.slice none 0 0, iw 0, Value.slice none 0 0, iw 0, Value.slice none 0 0, iw 0, Value.slice none 0 0, iw 0, Value.slice none 0 0, iw 0, Value.slice none 0 0, iw 0, Value.slice none 0 0, iw 0, Value.slice none 0 0, iw 0, Value.slice none 0 0, iw 0, Value.slice none 0 0, iw 0, iw 0, bo false, Value.slice none 0 0, bo false, iw 0, bo false, Value.slice none 0 0, bo false, iw 0, bo false, Value.slice none 0 0, bo false, iw 0, bo false, Value.slice none 0 0, bo false, iw 0, bo false, Value.slice none 0 0, bo false, iw 0, bo false, Value.slice none 0 0, bo false, iw 0, bo false, Value.slice none 0 0, bo false, iw 0, bo false, Value.slice none 0 0, bo false, iw 0, bo false, Value.slice none 0 0, bo false, iw 0, bo false, Value.slice none 0 0, bo false, iw 0, bo false, Value.slice none 0 0, bo false, iw 0, bo false, Value.slice none 0 0, bo false, iw 0, bo false, Value.slice none 0 0, bo false, iw 0, bo false, Value.slice none 0 0, bo false, iw 0, bo false, Value.slice none 0 0, bo false, iw 0, bo false, Value.slice none 0 0, bo false, iw 0] 99] ⟨rfl, rfl, trivial⟩ ?_
  refine SC.sr ?_
  refine SL.mv ?_
  refine SL.as ?_
  refine SL.nn [(0, pt b1 0)] _ ⟨rfl, trivial⟩ ?_
  refine SC.ret ?_
  refine SE.res (.inl rfl) (res1 Try.results29 rfl) fun w1 hI => ⟨b1, hb1, rfl, ?_, hI.2⟩
  have e : [iw 0, iw 1, iw 0, iw 0, iw 0, iw 0, iw 0, iw 0, Value.slice none 0 0, iw 0, Value.slice none 0 0, iw 0, Value.slice none 0 0, iw 0, Value.slice none 0 0, iw 0, Value.slice none 0 0, iw 0, Value.slice none 0 0, iw 0, Value.slice none 0 0, iw 0, Value.slice none 0 0, iw 0, Value.slice none 0 0, iw 0, Value.slice none 0 0, iw 0, Value.slice none 0 0, iw 0, Value.slice none 0 0, iw 0, Value.slice none 0 0, iw 0, Value.slice none 0 0, iw 0, Value.slice none 0 0, iw 0, Value.slice none 0 0, iw 0, iw 0, bo false, Value.slice none 0 0, bo false, iw 0, bo false, Value.slice none 0 0, bo false, iw 0, bo false, Value.slice none 0 0, bo false, iw 0, bo false, Value.slice none 0 0, bo false, iw 0, bo false, Value.slice none 0 0, bo false, iw 0, bo false, Value.slice none 0 0, bo false, iw 0, bo false, Value.slice none 0 0, bo false, iw 0, bo false, Value.slice none 0 0, bo false, iw 0, bo false, Value.slice none 0 0, bo false, iw 0, bo false, Value.slice none 0 0, bo false, iw 0, bo false, Value.slice none 0 0, bo false, iw 0, bo false, Value.slice none 0 0, bo false, iw 0, bo false, Value.slice none 0 0, bo false, iw 0, bo false, Value.slice none 0 0, bo false, iw 0, bo false, Value.slice none 0 0, bo false, iw 0, bo false, Value.slice none 0 0, bo false, iw 0] = nc newA nilv nilv := by kernel_rfl
  rw [← e]
  exact hI.1.get (i := 0) rfl

theorem p_write {w : World} {d : Nat} {F : Nat → Prop} {A : NicA} (hk : NicOk A) (h : NicAt 99 w d F A) (reg v : Int) : Calls Try.prog 40 #[pt d 0, iw reg, iw v] w fun e w' => e = .returned (iw (writeF A reg v).1) ∧ NicAt 99 w' d F (writeF A reg v).2 ∧ Only (fun b => b = d) w w' := by
  have hok := hk
  obtain ⟨r2, r3, r4, r5, r6, _, _, _⟩ := hok
  obtain ⟨tv, cv, hI⟩ := h.inv 103 (fun b => b = d)
  refine calls_sc (l0 := _) (args := [pt d 0, iw reg, iw v]) (fun b => b = d) Try.func40 rfl 103 Try.ntmps40 (le_b rfl) hI ?_
  show SC _ _ _ _ [(0, pt d 0), (1, iw reg), (2, iw v)] [rBlk d (nc A tv cv) 99, rFrs F tv cv A.tb A.cb]
  refine SC.sr ?_
  refine SL.as ?_
  refine SL.nn [(0, pt d 0), (1, iw reg), (2, iw v), (6, iw 0)] [rBlk d (nc A tv cv) 99, rFrs F tv cv A.tb A.cb] ⟨rfl, rfl, rfl, rfl, trivial⟩ ?_
  refine SC.seq ?_
  refine SC.block ?_
  refine SC.sr ?_
  refine SL.mv ?_
  refine SL.uu (ru_eq (b := ((reg : Int) == 0)) rfl rfl rfl rfl) ?_
  refine SL.mv ?_
  refine SL.join 3 [(0, pt d 0), (1, iw reg), (2, iw v), (6, iw 0), (11, iw reg), (12, bo ((reg : Int) == 0)), (13, bo ((reg : Int) == 0)), (16, bo (((reg : Int) == 0) && ((v : Int) == 2)))] [rBlk d (nc A tv cv) 99, rFrs F tv cv A.tb A.cb] ?_ ?_
  rotate_left
  · intro K hK
    rcases tf ((reg : Int) == 0) with h1 | h1
    · skip
      refine SL.norm [(0, pt d 0), (1, iw reg), (2, iw v), (6, iw 0), (11, iw reg), (12, bo true), (13, bo true)] _ ⟨rfl, rfl, rfl, rfl, rfl, (congrArg (fun x => some (Value.bool x)) h1), (congrArg (fun x => some (Value.bool x)) h1), trivial⟩ rfl ?_
      refine SL.rug rfl rfl rfl rfl (lt_b rfl) (ru_move rfl rfl) ?_
      refine SL.rug rfl rfl rfl rfl (lt_b rfl) (ru_eq (b := ((v : Int) == 2)) rfl rfl rfl rfl) ?_
      refine SL.uu (ru_pick (u := bo ((v : Int) == 2)) (v := bo false) rfl rfl rfl rfl) ?_
      exact SL.joined hK ⟨rfl, rfl, rfl, rfl, rfl, (congrArg (fun x => some (Value.bool x)) h1.symm), (congrArg (fun x => some (Value.bool x)) h1.symm), (congrArg (fun x => some (Value.bool (x && ((v : Int) == 2)))) h1.symm), trivial⟩ rfl
    refine SL.norm [(0, pt d 0), (1, iw reg), (2, iw v), (6, iw 0), (11, iw reg), (12, bo false), (13, bo false)] _ ⟨rfl, rfl, rfl, rfl, rfl, (congrArg (fun x => some (Value.bool x)) h1), (congrArg (fun x => some (Value.bool x)) h1), trivial⟩ rfl ?_
    refine SL.off (b := false) rfl rfl rfl rfl rfl (lt_b rfl) ?_
    refine SL.off (b := false) rfl rfl rfl rfl rfl (lt_b rfl) ?_
    refine SL.uu (ru_pick (u := undef) (v := bo false) rfl rfl rfl rfl) ?_
    exact SL.joined hK ⟨rfl, rfl, rfl, rfl, rfl, (congrArg (fun x => some (Value.bool x)) h1.symm), (congrArg (fun x => some (Value.bool x)) h1.symm), (congrArg (fun x => some (Value.bool (x && ((v : Int) == 2)))) h1.symm), trivial⟩ rfl
  skip
  refine SL.as ?_
  refine SL.nn [(0, pt d 0), (1, iw reg), (2, iw v), (6, iw 0), (10, bo (((reg : Int) == 0) && ((v : Int) == 2)))] _ ⟨rfl, rfl, rfl, rfl, rfl, trivial⟩ ?_
  refine SC.both (((reg : Int) == 0) && ((v : Int) == 2)) rfl (fun h2 => ?_) (fun h2 => ?_)
  · skip
    have h0 := w_0 h2
    refine SC.seq ?_
    refine SC.region_quiet (by kernel_rfl) (by kernel_rfl) ?_
    refine SQ.ru rfl rfl (lt_b rfl) (ru_move rfl rfl) ?_
    refine SQ.ru rfl rfl (lt_b rfl) (ru_nilCheck rfl rfl) ?_
    refine SQ.ru rfl rfl (lt_b rfl) (ru_fieldAddr (o2 := 0) fd99_0 rfl rfl rfl) ?_
    refine SQ.ru rfl rfl (lt_b rfl) (ru_indexA (o2 := 1) ar91 rfl rfl rfl (by decide) (by decide) rfl) ?_
    refine SQ.ru rfl rfl (lt_b rfl) (ru_load (i := 0) (v := iw (A.r 1)) ts3 rfl rfl rfl (nc_r (by decide))) ?_
    refine SQ.ru rfl rfl (lt_b rfl) (ru_move rfl rfl) ?_
    refine SQ.ru rfl rfl (lt_b rfl) (ru_nilCheck rfl rfl) ?_
    refine SQ.ru rfl rfl (lt_b rfl) (ru_fieldAddr (o2 := 104) fd99_3 rfl rfl rfl) ?_
    refine SQ.ru rfl rfl (lt_b rfl) (ru_load (i := 0) (v := iw A.clk) ts3 rfl rfl rfl nc_clk) ?_
    refine SQ.ru rfl rfl (lt_b rfl) (ru_assign rfl rfl) ?_
    refine SQ.ru rfl rfl (lt_b rfl) (ru_assign rfl rfl) ?_
    refine SQ.nilE ?_
    refine SC.of_SE ?_
    refine SC.norm [(0, pt d 0), (6, iw 0), (7, iw (A.r 1)), (8, iw A.clk)] _ ⟨rfl, rfl, rfl, rfl, trivial⟩ rfl ?_
    refine SC.sr ?_
    refine SL.mv ?_
    refine SL.call (ζ := Nat) (fun g3 => pt g3 0) (fun g3 => [rBlk d (nc A tv cv) 99, rFrs F tv cv A.tb A.cb, rBlk g3 (nc newA nilv nilv) 99]) (fun g3 => w.heap.size ≤ g3) rfl rfl co29 rfl rfl rfl (lt_b rfl) (fun w hI => (p_new _).mono fun e w2 ⟨g, h1, h2, h3, h4⟩ => ⟨g, h2, hI.add h4 h3 (fun q hq => by cases hq; exact h1), Nat.le_trans hI.2.size h1⟩) ?_
    intro g3 hg3
    refine SL.nk ?_
    refine SL.uu (ru_loada (i := 2) (vs := (nc newA nilv nilv)) ta99 rfl rfl rfl nc_all (by rw [nc_len]; exact Nat.le_refl _)) ?_
    refine SL.nk ?_
    refine SL.storea (i := 0) (vs := (nc newA nilv nilv)) (c' := (nc newA nilv nilv)) rfl rfl ta99 rfl rfl rfl (nc_one (fun _ => rfl) (fun _ => rfl)) nc_len rfl (by rw [nc_len, nc_len]; omega) (.inl rfl) nc_whole ?_
    refine SL.nn [(0, pt d 0), (6, iw 0), (7, iw (A.r 1)), (8, iw A.clk)] [rBlk d (nc newA nilv nilv) 99, rFrs F tv cv A.tb A.cb, rBlk g3 (nc newA nilv nilv) 99] ⟨rfl, rfl, rfl, rfl, trivial⟩ ?_
    refine SC.region ?_
    refine SL.mv ?_
    refine SL.mv ?_
    refine SL.mv ?_
    refine SL.mv ?_
    refine SL.nk ?_
    refine SL.uu (ru_fieldAddr (o2 := 0) fd99_0 rfl rfl rfl) ?_
    refine SL.uu (ru_indexA (o2 := 1) ar91 rfl rfl rfl (by decide) (by decide) rfl) ?_
    refine SL.store (i := 0) (c' := (nc { newA with r := up newA.r 1 (A.r 1) } nilv nilv)) rfl rfl ts3 rfl rfl rfl rfl rfl (by rw [nc_len]; omega) (.inl rfl) (set_r (by decide) (A.r 1)) ?_
    refine SL.nk ?_
    refine SL.uu (ru_fieldAddr (o2 := 104) fd99_3 rfl rfl rfl) ?_
    refine SL.store (i := 0) (c' := (nc { newA with r := up newA.r 1 (A.r 1), clk := A.clk } nilv nilv)) rfl rfl ts3 rfl rfl rfl rfl rfl (by rw [nc_len]; omega) (.inl rfl) (set_clk A.clk) ?_
    refine SL.nil ?_
    refine SE.blkn ?_
    refine SC.of_SE ?_
    refine SC.norm [(6, iw 0)] [rBlk d (nc { newA with r := up newA.r 1 (A.r 1), clk := A.clk } nilv nilv) 99, rFrs F tv cv A.tb A.cb, rBlk g3 (nc newA nilv nilv) 99] ⟨rfl, trivial⟩ rfl ?_
    refine SC.sr ?_
    refine SL.as ?_
    refine SL.nn [(6, iw 0)] _ ⟨rfl, trivial⟩ ?_
    refine SC.ret ?_
    refine SE.res (.inl rfl) (res1 Try.results40 rfl) fun w1 hI => ?_
    have e : writeF A reg v = (0, { newA with r := up newA.r 1 (A.r 1), clk := A.clk }) := by
      try simp at h2
      unfold writeF
      (repeat' split) <;> first | rfl | (exfalso; omega) | (exfalso; simp_all; done) | (exfalso; simp_all; omega)
    rw [e]
    exact ⟨rfl, NicAt.fin_reset rfl rfl hI⟩
  refine SC.sr ?_
  refine SL.mv ?_
  refine SL.uu (ru_eq (b := ((reg : Int) == 0)) rfl rfl rfl rfl) ?_
  refine SL.mv ?_
  refine SL.join 7 [(0, pt d 0), (1, iw reg), (2, iw v), (6, iw 0), (10, bo (((reg : Int) == 0) && ((v : Int) == 2))), (41, iw reg), (42, bo ((reg : Int) == 0)), (43, bo ((reg : Int) == 0)), (50, bo (((reg : Int) == 0) && (((v : Int) == 0) || ((v : Int) == 1))))] [rBlk d (nc A tv cv) 99, rFrs F tv cv A.tb A.cb] ?_ ?_
  rotate_left
  · intro K hK
    rcases tf ((reg : Int) == 0) with h4 | h4
    · skip
      refine SL.norm [(0, pt d 0), (1, iw reg), (2, iw v), (6, iw 0), (10, bo (((reg : Int) == 0) && ((v : Int) == 2))), (41, iw reg), (42, bo true), (43, bo true)] _ ⟨rfl, rfl, rfl, rfl, rfl, rfl, (congrArg (fun x => some (Value.bool x)) h4), (congrArg (fun x => some (Value.bool x)) h4), trivial⟩ rfl ?_
      refine SL.rug rfl rfl rfl rfl (lt_b rfl) (ru_move rfl rfl) ?_
      refine SL.rug rfl rfl rfl rfl (lt_b rfl) (ru_eq (b := ((v : Int) == 0)) rfl rfl rfl rfl) ?_
      refine SL.rug rfl rfl rfl rfl (lt_b rfl) (ru_move rfl rfl) ?_
      refine SL.join 3 [(0, pt d 0), (1, iw reg), (2, iw v), (6, iw 0), (10, bo (((reg : Int) == 0) && ((v : Int) == 2))), (41, iw reg), (42, bo true), (43, bo true), (44, iw v), (45, bo ((v : Int) == 0)), (46, bo ((v : Int) == 0)), (49, bo (((v : Int) == 0) || ((v : Int) == 1)))] [rBlk d (nc A tv cv) 99, rFrs F tv cv A.tb A.cb] ?_ ?_
      rotate_left
      · intro K hK
        rcases tf ((v : Int) == 0) with h5 | h5
        · skip
          refine SL.norm [(0, pt d 0), (1, iw reg), (2, iw v), (6, iw 0), (10, bo (((reg : Int) == 0) && ((v : Int) == 2))), (41, iw reg), (42, bo true), (43, bo true), (44, iw v), (45, bo true), (46, bo true)] _ ⟨rfl, rfl, rfl, rfl, rfl, rfl, rfl, rfl, rfl, (congrArg (fun x => some (Value.bool x)) h5), (congrArg (fun x => some (Value.bool x)) h5), trivial⟩ rfl ?_
          refine SL.off (b := true) rfl rfl rfl rfl rfl (lt_b rfl) ?_
          refine SL.off (b := true) rfl rfl rfl rfl rfl (lt_b rfl) ?_
          refine SL.rug rfl rfl rfl rfl (lt_b rfl) (ru_pick (u := bo true) (v := undef) rfl rfl rfl rfl) ?_
          exact SL.joined hK ⟨rfl, rfl, rfl, rfl, rfl, rfl, rfl, rfl, rfl, (congrArg (fun x => some (Value.bool x)) h5.symm), (congrArg (fun x => some (Value.bool x)) h5.symm), (congrArg (fun x => some (Value.bool (x || ((v : Int) == 1)))) h5.symm), trivial⟩ rfl
        refine SL.norm [(0, pt d 0), (1, iw reg), (2, iw v), (6, iw 0), (10, bo (((reg : Int) == 0) && ((v : Int) == 2))), (41, iw reg), (42, bo true), (43, bo true), (44, iw v), (45, bo false), (46, bo false)] _ ⟨rfl, rfl, rfl, rfl, rfl, rfl, rfl, rfl, rfl, (congrArg (fun x => some (Value.bool x)) h5), (congrArg (fun x => some (Value.bool x)) h5), trivial⟩ rfl ?_
        refine SL.rug rfl rfl rfl rfl (lt_b rfl) (ru_move rfl rfl) ?_
        refine SL.rug rfl rfl rfl rfl (lt_b rfl) (ru_eq (b := ((v : Int) == 1)) rfl rfl rfl rfl) ?_
        refine SL.rug rfl rfl rfl rfl (lt_b rfl) (ru_pick (u := bo true) (v := bo ((v : Int) == 1)) rfl rfl rfl rfl) ?_
        exact SL.joined hK ⟨rfl, rfl, rfl, rfl, rfl, rfl, rfl, rfl, rfl, (congrArg (fun x => some (Value.bool x)) h5.symm), (congrArg (fun x => some (Value.bool x)) h5.symm), (congrArg (fun x => some (Value.bool (x || ((v : Int) == 1)))) h5.symm), trivial⟩ rfl
      skip
      refine SL.uu (ru_pick (u := bo (((v : Int) == 0) || ((v : Int) == 1))) (v := bo false) rfl rfl rfl rfl) ?_
      exact SL.joined hK ⟨rfl, rfl, rfl, rfl, rfl, rfl, (congrArg (fun x => some (Value.bool x)) h4.symm), (congrArg (fun x => some (Value.bool x)) h4.symm), (congrArg (fun x => some (Value.bool (x && (((v : Int) == 0) || ((v : Int) == 1))))) h4.symm), trivial⟩ rfl
    refine SL.norm [(0, pt d 0), (1, iw reg), (2, iw v), (6, iw 0), (10, bo (((reg : Int) == 0) && ((v : Int) == 2))), (41, iw reg), (42, bo false), (43, bo false)] _ ⟨rfl, rfl, rfl, rfl, rfl, rfl, (congrArg (fun x => some (Value.bool x)) h4), (congrArg (fun x => some (Value.bool x)) h4), trivial⟩ rfl ?_
    refine SL.off (b := false) rfl rfl rfl rfl rfl (lt_b rfl) ?_
    refine SL.off (b := false) rfl rfl rfl rfl rfl (lt_b rfl) ?_
    refine SL.off (b := false) rfl rfl rfl rfl rfl (lt_b rfl) ?_
    refine SL.offu rfl rfl rfl rfl (lt_b rfl) ?_
    refine SL.offu rfl rfl rfl rfl (lt_b rfl) ?_
    refine SL.off (b := false) rfl rfl rfl rfl rfl (lt_b rfl) ?_
    refine SL.uu (ru_pick (u := undef) (v := bo false) rfl rfl rfl rfl) ?_
    exact SL.joined hK ⟨rfl, rfl, rfl, rfl, rfl, rfl, (congrArg (fun x => some (Value.bool x)) h4.symm), (congrArg (fun x => some (Value.bool x)) h4.symm), (congrArg (fun x => some (Value.bool (x && (((v : Int) == 0) || ((v : Int) == 1))))) h4.symm), trivial⟩ rfl
  skip
  refine SL.as ?_
  refine SL.nn [(0, pt d 0), (1, iw reg), (2, iw v), (6, iw 0), (40, bo (((reg : Int) == 0) && (((v : Int) == 0) || ((v : Int) == 1))))] _ ⟨rfl, rfl, rfl, rfl, rfl, trivial⟩ ?_
  refine SC.both (((reg : Int) == 0) && (((v : Int) == 0) || ((v : Int) == 1))) rfl (fun h6 => ?_) (fun h6 => ?_)
  · skip
    have h0 := w_0 h6
    refine SC.region ?_
    refine SL.mv ?_
    refine SL.mv ?_
    refine SL.mv ?_
    refine SL.nk ?_
    refine SL.uu (ru_fieldAddr (o2 := 0) fd99_0 rfl rfl rfl) ?_
    refine SL.uu (ru_indexA (o2 := 0 + reg.toNat * 1) ar91 rfl rfl rfl (by omega) (by omega) rfl) ?_
    refine SL.store (i := 0) (c' := (nc { A with r := up A.r reg.toNat v } tv cv)) rfl rfl ts3 rfl rfl rfl rfl rfl (by rw [nc_len]; omega) (.inl rfl) (set_r' (by omega) v) ?_
    refine SL.nil ?_
    refine SE.blkn ?_
    refine SC.of_SE ?_
    refine SC.norm [(6, iw 0)] [rBlk d (nc { A with r := up A.r reg.toNat v } tv cv) 99, rFrs F tv cv A.tb A.cb] ⟨rfl, trivial⟩ rfl ?_
    refine SC.sr ?_
    refine SL.as ?_
    refine SL.nn [(6, iw 0)] _ ⟨rfl, trivial⟩ ?_
    refine SC.ret ?_
    refine SE.res (.inl rfl) (res1 Try.results40 rfl) fun w1 hI => ?_
    have e : writeF A reg v = (0, { A with r := up A.r reg.toNat v }) := by
      try simp at h2 h6
      unfold writeF
      (repeat' split) <;> first | rfl | (exfalso; omega) | (exfalso; simp_all; done) | (exfalso; simp_all; omega)
    rw [e]
    exact ⟨rfl, NicAt.fin' hI⟩
  refine SC.sr ?_
  refine SL.mv ?_
  refine SL.uu (ru_lt (b := (decide ((v : Int) < 0))) rfl rfl rfl rfl) ?_
  refine SL.mv ?_
  refine SL.join 3 [(0, pt d 0), (1, iw reg), (2, iw v), (6, iw 0), (40, bo (((reg : Int) == 0) && (((v : Int) == 0) || ((v : Int) == 1)))), (58, iw v), (59, bo (decide ((v : Int) < 0))), (60, bo (decide ((v : Int) < 0))), (63, bo ((decide ((v : Int) < 0)) || (decide ((16 : Int) ≤ v))))] [rBlk d (nc A tv cv) 99, rFrs F tv cv A.tb A.cb] ?_ ?_
  rotate_left
  · intro K hK
    rcases tf (decide ((v : Int) < 0)) with h7 | h7
    · skip
      refine SL.norm [(0, pt d 0), (1, iw reg), (2, iw v), (6, iw 0), (40, bo (((reg : Int) == 0) && (((v : Int) == 0) || ((v : Int) == 1)))), (58, iw v), (59, bo true), (60, bo true)] _ ⟨rfl, rfl, rfl, rfl, rfl, rfl, (congrArg (fun x => some (Value.bool x)) h7), (congrArg (fun x => some (Value.bool x)) h7), trivial⟩ rfl ?_
      refine SL.off (b := true) rfl rfl rfl rfl rfl (lt_b rfl) ?_
      refine SL.off (b := true) rfl rfl rfl rfl rfl (lt_b rfl) ?_
      refine SL.uu (ru_pick (u := bo true) (v := undef) rfl rfl rfl rfl) ?_
      exact SL.joined hK ⟨rfl, rfl, rfl, rfl, rfl, rfl, (congrArg (fun x => some (Value.bool x)) h7.symm), (congrArg (fun x => some (Value.bool x)) h7.symm), (congrArg (fun x => some (Value.bool (x || (decide ((16 : Int) ≤ v))))) h7.symm), trivial⟩ rfl
    refine SL.norm [(0, pt d 0), (1, iw reg), (2, iw v), (6, iw 0), (40, bo (((reg : Int) == 0) && (((v : Int) == 0) || ((v : Int) == 1)))), (58, iw v), (59, bo false), (60, bo false)] _ ⟨rfl, rfl, rfl, rfl, rfl, rfl, (congrArg (fun x => some (Value.bool x)) h7), (congrArg (fun x => some (Value.bool x)) h7), trivial⟩ rfl ?_
    refine SL.rug rfl rfl rfl rfl (lt_b rfl) (ru_move rfl rfl) ?_
    refine SL.rug rfl rfl rfl rfl (lt_b rfl) (ru_ge (b := (decide ((16 : Int) ≤ v))) rfl rfl rfl rfl) ?_
    refine SL.uu (ru_pick (u := bo true) (v := bo (decide ((16 : Int) ≤ v))) rfl rfl rfl rfl) ?_
    exact SL.joined hK ⟨rfl, rfl, rfl, rfl, rfl, rfl, (congrArg (fun x => some (Value.bool x)) h7.symm), (congrArg (fun x => some (Value.bool x)) h7.symm), (congrArg (fun x => some (Value.bool (x || (decide ((16 : Int) ≤ v))))) h7.symm), trivial⟩ rfl
  skip
  refine SL.as ?_
  refine SL.nn [(0, pt d 0), (1, iw reg), (2, iw v), (6, iw 0), (57, bo ((decide ((v : Int) < 0)) || (decide ((16 : Int) ≤ v))))] _ ⟨rfl, rfl, rfl, rfl, rfl, trivial⟩ ?_
  refine SC.both ((decide ((v : Int) < 0)) || (decide ((16 : Int) ≤ v))) rfl (fun h8 => ?_) (fun h8 => ?_)
  · skip
    refine SC.sr ?_
    refine SL.as ?_
    refine SL.nn [(6, iw 1)] _ ⟨rfl, trivial⟩ ?_
    refine SC.ret ?_
    refine SE.blkr ?_
    refine SE.passr ?_
    refine SE.res (.inl rfl) (res1 Try.results40 rfl) fun w1 hI => ?_
    have e : writeF A reg v = (1, A) := by
      try simp at h2 h6 h8
      unfold writeF
      (repeat' split) <;> first | rfl | (exfalso; omega) | (exfalso; simp_all; done) | (exfalso; simp_all; omega)
    rw [e]
    exact ⟨rfl, NicAt.fin' hI⟩
  have hv := host_in h8
  refine SC.sr ?_
  refine SL.mv ?_
  refine SL.uu (ru_eq (b := ((reg : Int) == 5)) rfl rfl rfl rfl) ?_
  refine SL.as ?_
  refine SL.nn [(0, pt d 0), (1, iw reg), (2, iw v), (6, iw 0), (64, bo ((reg : Int) == 5))] _ ⟨rfl, rfl, rfl, rfl, rfl, trivial⟩ ?_
  refine SC.both ((reg : Int) == 5) rfl (fun h9 => ?_) (fun h9 => ?_)
  · skip
    have h5 := w_5 h9
    have e5 : A.r reg.toNat = A.r 5 := by rw [h5]; rfl
    refine SC.seq ?_
    refine SC.sr ?_
    refine SL.mv ?_
    refine SL.mv ?_
    refine SL.nk ?_
    refine SL.uu (ru_fieldAddr (o2 := 0) fd99_0 rfl rfl rfl) ?_
    refine SL.uu (ru_indexA (o2 := 0 + reg.toNat * 1) ar91 rfl rfl rfl (by omega) (by omega) rfl) ?_
    refine SL.uu (ru_load (i := 0) (v := iw (A.r reg.toNat)) ts3 rfl rfl rfl (nc_r' (by omega))) ?_
    refine SL.as ?_
    refine SL.nn [(0, pt d 0), (1, iw reg), (2, iw v), (6, iw 0), (9, iw (A.r reg.toNat))] _ ⟨rfl, rfl, rfl, rfl, rfl, trivial⟩ ?_
    refine SC.block ?_
    refine SC.loop (γ := Unit) (fun n _ => [(0, pt d 0), (1, iw reg), (2, iw v), (6, iw 0), (9, iw ((v - (n : Int)) % 16))]) (fun n _ => [rBlk d (nc { A with tp := posts A.tp (A.r 5) ((v - (n : Int)) % 16) A.clk } tv cv) 99, rFrs F tv cv A.tb A.cb]) (fun n _ => n ≤ ((v - A.r 5) % 16).toNat) ((v - A.r 5) % 16).toNat () (Nat.le_refl _) ⟨rfl, rfl, rfl, rfl, (congrArg (fun x => some (iw x)) (show A.r reg.toNat = (v - (((((v - A.r 5) % 16).toNat : Nat) : Int) : Int)) % 16 by omega)), trivial⟩ (congrArg (fun c => [rBlk d c 99, rFrs F tv cv A.tb A.cb]) (nc_posts r5 hv)) ?_
    rintro n ⟨⟩ hn
    rcases Nat.eq_zero_or_pos n with h0 | h0
    · skip
      have ez : (v - (n : Int)) % 16 = v := by omega
      refine SC.seq ?_
      refine SC.sr ?_
      refine SL.mv ?_
      refine SL.mv ?_
      refine SL.uu (ru_ne (b := ((((v - (n : Int)) % 16) : Int) != v)) rfl rfl rfl rfl) ?_
      refine SL.nn [(0, pt d 0), (1, iw reg), (2, iw v), (6, iw 0), (9, iw ((v - (n : Int)) % 16)), (75, bo ((((v - (n : Int)) % 16) : Int) != v))] [rBlk d (nc { A with tp := posts A.tp (A.r 5) ((v - (n : Int)) % 16) A.clk } tv cv) 99, rFrs F tv cv A.tb A.cb] ⟨rfl, rfl, rfl, rfl, rfl, rfl, trivial⟩ ?_
      refine SC.no (show some (Value.bool ((((v - (n : Int)) % 16) : Int) != v)) = some (Value.bool false) from congrArg (fun x => some (Value.bool x)) (bne_f (by omega))) ?_
      refine SC.exit ?_
      refine SE.passe ?_
      refine SE.passe ?_
      refine SE.blke ?_
      refine SC.of_SE ?_
      refine SC.norm [(0, pt d 0), (1, iw reg), (2, iw v), (6, iw 0)] _ ⟨rfl, rfl, rfl, rfl, trivial⟩ rfl ?_
      refine SC.region ?_
      refine SL.mv ?_
      refine SL.mv ?_
      refine SL.mv ?_
      refine SL.nk ?_
      refine SL.uu (ru_fieldAddr (o2 := 0) fd99_0 rfl rfl rfl) ?_
      refine SL.uu (ru_indexA (o2 := 0 + reg.toNat * 1) ar91 rfl rfl rfl (by omega) (by omega) rfl) ?_
      refine SL.store (i := 0) (c' := (nc { A with r := up A.r reg.toNat v, tp := posts A.tp (A.r 5) ((v - (n : Int)) % 16) A.clk } tv cv)) rfl rfl ts3 rfl rfl rfl rfl rfl (by rw [nc_len]; omega) (.inl rfl) (set_r' (by omega) v) ?_
      refine SL.nil ?_
      refine SE.blkn ?_
      refine SC.of_SE ?_
      refine SC.norm [(6, iw 0)] [rBlk d (nc { A with r := up A.r reg.toNat v, tp := posts A.tp (A.r 5) ((v - (n : Int)) % 16) A.clk } tv cv) 99, rFrs F tv cv A.tb A.cb] ⟨rfl, trivial⟩ rfl ?_
      refine SC.sr ?_
      refine SL.as ?_
      refine SL.nn [(6, iw 0)] _ ⟨rfl, trivial⟩ ?_
      refine SC.ret ?_
      refine SE.res (.inl rfl) (res1 Try.results40 rfl) fun w1 hI => ?_
      rw [ez] at hI
      have e : writeF A reg v = (0, { A with r := up A.r reg.toNat v, tp := posts A.tp (A.r 5) v A.clk }) := by
        try simp at h2 h6 h8 h9
        unfold writeF
        (repeat' split) <;> first | rfl | (exfalso; omega) | (exfalso; simp_all; done) | (exfalso; simp_all; omega)
      rw [e]
      exact ⟨rfl, NicAt.fin' hI⟩
    refine SC.seq ?_
    refine SC.sr ?_
    refine SL.mv ?_
    refine SL.mv ?_
    refine SL.uu (ru_ne (b := ((((v - (n : Int)) % 16) : Int) != v)) rfl rfl rfl rfl) ?_
    refine SL.nn [(0, pt d 0), (1, iw reg), (2, iw v), (6, iw 0), (9, iw ((v - (n : Int)) % 16)), (75, bo ((((v - (n : Int)) % 16) : Int) != v))] [rBlk d (nc { A with tp := posts A.tp (A.r 5) ((v - (n : Int)) % 16) A.clk } tv cv) 99, rFrs F tv cv A.tb A.cb] ⟨rfl, rfl, rfl, rfl, rfl, rfl, trivial⟩ ?_
    refine SC.yes (show some (Value.bool ((((v - (n : Int)) % 16) : Int) != v)) = some (Value.bool true) from congrArg (fun x => some (Value.bool x)) (bne_t (by omega))) ?_
    refine SC.skip ?_
    refine SC.of_SE ?_
    refine SC.norm [(0, pt d 0), (1, iw reg), (2, iw v), (6, iw 0), (9, iw ((v - (n : Int)) % 16))] _ ⟨rfl, rfl, rfl, rfl, rfl, trivial⟩ rfl ?_
    refine SC.seq ?_
    refine SC.block ?_
    refine SC.region_tail 10 (by kernel_rfl) (by kernel_rfl) ?_
    refine SQ.ru rfl rfl (lt_b rfl) (ru_move rfl rfl) ?_
    refine SQ.ru rfl rfl (lt_b rfl) (ru_move rfl rfl) ?_
    refine SQ.ru rfl rfl (lt_b rfl) (ru_move rfl rfl) ?_
    refine SQ.ru rfl rfl (lt_b rfl) (ru_nilCheck rfl rfl) ?_
    refine SQ.ru rfl rfl (lt_b rfl) (ru_fieldAddr (o2 := 104) fd99_3 rfl rfl rfl) ?_
    refine SQ.ru rfl rfl (lt_b rfl) (ru_load (i := 0) (v := iw A.clk) ts3 rfl rfl rfl nc_clk) ?_
    refine SQ.ru rfl rfl (lt_b rfl) (ru_nilCheck rfl rfl) ?_
    refine SQ.ru rfl rfl (lt_b rfl) (ru_fieldAddr (o2 := 8) fd99_1 rfl rfl rfl) ?_
    refine SQ.ru rfl rfl (lt_b rfl) (ru_indexA (o2 := 8 + (((v - (n : Int)) % 16).toNat) * 2) ar94 rfl rfl rfl (by omega) (by omega) rfl) ?_
    refine SQ.ru rfl rfl (lt_b rfl) (ru_fieldAddr (o2 := (8 + (((v - (n : Int)) % 16).toNat) * 2 + 1)) fd93_1 rfl rfl rfl) ?_
    refine SQ.nilL ?_
    refine SL.store (i := 0) (c' := (nc { A with tp := up (posts A.tp (A.r 5) ((v - (n : Int)) % 16) A.clk) (((v - (n : Int)) % 16).toNat) A.clk } tv cv)) rfl rfl ts3 rfl rfl rfl rfl rfl (by rw [nc_len]; omega) (.inl rfl) (set_tp (by omega) A.clk) ?_
    refine SL.nil ?_
    refine SE.blkn ?_
    refine SC.of_SE ?_
    refine SC.norm [(0, pt d 0), (1, iw reg), (2, iw v), (6, iw 0), (9, iw ((v - (n : Int)) % 16))] [rBlk d (nc { A with tp := up (posts A.tp (A.r 5) ((v - (n : Int)) % 16) A.clk) (((v - (n : Int)) % 16).toNat) A.clk } tv cv) 99, rFrs F tv cv A.tb A.cb] ⟨rfl, rfl, rfl, rfl, rfl, trivial⟩ rfl ?_
    refine SC.region ?_
    refine SL.mv ?_
    refine SL.callv (iw (nx ((v - (n : Int)) % 16))) rfl rfl co42 rfl rfl rfl (lt_b rfl) (fun w hI => H_same hI (next_any w (by omega))) ?_
    refine SL.as ?_
    refine SL.nil ?_
    refine SE.again (n - 1) () (by omega) (by omega) ⟨rfl, rfl, rfl, rfl, (congrArg (fun x => some (iw x)) (nx_step h0)), trivial⟩ (congrArg (fun c => [rBlk d c 99, rFrs F tv cv A.tb A.cb]) (nc_posts' r5 hv h0 hn))
  refine SC.sr ?_
  refine SL.mv ?_
  refine SL.uu (ru_eq (b := ((reg : Int) == 3)) rfl rfl rfl rfl) ?_
  refine SL.as ?_
  refine SL.nn [(0, pt d 0), (1, iw reg), (2, iw v), (6, iw 0), (94, bo ((reg : Int) == 3))] _ ⟨rfl, rfl, rfl, rfl, rfl, trivial⟩ ?_
  refine SC.both ((reg : Int) == 3) rfl (fun h10 => ?_) (fun h10 => ?_)
  · skip
    have h5 := w_5 h10
    refine SC.region ?_
    refine SL.mv ?_
    refine SL.mv ?_
    refine SL.mv ?_
    refine SL.nk ?_
    refine SL.uu (ru_fieldAddr (o2 := 0) fd99_0 rfl rfl rfl) ?_
    refine SL.uu (ru_indexA (o2 := 0 + reg.toNat * 1) ar91 rfl rfl rfl (by omega) (by omega) rfl) ?_
    refine SL.store (i := 0) (c' := (nc { A with r := up A.r reg.toNat v } tv cv)) rfl rfl ts3 rfl rfl rfl rfl rfl (by rw [nc_len]; omega) (.inl rfl) (set_r' (by omega) v) ?_
    refine SL.nil ?_
    refine SE.blkn ?_
    refine SC.of_SE ?_
    refine SC.norm [(6, iw 0)] [rBlk d (nc { A with r := up A.r reg.toNat v } tv cv) 99, rFrs F tv cv A.tb A.cb] ⟨rfl, trivial⟩ rfl ?_
    refine SC.sr ?_
    refine SL.as ?_
    refine SL.nn [(6, iw 0)] _ ⟨rfl, trivial⟩ ?_
    refine SC.ret ?_
    refine SE.res (.inl rfl) (res1 Try.results40 rfl) fun w1 hI => ?_
    have e : writeF A reg v = (0, { A with r := up A.r reg.toNat v }) := by
      try simp at h2 h6 h8 h9 h10
      unfold writeF
      (repeat' split) <;> first | rfl | (exfalso; omega) | (exfalso; simp_all; done) | (exfalso; simp_all; omega)
    rw [e]
    exact ⟨rfl, NicAt.fin' hI⟩
  refine SC.sr ?_
  refine SL.as ?_
  refine SL.nn [(6, iw 1)] _ ⟨rfl, trivial⟩ ?_
  refine SC.ret ?_
  refine SE.blkr ?_
  refine SE.passr ?_
  refine SE.res (.inl rfl) (res1 Try.results40 rfl) fun w1 hI => ?_
  have e : writeF A reg v = (1, A) := by
    try simp at h2 h6 h8 h9 h10
    unfold writeF
    (repeat' split) <;> first | rfl | (exfalso; omega) | (exfalso; simp_all; done) | (exfalso; simp_all; omega)
  rw [e]
  exact ⟨rfl, NicAt.fin' hI⟩

end Go.Proofs.Ytghfkgcaglabpaa

/-
  A new device, and a write (the reference's).
-/
namespace Go.Proofs.Ytghfkgcaglabpaa
open Go.RowKit
set_option maxRecDepth 100000
set_option maxHeartbeats 4000000
theorem q_new (w : World) : Calls Try.prog 23 #[] w fun e w' => ∃ g, w.heap.size ≤ g ∧ e = .returned (pt g 0) ∧ Blk w' g (nc newA nilv nilv) 108 ∧ Only (fun _ => False) w w' := by
  refine calls_sc (l0 := []) (args := []) (fun _ => False) Try.func23 rfl 9 Try.ntmps23 (le_b rfl) ⟨⟨by simp, List.Pairwise.nil⟩, Only.refl _ _⟩ ?_
  show SC _ _ _ _ [] []
  refine SC.sr ?_
  refine SL.as ?_
  refine SL.nn [(0, Value.pointer none)] [] ⟨rfl, trivial⟩ ?_
  refine SC.sr ?_
  refine SL.uu (ru_build (vals := []) (cells := [iw 0, iw 0, iw 0, iw 0, iw 0, iw 0, iw 0, iw 0, Value.slice none 0 0, iw 0, Value.slice none 0 0, iw 0, Value.slice none 0 0, iw 0, Value.slice none 0 0, iw 0, Value.slice none 0 0, iw 0, Value.slice none 0 0, iw 0, Value.slice none 0 0, iw 0, Value.slice none 0 0, iw 0, Value.slice none 0 0, iw 0, Value.slice none 0 0, iw 0, Value.slice none 0 0, iw 0, Value.slice none 0 0, iw 0, Value.slice none 0 0, iw 0, Value.slice none 0 0, iw 0, Value.slice none 0 0, iw 0, Value.slice none 0 0, iw 0, iw 0, bo false, Value.slice none 0 0, bo false, iw 0, bo false, Value.slice none 0 0, bo false, iw 0, bo false, Value.slice none 0 0, bo false, iw 0, bo false, Value.slice none 0 0, bo false, iw 0, bo false, Value.slice none 0 0, bo false, iw 0, bo false, Value.slice none 0 0, bo false, iw 0, bo false, Value.slice none 0 0, bo false, iw 0, bo false, Value.slice none 0 0, bo false, iw 0, bo false, Value.slice none 0 0, bo false, iw 0, bo false, Value.slice none 0 0, bo false, iw 0, bo false, Value.slice none 0 0, bo false, iw 0, bo false, Value.slice none 0 0, bo false, iw 0, bo false, Value.slice none 0 0, bo false, iw 0, bo false, Value.slice none 0 0, bo false, iw 0, bo false, Value.slice none 0 0, bo false, iw 0, bo false, Value.slice none 0 0, bo false, iw 0]) rfl rfl (by kernel_rfl)) ?_
  refine SL.box (c := [iw 0, iw 0, iw 0, iw 0, iw 0, iw 0, iw 0, iw 0, Value.slice none 0 0, iw 0, Value.slice none 0 0, iw 0, Value.slice none 0 0, iw 0, Value.slice none 0 0, iw 0, Value.slice none 0 0, iw 0, Value.slice none 0 0, iw 0, Value.slice none 0 0, iw 0, Value.slice none 0 0, iw 0, Value.slice none 0 0, iw 0, Value.slice none 0 0, iw 0, Value.slice none 0 0, iw 0, Value.slice none 0 0, iw 0, Value.slice none 0 0, iw 0, Value.slice none 0 0, iw 0, Value.slice none 0 0, iw 0, Value.slice none 0 0, iw 0, iw 0, bo false, Value.slice none 0 0, bo false, iw 0, bo false, Value.slice none 0 0, bo false, iw 0, bo false, Value.slice none 0 0, bo false, iw 0, bo false, Value.slice none 0 0, bo false, iw 0, bo false, Value.slice none 0 0, bo false, iw 0, bo false, Value.slice none 0 0, bo false, iw 0, bo false, Value.slice none 0 0, bo false, iw 0, bo false, Value.slice none 0 0, bo false, iw 0, bo false, Value.slice none 0 0, bo false, iw 0, bo false, Value.slice none 0 0, bo false, iw 0, bo false, Value.slice none 0 0, bo false, iw 0, bo false, Value.slice none 0 0, bo false, iw 0, bo false, Value.slice none 0 0, bo false, iw 0, bo false, Value.slice none 0 0, bo false, iw 0, bo false, Value.slice none 0 0, bo false, iw 0, bo false, Value.slice none 0 0, bo false, iw 0]) rfl rfl (lt_b rfl) rfl rfl rfl fun b1 hb1 => ?_
  refine SL.as ?_
  refine SL.nn [(0, Value.pointer none), (1, pt b1 0)] [rBlk b1 [iw 0, iw 0, iw 0, iw 0, iw 0, iw 0, iw 0, iw 0, Value.slice none 0 0, iw 0, Value.slice none 0 0, iw 0, Value.slice none 0 0, iw 0, Value.slice none 0 0, iw 0, Value.slice none 0 0, iw 0, Value.slice none 0 0, iw 0, Value.slice none 0 0, iw 0, Value.slice none 0 0, iw 0, Value.slice none 0 0, iw 0, Value.slice none 0 0, iw 0, Value.slice none 0 0, iw 0, Value.slice none 0 0, iw 0, Value.slice none 0 0, iw 0, Value.slice none 0 0, iw 0, Value.slice none 0 0, iw 0, Value.slice none 0 0, iw 0, iw 0, bo false, Value.slice none 0 0, bo false, iw 0, bo false, Value.slice none 0 0, bo false, iw 0, bo false, Value.slice none 0 0, bo false, iw 0, bo false, Value.slice none 0 0, bo false, iw 0, bo false, Value.slice none 0 0, bo false, iw 0, bo false, Value.slice none 0 0, bo false, iw 0, bo false, Value.slice none 0 0, bo false, iw 0, bo false, Value.slice none 0 0, bo false, iw 0, bo false, Value.slice none 0 0, bo false, iw 0, bo false, Value.slice none 0 0, bo false, iw 0, bo false, Value.slice none 0 0, bo false, iw 0, bo false, Value.slice none 0 0, bo false, iw 0, bo false, Value.slice none 0 0, bo false, iw 0, bo false, Value.slice none 0 0, bo false, iw 0, bo false, Value.slice none 0 0, bo false, iw 0, bo false, Value.slice none 0 0, bo false, iw 0] 108] ⟨rfl, rfl, trivial⟩ ?_
  refine SC.sr ?_
  refine SL.mv ?_
  refine SL.nk ?_
  refine SL.uu (ru_fieldAddr (o2 := 0) fd108_0 rfl rfl rfl) ?_
  refine SL.uu (ru_indexA (o2 := 1) ar91 rfl rfl rfl (by decide) (by decide) rfl) ?_
  refine SL.store (i := 0) (c' := [iw 0, iw 1, iw 0, iw 0, iw 0, iw 0, iw 0, iw 0, Value.slice none 0 0, iw 0, Value.slice none 0 0, iw 0, Value.slice none 0 0, iw 0, Value.slice none 0 0, iw 0, Value.slice none 0 0, iw 0, Value.slice none 0 0, iw 0, Value.slice none 0 0, iw 0, Value.slice none 0 0, iw 0, Value.slice none 0 0, iw 0, Value.slice none 0 0, iw 0, Value.slice none 0 0, iw 0, Value.slice none 0 0, iw 0, Value.slice none 0 0, iw 0, Value.slice none 0 0, iw 0, Value.slice none 0 0, iw 0, Value.slice none 0 0, iw 0, iw 0, bo false, Value.slice none 0 0, bo false, iw 0, bo false, Value.slice none 0 0, bo false, iw 0, bo false, Value.slice none 0 0, bo false, iw 0, bo false, Value.slice none 0 0, bo false, iw 0, bo false, Value.slice none 0 0, bo false, iw 0, bo false, Value.slice none 0 0, bo false, iw 0, bo false, Value.slice none 0 0, bo false, iw 0, bo false, Value.slice none 0 0, bo false, iw 0, bo false, Value.slice none 0 0, bo false, iw 0, bo false, Value.slice none 0 0, bo false, iw 0, bo false, Value.slice none 0 0, bo false, iw 0, bo false, Value.slice none 0 0, bo false, iw 0, bo false, Value.slice none 0 0, bo false, iw 0, bo false, Value.slice none 0 0, bo false, iw 0, bo false, Value.slice none 0 0, bo false, iw 0, bo false, Value.slice none 0 0, bo false, iw 0]) rfl rfl ts3 rfl rfl rfl rfl rfl (lt_b rfl) (.inr hb1) rfl ?_
  refine SL.nn [(0, Value.pointer none), (1, pt b1 0)] [rBlk b1 [iw 0, iw 1, iw 0, iw 0, iw 0, iw 0, iw 0, iw 0, Value.slice none 0 0, iw 0, Value.slice none 0 0, iw 0, Value.slice none 0 0, iw 0, Value.slice none 0 0, iw 0, Value.slice none 0 0, iw 0, Value.slice none 0 0, iw 0, Value.slice none 0 0, iw 0, Value.slice none 0 0, iw 0, Value.slice none 0 0, iw 0, Value.slice none 0 0, iw 0, Value.slice none 0 0, iw 0, Value.slice none 0 0, iw 0, Value.slice none 0 0, iw 0, Value.slice none 0 0, iw 0, Value.slice none 0 0, iw 0, Value.slice none 0 0, iw 0, iw 0, bo false, Value.slice none 0 0, bo false, iw 0, bo false, Value.slice none 0 0, bo false, iw 0, bo false, Value.slice none 0 0, bo false, iw 0, bo false, Value.slice none 0 0, bo false, iw 0, bo false, Value.slice none 0 0, bo false, iw 0, bo false, Value.slice none 0 0, bo false, iw 0, bo false, Value.slice none 0 0, bo false, iw 0, bo false, Value.slice none 0 0, bo false, iw 0, bo false, Value.slice none 0 0, bo false, iw 0, bo false, Value.slice none 0 0, bo false, iw 0, bo false, Value.slice none 0 0, bo false, iw 0, bo false, Value.slice none 0 0, bo false, iw 0, bo false, Value.slice none 0 0, bo false, iw 0, bo false, Value.slice none 0 0, bo false, iw 0, bo false, Value.slice none 0 0, bo false, iw 0, bo false, Value.slice none 0 0, bo false, iw 0] 108] ⟨rfl, rfl, trivial⟩ ?_
  refine SC.sr ?_
  refine SL.mv ?_
  refine SL.as ?_
  refine SL.nn [(0, pt b1 0)] _ ⟨rfl, trivial⟩ ?_
  refine SC.ret ?_
  refine SE.res (.inl rfl) (res1 Try.results23 rfl) fun w1 hI => ⟨b1, hb1, rfl, ?_, hI.2⟩
  have e : [iw 0, iw 1, iw 0, iw 0, iw 0, iw 0, iw 0, iw 0, Value.slice none 0 0, iw 0, Value.slice none 0 0, iw 0, Value.slice none 0 0, iw 0, Value.slice none 0 0, iw 0, Value.slice none 0 0, iw 0, Value.slice none 0 0, iw 0, Value.slice none 0 0, iw 0, Value.slice none 0 0, iw 0, Value.slice none 0 0, iw 0, Value.slice none 0 0, iw 0, Value.slice none 0 0, iw 0, Value.slice none 0 0, iw 0, Value.slice none 0 0, iw 0, Value.slice none 0 0, iw 0, Value.slice none 0 0, iw 0, Value.slice none 0 0, iw 0, iw 0, bo false, Value.slice none 0 0, bo false, iw 0, bo false, Value.slice none 0 0, bo false, iw 0, bo false, Value.slice none 0 0, bo false, iw 0, bo false, Value.slice none 0 0, bo false, iw 0, bo false, Value.slice none 0 0, bo false, iw 0, bo false, Value.slice none 0 0, bo false, iw 0, bo false, Value.slice none 0 0, bo false, iw 0, bo false, Value.slice none 0 0, bo false, iw 0, bo false, Value.slice none 0 0, bo false, iw 0, bo false, Value.slice none 0 0, bo false, iw 0, bo false, Value.slice none 0 0, bo false, iw 0, bo false, Value.slice none 0 0, bo false, iw 0, bo false, Value.slice none 0 0, bo false, iw 0, bo false, Value.slice none 0 0, bo false, iw 0, bo false, Value.slice none 0 0, bo false, iw 0, bo false, Value.slice none 0 0, bo false, iw 0] = nc newA nilv nilv := by kernel_rfl
  rw [← e]
  exact hI.1.get (i := 0) rfl

theorem q_write {w : World} {d : Nat} {F : Nat → Prop} {A : NicA} (hk : NicOk A) (h : NicAt 108 w d F A) (reg v : Int) : Calls Try.prog 72 #[pt d 0, iw reg, iw v] w fun e w' => e = .returned (iw (writeF A reg v).1) ∧ NicAt 108 w' d F (writeF A reg v).2 ∧ Only (fun b => b = d) w w' := by
  have hok := hk
  obtain ⟨r2, r3, r4, r5, r6, _, _, _⟩ := hok
  obtain ⟨tv, cv, hI⟩ := h.inv 97 (fun b => b = d)
  refine calls_sc (l0 := _) (args := [pt d 0, iw reg, iw v]) (fun b => b = d) Try.func72 rfl 97 Try.ntmps72 (le_b rfl) hI ?_
  show SC _ _ _ _ [(0, pt d 0), (1, iw reg), (2, iw v)] [rBlk d (nc A tv cv) 108, rFrs F tv cv A.tb A.cb]
  refine SC.sr ?_
  refine SL.as ?_
  refine SL.nn [(0, pt d 0), (1, iw reg), (2, iw v), (6, iw 0)] [rBlk d (nc A tv cv) 108, rFrs F tv cv A.tb A.cb] ⟨rfl, rfl, rfl, rfl, trivial⟩ ?_
  refine SC.seq ?_
  refine SC.sr ?_
  refine SL.mv ?_
  refine SL.uu (ru_eq (b := ((reg : Int) == 0)) rfl rfl rfl rfl) ?_
  refine SL.mv ?_
  refine SL.join 3 [(0, pt d 0), (1, iw reg), (2, iw v), (6, iw 0), (9, iw reg), (10, bo ((reg : Int) == 0)), (11, bo ((reg : Int) == 0)), (14, bo (((reg : Int) == 0) && ((v : Int) == 2)))] [rBlk d (nc A tv cv) 108, rFrs F tv cv A.tb A.cb] ?_ ?_
  rotate_left
  · intro K hK
    rcases tf ((reg : Int) == 0) with h1 | h1
    · skip
      refine SL.norm [(0, pt d 0), (1, iw reg), (2, iw v), (6, iw 0), (9, iw reg), (10, bo true), (11, bo true)] _ ⟨rfl, rfl, rfl, rfl, rfl, (congrArg (fun x => some (Value.bool x)) h1), (congrArg (fun x => some (Value.bool x)) h1), trivial⟩ rfl ?_
      refine SL.rug rfl rfl rfl rfl (lt_b rfl) (ru_move rfl rfl) ?_
      refine SL.rug rfl rfl rfl rfl (lt_b rfl) (ru_eq (b := ((v : Int) == 2)) rfl rfl rfl rfl) ?_
      refine SL.uu (ru_pick (u := bo ((v : Int) == 2)) (v := bo false) rfl rfl rfl rfl) ?_
      exact SL.joined hK ⟨rfl, rfl, rfl, rfl, rfl, (congrArg (fun x => some (Value.bool x)) h1.symm), (congrArg (fun x => some (Value.bool x)) h1.symm), (congrArg (fun x => some (Value.bool (x && ((v : Int) == 2)))) h1.symm), trivial⟩ rfl
    refine SL.norm [(0, pt d 0), (1, iw reg), (2, iw v), (6, iw 0), (9, iw reg), (10, bo false), (11, bo false)] _ ⟨rfl, rfl, rfl, rfl, rfl, (congrArg (fun x => some (Value.bool x)) h1), (congrArg (fun x => some (Value.bool x)) h1), trivial⟩ rfl ?_
    refine SL.off (b := false) rfl rfl rfl rfl rfl (lt_b rfl) ?_
    refine SL.off (b := false) rfl rfl rfl rfl rfl (lt_b rfl) ?_
    refine SL.uu (ru_pick (u := undef) (v := bo false) rfl rfl rfl rfl) ?_
    exact SL.joined hK ⟨rfl, rfl, rfl, rfl, rfl, (congrArg (fun x => some (Value.bool x)) h1.symm), (congrArg (fun x => some (Value.bool x)) h1.symm), (congrArg (fun x => some (Value.bool (x && ((v : Int) == 2)))) h1.symm), trivial⟩ rfl
  skip
  refine SL.nn [(0, pt d 0), (1, iw reg), (2, iw v), (6, iw 0), (14, bo (((reg : Int) == 0) && ((v : Int) == 2)))] _ ⟨rfl, rfl, rfl, rfl, rfl, trivial⟩ ?_
  refine SC.both (((reg : Int) == 0) && ((v : Int) == 2)) rfl (fun h2 => ?_) (fun h2 => ?_)
  · skip
    have h0 := w_0 h2
    refine SC.sr ?_
    refine SL.call (ζ := Nat) (fun g3 => pt g3 0) (fun g3 => [rBlk d (nc A tv cv) 108, rFrs F tv cv A.tb A.cb, rBlk g3 (nc newA nilv nilv) 108]) (fun g3 => w.heap.size ≤ g3) rfl rfl co23 rfl rfl rfl (lt_b rfl) (fun w hI => (q_new _).mono fun e w2 ⟨g, h1, h2, h3, h4⟩ => ⟨g, h2, hI.add h4 h3 (fun q hq => by cases hq; exact h1), Nat.le_trans hI.2.size h1⟩) ?_
    intro g3 hg3
    refine SL.as ?_
    refine SL.nn [(0, pt d 0), (1, iw reg), (2, iw v), (6, iw 0), (7, pt g3 0)] [rBlk d (nc A tv cv) 108, rFrs F tv cv A.tb A.cb, rBlk g3 (nc newA nilv nilv) 108] ⟨rfl, rfl, rfl, rfl, rfl, trivial⟩ ?_
    refine SC.sr ?_
    refine SL.mv ?_
    refine SL.mv ?_
    refine SL.nk ?_
    refine SL.uu (ru_fieldAddr (o2 := 104) fd108_3 rfl rfl rfl) ?_
    refine SL.uu (ru_load (i := 0) (v := iw A.clk) ts3 rfl rfl rfl nc_clk) ?_
    refine SL.nk ?_
    refine SL.uu (ru_fieldAddr (o2 := 104) fd108_3 rfl rfl rfl) ?_
    refine SL.store (i := 2) (c' := (nc { newA with clk := A.clk } nilv nilv)) rfl rfl ts3 rfl rfl rfl rfl rfl (by rw [nc_len]; omega) (.inr hg3) (set_clk A.clk) ?_
    refine SL.nn [(0, pt d 0), (1, iw reg), (2, iw v), (6, iw 0), (7, pt g3 0)] [rBlk d (nc A tv cv) 108, rFrs F tv cv A.tb A.cb, rBlk g3 (nc { newA with clk := A.clk } nilv nilv) 108] ⟨rfl, rfl, rfl, rfl, rfl, trivial⟩ ?_
    refine SC.seq ?_
    refine SC.region_tail 9 (by kernel_rfl) (by kernel_rfl) ?_
    refine SQ.ru rfl rfl (lt_b rfl) (ru_move rfl rfl) ?_
    refine SQ.ru rfl rfl (lt_b rfl) (ru_move rfl rfl) ?_
    refine SQ.ru rfl rfl (lt_b rfl) (ru_nilCheck rfl rfl) ?_
    refine SQ.ru rfl rfl (lt_b rfl) (ru_fieldAddr (o2 := 0) fd108_0 rfl rfl rfl) ?_
    refine SQ.ru rfl rfl (lt_b rfl) (ru_indexA (o2 := 1) ar91 rfl rfl rfl (by decide) (by decide) rfl) ?_
    refine SQ.ru rfl rfl (lt_b rfl) (ru_load (i := 0) (v := iw (A.r 1)) ts3 rfl rfl rfl (nc_r (by decide))) ?_
    refine SQ.ru rfl rfl (lt_b rfl) (ru_nilCheck rfl rfl) ?_
    refine SQ.ru rfl rfl (lt_b rfl) (ru_fieldAddr (o2 := 0) fd108_0 rfl rfl rfl) ?_
    refine SQ.ru rfl rfl (lt_b rfl) (ru_indexA (o2 := 1) ar91 rfl rfl rfl (by decide) (by decide) rfl) ?_
    refine SQ.nilL ?_
    refine SL.store (i := 2) (c' := (nc { newA with r := up newA.r 1 (A.r 1), clk := A.clk } nilv nilv)) rfl rfl ts3 rfl rfl rfl rfl rfl (by rw [nc_len]; omega) (.inr hg3) (set_r (by decide) (A.r 1)) ?_
    refine SL.nn [(0, pt d 0), (1, iw reg), (2, iw v), (6, iw 0), (7, pt g3 0)] [rBlk d (nc A tv cv) 108, rFrs F tv cv A.tb A.cb, rBlk g3 (nc { newA with r := up newA.r 1 (A.r 1), clk := A.clk } nilv nilv) 108] ⟨rfl, rfl, rfl, rfl, rfl, trivial⟩ ?_
    refine SC.sr ?_
    refine SL.mv ?_
    refine SL.mv ?_
    refine SL.nk ?_
    refine SL.uu (ru_loada (i := 2) (vs := (nc { newA with r := up newA.r 1 (A.r 1), clk := A.clk } nilv nilv)) ta108 rfl rfl rfl nc_all (by rw [nc_len]; exact Nat.le_refl _)) ?_
    refine SL.nk ?_
    refine SL.storea (i := 0) (vs := (nc { newA with r := up newA.r 1 (A.r 1), clk := A.clk } nilv nilv)) (c' := (nc { newA with r := up newA.r 1 (A.r 1), clk := A.clk } nilv nilv)) rfl rfl ta108 rfl rfl rfl (nc_one (fun _ => rfl) (fun _ => rfl)) nc_len rfl (by rw [nc_len, nc_len]; omega) (.inl rfl) nc_whole ?_
    refine SL.nn [(0, pt d 0), (1, iw reg), (2, iw v), (6, iw 0)] [rBlk d (nc { newA with r := up newA.r 1 (A.r 1), clk := A.clk } nilv nilv) 108, rFrs F tv cv A.tb A.cb, rBlk g3 (nc { newA with r := up newA.r 1 (A.r 1), clk := A.clk } nilv nilv) 108] ⟨rfl, rfl, rfl, rfl, trivial⟩ ?_
    refine SC.sr ?_
    refine SL.as ?_
    refine SL.nn [(0, pt d 0), (1, iw reg), (2, iw v), (6, iw 0)] _ ⟨rfl, rfl, rfl, rfl, trivial⟩ ?_
    refine SC.ret ?_
    refine SE.passr ?_
    refine SE.res (.inl rfl) (res1 Try.results72 rfl) fun w1 hI => ?_
    have e : writeF A reg v = (0, { newA with r := up newA.r 1 (A.r 1), clk := A.clk }) := by
      try simp at h2
      unfold writeF
      (repeat' split) <;> first | rfl | (exfalso; omega) | (exfalso; simp_all; done) | (exfalso; simp_all; omega)
    rw [e]
    exact ⟨rfl, NicAt.fin_reset rfl rfl hI⟩
  refine SC.skip ?_
  refine SC.of_SE ?_
  refine SC.norm [(0, pt d 0), (1, iw reg), (2, iw v), (6, iw 0)] _ ⟨rfl, rfl, rfl, rfl, trivial⟩ rfl ?_
  refine SC.seq ?_
  refine SC.sr ?_
  refine SL.mv ?_
  refine SL.uu (ru_eq (b := ((reg : Int) == 0)) rfl rfl rfl rfl) ?_
  refine SL.mv ?_
  refine SL.join 7 [(0, pt d 0), (1, iw reg), (2, iw v), (6, iw 0), (37, iw reg), (38, bo ((reg : Int) == 0)), (39, bo ((reg : Int) == 0)), (46, bo (((reg : Int) == 0) && (((v : Int) == 0) || ((v : Int) == 1))))] [rBlk d (nc A tv cv) 108, rFrs F tv cv A.tb A.cb] ?_ ?_
  rotate_left
  · intro K hK
    rcases tf ((reg : Int) == 0) with h4 | h4
    · skip
      refine SL.norm [(0, pt d 0), (1, iw reg), (2, iw v), (6, iw 0), (37, iw reg), (38, bo true), (39, bo true)] _ ⟨rfl, rfl, rfl, rfl, rfl, (congrArg (fun x => some (Value.bool x)) h4), (congrArg (fun x => some (Value.bool x)) h4), trivial⟩ rfl ?_
      refine SL.rug rfl rfl rfl rfl (lt_b rfl) (ru_move rfl rfl) ?_
      refine SL.rug rfl rfl rfl rfl (lt_b rfl) (ru_eq (b := ((v : Int) == 0)) rfl rfl rfl rfl) ?_
      refine SL.rug rfl rfl rfl rfl (lt_b rfl) (ru_move rfl rfl) ?_
      refine SL.join 3 [(0, pt d 0), (1, iw reg), (2, iw v), (6, iw 0), (37, iw reg), (38, bo true), (39, bo true), (40, iw v), (41, bo ((v : Int) == 0)), (42, bo ((v : Int) == 0)), (45, bo (((v : Int) == 0) || ((v : Int) == 1)))] [rBlk d (nc A tv cv) 108, rFrs F tv cv A.tb A.cb] ?_ ?_
      rotate_left
      · intro K hK
        rcases tf ((v : Int) == 0) with h5 | h5
        · skip
          refine SL.norm [(0, pt d 0), (1, iw reg), (2, iw v), (6, iw 0), (37, iw reg), (38, bo true), (39, bo true), (40, iw v), (41, bo true), (42, bo true)] _ ⟨rfl, rfl, rfl, rfl, rfl, rfl, rfl, rfl, (congrArg (fun x => some (Value.bool x)) h5), (congrArg (fun x => some (Value.bool x)) h5), trivial⟩ rfl ?_
          refine SL.off (b := true) rfl rfl rfl rfl rfl (lt_b rfl) ?_
          refine SL.off (b := true) rfl rfl rfl rfl rfl (lt_b rfl) ?_
          refine SL.rug rfl rfl rfl rfl (lt_b rfl) (ru_pick (u := bo true) (v := undef) rfl rfl rfl rfl) ?_
          exact SL.joined hK ⟨rfl, rfl, rfl, rfl, rfl, rfl, rfl, rfl, (congrArg (fun x => some (Value.bool x)) h5.symm), (congrArg (fun x => some (Value.bool x)) h5.symm), (congrArg (fun x => some (Value.bool (x || ((v : Int) == 1)))) h5.symm), trivial⟩ rfl
        refine SL.norm [(0, pt d 0), (1, iw reg), (2, iw v), (6, iw 0), (37, iw reg), (38, bo true), (39, bo true), (40, iw v), (41, bo false), (42, bo false)] _ ⟨rfl, rfl, rfl, rfl, rfl, rfl, rfl, rfl, (congrArg (fun x => some (Value.bool x)) h5), (congrArg (fun x => some (Value.bool x)) h5), trivial⟩ rfl ?_
        refine SL.rug rfl rfl rfl rfl (lt_b rfl) (ru_move rfl rfl) ?_
        refine SL.rug rfl rfl rfl rfl (lt_b rfl) (ru_eq (b := ((v : Int) == 1)) rfl rfl rfl rfl) ?_
        refine SL.rug rfl rfl rfl rfl (lt_b rfl) (ru_pick (u := bo true) (v := bo ((v : Int) == 1)) rfl rfl rfl rfl) ?_
        exact SL.joined hK ⟨rfl, rfl, rfl, rfl, rfl, rfl, rfl, rfl, (congrArg (fun x => some (Value.bool x)) h5.symm), (congrArg (fun x => some (Value.bool x)) h5.symm), (congrArg (fun x => some (Value.bool (x || ((v : Int) == 1)))) h5.symm), trivial⟩ rfl
      skip
      refine SL.uu (ru_pick (u := bo (((v : Int) == 0) || ((v : Int) == 1))) (v := bo false) rfl rfl rfl rfl) ?_
      exact SL.joined hK ⟨rfl, rfl, rfl, rfl, rfl, (congrArg (fun x => some (Value.bool x)) h4.symm), (congrArg (fun x => some (Value.bool x)) h4.symm), (congrArg (fun x => some (Value.bool (x && (((v : Int) == 0) || ((v : Int) == 1))))) h4.symm), trivial⟩ rfl
    refine SL.norm [(0, pt d 0), (1, iw reg), (2, iw v), (6, iw 0), (37, iw reg), (38, bo false), (39, bo false)] _ ⟨rfl, rfl, rfl, rfl, rfl, (congrArg (fun x => some (Value.bool x)) h4), (congrArg (fun x => some (Value.bool x)) h4), trivial⟩ rfl ?_
    refine SL.off (b := false) rfl rfl rfl rfl rfl (lt_b rfl) ?_
    refine SL.off (b := false) rfl rfl rfl rfl rfl (lt_b rfl) ?_
    refine SL.off (b := false) rfl rfl rfl rfl rfl (lt_b rfl) ?_
    refine SL.offu rfl rfl rfl rfl (lt_b rfl) ?_
    refine SL.offu rfl rfl rfl rfl (lt_b rfl) ?_
    refine SL.off (b := false) rfl rfl rfl rfl rfl (lt_b rfl) ?_
    refine SL.uu (ru_pick (u := undef) (v := bo false) rfl rfl rfl rfl) ?_
    exact SL.joined hK ⟨rfl, rfl, rfl, rfl, rfl, (congrArg (fun x => some (Value.bool x)) h4.symm), (congrArg (fun x => some (Value.bool x)) h4.symm), (congrArg (fun x => some (Value.bool (x && (((v : Int) == 0) || ((v : Int) == 1))))) h4.symm), trivial⟩ rfl
  skip
  refine SL.nn [(0, pt d 0), (1, iw reg), (2, iw v), (6, iw 0), (46, bo (((reg : Int) == 0) && (((v : Int) == 0) || ((v : Int) == 1))))] _ ⟨rfl, rfl, rfl, rfl, rfl, trivial⟩ ?_
  refine SC.both (((reg : Int) == 0) && (((v : Int) == 0) || ((v : Int) == 1))) rfl (fun h6 => ?_) (fun h6 => ?_)
  · skip
    have h0 := w_0 h6
    refine SC.sr ?_
    refine SL.mv ?_
    refine SL.mv ?_
    refine SL.mv ?_
    refine SL.nk ?_
    refine SL.uu (ru_fieldAddr (o2 := 0) fd108_0 rfl rfl rfl) ?_
    refine SL.uu (ru_indexA (o2 := 0 + reg.toNat * 1) ar91 rfl rfl rfl (by omega) (by omega) rfl) ?_
    refine SL.store (i := 0) (c' := (nc { A with r := up A.r reg.toNat v } tv cv)) rfl rfl ts3 rfl rfl rfl rfl rfl (by rw [nc_len]; omega) (.inl rfl) (set_r' (by omega) v) ?_
    refine SL.nn [(0, pt d 0), (1, iw reg), (2, iw v), (6, iw 0)] [rBlk d (nc { A with r := up A.r reg.toNat v } tv cv) 108, rFrs F tv cv A.tb A.cb] ⟨rfl, rfl, rfl, rfl, trivial⟩ ?_
    refine SC.sr ?_
    refine SL.as ?_
    refine SL.nn [(0, pt d 0), (1, iw reg), (2, iw v), (6, iw 0)] _ ⟨rfl, rfl, rfl, rfl, trivial⟩ ?_
    refine SC.ret ?_
    refine SE.passr ?_
    refine SE.res (.inl rfl) (res1 Try.results72 rfl) fun w1 hI => ?_
    have e : writeF A reg v = (0, { A with r := up A.r reg.toNat v }) := by
      try simp at h2 h6
      unfold writeF
      (repeat' split) <;> first | rfl | (exfalso; omega) | (exfalso; simp_all; done) | (exfalso; simp_all; omega)
    rw [e]
    exact ⟨rfl, NicAt.fin' hI⟩
  refine SC.skip ?_
  refine SC.of_SE ?_
  refine SC.norm [(0, pt d 0), (1, iw reg), (2, iw v), (6, iw 0)] _ ⟨rfl, rfl, rfl, rfl, trivial⟩ rfl ?_
  refine SC.seq ?_
  refine SC.sr ?_
  refine SL.mv ?_
  refine SL.uu (ru_ne (b := ((reg : Int) != 3)) rfl rfl rfl rfl) ?_
  refine SL.mv ?_
  refine SL.join 3 [(0, pt d 0), (1, iw reg), (2, iw v), (6, iw 0), (53, iw reg), (54, bo ((reg : Int) != 3)), (55, bo ((reg : Int) != 3)), (58, bo (((reg : Int) != 3) && ((reg : Int) != 5)))] [rBlk d (nc A tv cv) 108, rFrs F tv cv A.tb A.cb] ?_ ?_
  rotate_left
  · intro K hK
    rcases tf ((reg : Int) != 3) with h7 | h7
    · skip
      refine SL.norm [(0, pt d 0), (1, iw reg), (2, iw v), (6, iw 0), (53, iw reg), (54, bo true), (55, bo true)] _ ⟨rfl, rfl, rfl, rfl, rfl, (congrArg (fun x => some (Value.bool x)) h7), (congrArg (fun x => some (Value.bool x)) h7), trivial⟩ rfl ?_
      refine SL.rug rfl rfl rfl rfl (lt_b rfl) (ru_move rfl rfl) ?_
      refine SL.rug rfl rfl rfl rfl (lt_b rfl) (ru_ne (b := ((reg : Int) != 5)) rfl rfl rfl rfl) ?_
      refine SL.uu (ru_pick (u := bo ((reg : Int) != 5)) (v := bo false) rfl rfl rfl rfl) ?_
      exact SL.joined hK ⟨rfl, rfl, rfl, rfl, rfl, (congrArg (fun x => some (Value.bool x)) h7.symm), (congrArg (fun x => some (Value.bool x)) h7.symm), (congrArg (fun x => some (Value.bool (x && ((reg : Int) != 5)))) h7.symm), trivial⟩ rfl
    refine SL.norm [(0, pt d 0), (1, iw reg), (2, iw v), (6, iw 0), (53, iw reg), (54, bo false), (55, bo false)] _ ⟨rfl, rfl, rfl, rfl, rfl, (congrArg (fun x => some (Value.bool x)) h7), (congrArg (fun x => some (Value.bool x)) h7), trivial⟩ rfl ?_
    refine SL.off (b := false) rfl rfl rfl rfl rfl (lt_b rfl) ?_
    refine SL.off (b := false) rfl rfl rfl rfl rfl (lt_b rfl) ?_
    refine SL.uu (ru_pick (u := undef) (v := bo false) rfl rfl rfl rfl) ?_
    exact SL.joined hK ⟨rfl, rfl, rfl, rfl, rfl, (congrArg (fun x => some (Value.bool x)) h7.symm), (congrArg (fun x => some (Value.bool x)) h7.symm), (congrArg (fun x => some (Value.bool (x && ((reg : Int) != 5)))) h7.symm), trivial⟩ rfl
  skip
  refine SL.mv ?_
  refine SL.join 3 [(0, pt d 0), (1, iw reg), (2, iw v), (6, iw 0), (53, iw reg), (54, bo ((reg : Int) != 3)), (55, bo ((reg : Int) != 3)), (58, bo (((reg : Int) != 3) && ((reg : Int) != 5))), (59, bo (((reg : Int) != 3) && ((reg : Int) != 5))), (62, bo ((((reg : Int) != 3) && ((reg : Int) != 5)) || (decide ((v : Int) < 0))))] [rBlk d (nc A tv cv) 108, rFrs F tv cv A.tb A.cb] ?_ ?_
  rotate_left
  · intro K hK
    rcases tf (((reg : Int) != 3) && ((reg : Int) != 5)) with h8 | h8
    · skip
      refine SL.norm [(0, pt d 0), (1, iw reg), (2, iw v), (6, iw 0), (53, iw reg), (54, bo ((reg : Int) != 3)), (55, bo ((reg : Int) != 3)), (58, bo true), (59, bo true)] _ ⟨rfl, rfl, rfl, rfl, rfl, rfl, rfl, (congrArg (fun x => some (Value.bool x)) h8), (congrArg (fun x => some (Value.bool x)) h8), trivial⟩ rfl ?_
      refine SL.off (b := true) rfl rfl rfl rfl rfl (lt_b rfl) ?_
      refine SL.off (b := true) rfl rfl rfl rfl rfl (lt_b rfl) ?_
      refine SL.uu (ru_pick (u := bo true) (v := undef) rfl rfl rfl rfl) ?_
      exact SL.joined hK ⟨rfl, rfl, rfl, rfl, rfl, rfl, rfl, (congrArg (fun x => some (Value.bool x)) h8.symm), (congrArg (fun x => some (Value.bool x)) h8.symm), (congrArg (fun x => some (Value.bool (x || (decide ((v : Int) < 0))))) h8.symm), trivial⟩ rfl
    refine SL.norm [(0, pt d 0), (1, iw reg), (2, iw v), (6, iw 0), (53, iw reg), (54, bo ((reg : Int) != 3)), (55, bo ((reg : Int) != 3)), (58, bo false), (59, bo false)] _ ⟨rfl, rfl, rfl, rfl, rfl, rfl, rfl, (congrArg (fun x => some (Value.bool x)) h8), (congrArg (fun x => some (Value.bool x)) h8), trivial⟩ rfl ?_
    refine SL.rug rfl rfl rfl rfl (lt_b rfl) (ru_move rfl rfl) ?_
    refine SL.rug rfl rfl rfl rfl (lt_b rfl) (ru_lt (b := (decide ((v : Int) < 0))) rfl rfl rfl rfl) ?_
    refine SL.uu (ru_pick (u := bo true) (v := bo (decide ((v : Int) < 0))) rfl rfl rfl rfl) ?_
    exact SL.joined hK ⟨rfl, rfl, rfl, rfl, rfl, rfl, rfl, (congrArg (fun x => some (Value.bool x)) h8.symm), (congrArg (fun x => some (Value.bool x)) h8.symm), (congrArg (fun x => some (Value.bool (x || (decide ((v : Int) < 0))))) h8.symm), trivial⟩ rfl
  skip
  refine SL.mv ?_
  refine SL.join 3 [(0, pt d 0), (1, iw reg), (2, iw v), (6, iw 0), (53, iw reg), (54, bo ((reg : Int) != 3)), (55, bo ((reg : Int) != 3)), (58, bo (((reg : Int) != 3) && ((reg : Int) != 5))), (59, bo (((reg : Int) != 3) && ((reg : Int) != 5))), (62, bo ((((reg : Int) != 3) && ((reg : Int) != 5)) || (decide ((v : Int) < 0)))), (63, bo ((((reg : Int) != 3) && ((reg : Int) != 5)) || (decide ((v : Int) < 0)))), (66, bo (((((reg : Int) != 3) && ((reg : Int) != 5)) || (decide ((v : Int) < 0))) || (decide ((16 : Int) ≤ v))))] [rBlk d (nc A tv cv) 108, rFrs F tv cv A.tb A.cb] ?_ ?_
  rotate_left
  · intro K hK
    rcases tf ((((reg : Int) != 3) && ((reg : Int) != 5)) || (decide ((v : Int) < 0))) with h9 | h9
    · skip
      refine SL.norm [(0, pt d 0), (1, iw reg), (2, iw v), (6, iw 0), (53, iw reg), (54, bo ((reg : Int) != 3)), (55, bo ((reg : Int) != 3)), (58, bo (((reg : Int) != 3) && ((reg : Int) != 5))), (59, bo (((reg : Int) != 3) && ((reg : Int) != 5))), (62, bo true), (63, bo true)] _ ⟨rfl, rfl, rfl, rfl, rfl, rfl, rfl, rfl, rfl, (congrArg (fun x => some (Value.bool x)) h9), (congrArg (fun x => some (Value.bool x)) h9), trivial⟩ rfl ?_
      refine SL.off (b := true) rfl rfl rfl rfl rfl (lt_b rfl) ?_
      refine SL.off (b := true) rfl rfl rfl rfl rfl (lt_b rfl) ?_
      refine SL.uu (ru_pick (u := bo true) (v := undef) rfl rfl rfl rfl) ?_
      exact SL.joined hK ⟨rfl, rfl, rfl, rfl, rfl, rfl, rfl, rfl, rfl, (congrArg (fun x => some (Value.bool x)) h9.symm), (congrArg (fun x => some (Value.bool x)) h9.symm), (congrArg (fun x => some (Value.bool (x || (decide ((16 : Int) ≤ v))))) h9.symm), trivial⟩ rfl
    refine SL.norm [(0, pt d 0), (1, iw reg), (2, iw v), (6, iw 0), (53, iw reg), (54, bo ((reg : Int) != 3)), (55, bo ((reg : Int) != 3)), (58, bo (((reg : Int) != 3) && ((reg : Int) != 5))), (59, bo (((reg : Int) != 3) && ((reg : Int) != 5))), (62, bo false), (63, bo false)] _ ⟨rfl, rfl, rfl, rfl, rfl, rfl, rfl, rfl, rfl, (congrArg (fun x => some (Value.bool x)) h9), (congrArg (fun x => some (Value.bool x)) h9), trivial⟩ rfl ?_
    refine SL.rug rfl rfl rfl rfl (lt_b rfl) (ru_move rfl rfl) ?_
    refine SL.rug rfl rfl rfl rfl (lt_b rfl) (ru_ge (b := (decide ((16 : Int) ≤ v))) rfl rfl rfl rfl) ?_
    refine SL.uu (ru_pick (u := bo true) (v := bo (decide ((16 : Int) ≤ v))) rfl rfl rfl rfl) ?_
    exact SL.joined hK ⟨rfl, rfl, rfl, rfl, rfl, rfl, rfl, rfl, rfl, (congrArg (fun x => some (Value.bool x)) h9.symm), (congrArg (fun x => some (Value.bool x)) h9.symm), (congrArg (fun x => some (Value.bool (x || (decide ((16 : Int) ≤ v))))) h9.symm), trivial⟩ rfl
  skip
  refine SL.nn [(0, pt d 0), (1, iw reg), (2, iw v), (6, iw 0), (66, bo (((((reg : Int) != 3) && ((reg : Int) != 5)) || (decide ((v : Int) < 0))) || (decide ((16 : Int) ≤ v))))] _ ⟨rfl, rfl, rfl, rfl, rfl, trivial⟩ ?_
  refine SC.both (((((reg : Int) != 3) && ((reg : Int) != 5)) || (decide ((v : Int) < 0))) || (decide ((16 : Int) ≤ v))) rfl (fun h10 => ?_) (fun h10 => ?_)
  · skip
    refine SC.sr ?_
    refine SL.as ?_
    refine SL.nn [(0, pt d 0), (1, iw reg), (2, iw v), (6, iw 1)] _ ⟨rfl, rfl, rfl, rfl, trivial⟩ ?_
    refine SC.ret ?_
    refine SE.passr ?_
    refine SE.res (.inl rfl) (res1 Try.results72 rfl) fun w1 hI => ?_
    have e : writeF A reg v = (1, A) := by
      try simp at h2 h6 h10
      unfold writeF
      (repeat' split) <;> first | rfl | (exfalso; omega) | (exfalso; simp_all; done) | (exfalso; simp_all; omega)
    rw [e]
    exact ⟨rfl, NicAt.fin' hI⟩
  have hv := w_rng h10
  have hr := w_reg h10
  refine SC.skip ?_
  refine SC.of_SE ?_
  refine SC.norm [(0, pt d 0), (1, iw reg), (2, iw v), (6, iw 0)] _ ⟨rfl, rfl, rfl, rfl, trivial⟩ rfl ?_
  refine SC.seq ?_
  refine SC.sr ?_
  refine SL.mv ?_
  refine SL.uu (ru_eq (b := ((reg : Int) == 5)) rfl rfl rfl rfl) ?_
  refine SL.nn [(0, pt d 0), (1, iw reg), (2, iw v), (6, iw 0), (68, bo ((reg : Int) == 5))] _ ⟨rfl, rfl, rfl, rfl, rfl, trivial⟩ ?_
  refine SC.both ((reg : Int) == 5) rfl (fun h11 => ?_) (fun h11 => ?_)
  · skip
    have h5 := w_5 h11
    have e5 : A.r reg.toNat = A.r 5 := by rw [h5]; rfl
    refine SC.sr ?_
    refine SL.mv ?_
    refine SL.mv ?_
    refine SL.nk ?_
    refine SL.uu (ru_fieldAddr (o2 := 0) fd108_0 rfl rfl rfl) ?_
    refine SL.uu (ru_indexA (o2 := 0 + reg.toNat * 1) ar91 rfl rfl rfl (by omega) (by omega) rfl) ?_
    refine SL.uu (ru_load (i := 0) (v := iw (A.r reg.toNat)) ts3 rfl rfl rfl (nc_r' (by omega))) ?_
    refine SL.as ?_
    refine SL.nn [(0, pt d 0), (1, iw reg), (2, iw v), (6, iw 0), (8, iw (A.r reg.toNat))] _ ⟨rfl, rfl, rfl, rfl, rfl, trivial⟩ ?_
    refine SC.block ?_
    refine SC.loop (γ := Unit) (fun n _ => [(0, pt d 0), (1, iw reg), (2, iw v), (6, iw 0), (8, iw ((v - (n : Int)) % 16))]) (fun n _ => [rBlk d (nc { A with tp := posts A.tp (A.r 5) ((v - (n : Int)) % 16) A.clk } tv cv) 108, rFrs F tv cv A.tb A.cb]) (fun n _ => n ≤ ((v - A.r 5) % 16).toNat) ((v - A.r 5) % 16).toNat () (Nat.le_refl _) ⟨rfl, rfl, rfl, rfl, (congrArg (fun x => some (iw x)) (show A.r reg.toNat = (v - (((((v - A.r 5) % 16).toNat : Nat) : Int) : Int)) % 16 by omega)), trivial⟩ (congrArg (fun c => [rBlk d c 108, rFrs F tv cv A.tb A.cb]) (nc_posts r5 hv)) ?_
    rintro n ⟨⟩ hn
    rcases Nat.eq_zero_or_pos n with h0 | h0
    · skip
      have ez : (v - (n : Int)) % 16 = v := by omega
      refine SC.seq ?_
      refine SC.sr ?_
      refine SL.mv ?_
      refine SL.mv ?_
      refine SL.uu (ru_ne (b := ((((v - (n : Int)) % 16) : Int) != v)) rfl rfl rfl rfl) ?_
      refine SL.nn [(0, pt d 0), (1, iw reg), (2, iw v), (6, iw 0), (8, iw ((v - (n : Int)) % 16)), (77, bo ((((v - (n : Int)) % 16) : Int) != v))] [rBlk d (nc { A with tp := posts A.tp (A.r 5) ((v - (n : Int)) % 16) A.clk } tv cv) 108, rFrs F tv cv A.tb A.cb] ⟨rfl, rfl, rfl, rfl, rfl, rfl, trivial⟩ ?_
      refine SC.no (show some (Value.bool ((((v - (n : Int)) % 16) : Int) != v)) = some (Value.bool false) from congrArg (fun x => some (Value.bool x)) (bne_f (by omega))) ?_
      refine SC.exit ?_
      refine SE.passe ?_
      refine SE.passe ?_
      refine SE.blke ?_
      refine SC.of_SE ?_
      refine SC.norm [(0, pt d 0), (1, iw reg), (2, iw v), (6, iw 0)] _ ⟨rfl, rfl, rfl, rfl, trivial⟩ rfl ?_
      refine SC.sr ?_
      refine SL.mv ?_
      refine SL.mv ?_
      refine SL.mv ?_
      refine SL.nk ?_
      refine SL.uu (ru_fieldAddr (o2 := 0) fd108_0 rfl rfl rfl) ?_
      refine SL.uu (ru_indexA (o2 := 0 + reg.toNat * 1) ar91 rfl rfl rfl (by omega) (by omega) rfl) ?_
      refine SL.store (i := 0) (c' := (nc { A with r := up A.r reg.toNat v, tp := posts A.tp (A.r 5) ((v - (n : Int)) % 16) A.clk } tv cv)) rfl rfl ts3 rfl rfl rfl rfl rfl (by rw [nc_len]; omega) (.inl rfl) (set_r' (by omega) v) ?_
      refine SL.nn [(6, iw 0)] [rBlk d (nc { A with r := up A.r reg.toNat v, tp := posts A.tp (A.r 5) ((v - (n : Int)) % 16) A.clk } tv cv) 108, rFrs F tv cv A.tb A.cb] ⟨rfl, trivial⟩ ?_
      refine SC.sr ?_
      refine SL.as ?_
      refine SL.nn [(6, iw 0)] _ ⟨rfl, trivial⟩ ?_
      refine SC.ret ?_
      refine SE.res (.inl rfl) (res1 Try.results72 rfl) fun w1 hI => ?_
      rw [ez] at hI
      have e : writeF A reg v = (0, { A with r := up A.r reg.toNat v, tp := posts A.tp (A.r 5) v A.clk }) := by
        try simp at h2 h6 h10 h11
        unfold writeF
        (repeat' split) <;> first | rfl | (exfalso; omega) | (exfalso; simp_all; done) | (exfalso; simp_all; omega)
      rw [e]
      exact ⟨rfl, NicAt.fin' hI⟩
    refine SC.seq ?_
    refine SC.sr ?_
    refine SL.mv ?_
    refine SL.mv ?_
    refine SL.uu (ru_ne (b := ((((v - (n : Int)) % 16) : Int) != v)) rfl rfl rfl rfl) ?_
    refine SL.nn [(0, pt d 0), (1, iw reg), (2, iw v), (6, iw 0), (8, iw ((v - (n : Int)) % 16)), (77, bo ((((v - (n : Int)) % 16) : Int) != v))] [rBlk d (nc { A with tp := posts A.tp (A.r 5) ((v - (n : Int)) % 16) A.clk } tv cv) 108, rFrs F tv cv A.tb A.cb] ⟨rfl, rfl, rfl, rfl, rfl, rfl, trivial⟩ ?_
    refine SC.yes (show some (Value.bool ((((v - (n : Int)) % 16) : Int) != v)) = some (Value.bool true) from congrArg (fun x => some (Value.bool x)) (bne_t (by omega))) ?_
    refine SC.skip ?_
    refine SC.of_SE ?_
    refine SC.norm [(0, pt d 0), (1, iw reg), (2, iw v), (6, iw 0), (8, iw ((v - (n : Int)) % 16))] _ ⟨rfl, rfl, rfl, rfl, rfl, trivial⟩ rfl ?_
    refine SC.seq ?_
    refine SC.block ?_
    refine SC.region_tail 10 (by kernel_rfl) (by kernel_rfl) ?_
    refine SQ.ru rfl rfl (lt_b rfl) (ru_move rfl rfl) ?_
    refine SQ.ru rfl rfl (lt_b rfl) (ru_move rfl rfl) ?_
    refine SQ.ru rfl rfl (lt_b rfl) (ru_move rfl rfl) ?_
    refine SQ.ru rfl rfl (lt_b rfl) (ru_nilCheck rfl rfl) ?_
    refine SQ.ru rfl rfl (lt_b rfl) (ru_fieldAddr (o2 := 104) fd108_3 rfl rfl rfl) ?_
    refine SQ.ru rfl rfl (lt_b rfl) (ru_load (i := 0) (v := iw A.clk) ts3 rfl rfl rfl nc_clk) ?_
    refine SQ.ru rfl rfl (lt_b rfl) (ru_nilCheck rfl rfl) ?_
    refine SQ.ru rfl rfl (lt_b rfl) (ru_fieldAddr (o2 := 8) fd108_1 rfl rfl rfl) ?_
    refine SQ.ru rfl rfl (lt_b rfl) (ru_indexA (o2 := 8 + (((v - (n : Int)) % 16).toNat) * 2) ar103 rfl rfl rfl (by omega) (by omega) rfl) ?_
    refine SQ.ru rfl rfl (lt_b rfl) (ru_fieldAddr (o2 := (8 + (((v - (n : Int)) % 16).toNat) * 2 + 1)) fd102_1 rfl rfl rfl) ?_
    refine SQ.nilL ?_
    refine SL.store (i := 0) (c' := (nc { A with tp := up (posts A.tp (A.r 5) ((v - (n : Int)) % 16) A.clk) (((v - (n : Int)) % 16).toNat) A.clk } tv cv)) rfl rfl ts3 rfl rfl rfl rfl rfl (by rw [nc_len]; omega) (.inl rfl) (set_tp (by omega) A.clk) ?_
    refine SL.nil ?_
    refine SE.blkn ?_
    refine SC.of_SE ?_
    refine SC.norm [(0, pt d 0), (1, iw reg), (2, iw v), (6, iw 0), (8, iw ((v - (n : Int)) % 16))] [rBlk d (nc { A with tp := up (posts A.tp (A.r 5) ((v - (n : Int)) % 16) A.clk) (((v - (n : Int)) % 16).toNat) A.clk } tv cv) 108, rFrs F tv cv A.tb A.cb] ⟨rfl, rfl, rfl, rfl, rfl, trivial⟩ rfl ?_
    refine SC.region ?_
    refine SL.mv ?_
    refine SL.uu (ru_add (r := (IntKind.i64.wrap (((v - (n : Int)) % 16) + 1))) rfl rfl rfl rfl) ?_
    refine SL.uu (ru_rem (r := (Int.tmod (IntKind.i64.wrap (((v - (n : Int)) % 16) + 1)) 16)) rfl rfl rfl (by decide) rfl) ?_
    refine SL.as ?_
    refine SL.nil ?_
    refine SE.again (n - 1) () (by omega) (by omega) ⟨rfl, rfl, rfl, rfl, (congrArg (fun x => some (iw x)) (dev_nx h0)), trivial⟩ (congrArg (fun c => [rBlk d c 108, rFrs F tv cv A.tb A.cb]) (nc_posts' r5 hv h0 hn))
  refine SC.skip ?_
  refine SC.of_SE ?_
  refine SC.norm [(0, pt d 0), (1, iw reg), (2, iw v), (6, iw 0)] _ ⟨rfl, rfl, rfl, rfl, trivial⟩ rfl ?_
  refine SC.sr ?_
  refine SL.mv ?_
  refine SL.mv ?_
  refine SL.mv ?_
  refine SL.nk ?_
  refine SL.uu (ru_fieldAddr (o2 := 0) fd108_0 rfl rfl rfl) ?_
  refine SL.uu (ru_indexA (o2 := 0 + reg.toNat * 1) ar91 rfl rfl rfl (by omega) (by omega) rfl) ?_
  refine SL.store (i := 0) (c' := (nc { A with r := up A.r reg.toNat v } tv cv)) rfl rfl ts3 rfl rfl rfl rfl rfl (by rw [nc_len]; omega) (.inl rfl) (set_r' (by omega) v) ?_
  refine SL.nn [(6, iw 0)] [rBlk d (nc { A with r := up A.r reg.toNat v } tv cv) 108, rFrs F tv cv A.tb A.cb] ⟨rfl, trivial⟩ ?_
  refine SC.sr ?_
  refine SL.as ?_
  refine SL.nn [(6, iw 0)] _ ⟨rfl, trivial⟩ ?_
  refine SC.ret ?_
  refine SE.res (.inl rfl) (res1 Try.results72 rfl) fun w1 hI => ?_
  have e : writeF A reg v = (0, { A with r := up A.r reg.toNat v }) := by
    try simp at h2 h6 h10 h11
    unfold writeF
    (repeat' split) <;> first | rfl | (exfalso; omega) | (exfalso; simp_all; done) | (exfalso; simp_all; omega)
  rw [e]
  exact ⟨rfl, NicAt.fin' hI⟩

end Go.Proofs.Ytghfkgcaglabpaa

/-
  The calls of both devices, laid for the walks of the laws.
-/
namespace Go.Proofs.Ytghfkgcaglabpaa
open Go.RowKit

theorem takeR_ok {A : NicA} (h : NicOk A) : NicOk (takeR A).2 := by
  unfold takeR
  split
  · exact h
  · split
    · exact h
    · exact take_ok h
/-- What a call makes of a device. -/
def playF (A : NicA) (k n v : Int) (f : List UInt8) (y : Bool) : NicA :=
  if k = 0 then (readF A n).2 else if k = 1 then (writeF A n v).2 else if k = 2 then (setTxF A n f).2 else if k = 3 then (setRxF A n v).2
  else if k = 5 then (takeR A).2 else if k = 6 then (giveF A f y).2 else if k = 7 then linkF A y else if k = 8 then tickF A else A
theorem NicTo.of {T : TypeId} {w w' : World} {d : Nat} {F : Nat → Prop} {A : NicA} (h : NicAt T w' d F A ∧ Only (fun b => b = d) w w') : NicTo T w d F A w' := ⟨F, h.1, fun b hb => .inl hb, h.2⟩
section
variable {P : Program} {X : Cx} {ops : Array Oper} {Q : Exit → Act → World → Prop} {rest : List Oper} {o : Oper} {m : List (Nat × Value)} {l : List Res} {v : Value} {K : Act → Prop} {k : Nat}
theorem Inv.apart {w : World} {i j : Nat} {r r' : Res} (h : Inv X w l) (hi : l[i]? = some r) (hj : l[j]? = some r') (hij : i ≠ j) (b : Nat) (h1 : r.fp b) (h2 : r'.fp b) : False := by
  have hp := List.pairwise_iff_getElem.1 h.1.2
  have hil := (List.getElem?_eq_some_iff.1 hi).1
  have hjl := (List.getElem?_eq_some_iff.1 hj).1
  have ei := (List.getElem?_eq_some_iff.1 hi).2
  have ej := (List.getElem?_eq_some_iff.1 hj).2
  rcases Nat.lt_or_gt_of_ne hij with hlt | hlt
  · have := hp i j hil hjl hlt; rw [ei, ej] at this; exact this b h1 h2
  · have := hp j i hjl hil hlt; rw [ei, ej] at this; exact this b h2 h1
theorem nic_at {T : TypeId} {w : World} {i d : Nat} {F : Nat → Prop} {A : NicA} (h : Inv X w l) (hi : l[i]? = some (rNic T d F A)) : NicAt T w d F A := h.1.get hi
theorem Out.own {U : TypeId} {w w' : World} {v : Value} {f : List UInt8} (h : Out U w w' v f) (hl : f.length ≤ 140737488351232) : OwnBytes w' 0 U v f ∧ ∀ b, v.ownBlock = some b → w.heap.size ≤ b := by
  rcases h with ⟨rfl, rfl⟩ | ⟨g, h1, rfl, h2⟩
  · exact ⟨ownb_nil w' U, fun b hb => by simp [Value.ownBlock] at hb⟩
  · exact ⟨ownb_new h2 hl, fun b hb => by simp [Value.ownBlock] at hb; omega⟩
theorem take_len {A : NicA} (h : NicOk A) : (takeR A).1.1.1.length ≤ 140737488351232 := by
  unfold takeR
  split
  · simp
  · split
    · simp
    · have := h.tl (A.r 4).toNat; simp only; omega
theorem rx_len {A : NicA} (h : NicOk A) (i : Int) : (rxR A i).1.1.length ≤ 140737488351232 := by
  unfold rxR
  split
  · simp
  · split
    · simp
    · have := h.cl i.toNat; simp only; omega
theorem Sep.snoc {w : World} {r : Res} (h : Sep w l) (hr : r.ok w) (hd : ∀ s ∈ l, ∀ b, s.fp b → r.fp b → False) : Sep w (l ++ [r]) := by
  refine ⟨fun s hs => ?_, ?_⟩
  · rcases List.mem_append.1 hs with h1 | h1
    · exact h.1 s h1
    · simp at h1; subst h1; exact hr
  · rw [List.pairwise_append]
    refine ⟨h.2, List.pairwise_singleton _ _, fun s hs q hq b h1 h2 => ?_⟩
    simp at hq; subst hq
    exact hd s hs b h1 h2
theorem Inv.took {T U : TypeId} {w w' : World} {i d : Nat} {F : Nat → Prop} {A A' : NicA} {v : Value} {f : List UInt8} (h : Inv X w l) (hi : l[i]? = some (rNic T d F A)) (hS : X.S d ∨ X.w0.heap.size ≤ d) (hl : f.length ≤ 140737488351232)
    (h2 : NicAt T w' d F A') (h3 : Only (fun b => b = d) w w') (h4 : Out U w w' v f) : ∃ qa qc, v = .slice qa f.length qc ∧ Inv X w' (l.set i (rNic T d F A') ++ [rMine (.slice qa f.length qc) f U]) ∧ ∀ b, (Value.slice qa f.length qc).ownBlock = some b → X.w0.heap.size ≤ b := by
  obtain ⟨k1, k2⟩ := h4.own hl
  obtain ⟨qa, qc, rfl, _⟩ := k1.form
  have hu : Sep w' (l.set i (rNic T d F A')) := h.1.upd hi (fun b hb hlt => h3.block b hlt (fun e => hb (.inl e))) h2 (fun b hb => .inl hb)
  refine ⟨qa, qc, rfl, ⟨hu.snoc k1 (fun s hs b hb hm => ?_), h.2.trans' h3 (fun b hb => by subst hb; exact hS)⟩, fun b hb => Nat.le_trans h.2.size (k2 b hb)⟩
  have hlt : b < w.heap.size := by
    rcases List.mem_or_eq_of_mem_set hs with h5 | h5
    · exact s.lt w (h.1.1 s h5) b hb
    · subst h5; exact (rNic T d F A).lt w (h.1.get hi) b hb
  have := k2 b hm
  omega
theorem Inv.rxed {U : TypeId} {w w' : World} {v : Value} {f : List UInt8} (h : Inv X w l) (hl : f.length ≤ 140737488351232) (h3 : Only (fun _ => False) w w') (h4 : Out U w w' v f) :
    ∃ qa qc, v = .slice qa f.length qc ∧ Inv X w' (l ++ [rMine (.slice qa f.length qc) f U]) ∧ ∀ b, (Value.slice qa f.length qc).ownBlock = some b → X.w0.heap.size ≤ b := by
  obtain ⟨k1, k2⟩ := h4.own hl
  obtain ⟨qa, qc, rfl, _⟩ := k1.form
  exact ⟨qa, qc, rfl, h.add h3 k1 k2, fun b hb => Nat.le_trans h.2.size (k2 b hb)⟩
/-- Memory that was there at the start, and has not been turned. -/
theorem ru_loada_old {t : TypeId} {z : List Value} {x : Operand} {b o' : Nat} {vs : List Value} (hS : ∀ b, ¬ X.S b) (ht : TyAg P t z) (ho : o.op = .load t x) (hx : evM m x = some (.pointer (some ⟨b, o', none⟩))) (hv : vs.length = z.length)
    (hc : ∀ j u, vs[j]? = some u → X.w0.cell? ⟨b, o' + j, none⟩ = some u) : Ru P X o m l (.agg vs.toArray) := fun a w hf hI => by
  obtain ⟨⟨d, hd, hdb⟩, hsz, _⟩ := ht
  obtain ⟨inf, hinf, hz⟩ := map_some hsz
  simp only [Prod.mk.injEq] at hz
  have hcell : ∀ j (hj : j < vs.length), w.cell? ⟨b, o' + j, none⟩ = some vs[j] := fun j hj => by
    have h1 := hc j vs[j] (List.getElem?_eq_getElem hj)
    rw [← h1]
    exact hI.2.cell (a := ⟨b, o' + j, none⟩) (block_lt_of_cell h1) (hS b)
  unfold execOp; rw [ho]
  simp only [hf.ev hx, Instr.loadAt, Instr.sureAddr, Sem.run_bind, Sem.run_pure, Result.andThen_ok]
  have := run_loadVar_at (P := P) w b o' t vs d (fun j hj => by rw [hcell j hj, List.getElem?_eq_getElem hj]) hd (by cases d <;> simp_all [isAggD]) (by rw [hinf]; simp [hz.1, hv])
  rw [this]; rfl
theorem fz_bytes {w : World} {g : Nat} {l : List UInt8} {T : TypeId} (h : Fz w g (l.map bv) T) (hl : l.length ≤ 1000) : BytesAt w (sl g 0 l.length l.length) l := by
  refine .inr ⟨g, 0, l.length, rfl, Nat.le_refl _, by omega, fun j hj => ?_⟩
  rw [h.cell, Nat.zero_add, List.getElem?_map, List.getElem?_eq_getElem hj]; rfl
theorem p_read_6 {w : World} {d : Nat} {F : Nat → Prop} {A : NicA} (hk : NicOk A) (h : NicAt 99 w d F A) :
    Calls Try.prog 63 #[pt d 0, iw 6] w fun e w' => e = .returned (.tuple #[iw (A.r 6), iw 0]) ∧ NicTo 99 w d F { A with r := up A.r 6 0 } w' := p_read hk h 6
theorem read6_ok {A : NicA} (h : NicOk A) : NicOk { A with r := up A.r 6 0 } := read_ok h 6
theorem NicAt.new {T : TypeId} {w : World} {g : Nat} (h : Blk w g (nc newA nilv nilv) T) : NicAt T w g (fun _ => False) newA :=
  ⟨nilv, nilv, h, id, fun b hb => hb.elim, fun i _ => ⟨BytesAt.nil _, nil_in⟩, fun i _ => ⟨BytesAt.nil _, nil_in⟩⟩
theorem Inv.newNic {T : TypeId} {w w' : World} {g : Nat} (h : Inv X w l) (h1 : w.heap.size ≤ g) (h2 : Blk w' g (nc newA nilv nilv) T) (h3 : Only (fun _ => False) w w') : Inv X w' (l ++ [rNic T g (fun _ => False) newA]) :=
  h.add h3 (NicAt.new h2) (fun b hb => by rcases hb with rfl | hb; exact h1; exact hb.elim)
theorem ru_nic_r {T t : TypeId} {i d q : Nat} {F : Nat → Prop} {A : NicA} {z : Value} {x : Operand} (hq : q < 8) (ht : TySc P t z) (ho : o.op = .load t x) (hx : evM m x = some (pt d q)) (hi : l[i]? = some (rNic T d F A)) : Ru P X o m l (iw (A.r q)) := fun a w hf hI => by
  obtain ⟨tv, cv, hb, _⟩ : NicAt T w d F A := hI.1.get hi
  exact ru_load (X := ⟨X.n, w, fun _ => False⟩) (l := [rBlk d (nc A tv cv) T]) (i := 0) ht ho hx rfl (nc_r hq) a w hf (Inv.one hb)
theorem ru_nic_clk {T t : TypeId} {i d : Nat} {F : Nat → Prop} {A : NicA} {z : Value} {x : Operand} (ht : TySc P t z) (ho : o.op = .load t x) (hx : evM m x = some (pt d 104)) (hi : l[i]? = some (rNic T d F A)) : Ru P X o m l (iw A.clk) := fun a w hf hI => by
  obtain ⟨tv, cv, hb, _⟩ : NicAt T w d F A := hI.1.get hi
  exact ru_load (X := ⟨X.n, w, fun _ => False⟩) (l := [rBlk d (nc A tv cv) T]) (i := 0) ht ho hx rfl nc_clk a w hf (Inv.one hb)
theorem SL.nic_clk {T t : TypeId} {i d : Nat} {F : Nat → Prop} {A : NicA} {z : Value} {x y : Operand} {n : Int} (hg : o.guard = none) (hd : o.dst = none) (ht : TySc P t z) (ho : o.op = .store t x y) (hx : evM m x = some (pt d 104)) (hy : evM m y = some (iw n)) (hi : l[i]? = some (rNic T d F A)) (hS : X.S d ∨ X.w0.heap.size ≤ d)
    (k : SL P X ops Q rest m (l.set i (rNic T d F { A with clk := n }))) : SL P X ops Q (o :: rest) m l := fun a w hf hI => by
  obtain ⟨tv, cv, hb, hF, hfr⟩ : NicAt T w d F A := hI.1.get hi
  refine SL.store (X := ⟨X.n, w, fun b => b = d⟩) (l := [rBlk d (nc A tv cv) T]) (i := 0) (c' := nc { A with clk := n } tv cv) hg hd ht ho hx hy rfl rfl (by rw [nc_len]; omega) (.inl rfl) (set_clk n) (fun a' w' hf' hI' => ?_) a w hf (Inv.one hb)
  have hO := hI'.2
  refine k a' w' hf' ⟨hI.1.upd hi (fun b hn hlt => hO.block b hlt (fun e => hn (.inl e))) ⟨tv, cv, hI'.1.get (i := 0) rfl, hF, (rFrs F tv cv A.tb A.cb).st w w' hfr (fun b hb => hO.block b (hfr.1 b hb) (fun e => hF (e ▸ hb)))⟩ (fun b hb => .inl hb), hI.2.trans' hO (fun b hb => by cases hb; exact hS)⟩

/-- The reference's device, of which bytes are lent. -/
def rNicL (T : TypeId) (d : Nat) (F : Nat → Prop) (A : NicA) (v : Value) (f : List UInt8) : Res where
  ok w := NicAt T w d F A ∧ Lent F w v f
  fp b := b = d ∨ F b
  lt w h b hb := (rNic T d F A).lt w h.1 b hb
  st w w' h hw := ⟨(rNic T d F A).st w w' h.1 hw, h.2.1.agree h.2.2 (fun b hb => hw b (.inr hb)), h.2.2⟩
theorem Inv.lent {T : TypeId} {w w' : World} {i d : Nat} {F : Nat → Prop} {A A' : NicA} {v : Value} {f : List UInt8} (h : Inv X w l) (hi : l[i]? = some (rNic T d F A)) (hS : X.S d ∨ X.w0.heap.size ≤ d)
    (h2 : NicAt T w' d F A') (h3 : Only (fun b => b = d) w w') (h4 : Lent F w' v f) : ∃ qa qc, v = .slice qa f.length qc ∧ Inv X w' (l.set i (rNicL T d F A' (.slice qa f.length qc) f)) := by
  obtain ⟨qa, qc, rfl⟩ := h4.1.form
  exact ⟨qa, qc, rfl, h.1.upd hi (fun b hb hlt => h3.block b hlt (fun e => hb (.inl e))) ⟨h2, h4⟩ (fun b hb => .inl hb), h.2.trans' h3 (fun b hb => by subst hb; exact hS)⟩
theorem NicAt.only {T : TypeId} {w w' : World} {d : Nat} {F : Nat → Prop} {A : NicA} (h : NicAt T w d F A) (h3 : Only (fun _ => False) w w') : NicAt T w' d F A := (rNic T d F A).st w w' h (fun b hb => h3.block b ((rNic T d F A).lt w h b hb) id)
/-- Both devices, of which the one and the other may be turned. -/
def CP (X : Cx) (i j d r : Nat) (A A' : NicA) (l : List Res) : (Nat → Bool) → World → Prop := fun D w => ∃ F G, Inv X w (rNic 99 d F (if D i then A' else A) :: rNic 108 r G (if D j then A' else A) :: l)
end
/-- A call, as it lies in an argument. -/
structure OpR where
  k : Int
  n : Int
  v : Int
  ov : Value
  f : List UInt8
  y : Bool
def OpAt (w : World) (b o : Nat) (r : OpR) : Prop := (∀ j u, [iw r.k, iw r.n, iw r.v, r.ov, bo r.y][j]? = some u → w.cell? ⟨b, o + j, none⟩ = some u) ∧ BytesAt w r.ov r.f ∧ sliceIn r.ov (fun b => b < w.heap.size)
def OpsAt (w : World) (v : Value) (l : List OpR) : Prop := ∃ a c, v = .slice a l.length c ∧ l.length * 56 ≤ 140737488351232 ∧ ∀ i (hi : i < l.length), ∃ b o, a = some ⟨b, o, none⟩ ∧ OpAt w b (o + i * 5) l[i]
end Go.Proofs.Ytghfkgcaglabpaa
