/-
  What the proof of RingDown stands on, part 4: each theorem by itself, under the conditions that it names.
-/
import Derived.Test.YtghfkgcaglabpaaRingDownM3
import Derived.Laws.StructEq
/-
  lets.
-/
namespace Go.Proofs.Ytghfkgcaglabpaa
open Go.RowKit
set_option maxRecDepth 100000
set_option maxHeartbeats 4000000
end Go.Proofs.Ytghfkgcaglabpaa

/-
  The law's own helpers, called where more is known: each hands on the rest.
-/
namespace Go.Proofs.Ytghfkgcaglabpaa
open Go.RowKit
theorem send_anyR {w : World} {r d p ab : Nat} {F : Nat → Prop} {S : RingA} (hok : RingOk S) (hL : Few S.L) (h : RingAt w r d p ab F S) (id : Int) : Calls Try.prog 10 #[pt r 0, iw id] w fun e w' => e = .returned (iw (sendF S id).1) ∧ RingTo w r d p ab F (sendF S id).2 w' := by
  obtain ⟨A, L, T, R⟩ := S
  exact send_any hok.a hok.t hok.r hL h id
def fpl (l : List Res) (k : Nat) : Prop := ∃ x ∈ l, x.fp k
section
variable {X : Cx} {l : List Res} {w w' : World} {g d p r e q s ab hb gc pc : Nat} {F F' : Nat → Prop} {S : RingA} {vc vm : Value} {held : List Int}
theorem Inv.headL {l1 : List Res} (h : Inv X w (l1 ++ l)) : Sep w l1 := (Inv.left h).1
def rRig (g d p r e q s : Nat) (vc vm : Value) : Res := rBlk g [pt d 0, pt p 0, pt r 0, pt e 0, pt q 0, pt s 0, vc, vm] 43
theorem rS_rfp {k : Nat} (h : rS r d p ab k) : rfp r d p ab F k := by
  rcases h with h | h | h | h
  · exact .inl h
  · exact .inr (.inl h)
  · exact .inr (.inr (.inr (.inl h)))
  · exact .inr (.inr (.inr (.inr h)))
theorem rfp_cases {P : Nat → Prop} {k : Nat} (h1 : rS r d p ab k → P k) (h2 : F k → P k) (h : rfp r d p ab F k) : P k := by
  rcases h with h | h | h | h | h
  · exact h1 (.inl h)
  · exact h1 (.inr (.inl h))
  · exact h2 h
  · exact h1 (.inr (.inr (.inl h)))
  · exact h1 (.inr (.inr (.inr h)))
end
section
variable {X : Cx} {l : List Res} {w w' : World} {g d p r e q s ab hb gc pc : Nat} {F F' : Nat → Prop} {S : RingA} {vc vm : Value} {held : List Int}
end
end Go.Proofs.Ytghfkgcaglabpaa

/-
  The calls that lie in an argument of the law of the ring; what the plain law has to say, for the walk.
-/
namespace Go.Proofs.Ytghfkgcaglabpaa
open Go.RowKit
structure OpX where
  k : Int
  n : Int
  ov : Value
  f : List UInt8
  y : Bool
def OpXAt (w : World) (b o : Nat) (r : OpX) : Prop := (∀ j u, [iw r.k, iw r.n, r.ov, bo r.y][j]? = some u → w.cell? ⟨b, o + j, none⟩ = some u) ∧ BytesAt w r.ov r.f ∧ sliceIn r.ov (fun b => b < w.heap.size)
def OpsX (w : World) (v : Value) (l : List OpX) : Prop := ∃ a c, v = .slice a l.length c ∧ l.length * 48 ≤ 140737488351232 ∧ ∀ i (hi : i < l.length), ∃ b o, a = some ⟨b, o, none⟩ ∧ OpXAt w b (o + i * 4) l[i]
structure RigLaw (n : Nat) (J : RingA → List Int → List (List UInt8) → List (List UInt8) → Prop) : Prop where
  beg : J (beg0 n) (List.replicate n 0) [] []
  ok : ∀ {S h g p}, J S h g p → RingOk S ∧ Few S.L ∧ h.length = n ∧ g.length ≤ 16 ∧ p.length ≤ 16
  gets : ∀ {S h g p}, J S h g p → ∀ b, (getsF S h b).1 = true ∧ J (getsF S h b).2.1 (getsF S h b).2.2 g p
  lets : ∀ {S h g p}, J S h g p → ∀ k, (letsF S h k).1 = true ∧ J (letsF S h k).2.1 (letsF S h k).2.2 g p
  told : ∀ {S h g p}, J S h g p → (toldF S h g p).1 = true ∧ J (toldF S h g p).2.1 (toldF S h g p).2.2 [] p
  send : ∀ {S h g p}, J S h g p → ∀ id, (sendF S id).1 ≠ 0 → J (sendF S id).2 h g p
  send0 : ∀ {S h g p}, J S h g p → ∀ id, (sendF S id).1 = 0 → (seeF S.L id).2 = 0 ∧ (seeF S.L id).1.head = [] ∧ J (sendF S id).2 h g (p ++ [(seeF S.L id).1.data])
  take : ∀ {S h g p}, J S h g p → (takeR S.A).1.2 ≠ 0 → J { S with A := (takeR S.A).2 } h g p
  take0 : ∀ {S h g p}, J S h g p → (takeR S.A).1.2 = 0 → 0 < p.length ∧ (takeR S.A).1.1.1 = p.headD [] ∧ J { S with A := (takeR S.A).2 } h g (p.drop 1)
  give : ∀ {S h g p}, J S h g p → ∀ b, (giveF S.A b false).1 ≠ 0 → J { S with A := (giveF S.A b false).2 } h g p
  give0 : ∀ {S h g p}, J S h g p → ∀ b, (giveF S.A b false).1 = 0 → J { S with A := (giveF S.A b false).2 } h (g ++ [b]) p
  counted : ∀ {S h g p}, J S h g p → countedF S h = true
structure RH where
  i : Nat
  S : RingA
  F : Nat → Prop
  held : List Int
  gp : List (Value × List UInt8)
  qg : Option Addr
  cg : Nat
  ps : List (Value × List UInt8)
  qp : Option Addr
  cp : Nat
def rMany (ps : List (Value × List UInt8)) (U : TypeId) : Res where
  ok w := ∀ x ∈ ps, (rMine x.1 x.2 U).ok w
  fp b := ∃ x ∈ ps, (rMine x.1 x.2 U).fp b
  lt w h b hb := by obtain ⟨x, hx, hb⟩ := hb; exact (rMine x.1 x.2 U).lt w (h x hx) b hb
  st w w' h hw x hx := (rMine x.1 x.2 U).st w w' (h x hx) (fun b hb => hw b ⟨x, hx, hb⟩)
section
variable {X : Cx} {l : List Res} {w w' : World} {ps : List (Value × List UInt8)} {U : TypeId}
end
end Go.Proofs.Ytghfkgcaglabpaa

/-
  For the walk of the law: a row of noughts, an append that adds nothing, what lies ahead of a round again.
-/
namespace Go.Proofs.Ytghfkgcaglabpaa
open Go.RowKit
section
variable {P : Program} {X : Cx} {ops : Array Oper} {Q : Exit → Act → World → Prop} {rest : List Oper} {o : Oper} {m : List (Nat × Value)} {l : List Res} {d : Nat} {t e : TypeId} {x y : Operand} {ex : Exit}
end
abbrev HP (l : List OpX) (w : World) (G : Nat → Prop) (J : RingA → List Int → List (List UInt8) → List (List UInt8) → Prop) (k : Nat) (z : RH) : Prop :=
  k + z.i = l.length ∧ J z.S z.held (z.gp.map (·.2)) (z.ps.map (·.2)) ∧ (∀ b, z.F b → G b ∨ w.heap.size ≤ b) ∧ (∀ x ∈ z.gp, BytesAt w x.1 x.2 ∧ sliceIn x.1 (fun b => b < w.heap.size)) ∧ (∀ b, (Value.slice z.qg z.gp.length z.cg).ownBlock = some b → w.heap.size ≤ b) ∧ ∀ b, (Value.slice z.qp z.ps.length z.cp).ownBlock = some b → w.heap.size ≤ b
end Go.Proofs.Ytghfkgcaglabpaa

/-
  The plain law of the ring: the pool's part.
-/
namespace Go.Proofs.Ytghfkgcaglabpaa
open Go.RowKit
def cnt (l : List Int) (i : Nat) : Int := ((l.count (i : Int) : Nat) : Int)
theorem cnt_app (l l' : List Int) (i : Nat) : cnt (l ++ l') i = cnt l i + cnt l' i := by simp [cnt, List.count_append]
theorem cnt_one (x : Int) (i : Nat) : cnt [x] i = if x = (i : Int) then 1 else 0 := by
  unfold cnt
  by_cases h : x = (i : Int) <;> simp [h, List.count_cons]
theorem cnt_cons (x : Int) (l : List Int) (i : Nat) : cnt (x :: l) i = (if x = (i : Int) then 1 else 0) + cnt l i := by
  rw [show x :: l = [x] ++ l from rfl, cnt_app, cnt_one]
theorem cnt_nil (i : Nat) : cnt [] i = 0 := rfl
theorem cnt_nn (l : List Int) (i : Nat) : 0 ≤ cnt l i := by unfold cnt; omega
theorem cnt_le (l : List Int) (i : Nat) : cnt l i ≤ l.length := by unfold cnt; have := List.count_le_length (a := (i : Int)) (l := l); omega
theorem cnt_mem {l : List Int} {x : Int} (h : x ∈ l) (h0 : 0 ≤ x) : 1 ≤ cnt l x.toNat := by
  unfold cnt
  have : 0 < l.count x := List.count_pos_iff.2 h
  rw [show ((x.toNat : Nat) : Int) = x by omega]
  omega
theorem getD_set {l : List Int} {k i : Nat} {v : Int} (hk : k < l.length) : (l.set k v).getD i 0 = if k = i then v else l.getD i 0 := by
  simp only [List.getD, List.getElem?_set]
  by_cases h : k = i
  · subst h; simp [hk]
  · simp [h]
structure PJ (hp : Prop) (n : Nat) (L : List Bf) (h t r : List Int) (o : List (Int × List UInt8)) : Prop where
  len : L.length = n
  hl : h.length = n
  refs : ∀ i b, L[i]? = some b → (b.refs : Int) = h.getD i 0 + cnt t i + cnt r i + cnt (o.map (·.1)) i
  hb : ∀ i, 0 ≤ h.getD i 0 ∧ h.getD i 0 ≤ 1
  it : ∀ x ∈ t, 0 ≤ x ∧ x < n
  rb : ∀ x ∈ r, 0 ≤ x ∧ L[x.toNat]? = some ⟨1, [], []⟩
  ob : ∀ x ∈ o, 0 ≤ x.1 ∧ L[x.1.toNat]? = some ⟨1, [], x.2⟩
  hd : hp → ∀ b ∈ L, b.head = []
section
variable {hp : Prop} {n : Nat} {L : List Bf} {h t r : List Int} {o : List (Int × List UInt8)}
theorem PJ.sum (H : PJ hp n L h t r o) {k : Nat} {b : Bf} (hk : L[k]? = some b) : (b.refs : Int) = h.getD k 0 + cnt t k + cnt r k + cnt (o.map (·.1)) k ∧ 0 ≤ h.getD k 0 ∧ h.getD k 0 ≤ 1 ∧ 0 ≤ cnt t k ∧ 0 ≤ cnt r k ∧ 0 ≤ cnt (o.map (·.1)) k := ⟨H.refs k b hk, (H.hb k).1, (H.hb k).2, cnt_nn _ _, cnt_nn _ _, cnt_nn _ _⟩
theorem PJ.lt (H : PJ hp n L h t r o) {k : Nat} {b : Bf} (hk : L[k]? = some b) : k < n := by have := (List.getElem?_eq_some_iff.1 hk).1; have := H.len; omega
theorem PJ.mem_r (H : PJ hp n L h t r o) {k : Nat} {b : Bf} (hk : L[k]? = some b) {x : Int} (hx : x ∈ r) (e : x.toNat = k) : b = ⟨1, [], []⟩ ∧ 1 ≤ cnt r k := by
  have h1 := H.rb x hx
  have h2 := cnt_mem hx h1.1
  subst e
  rw [hk] at h1
  exact ⟨by simpa using h1.2, h2⟩
theorem PJ.mem_o (H : PJ hp n L h t r o) {k : Nat} {b : Bf} (hk : L[k]? = some b) {x : Int × List UInt8} (hx : x ∈ o) (e : x.1.toNat = k) : b = ⟨1, [], x.2⟩ ∧ 1 ≤ cnt (o.map (·.1)) k := by
  have h1 := H.ob x hx
  have h2 := cnt_mem (List.mem_map_of_mem (f := fun x : Int × List UInt8 => x.1) hx) h1.1
  subst e
  rw [hk] at h1
  exact ⟨by simpa using h1.2, h2⟩
theorem PJ.turn (H : PJ hp n L h t r o) {k : Nat} {b b' : Bf} {h' t' r' : List Int} {o' : List (Int × List UInt8)} (hk : L[k]? = some b) (hl : h'.length = n) (hb : ∀ i, 0 ≤ h'.getD i 0 ∧ h'.getD i 0 ≤ 1)
    (hr : (b'.refs : Int) = h'.getD k 0 + cnt t' k + cnt r' k + cnt (o'.map (·.1)) k) (ho : ∀ i, i ≠ k → h'.getD i 0 + cnt t' i + cnt r' i + cnt (o'.map (·.1)) i = h.getD i 0 + cnt t i + cnt r i + cnt (o.map (·.1)) i)
    (it : ∀ x ∈ t', x ∈ t ∨ x = (k : Int)) (rb : ∀ x ∈ r', (x ∈ r ∧ x.toNat ≠ k) ∨ (x = (k : Int) ∧ b' = ⟨1, [], []⟩)) (ob : ∀ x ∈ o', (x ∈ o ∧ x.1.toNat ≠ k) ∨ (x.1 = (k : Int) ∧ b' = ⟨1, [], x.2⟩)) (hd : hp → b'.head = []) : PJ hp n (L.set k b') h' t' r' o' := by
  have hkl : k < L.length := (List.getElem?_eq_some_iff.1 hk).1
  have hs : (L.set k b')[k]? = some b' := by simp [List.getElem?_set, hkl]
  have hne : ∀ i, i ≠ k → (L.set k b')[i]? = L[i]? := fun i hi => by rw [List.getElem?_set]; simp [Ne.symm hi]
  refine ⟨by rw [List.length_set]; exact H.len, hl, fun i c hc => ?_, hb, fun x hx => ?_, fun x hx => ?_, fun x hx => ?_, fun z c hc => ?_⟩
  · by_cases e : i = k
    · subst e; rw [hs] at hc; cases hc; exact hr
    · rw [hne i e] at hc; rw [ho i e]; exact H.refs i c hc
  · rcases it x hx with h1 | rfl
    · exact H.it x h1
    · have := H.lt hk; omega
  · rcases rb x hx with ⟨h1, h2⟩ | ⟨rfl, rfl⟩
    · rw [hne _ h2]; exact H.rb x h1
    · exact ⟨by omega, by rw [Int.toNat_natCast]; exact hs⟩
  · rcases ob x hx with ⟨h1, h2⟩ | ⟨h1, h2⟩
    · rw [hne _ h2]; exact H.ob x h1
    · rw [h1, Int.toNat_natCast, hs, h2]; exact ⟨by omega, rfl⟩
  · rcases List.mem_or_eq_of_mem_set hc with h1 | rfl
    · exact H.hd z c h1
    · exact hd z
theorem PJ.free0 (H : PJ hp n L h t r o) {k : Nat} {b : Bf} (hk : L[k]? = some b) (h0 : b.refs = 0) : h.getD k 0 = 0 ∧ cnt t k = 0 ∧ cnt r k = 0 ∧ cnt (o.map (·.1)) k = 0 := by
  have := H.sum hk; omega
theorem PJ.get_h (H : PJ hp n L h t r o) {k : Nat} {b : Bf} (hk : L[k]? = some b) (h0 : b.refs = 0) (d : List UInt8) : PJ hp n (L.set k ⟨1, [], d⟩) (h.set k 1) t r o := by
  have hkn := H.lt hk
  have hkh : k < h.length := by have := H.hl; omega
  have f0 := H.free0 hk h0
  refine H.turn hk (by rw [List.length_set]; exact H.hl) (fun i => ?_) ?_ (fun i hi => ?_) (fun x hx => .inl hx) (fun x hx => .inl ⟨hx, fun e => ?_⟩) (fun x hx => .inl ⟨hx, fun e => ?_⟩) (fun _ => rfl)
  · rw [getD_set hkh]; split
    · omega
    · exact H.hb i
  · rw [getD_set hkh, if_pos rfl]; simp only; omega
  · rw [getD_set hkh, if_neg (Ne.symm hi)]
  · have := H.mem_r hk hx e; omega
  · have := H.mem_o hk hx e; omega
theorem PJ.get_r (H : PJ hp n L h t r o) {k : Nat} {b : Bf} (hk : L[k]? = some b) (h0 : b.refs = 0) : PJ hp n (L.set k ⟨1, [], []⟩) h t (r ++ [(k : Int)]) o := by
  have f0 := H.free0 hk h0
  refine H.turn hk H.hl H.hb ?_ (fun i hi => ?_) (fun x hx => .inl hx) (fun x hx => ?_) (fun x hx => .inl ⟨hx, fun e => ?_⟩) (fun _ => rfl)
  · rw [cnt_app, cnt_one, if_pos rfl]; simp only; omega
  · rw [cnt_app, cnt_one, if_neg (by omega)]; omega
  · rcases List.mem_append.1 hx with hx | hx
    · refine .inl ⟨hx, fun e => ?_⟩
      have := H.mem_r hk hx e; omega
    · simp at hx; exact .inr ⟨hx, rfl⟩
  · have := H.mem_o hk hx e; omega
theorem PJ.free_h (H : PJ hp n L h t r o) {k : Nat} {b : Bf} (hk : L[k]? = some b) (h1 : h.getD k 0 ≠ 0) : PJ hp n (L.set k { b with refs := b.refs - 1 }) (h.set k 0) t r o ∧ 0 < b.refs ∧ h.getD k 0 = 1 := by
  have hkn := H.lt hk
  have hkh : k < h.length := by have := H.hl; omega
  have s := H.sum hk
  refine ⟨H.turn hk (by rw [List.length_set]; exact H.hl) (fun i => ?_) ?_ (fun i hi => ?_) (fun x hx => .inl hx) (fun x hx => .inl ⟨hx, fun e => ?_⟩) (fun x hx => .inl ⟨hx, fun e => ?_⟩) (fun z => H.hd z b (List.mem_of_getElem? hk)), by omega, by omega⟩
  · rw [getD_set hkh]; split
    · omega
    · exact H.hb i
  · rw [getD_set hkh, if_pos rfl]; simp only; omega
  · rw [getD_set hkh, if_neg (Ne.symm hi)]
  · obtain ⟨e1, e2⟩ := H.mem_r hk hx e
    rw [e1] at s; simp only at s; omega
  · obtain ⟨e1, e2⟩ := H.mem_o hk hx e
    rw [e1] at s; simp only at s; omega
theorem PJ.free_t {x : Int} (H : PJ hp n L h (x :: t) r o) : ∃ b, bufAt L x = some b ∧ 0 < b.refs ∧ PJ hp n (putF L x { b with refs := b.refs - 1 }) h t r o := by
  have hx := H.it x (by simp)
  obtain ⟨k, rfl⟩ := Int.eq_ofNat_of_zero_le hx.1
  have hkl : k < L.length := by have := H.len; omega
  have hk := List.getElem?_eq_getElem hkl
  have s := H.sum hk
  rw [cnt_cons, if_pos rfl] at s
  have tn := cnt_nn t k
  refine ⟨L[k], by rw [bufAt_nat]; exact hk, by omega, ?_⟩
  unfold putF
  rw [Int.toNat_natCast]
  refine H.turn hk H.hl H.hb ?_ (fun i hi => ?_) (fun x hx => .inl (by simp [hx])) (fun x hx => .inl ⟨hx, fun e => ?_⟩) (fun x hx => .inl ⟨hx, fun e => ?_⟩) (fun z => H.hd z L[k] (List.mem_of_getElem? hk))
  · simp only; omega
  · rw [cnt_cons, if_neg (by omega)]; omega
  · obtain ⟨e1, e2⟩ := H.mem_r hk hx e
    rw [e1] at s; simp only at s; omega
  · obtain ⟨e1, e2⟩ := H.mem_o hk hx e
    rw [e1] at s; simp only at s; omega
theorem PJ.hold_t (H : PJ hp n L h t r []) {k : Nat} {b : Bf} (hk : L[k]? = some b) (hd : b.data ≠ []) : PJ hp n (L.set k { b with refs := b.refs + 1 }) h (t ++ [(k : Int)]) r [] := by
  have s := H.sum hk
  refine H.turn hk H.hl H.hb ?_ (fun i hi => ?_) (fun x hx => ?_) (fun x hx => .inl ⟨hx, fun e => ?_⟩) (fun x hx => by cases hx) (fun z => H.hd z b (List.mem_of_getElem? hk))
  · rw [cnt_app, cnt_one, if_pos rfl]; simp only [Int.natCast_add] at *; omega
  · rw [cnt_app, cnt_one, if_neg (by omega)]; omega
  · rcases List.mem_append.1 hx with hx | hx
    · exact .inl hx
    · simp at hx; exact .inr hx
  · obtain ⟨e1, e2⟩ := H.mem_r hk hx e
    rw [e1] at hd; exact hd rfl
theorem PJ.come {x : Int} (H : PJ hp n L h t (x :: r) o) (d : List UInt8) : bufAt L x = some ⟨1, [], []⟩ ∧ PJ hp n (putF L x ⟨1, [], d⟩) h t r (o ++ [(x, d)]) := by
  have hx := H.rb x (by simp)
  obtain ⟨k, rfl⟩ := Int.eq_ofNat_of_zero_le hx.1
  have hk := hx.2
  rw [Int.toNat_natCast] at hk
  have s := H.sum hk
  rw [cnt_cons, if_pos rfl] at s
  have rn := cnt_nn r k
  refine ⟨by rw [bufAt_nat]; exact hk, ?_⟩
  unfold putF
  rw [Int.toNat_natCast]
  refine H.turn hk H.hl H.hb ?_ (fun i hi => ?_) (fun x hx => .inl hx) (fun x hx => .inl ⟨by simp [hx], fun e => ?_⟩) (fun x hx => ?_) (fun _ => rfl)
  · rw [List.map_append, cnt_app, List.map_cons, List.map_nil, cnt_one, if_pos rfl]; simp only at *; omega
  · rw [List.map_append, cnt_app, List.map_cons, List.map_nil, cnt_one, cnt_cons, if_neg (by omega)]; omega
  · have h1 := H.rb x (by simp [hx])
    have := cnt_mem hx h1.1
    rw [e] at this; simp only at s; omega
  · rcases List.mem_append.1 hx with hx | hx
    · refine .inl ⟨hx, fun e => ?_⟩
      have := H.mem_o hk hx e
      simp only at s; omega
    · simp at hx; subst hx; exact .inr ⟨rfl, rfl⟩
theorem PJ.tell {x : Int × List UInt8} (H : PJ hp n L h t r (x :: o)) : (0 ≤ x.1 ∧ x.1 < n) ∧ seeF L x.1 = (⟨1, [], x.2⟩, 0) ∧ h.getD x.1.toNat 0 = 0 ∧ PJ hp n L (h.set x.1.toNat 1) t r o := by
  obtain ⟨x, d⟩ := x
  have hx := H.ob (x, d) (by simp)
  simp only at hx ⊢
  obtain ⟨k, rfl⟩ := Int.eq_ofNat_of_zero_le hx.1
  have hk := hx.2
  rw [Int.toNat_natCast] at hk ⊢
  have hkn := H.lt hk
  have hkh : k < h.length := by have := H.hl; omega
  have s := H.sum hk
  rw [List.map_cons, cnt_cons, if_pos rfl] at s
  simp only at s
  have on := cnt_nn (o.map (·.1)) k
  have h0 : h.getD k 0 = 0 := by omega
  refine ⟨by omega, by unfold seeF; rw [bufAt_nat, hk]; rfl, h0, H.len, by rw [List.length_set]; exact H.hl, fun i b hb => ?_, fun i => ?_, H.it, H.rb, fun y hy => H.ob y (by simp [hy]), H.hd⟩
  · have := H.refs i b hb
    rw [List.map_cons, cnt_cons] at this
    rw [getD_set hkh]
    by_cases e : k = i
    · subst e; rw [if_pos rfl]; rw [if_pos rfl] at this; omega
    · rw [if_neg e]; rw [if_neg (by omega)] at this; omega
  · rw [getD_set hkh]; split
    · omega
    · exact H.hb i
theorem inc_ok : ∀ (l refs : List Int) (B : Int), (∀ x ∈ l, 0 ≤ x ∧ x < refs.length) → (∀ i, 0 ≤ refs.getD i 0 ∧ refs.getD i 0 ≤ B) → B + l.length ≤ 1000000 → (incL l refs).1 = true ∧ ∀ i, (incL l refs).2.getD i 0 = refs.getD i 0 + cnt l i
  | [], refs, B, _, _, _ => ⟨rfl, fun i => by rw [cnt_nil]; simp [incL]⟩
  | x :: l, refs, B, hx, hb, hB => by
    have hx0 := hx x (by simp)
    obtain ⟨k, rfl⟩ := Int.eq_ofNat_of_zero_le hx0.1
    have hk : k < refs.length := by omega
    have hbk := hb k
    simp only [List.length_cons] at hB
    have hw : IntKind.i64.wrap (refs.getD k 0 + 1) = refs.getD k 0 + 1 := by rw [IntKind.wrap_i64]; omega
    unfold incL
    rw [if_neg (by simp; omega), Int.toNat_natCast, hw]
    have hg : ∀ i, (refs.set k (refs.getD k 0 + 1)).getD i 0 = if k = i then refs.getD k 0 + 1 else refs.getD i 0 := fun i => getD_set hk
    obtain ⟨h1, h2⟩ := inc_ok l (refs.set k (refs.getD k 0 + 1)) (B + 1) (fun x hx' => by rw [List.length_set]; exact hx x (by simp [hx'])) (fun i => by
      rw [hg i]; split
      · omega
      · have := hb i; omega) (by omega)
    refine ⟨h1, fun i => ?_⟩
    rw [h2, hg, cnt_cons]
    by_cases e : k = i
    · subst e; rw [if_pos rfl, if_pos rfl]; omega
    · rw [if_neg e, if_neg (by omega)]; omega
theorem same_ok {L : List Bf} {refs : List Int} : ∀ (k i : Nat), i + k = L.length → (∀ i b, L[i]? = some b → refs.getD i 0 = (b.refs : Int)) → sameL L refs k i = true
  | 0, _, _, _ => rfl
  | k + 1, i, hi, h => by
    have hlt : i < L.length := by omega
    have hb := List.getElem?_eq_getElem hlt
    have e := h i _ hb
    unfold sameL
    rw [same_ok k (i + 1) (by omega) h, Bool.and_true]
    unfold sameB seeF
    rw [bufAt_nat, hb, e]
    simp only
    by_cases h0 : 0 < L[i].refs
    · rw [if_pos h0]; simp [h0]
    · rw [if_neg h0]
      have : L[i].refs = 0 := by omega
      simp [this]
theorem PJ.counted (H : PJ hp n L h t r []) (hn : t.length ≤ 15) (hr : r.length ≤ 15) {S : RingA} (hL : S.L = L) (hT : allL S.T = t) (hR : allL S.R = r) : countedF S h = true := by
  subst hL hT hR
  have i1 := inc_ok (allL S.T) h 1 (fun x hx => by rw [H.hl]; exact H.it x hx) H.hb (by omega)
  have hrx : ∀ x ∈ allL S.R, 0 ≤ x ∧ x < n := fun x hx => by
    have h1 := H.rb x hx
    have := H.lt h1.2
    omega
  have i2 := inc_ok (allL S.R) (incL (allL S.T) h).2 100 (fun x hx => by rw [inc_len, H.hl]; exact hrx x hx) (fun i => by
    rw [i1.2 i]
    have := H.hb i
    have := cnt_nn (allL S.T) i
    have := cnt_le (allL S.T) i
    omega) (by omega)
  unfold countedF
  simp only
  rw [i1.1, i2.1, same_ok _ 0 (by rw [inc_len, inc_len, H.hl, H.len]; omega) (fun i b hb => by
    rw [i2.2, i1.2]
    have := H.refs i b hb
    rw [List.map_nil, cnt_nil] at this
    omega)]
  rfl
end
end Go.Proofs.Ytghfkgcaglabpaa

/-
  The plain law of the ring: the device's part.
-/
namespace Go.Proofs.Ytghfkgcaglabpaa
open Go.RowKit
structure DJ (A : NicA) (T R : Line) (m3 : Int) (g p : List (List UInt8)) : Prop where
  r0 : A.r 0 = 1
  r1 : A.r 1 = 1
  r5 : A.r 5 = lastI T
  pn : (p.length : Int) ≤ T.many
  r4 : A.r 4 = (T.first + T.many - p.length) % 16
  tb : ∀ (j : Nat) b, p[j]? = some b → A.tb ((A.r 4 + j) % 16).toNat = b
  gn : (g.length : Int) ≤ m3
  mm : m3 ≤ R.many
  r3 : A.r 3 = (R.first + m3) % 16
  r2 : A.r 2 = (R.first + g.length) % 16
  rx : ∀ (j : Nat) b, g[j]? = some b → A.has ((R.first + j) % 16).toNat = true ∧ A.cb ((R.first + j) % 16).toNat = b ∧ A.bad ((R.first + j) % 16).toNat = false ∧ b.length ≤ 274
  rm : ∀ (j : Nat), g.length ≤ j → (j : Int) < R.many → A.room ((R.first + j) % 16).toNat = 274
section
variable {A : NicA} {T R : Line} {m3 : Int} {g p : List (List UInt8)}
theorem lt_of_get {α : Type} {l : List α} {j : Nat} {b : α} (h : l[j]? = some b) : j < l.length := (List.getElem?_eq_some_iff.1 h).1
theorem snoc_get {α : Type} {l : List α} {x b : α} {j : Nat} (h : (l ++ [x])[j]? = some b) : (j < l.length ∧ l[j]? = some b) ∨ (j = l.length ∧ b = x) := by
  rcases Nat.lt_or_ge j l.length with h1 | h1
  · rw [List.getElem?_append_left h1] at h; exact .inl ⟨h1, h⟩
  · rw [List.getElem?_append_right h1] at h
    have := lt_of_get h
    simp at this
    have e : j = l.length := by omega
    subst e
    simp at h
    exact .inr ⟨rfl, h.symm⟩
theorem DJ.offB (H : DJ A T R m3 g p) : offB A = false := by unfold Proofs.Ytghfkgcaglabpaa.offB; rw [H.r0, H.r1]; rfl
theorem DJ.regs {r' : Nat → Int} {tp' : Nat → Int} (H : DJ A T R m3 g p) (h : ∀ k, k ≤ 5 → r' k = A.r k) : DJ { A with r := r', tp := tp' } T R m3 g p :=
  ⟨by simp only [h 0 (by omega)]; exact H.r0, by simp only [h 1 (by omega)]; exact H.r1, by simp only [h 5 (by omega)]; exact H.r5, H.pn, by simp only [h 4 (by omega)]; exact H.r4, by simp only [h 4 (by omega)]; exact H.tb, H.gn, H.mm, by simp only [h 3 (by omega)]; exact H.r3, by simp only [h 2 (by omega)]; exact H.r2, H.rx, H.rm⟩
theorem DJ.miss (H : DJ A T R m3 g p) : DJ (missA A) T R m3 g p := H.regs (tp' := A.tp) fun k hk => by rw [up_ne _ _ (by omega)]
theorem DJ.a6 (H : DJ A T R m3 g p) : DJ (A6 A) T R m3 g p := H.regs (tp' := A.tp) fun k hk => by rw [up_ne _ _ (by omega)]
theorem DJ.take {b : List UInt8} (H : DJ A T R m3 g (b :: p)) (hm : T.many ≤ 15) : A.r 4 ≠ A.r 5 ∧ A.tb (A.r 4).toNat = b ∧ DJ (takeF A) T R m3 g p := by
  have pn := H.pn
  simp only [List.length_cons] at pn
  have h4 := H.r4
  simp only [List.length_cons] at h4
  have ht := H.tb 0 b rfl
  refine ⟨?_, ?_, ?_⟩
  · rw [h4, H.r5]; unfold lastI; omega
  · rw [show ((A.r 4 + ((0 : Nat) : Int)) % 16) = A.r 4 by omega] at ht; exact ht
  · have e4 : (takeF A).r 4 = nx (A.r 4) := by
      unfold takeF; simp only; rw [up_ne _ _ (by decide), up_same]
    have eo : ∀ k, k ≠ 4 → k ≠ 6 → (takeF A).r k = A.r k := fun k h1 h2 => by unfold takeF; simp only; rw [up_ne _ _ h2, up_ne _ _ h1]
    refine ⟨by rw [eo 0 (by decide) (by decide)]; exact H.r0, by rw [eo 1 (by decide) (by decide)]; exact H.r1, by rw [eo 5 (by decide) (by decide)]; exact H.r5, by omega, by rw [e4, h4]; unfold nx; omega, fun j c hc => ?_, H.gn, H.mm, by rw [eo 3 (by decide) (by decide)]; exact H.r3, by rw [eo 2 (by decide) (by decide)]; exact H.r2, H.rx, H.rm⟩
    have := H.tb (j + 1) c hc
    rw [e4]
    rw [show (nx (A.r 4) + (j : Int)) % 16 = (A.r 4 + ((j + 1 : Nat) : Int)) % 16 by unfold nx; omega]
    exact this
theorem DJ.come {f : List UInt8} (H : DJ A T R m3 g p) (hm : R.many ≤ 15) (hlt : (g.length : Int) < m3) (hf : f.length ≤ 274) : DJ (comeA A f false) T R m3 (g ++ [f]) p := by
  have m := H.mm
  have e2 : (comeA A f false).r 2 = nx (A.r 2) := by unfold comeA; simp only; rw [up_ne _ _ (by decide), up_same]
  have eo : ∀ k, k ≠ 2 → k ≠ 6 → (comeA A f false).r k = A.r k := fun k h1 h2 => by unfold comeA; simp only; rw [up_ne _ _ h2, up_ne _ _ h1]
  have ne : ∀ j : Nat, (j : Int) < 16 → j ≠ g.length → ((R.first + (j : Int)) % 16).toNat ≠ (A.r 2).toNat := fun j hj hne => by rw [H.r2]; omega
  refine ⟨by rw [eo 0 (by decide) (by decide)]; exact H.r0, by rw [eo 1 (by decide) (by decide)]; exact H.r1, by rw [eo 5 (by decide) (by decide)]; exact H.r5, H.pn, by rw [eo 4 (by decide) (by decide)]; exact H.r4, by rw [eo 4 (by decide) (by decide)]; exact H.tb, by simp only [List.length_append, List.length_cons, List.length_nil]; omega, m, by rw [eo 3 (by decide) (by decide)]; exact H.r3, by rw [e2, H.r2]; unfold nx; simp only [List.length_append, List.length_cons, List.length_nil]; omega, fun j b hb => ?_, fun j h1 h2 => ?_⟩
  · rcases snoc_get hb with ⟨h1, h2⟩ | ⟨rfl, rfl⟩
    · have := H.rx j b h2
      have hn := ne j (by omega) (by omega)
      unfold comeA
      simp only
      rw [up_ne _ _ hn, up_ne _ _ hn, up_ne _ _ hn]
      exact this
    · unfold comeA
      simp only
      rw [← H.r2, up_same, up_same, up_same]
      exact ⟨rfl, rfl, rfl, hf⟩
  · simp only [List.length_append, List.length_cons, List.length_nil] at h1
    have := H.rm j (by omega) h2
    unfold comeA
    simp only
    rw [up_ne _ _ (ne j (by omega) (by omega))]
    exact this
theorem DJ.send {f : List UInt8} {id : Int} (H : DJ A T R m3 g p) (hT : LineOk T) (hm : T.many < 15) : DJ (writeF { A with tb := up A.tb (lastI T).toNat f } 5 (lastI (putL T id))).2 (putL T id) R m3 g (p ++ [f]) := by
  have pn := H.pn
  have hf := hT.f
  have hm0 := hT.m
  have bd := lastI_bd (putL T id)
  unfold writeF
  rw [if_neg (by omega), if_neg (by omega), if_neg (by omega), if_pos rfl]
  have eo : ∀ k, k ≠ 5 → (up A.r (5 : Int).toNat (lastI (putL T id))) k = A.r k := fun k h1 => up_ne _ _ h1
  refine ⟨by simp only; rw [eo 0 (by decide)]; exact H.r0, by simp only; rw [eo 1 (by decide)]; exact H.r1, (by show up A.r 5 _ 5 = _; exact up_same _ _ _), by simp only [List.length_append, List.length_cons, List.length_nil, putL]; omega, ?_, fun j b hb => ?_, H.gn, H.mm, by simp only; rw [eo 3 (by decide)]; exact H.r3, by simp only; rw [eo 2 (by decide)]; exact H.r2, H.rx, H.rm⟩
  · simp only; rw [eo 4 (by decide), H.r4]; simp only [List.length_append, List.length_cons, List.length_nil, putL]; omega
  · simp only
    rw [eo 4 (by decide)]
    rcases snoc_get hb with ⟨h1, h2⟩ | ⟨rfl, rfl⟩
    · rw [up_ne _ _ (by rw [H.r4]; unfold lastI; omega)]
      exact H.tb j b h2
    · rw [show ((A.r 4 + (p.length : Int)) % 16).toNat = (lastI T).toNat by rw [H.r4]; unfold lastI; omega, up_same]
theorem DJ.popT (H : DJ A T R m3 g p) (h : (p.length : Int) < T.many) : DJ A (popL T) R m3 g p :=
  ⟨H.r0, H.r1, by rw [H.r5]; unfold lastI popL; simp only; omega, by unfold popL; simp only; omega, by rw [H.r4]; unfold popL; simp only; omega, H.tb, H.gn, H.mm, H.r3, H.r2, H.rx, H.rm⟩
theorem DJ.popR {b : List UInt8} (H : DJ A T R m3 (b :: g) p) (hf : 0 ≤ R.first ∧ R.first < 16) : rxR A R.first = ((b, false), 0) ∧ b.length ≤ 274 ∧ DJ A T (popL R) (m3 - 1) g p := by
  obtain ⟨x1, x2, x3, x4⟩ := H.rx 0 b rfl
  rw [show (R.first + ((0 : Nat) : Int)) % 16 = R.first by omega] at x1 x2 x3
  have gn := H.gn
  simp only [List.length_cons] at gn
  have h2 := H.r2
  simp only [List.length_cons] at h2
  have m := H.mm
  refine ⟨by unfold rxR; rw [if_neg (by omega), if_neg (by rw [x1]; simp), x2, x3], x4, H.r0, H.r1, H.r5, H.pn, H.r4, H.tb, by omega, by unfold popL; simp only; omega, by rw [H.r3]; unfold popL; simp only; omega, by rw [h2]; unfold popL; simp only; omega, fun j c hc => ?_, fun j h1 h2 => ?_⟩
  · have := H.rx (j + 1) c hc
    rw [show ((popL R).first + (j : Int)) % 16 = (R.first + ((j + 1 : Nat) : Int)) % 16 by unfold popL; simp only; omega]
    exact this
  · have := H.rm (j + 1) (by simp only [List.length_cons]; omega) (by unfold popL at h2; simp only at h2; omega)
    rw [show ((popL R).first + (j : Int)) % 16 = (R.first + ((j + 1 : Nat) : Int)) % 16 by unfold popL; simp only; omega]
    exact this
theorem DJ.fill (H : DJ A T R m3 g p) (hR : LineOk R) (hm : R.many < 15) (id : Int) : DJ (setRxF A (lastI R) 274).2 T (putL R id) m3 g p := by
  have gn := H.gn
  have m := H.mm
  have hf := hR.f
  have hb : hostB (lastI R) (A.r 2) (A.r 3) = true := by
    unfold hostB
    have := lastI_bd R
    rw [decide_eq_true (by omega), decide_eq_true (by omega), decide_eq_false (by rw [H.r2, H.r3]; unfold lastI; omega)]
    rfl
  unfold setRxF
  rw [if_neg (by rw [hb]; simp)]
  have ne : ∀ j : Nat, (j : Int) < R.many → ((R.first + (j : Int)) % 16).toNat ≠ (lastI R).toNat := fun j hj => by unfold lastI; omega
  refine ⟨H.r0, H.r1, H.r5, H.pn, H.r4, H.tb, gn, by simp only [putL]; omega, H.r3, H.r2, fun j b hb => ?_, fun j h1 h2 => ?_⟩
  · have := H.rx j b hb
    have hj := lt_of_get hb
    have hn := ne j (by omega)
    simp only [putL]
    rw [up_ne _ _ hn, up_ne _ _ hn, up_ne _ _ hn]
    exact this
  · simp only [putL] at h2 ⊢
    by_cases e : (j : Int) = R.many
    · rw [show ((R.first + (j : Int)) % 16).toNat = (lastI R).toNat by unfold lastI; omega, up_same]
    · rw [up_ne _ _ (ne j (by omega))]
      exact H.rm j h1 (by omega)
theorem DJ.told (H : DJ A T R m3 g p) : DJ (writeF A 3 (lastI R)).2 T R R.many g p := by
  have gn := H.gn
  have m := H.mm
  have bd := lastI_bd R
  unfold writeF
  rw [if_neg (by omega), if_neg (by omega), if_neg (by omega), if_neg (by omega), if_pos rfl]
  have eo : ∀ k, k ≠ 3 → (up A.r (3 : Int).toNat (lastI R)) k = A.r k := fun k h1 => up_ne _ _ h1
  exact ⟨by simp only; rw [eo 0 (by decide)]; exact H.r0, by simp only; rw [eo 1 (by decide)]; exact H.r1, by simp only; rw [eo 5 (by decide)]; exact H.r5, H.pn, by simp only; rw [eo 4 (by decide)]; exact H.r4, by simp only; rw [eo 4 (by decide)]; exact H.tb, by omega, Int.le_refl _, (by show up A.r 3 _ 3 = _; exact up_same _ _ _), by simp only; rw [eo 2 (by decide)]; exact H.r2, H.rx, H.rm⟩
end
end Go.Proofs.Ytghfkgcaglabpaa

/-
  The plain law of the ring: what is kept by every call.
-/
namespace Go.Proofs.Ytghfkgcaglabpaa
open Go.RowKit
section
variable {X : Line}
theorem allL_put (h : LineOk X) (hm : X.many < 15) (id : Int) : allL (putL X id) = allL X ++ [id] := by
  have h0 := h.m
  have hf := h.f
  unfold allL
  rw [show (putL X id).many.toNat = X.many.toNat + 1 by simp only [putL]; omega, List.range_succ, List.map_append]
  congr 1
  · refine List.map_congr_left fun i hi => ?_
    have := List.mem_range.1 hi
    simp only [putL]
    exact up_ne _ _ (by unfold lastI; omega)
  · simp only [putL, List.map_cons, List.map_nil]
    rw [show ((X.first + (X.many.toNat : Int)) % 16).toNat = (lastI X).toNat by unfold lastI; omega, up_same]
theorem allL_pop (h : LineOk X) (hm : 0 < X.many) : allL X = X.buf X.first.toNat :: allL (popL X) := by
  have hf := h.f
  unfold allL
  rw [show X.many.toNat = (popL X).many.toNat + 1 by simp only [popL]; omega, List.range_succ_eq_map, List.map_cons, List.map_map]
  congr 1
  · rw [show ((X.first + ((0 : Nat) : Int)) % 16).toNat = X.first.toNat by omega]
  · refine List.map_congr_left fun i hi => ?_
    simp only [popL, Function.comp]
    rw [show ((X.first + ((i.succ : Nat) : Int)) % 16).toNat = (((X.first + 1) % 16 + (i : Int)) % 16).toNat by omega]
theorem allL_len : (allL X).length = X.many.toNat := by simp [allL]
end
theorem getF_cases (L : List Bf) : (∃ (k : Nat) (b : Bf), L[k]? = some b ∧ b.refs = 0 ∧ getF L = (((k : Int), 0), L.set k ⟨1, [], []⟩)) ∨ getF L = ((0, 8), L) := by
  unfold getF
  cases e : L.findIdx? (fun b => b.refs == 0) with
  | none => exact .inr rfl
  | some k =>
    rw [List.findIdx?_eq_some_iff_getElem] at e
    obtain ⟨hk, hb, _⟩ := e
    exact .inl ⟨k, L[k], List.getElem?_eq_getElem hk, by simpa using hb, rfl⟩
section
variable {hp : Prop} {n : Nat} {A : NicA} {L : List Bf} {T R : Line} {m3 : Int} {h t r : List Int} {g p : List (List UInt8)} {o : List (Int × List UInt8)} {S : RingA}
theorem fillL_J : ∀ (k : Nat) {A : NicA} {L : List Bf} {R : Line}, LineOk R → R.many + k ≤ 15 → DJ A T R m3 g p → PJ hp n L h t (allL R) o → DJ (fillL k A L R).1 T (fillL k A L R).2.2 m3 g p ∧ PJ hp n (fillL k A L R).2.1 h t (allL (fillL k A L R).2.2) o ∧ R.many ≤ (fillL k A L R).2.2.many
  | 0, A, L, R, _, _, h1, h2 => ⟨h1, h2, Int.le_refl _⟩
  | k + 1, A, L, R, hR, hk, h1, h2 => by
    unfold fillL
    rcases getF_cases L with ⟨i, b, e1, e2, e3⟩ | e3
    · rw [e3]
      simp only [if_true]
      have := fillL_J k (A := (setRxF A (lastI R) 274).2) (L := L.set i ⟨1, [], []⟩) (R := putL R i) (putL_ok hR (by omega) _) (by simp only [putL]; omega) (h1.fill hR (by omega) _) (by rw [allL_put hR (by omega)]; exact h2.get_r e1 e2)
      refine ⟨this.1, this.2.1, ?_⟩
      have h3 := this.2.2
      simp only [putL] at h3 ⊢
      omega
    · rw [e3]
      rw [if_neg (show ¬ (8 : Int) = 0 by decide)]
      exact ⟨h1, h2, Int.le_refl _⟩
theorem fillF_J (hok : RingOk S) (h1 : DJ S.A S.T S.R S.R.many g p) (h2 : PJ hp n S.L h (allL S.T) (allL S.R) o) : DJ (fillF S).A (fillF S).T (fillF S).R (fillF S).R.many g p ∧ PJ hp n (fillF S).L h (allL (fillF S).T) (allL (fillF S).R) o ∧ (fillF S).T = S.T := by
  have hm := hok.r.m
  obtain ⟨z1, z2, z3⟩ := fillL_J (15 - S.R.many).toNat hok.r (by omega) h1 h2
  unfold fillF
  simp only
  split
  · exact ⟨z1.told, z2, rfl⟩
  · refine ⟨?_, z2, rfl⟩
    rename_i hn
    have e : (fillL (15 - S.R.many).toNat S.A S.L S.R).2.2.many = S.R.many := by omega
    simp only
    rw [e]
    exact z1
theorem free_put {x : Int} {b : Bf} (h1 : bufAt L x = some b) (h2 : 0 < b.refs) : freeF L x = (0, putF L x { b with refs := b.refs - 1 }) := by
  unfold freeF; rw [h1]; simp only [if_pos h2]
theorem own_put {x : Int} {d : List UInt8} {hh dd : List UInt8} (h1 : bufAt L x = some ⟨1, hh, dd⟩) (hd : d.length ≤ 288) : ownF L x (setF d) = (0, putF L x ⟨1, [], d⟩) := by
  have e : setF d = fun _ => (0, ⟨1, [], d⟩) := by funext b; unfold setF; rw [if_neg (by omega)]
  unfold ownF; rw [h1, e]; rfl
theorem uptoT_J {hd : Int} : ∀ (k : Nat) {L : List Bf} {T : Line}, LineOk T → k = T.many.toNat → hd = A.r 4 → DJ A T R m3 g p → PJ hp n L h (allL T) r o → DJ A (uptoT k hd L T).2 R m3 g p ∧ PJ hp n (uptoT k hd L T).1 h (allL (uptoT k hd L T).2) r o ∧ (uptoT k hd L T).2.many = p.length
  | 0, L, T, hT, hk, e, h1, h2 => ⟨h1, h2, by have := h1.pn; have := hT.m; unfold uptoT; simp only; omega⟩
  | k + 1, L, T, hT, hk, e, h1, h2 => by
    have hm := hT.m
    have hf := hT.f
    have hpn := h1.pn
    have hr4 := h1.r4
    unfold uptoT
    split
    · rename_i e1
      refine ⟨h1, h2, ?_⟩
      rw [e] at e1
      simp only
      omega
    · rename_i e1
      have hlt : (p.length : Int) < T.many := by
        rcases Int.lt_or_le (p.length : Int) T.many with h3 | h3
        · exact h3
        · exact absurd (show T.first = hd by rw [e, hr4]; omega) e1
      rw [allL_pop hT (by omega)] at h2
      obtain ⟨b, b1, b2, b3⟩ := h2.free_t
      rw [free_put b1 b2]
      exact uptoT_J k (popL_ok hT (by omega)) (by simp only [popL]; omega) e (h1.popT hlt) b3
theorem uptoR_J {hd : Int} : ∀ (k : Nat) {L : List Bf} {R : Line} {m3 : Int} {g : List (List UInt8)} {o : List (Int × List UInt8)} {acc : List (Int × Bool)}, LineOk R → k = R.many.toNat → hd = A.r 2 → m3 = R.many → DJ A T R m3 g p → PJ hp n L h t (allL R) o →
    ∃ od : List (Int × List UInt8), od.map (·.2) = g ∧ (uptoR A k hd L R acc).2.2 = acc ++ od.map (fun x => (x.1, false)) ∧ DJ A T (uptoR A k hd L R acc).2.1 (uptoR A k hd L R acc).2.1.many [] p ∧ PJ hp n (uptoR A k hd L R acc).1 h t (allL (uptoR A k hd L R acc).2.1) (o ++ od)
  | 0, L, R, m3, g, o, acc, hR, hk, e, em, h1, h2 => by
    have hm := hR.m
    have := h1.gn
    have hg : g = [] := List.eq_nil_of_length_eq_zero (by omega)
    subst hg em
    exact ⟨[], rfl, by simp [uptoR], h1, by rw [List.append_nil]; exact h2⟩
  | k + 1, L, R, m3, g, o, acc, hR, hk, e, em, h1, h2 => by
    have hm := hR.m
    have hf := hR.f
    have hgn := h1.gn
    have hr2 := h1.r2
    unfold uptoR
    split
    · rename_i e1
      rw [e] at e1
      have hg : g = [] := List.eq_nil_of_length_eq_zero (by omega)
      subst hg em
      exact ⟨[], rfl, by simp, h1, by rw [List.append_nil]; exact h2⟩
    · rename_i e1
      cases g with
      | nil => exact absurd (show R.first = hd by rw [e, hr2]; simp only [List.length_nil]; omega) e1
      | cons b g =>
        have hl : 0 < R.many := by simp only [List.length_cons] at hgn; omega
        obtain ⟨q1, q2, q3⟩ := h1.popR hf
        rw [allL_pop hR hl] at h2
        obtain ⟨b1, b2⟩ := h2.come b
        rw [q1]
        simp only
        rw [own_put b1 (by omega)]
        simp only
        obtain ⟨od, z1, z2, z3, z4⟩ := uptoR_J k (acc := acc ++ [(R.buf R.first.toNat, false)]) (popL_ok hR hl) (by simp only [popL]; omega) e (by rw [em]; rfl) q3 b2
        refine ⟨(R.buf R.first.toNat, b) :: od, by simp [z1], by rw [z2]; simp, z3, ?_⟩
        have := z4
        rw [List.append_assoc] at this
        exact this
theorem toldL_J : ∀ (od : List (Int × List UInt8)) {h : List Int}, PJ hp n L h t r od → ∃ h', toldL L (od.map (fun x => (x.1, false))) h (od.map (·.2)) = (true, h', []) ∧ PJ hp n L h' t r []
  | [], h, H => ⟨h, rfl, H⟩
  | x :: od, h, H => by
    obtain ⟨t1, t2, t3, t4⟩ := H.tell
    obtain ⟨h', z1, z2⟩ := toldL_J od t4
    refine ⟨h', ?_, z2⟩
    have hl := H.hl
    simp only [List.map_cons]
    unfold toldL
    rw [if_neg (by simp; omega), if_neg (by rw [t2]; simp), t3]
    rw [show IntKind.i64.wrap (0 + 1) = 1 by decide]
    exact z1
structure RJ (n : Nat) (S : RingA) (h : List Int) (g p : List (List UInt8)) : Prop where
  ok : RingOk S
  d : DJ S.A S.T S.R S.R.many g p
  q : PJ True n S.L h (allL S.T) (allL S.R) []
theorem RJ.few (H : RJ n S h g p) : Few S.L := fun b hb => by
  obtain ⟨i, hi⟩ := List.getElem?_of_mem hb
  have s := H.q.refs i b hi
  have := H.q.hb i
  have h1 := cnt_le (allL S.T) i
  have h2 := cnt_le (allL S.R) i
  rw [allL_len] at h1 h2
  have := H.ok.t.m
  have := H.ok.r.m
  rw [List.map_nil, cnt_nil] at s
  omega
theorem RJ.told (H : RJ n S h g p) : (toldF S h g p).1 = true ∧ RJ n (toldF S h g p).2.1 (toldF S h g p).2.2 [] p := by
  have hdn : downB S.A = false := by unfold downB; rw [H.d.r1]; simp
  have hm := H.ok.t.m
  have hm2 := H.ok.r.m
  obtain ⟨x1, x2, x3⟩ := uptoT_J (hd := S.A.r 4) (A := A6 S.A) S.T.many.toNat H.ok.t rfl rfl H.d.a6 H.q
  obtain ⟨xa, xb⟩ := uptoT_ok (hd := S.A.r 4) S.T.many.toNat H.few H.ok.t (by omega)
  obtain ⟨od, y1, y2, y3, y4⟩ := uptoR_J (hd := S.A.r 2) (A := A6 S.A) (acc := []) S.R.many.toNat H.ok.r rfl rfl rfl x1 x2
  obtain ⟨ya, yb⟩ := uptoR_ok (A := A6 S.A) (hd := S.A.r 2) (o := []) S.R.many.toNat xa H.ok.r (by omega)
  rw [List.nil_append] at y4 y2
  have e : pollF S = (fillF ⟨A6 S.A, (uptoR (A6 S.A) S.R.many.toNat (S.A.r 2) (uptoT S.T.many.toNat (S.A.r 4) S.L S.T).1 S.R []).1, (uptoT S.T.many.toNat (S.A.r 4) S.L S.T).2, (uptoR (A6 S.A) S.R.many.toNat (S.A.r 2) (uptoT S.T.many.toNat (S.A.r 4) S.L S.T).1 S.R []).2.1⟩, (uptoR (A6 S.A) S.R.many.toNat (S.A.r 2) (uptoT S.T.many.toNat (S.A.r 4) S.L S.T).1 S.R []).2.2) := by
    unfold pollF; rw [hdn]; rfl
  have hok : RingOk ⟨A6 S.A, (uptoR (A6 S.A) S.R.many.toNat (S.A.r 2) (uptoT S.T.many.toNat (S.A.r 4) S.L S.T).1 S.R []).1, (uptoT S.T.many.toNat (S.A.r 4) S.L S.T).2, (uptoR (A6 S.A) S.R.many.toNat (S.A.r 2) (uptoT S.T.many.toNat (S.A.r 4) S.L S.T).1 S.R []).2.1⟩ := ⟨read6_ok H.ok.a, xb, yb⟩
  obtain ⟨f1, f2, f3⟩ := fillF_J hok y3 y4
  have fk := fill_ok hok ya
  rw [y2] at e
  obtain ⟨h', t1, t2⟩ := toldL_J od f2
  rw [y1] at t1
  unfold toldF
  simp only
  rw [e]
  simp only
  rw [t1]
  simp only
  refine ⟨?_, fk.1, f1, t2⟩
  rw [f3, allV_len]
  simp only
  rw [x3]
  simp
theorem RJ.law (h1 : 1 ≤ n) : RigLaw n (RJ n) where
  beg := by
    have hd0 : DJ (writeF (writeF newA 0 2).2 0 1).2 line0 line0 line0.many [] [] := by
      refine ⟨rfl, rfl, rfl, by decide, rfl, fun j b hb => by simp at hb, by decide, Int.le_refl _, rfl, rfl, fun j b hb => by simp at hb, fun j _ hj => ?_⟩
      simp only [line0] at hj; omega
    have hp0 : PJ True n (List.replicate n ⟨0, [], []⟩) (List.replicate n 0) (allL line0) (allL line0) [] := by
      have hz : ∀ i, (List.replicate n (0 : Int)).getD i 0 = 0 := fun i => by
        simp only [List.getD, List.getElem?_replicate]; split <;> rfl
      refine ⟨by simp, by simp, fun i b hb => ?_, fun i => by rw [hz]; omega, fun x hx => (by cases hx), fun x hx => (by cases hx), fun x hx => (by cases hx), fun _ b hb => by rw [(List.mem_replicate.1 hb).2]⟩
      rw [(List.mem_replicate.1 (List.mem_of_getElem? hb)).2, hz]
      rfl
    have hok0 : RingOk ⟨(writeF (writeF newA 0 2).2 0 1).2, List.replicate n ⟨0, [], []⟩, line0, line0⟩ := ⟨write_ok (write_ok newA_ok _ _) _ _, line0_ok, line0_ok⟩
    obtain ⟨f1, f2, _⟩ := fillF_J hok0 hd0 hp0
    exact ⟨beg0_ok.1, f1, f2⟩
  ok := fun H => by
    have := H.d.gn
    have := H.d.pn
    have := H.ok.t.m
    have := H.ok.r.m
    exact ⟨H.ok, H.few, H.q.hl, by omega, by omega⟩
  gets := fun {S h g p} H b => by
    rcases getF_cases S.L with ⟨k, c, e1, e2, e3⟩ | e3
    · have hk := H.q.lt e1
      have hl := H.q.hl
      have hs : (S.L.set k ⟨1, [], []⟩)[k]? = some ⟨1, [], []⟩ := by
        have := (List.getElem?_eq_some_iff.1 e1).1
        simp [List.getElem?_set, this]
      have f0 := H.q.free0 e1 e2
      have ew : IntKind.i64.wrap (h.getD k 0 + 1) = 1 := by rw [f0.1]; decide
      unfold getsF
      simp only
      rw [e3]
      simp only
      rw [if_neg (by decide), if_neg (by simp; omega), Int.toNat_natCast, ew]
      refine ⟨rfl, ?_⟩
      simp only
      by_cases hd : b.length ≤ 288
      · rw [own_put (by rw [bufAt_nat]; exact hs) hd]
        refine ⟨⟨H.ok.a, H.ok.t, H.ok.r⟩, H.d, ?_⟩
        simp only [putF, Int.toNat_natCast, List.set_set]
        exact H.q.get_h e1 e2 b
      · have : ownF (S.L.set k ⟨1, [], []⟩) (k : Int) (setF b) = (2, S.L.set k ⟨1, [], []⟩) := by
          have e : setF b = fun _ => (2, ⟨1, [], []⟩) := by funext c; unfold setF; rw [if_pos (by omega)]
          unfold ownF; rw [bufAt_nat, hs, e]; rfl
        rw [this]
        exact ⟨⟨H.ok.a, H.ok.t, H.ok.r⟩, H.d, H.q.get_h e1 e2 []⟩
    · unfold getsF
      simp only
      rw [e3, if_pos (show (8 : Int) ≠ 0 by decide)]
      exact ⟨rfl, H⟩
  lets := fun {S h g p} H k => by
    unfold letsF
    split
    · exact ⟨rfl, H⟩
    · rename_i hc
      simp only [Bool.or_eq_true, decide_eq_true_eq, beq_iff_eq, not_or, Int.not_lt, Int.not_le] at hc
      obtain ⟨⟨c1, c2⟩, c3⟩ := hc
      obtain ⟨k, rfl⟩ := Int.eq_ofNat_of_zero_le c1
      rw [Int.toNat_natCast] at c3 ⊢
      have hl := H.q.hl
      have hn := H.q.len
      have hk := List.getElem?_eq_getElem (show k < S.L.length by omega)
      obtain ⟨z1, z2, z3⟩ := H.q.free_h hk c3
      rw [free_put (by rw [bufAt_nat]; exact hk) z2, z3]
      refine ⟨rfl, ⟨H.ok.a, H.ok.t, H.ok.r⟩, H.d, ?_⟩
      simp only [putF, Int.toNat_natCast]
      rw [show IntKind.i64.wrap (1 - 1) = 0 by decide]
      exact z1
  told := fun H => H.told
  send := fun {S h g p} H id hne => by
    unfold sendF at hne ⊢
    simp only at hne ⊢
    split at hne
    · rename_i e1; rw [if_pos e1]; exact H
    · rename_i e1
      rw [if_neg e1]
      split at hne
      · rename_i e2; rw [if_pos e2]; exact H
      · rename_i e2
        rw [if_neg e2]
        split at hne
        · rename_i e3; rw [if_pos e3]; exact H
        · rename_i e3
          rw [if_neg e3]
          split at hne
          · rename_i e4
            rw [if_pos e4]
            have e5 : (setTxF S.A (lastI S.T) ((seeF S.L id).1.head ++ (seeF S.L id).1.data)).2 = S.A := by
              revert e4
              unfold setTxF
              split
              · exact fun _ => rfl
              · split
                · exact fun _ => rfl
                · split
                  · exact fun _ => rfl
                  · exact fun h => absurd rfl h
            rw [e5]
            exact H
          · exact absurd rfl hne
  send0 := fun {S h g p} H id h0 => by
    have hm := H.ok.t.m
    unfold sendF at h0 ⊢
    simp only at h0 ⊢
    split at h0
    · rename_i e1; exact absurd h0 e1
    · rename_i e1
      rw [if_neg e1]
      split at h0
      · exact absurd h0 (show ¬ (20 : Int) = 0 by decide)
      · rename_i e2
        rw [if_neg e2]
        split at h0
        · exact absurd h0 (show ¬ (21 : Int) = 0 by decide)
        · rename_i e3
          rw [if_neg e3]
          split at h0
          · rename_i e4; exact absurd h0 e4
          · rename_i e4
            rw [if_neg e4]
            have e1' : (seeF S.L id).2 = 0 := by simpa using e1
            obtain ⟨b, b1, b2, b3⟩ : ∃ b, bufAt S.L id = some b ∧ 0 < b.refs ∧ seeF S.L id = (b, 0) := by
              revert e1'
              unfold seeF
              cases bufAt S.L id with
              | none => simp
              | some b => simp only; split
                          · rename_i hr; exact fun _ => ⟨b, rfl, hr, rfl⟩
                          · simp
            rw [b3] at e4 ⊢
            simp only at e4 ⊢
            have hid : 0 ≤ id := by
              rcases Int.lt_or_le id 0 with h2 | h2
              · unfold bufAt at b1; rw [if_neg (by omega)] at b1; cases b1
              · exact h2
            obtain ⟨k, rfl⟩ := Int.eq_ofNat_of_zero_le hid
            rw [bufAt_nat] at b1
            have hh := H.q.hd trivial b (List.mem_of_getElem? b1)
            rw [hh, List.nil_append] at e4 ⊢
            have e5 : setTxF S.A (lastI S.T) b.data = (0, { S.A with tb := up S.A.tb (lastI S.T).toNat b.data }) ∧ b.data ≠ [] := by
              revert e4
              unfold setTxF
              split
              · exact fun h => absurd (show (1 : Int) ≠ 0 by decide) h
              · split
                · exact fun h => absurd (show (3 : Int) ≠ 0 by decide) h
                · rename_i hl
                  split
                  · exact fun h => absurd (show (2 : Int) ≠ 0 by decide) h
                  · exact fun _ => ⟨rfl, fun h => hl (by rw [h]; rfl)⟩
            rw [e5.1]
            have hmm : S.T.many < 15 := by omega
            refine ⟨trivial, rfl, ⟨write_ok (by have := setTx_ok H.ok.a (lastI S.T) b.data; rw [e5.1] at this; exact this) _ _, putL_ok H.ok.t hmm _, H.ok.r⟩, H.d.send H.ok.t hmm, ?_⟩
            simp only
            rw [allL_put H.ok.t hmm]
            have : holdF S.L (k : Int) = (0, S.L.set k { b with refs := b.refs + 1 }) := by
              unfold holdF; rw [bufAt_nat, b1]; simp only [if_pos b2, putF, Int.toNat_natCast]
            rw [this]
            exact H.q.hold_t b1 e5.2
  take := fun {S h g p} H hne => by
    unfold takeR at hne ⊢
    rw [H.d.offB] at hne ⊢
    simp only [Bool.false_eq_true, if_false] at hne ⊢
    split at hne
    · rename_i e; rw [if_pos e]; exact H
    · exact absurd rfl hne
  take0 := fun {S h g p} H h0 => by
    have ok2 := takeR_ok H.ok.a
    have hm := H.ok.t.m
    unfold takeR at h0 ok2 ⊢
    rw [H.d.offB] at h0 ok2 ⊢
    simp only [Bool.false_eq_true, if_false] at h0 ok2 ⊢
    split at h0
    · exact absurd h0 (show ¬ (7 : Int) = 0 by decide)
    · rename_i e
      rw [if_neg e] at ok2 ⊢
      cases p with
      | nil =>
        refine absurd ?_ e
        rw [H.d.r4, H.d.r5]
        unfold lastI
        simp
      | cons b p =>
        obtain ⟨z1, z2, z3⟩ := H.d.take (by omega)
        exact ⟨by simp, z2, ⟨ok2, H.ok.t, H.ok.r⟩, z3, H.q⟩
  give := fun {S h g p} H b hne => by
    have ok2 := give_ok H.ok.a b false
    unfold giveF at hne ok2 ⊢
    rw [H.d.offB] at hne ok2 ⊢
    simp only [Bool.false_eq_true, if_false] at hne ok2 ⊢
    split at hne
    · rename_i e; rw [if_pos e] at ok2 ⊢; exact ⟨⟨ok2, H.ok.t, H.ok.r⟩, H.d.miss, H.q⟩
    · rename_i e
      rw [if_neg e] at ok2 ⊢
      split at hne
      · rename_i e2; rw [if_pos e2] at ok2 ⊢; exact ⟨⟨ok2, H.ok.t, H.ok.r⟩, H.d.miss, H.q⟩
      · exact absurd rfl hne
  give0 := fun {S h g p} H b h0 => by
    have ok2 := give_ok H.ok.a b false
    have hm := H.ok.r.m
    unfold giveF at h0 ok2 ⊢
    rw [H.d.offB] at h0 ok2 ⊢
    simp only [Bool.false_eq_true, if_false] at h0 ok2 ⊢
    split at h0
    · exact absurd h0 (show ¬ (21 : Int) = 0 by decide)
    · rename_i e
      rw [if_neg e] at ok2 ⊢
      split at h0
      · exact absurd h0 (show ¬ (2 : Int) = 0 by decide)
      · rename_i e2
        rw [if_neg e2] at ok2 ⊢
        have gn := H.d.gn
        have hlt : (g.length : Int) < S.R.many := by
          rcases Int.lt_or_le (g.length : Int) S.R.many with h2 | h2
          · exact h2
          · exact absurd (show S.A.r 2 = S.A.r 3 by rw [H.d.r2, H.d.r3, show (g.length : Int) = S.R.many by omega]) e
        have hr := H.d.rm g.length (Nat.le_refl _) hlt
        rw [← H.d.r2] at hr
        exact ⟨⟨ok2, H.ok.t, H.ok.r⟩, H.d.come (by omega) hlt (by rw [hr] at e2; omega), H.q⟩
  counted := fun {S h g p} H => by
    have hm := H.ok.t.m
    have hm2 := H.ok.r.m
    exact H.q.counted (by rw [allL_len]; omega) (by rw [allL_len]; omega) rfl rfl rfl
end
end Go.Proofs.Ytghfkgcaglabpaa

/-
  The plain law of the ring, whatever the link does: who holds what, in the program's pool.
-/
namespace Go.Proofs.Ytghfkgcaglabpaa
open Go.RowKit
section
variable {hp : Prop} {n : Nat} {A : NicA} {L : List Bf} {T R : Line} {h t r : List Int} {o : List (Int × List UInt8)} {S : RingA}
theorem PJ.hold_t2 (H : PJ hp n L h t r []) {k : Nat} {b : Bf} (hk : L[k]? = some b) (hd : b ≠ ⟨1, [], []⟩) : PJ hp n (L.set k { b with refs := b.refs + 1 }) h (t ++ [(k : Int)]) r [] := by
  have s := H.sum hk
  refine H.turn hk H.hl H.hb ?_ (fun i hi => ?_) (fun x hx => ?_) (fun x hx => .inl ⟨hx, fun e => ?_⟩) (fun x hx => by cases hx) (fun z => H.hd z b (List.mem_of_getElem? hk))
  · rw [cnt_app, cnt_one, if_pos rfl]; simp only [Int.natCast_add] at *; omega
  · rw [cnt_app, cnt_one, if_neg (by omega)]; omega
  · rcases List.mem_append.1 hx with hx | hx
    · exact .inl hx
    · simp at hx; exact .inr hx
  · obtain ⟨e1, e2⟩ := H.mem_r hk hx e
    exact hd e1
theorem PJ.free_r {x : Int} (H : PJ hp n L h t (x :: r) o) : bufAt L x = some ⟨1, [], []⟩ ∧ PJ hp n (putF L x ⟨0, [], []⟩) h t r o := by
  have hx := H.rb x (by simp)
  obtain ⟨k, rfl⟩ := Int.eq_ofNat_of_zero_le hx.1
  have hk := hx.2
  rw [Int.toNat_natCast] at hk
  have s := H.sum hk
  rw [cnt_cons, if_pos rfl] at s
  have rn := cnt_nn r k
  refine ⟨by rw [bufAt_nat]; exact hk, ?_⟩
  unfold putF
  rw [Int.toNat_natCast]
  refine H.turn hk H.hl H.hb ?_ (fun i hi => ?_) (fun x hx => .inl hx) (fun x hx => .inl ⟨by simp [hx], fun e => ?_⟩) (fun x hx => .inl ⟨hx, fun e => ?_⟩) (fun _ => rfl)
  · simp only at *; omega
  · rw [cnt_cons, if_neg (by omega)]; omega
  · have h1 := H.rb x (by simp [hx])
    have := cnt_mem hx h1.1
    rw [e] at this; simp only at s; omega
  · have := H.mem_o hk hx e
    simp only at s; omega
theorem PJ.put_h (H : PJ hp n L h t r []) (hz : ¬ hp) {k : Nat} {b b' : Bf} (hk : L[k]? = some b) (h1 : h.getD k 0 = 1) (hb : b.refs = 1) (hb' : b'.refs = 1) : PJ hp n (L.set k b') h t r [] := by
  have s := H.sum hk
  refine H.turn hk H.hl H.hb (by omega) (fun i hi => rfl) (fun x hx => .inl hx) (fun x hx => .inl ⟨hx, fun e => ?_⟩) (fun x hx => by cases hx) (fun z => absurd z hz)
  have := H.mem_r hk hx e
  omega
theorem getF_cases2 (L : List Bf) : (∃ (k : Nat) (b : Bf), L[k]? = some b ∧ b.refs = 0 ∧ getF L = (((k : Int), 0), L.set k ⟨1, [], []⟩)) ∨ (getF L = ((0, 8), L) ∧ ∀ b ∈ L, b.refs ≠ 0) := by
  unfold getF
  cases e : L.findIdx? (fun b => b.refs == 0) with
  | none =>
    rw [List.findIdx?_eq_none_iff] at e
    exact .inr ⟨rfl, fun b hb => by have := e b hb; simpa using this⟩
  | some k =>
    rw [List.findIdx?_eq_some_iff_getElem] at e
    obtain ⟨hk, hb, _⟩ := e
    exact .inl ⟨k, L[k], List.getElem?_eq_getElem hk, by simpa using hb, rfl⟩
theorem fillL_P : ∀ (k : Nat) {A : NicA} {L : List Bf} {R : Line}, LineOk R → R.many + k ≤ 15 → PJ hp n L h t (allL R) o → PJ hp n (fillL k A L R).2.1 h t (allL (fillL k A L R).2.2) o ∧ ((fillL k A L R).2.2.many = R.many + k ∨ ∀ b ∈ (fillL k A L R).2.1, b.refs ≠ 0)
  | 0, A, L, R, _, _, h2 => ⟨h2, .inl (by simp [fillL])⟩
  | k + 1, A, L, R, hR, hk, h2 => by
    unfold fillL
    rcases getF_cases2 L with ⟨i, b, e1, e2, e3⟩ | ⟨e3, e4⟩
    · rw [e3]
      simp only [if_true]
      have := fillL_P k (A := (setRxF A (lastI R) 274).2) (L := L.set i ⟨1, [], []⟩) (R := putL R i) (putL_ok hR (by omega) _) (by simp only [putL]; omega) (by rw [allL_put hR (by omega)]; exact h2.get_r e1 e2)
      refine ⟨this.1, this.2.imp (fun h3 => ?_) id⟩
      simp only [putL] at h3 ⊢
      omega
    · rw [e3]
      rw [if_neg (show ¬ (8 : Int) = 0 by decide)]
      exact ⟨h2, .inr e4⟩
theorem fillF_P (hok : RingOk S) (h2 : PJ hp n S.L h (allL S.T) (allL S.R) o) : PJ hp n (fillF S).L h (allL (fillF S).T) (allL (fillF S).R) o ∧ (fillF S).T = S.T ∧ ((fillF S).R.many = 15 ∨ ∀ b ∈ (fillF S).L, b.refs ≠ 0) := by
  have hm := hok.r.m
  obtain ⟨z2, z3⟩ := fillL_P (A := S.A) (15 - S.R.many).toNat hok.r (by omega) h2
  have z4 := z3.imp (fun e => show (fillL (15 - S.R.many).toNat S.A S.L S.R).2.2.many = 15 by omega) id
  unfold fillF
  simp only
  split
  · exact ⟨z2, rfl, z4⟩
  · exact ⟨z2, rfl, z4⟩
theorem uptoT_P {hd : Int} : ∀ (k : Nat) {L : List Bf} {T : Line}, LineOk T → (k : Int) ≤ T.many → PJ hp n L h (allL T) r o → PJ hp n (uptoT k hd L T).1 h (allL (uptoT k hd L T).2) r o
  | 0, L, T, hT, hk, h2 => h2
  | k + 1, L, T, hT, hk, h2 => by
    have hm := hT.m
    unfold uptoT
    split
    · exact h2
    · rw [allL_pop hT (by omega)] at h2
      obtain ⟨b, b1, b2, b3⟩ := h2.free_t
      rw [free_put b1 b2]
      exact uptoT_P k (popL_ok hT (by omega)) (by simp only [popL]; omega) b3
theorem own_set {x : Int} {d : List UInt8} (h1 : bufAt L x = some ⟨1, [], []⟩) : ∃ d', (ownF L x (setF d)).2 = putF L x ⟨1, [], d'⟩ := by
  by_cases hd : d.length ≤ 288
  · exact ⟨d, by rw [own_put h1 hd]⟩
  · refine ⟨[], ?_⟩
    have e : setF d = fun _ => (2, ⟨1, [], []⟩) := by funext b; unfold setF; rw [if_pos (by omega)]
    have hx : 0 ≤ x := by
      rcases Int.lt_or_le x 0 with h2 | h2
      · unfold bufAt at h1; rw [if_neg (by omega)] at h1; cases h1
      · exact h2
    have h2 : L[x.toNat]? = some ⟨1, [], []⟩ := by unfold bufAt at h1; rw [if_pos hx] at h1; exact h1
    unfold ownF; rw [h1, e]
    show L = putF L x ⟨1, [], []⟩
    unfold putF
    apply List.ext_getElem?
    intro j
    by_cases hj : x.toNat = j
    · subst hj; rw [h2, List.getElem?_set_self (List.getElem?_eq_some_iff.1 h2).1]
    · rw [List.getElem?_set_ne hj]
theorem uptoR_P {hd : Int} : ∀ (k : Nat) {L : List Bf} {R : Line} {h : List Int} {acc : List (Int × Bool)}, LineOk R → (k : Int) ≤ R.many → PJ hp n L h t (allL R) [] →
    ∃ h' o', (uptoR A k hd L R acc).2.2 = acc ++ o' ∧ PJ hp n (uptoR A k hd L R acc).1 h' t (allL (uptoR A k hd L R acc).2.1) [] ∧ (∀ i, h'.getD i 0 = h.getD i 0 + cnt (o'.map (·.1)) i) ∧ ∀ x ∈ o'.map (·.1), 0 ≤ x
  | 0, L, R, h, acc, hR, hk, h2 => ⟨h, [], by simp [uptoR], h2, fun i => by simp [cnt], by simp⟩
  | k + 1, L, R, h, acc, hR, hk, h2 => by
    have hm := hR.m
    unfold uptoR
    split
    · exact ⟨h, [], by simp, h2, fun i => by simp [cnt], by simp⟩
    · rw [allL_pop hR (by omega)] at h2
      obtain ⟨d, hd'⟩ := own_set (L := L) (x := R.buf R.first.toNat) (d := (rxR A R.first).1.1) (h2.come []).1
      obtain ⟨b1, b2⟩ := h2.come d
      rw [List.nil_append] at b2
      obtain ⟨c1, c2, c3, c4⟩ := b2.tell
      rw [hd']
      obtain ⟨h', o', z1, z2, z3, z4⟩ := uptoR_P k (acc := acc ++ [(R.buf R.first.toNat, (rxR A R.first).1.2)]) (popL_ok hR (by omega)) (by simp only [popL]; omega) c4
      refine ⟨h', (R.buf R.first.toNat, (rxR A R.first).1.2) :: o', by rw [z1]; simp, z2, fun i => ?_, fun x hx => ?_⟩
      · have hl := h2.hl
        simp only at c1 c3
        rw [z3, getD_set (by simp only; omega), List.map_cons, cnt_cons]
        simp only
        by_cases e : (R.buf R.first.toNat).toNat = i
        · rw [if_pos e, if_pos (by omega), ← e, c3]; omega
        · rw [if_neg e, if_neg (by omega)]; omega
      · simp only [List.map_cons, List.mem_cons] at hx
        rcases hx with rfl | hx
        · exact c1.1
        · exact z4 x hx
theorem frees_P : ∀ (l1 l2 : List Int) {L : List Bf}, PJ hp n L h l1 l2 o → PJ hp n (freesF L (l1 ++ l2)) h [] [] o
  | [], [], L, H => H
  | [], x :: l2, L, H => by
    obtain ⟨b1, b2⟩ := H.free_r
    rw [List.nil_append, frees_cons, free_put b1 (by decide)]
    exact frees_P [] l2 b2
  | x :: l1, l2, L, H => by
    obtain ⟨b, b1, b2, b3⟩ := H.free_t
    rw [List.cons_append, frees_cons, free_put b1 b2]
    exact frees_P l1 l2 b3
theorem resetF_P (hok : NicOk S.A) (h2 : PJ hp n S.L h (allL S.T) (allL S.R) o) : PJ hp n (resetF S).L h (allL (resetF S).T) (allL (resetF S).R) o ∧ (resetF S).T = line0 ∧ ((resetF S).R.many = 15 ∨ ∀ b ∈ (resetF S).L, b.refs ≠ 0) :=
  fillF_P (S := ⟨(writeF (writeF S.A 0 2).2 0 1).2, freesF S.L (allL S.T ++ allL S.R), line0, line0⟩) ⟨write_ok (write_ok hok _ _) _ _, line0_ok, line0_ok⟩ (frees_P _ _ h2)
structure FJ (n : Nat) (S : RingA) (come mine : List Int) : Prop where
  ok : RingOk S
  ex : ∃ h, PJ False n S.L h (allL S.T) (allL S.R) [] ∧ (∀ i, cnt come i + cnt mine i ≤ h.getD i 0) ∧ (∀ x ∈ come, 0 ≤ x) ∧ ∀ x ∈ mine, 0 ≤ x
variable {come mine : List Int}
theorem PJ.few (hok : RingOk S) (q : PJ hp n S.L h (allL S.T) (allL S.R) []) : Few S.L := fun b hb => by
  obtain ⟨i, hi⟩ := List.getElem?_of_mem hb
  have s := q.refs i b hi
  have := q.hb i
  have h1 := cnt_le (allL S.T) i
  have h2 := cnt_le (allL S.R) i
  rw [allL_len] at h1 h2
  have := hok.t.m
  have := hok.r.m
  rw [List.map_nil, cnt_nil] at s
  omega
theorem FJ.few (H : FJ n S come mine) : Few S.L := by
  obtain ⟨h, q, _⟩ := H.ex
  exact q.few H.ok
theorem nodup_len : ∀ (n : Nat) (l : List Int), (∀ x ∈ l, 0 ≤ x ∧ x < n) → (∀ i, cnt l i ≤ 1) → l.length ≤ n
  | 0, l, h1, _ => by
    cases l with
    | nil => simp
    | cons x l => have := h1 x (by simp); omega
  | n + 1, l, h1, h2 => by
    have e := List.length_eq_countP_add_countP (fun x => x == (n : Int)) (l := l)
    have e2 : l.countP (fun x => x == (n : Int)) ≤ 1 := by have := h2 n; unfold cnt List.count at this; omega
    have e3 := nodup_len n (l.filter (fun x => decide (¬ (x == (n : Int)) = true))) (fun x hx => by
      obtain ⟨k1, k2⟩ := List.mem_filter.1 hx
      have := h1 x k1
      simp at k2
      omega) (fun i => by
      have := h2 i
      unfold cnt at this ⊢
      have h3 := List.Sublist.count_le (i : Int) (List.filter_sublist (p := fun x => decide (¬ (x == (n : Int)) = true)) (l := l))
      omega)
    rw [← List.countP_eq_length_filter] at e3
    omega
theorem FJ.lens (H : FJ n S come mine) : come.length ≤ n ∧ mine.length ≤ n := by
  obtain ⟨h, q, q1, q2, q3⟩ := H.ex
  have lt : ∀ i : Nat, 1 ≤ h.getD i 0 → i < n := fun i hi => by
    rcases Nat.lt_or_ge i n with h1 | h1
    · exact h1
    · have : h.getD i 0 = 0 := by
        have := q.hl
        simp [List.getD, List.getElem?_eq_none (show h.length ≤ i by omega)]
      omega
  have c : ∀ i, cnt come i ≤ 1 ∧ cnt mine i ≤ 1 := fun i => by
    have := q1 i
    have := q.hb i
    have := cnt_nn come i
    have := cnt_nn mine i
    omega
  refine ⟨nodup_len n _ (fun x hx => ⟨q2 x hx, ?_⟩) (fun i => (c i).1), nodup_len n _ (fun x hx => ⟨q3 x hx, ?_⟩) (fun i => (c i).2)⟩
  · have h1 := cnt_mem hx (q2 x hx)
    have h2 := q1 x.toNat
    have h3 := cnt_nn mine x.toNat
    have := lt x.toNat (by omega)
    have := q2 x hx
    omega
  · have h1 := cnt_mem hx (q3 x hx)
    have h2 := q1 x.toNat
    have h3 := cnt_nn come x.toNat
    have := lt x.toNat (by omega)
    have := q3 x hx
    omega
theorem FJ.dev (H : FJ n S come mine) {A' : NicA} (hA : NicOk A') : FJ n { S with A := A' } come mine := ⟨⟨hA, H.ok.t, H.ok.r⟩, H.ex⟩
theorem FJ.get (H : FJ n S come mine) : FJ n { S with L := (getF S.L).2 } come mine ∧ ((getF S.L).1.2 = 0 → FJ n { S with L := (getF S.L).2 } come (mine ++ [(getF S.L).1.1])) := by
  obtain ⟨h, q, q1, q2, q3⟩ := H.ex
  rcases getF_cases2 S.L with ⟨k, b, e1, e2, e3⟩ | ⟨e3, e4⟩
  · rw [e3]
    have p1 := q.get_h e1 e2 []
    have f0 := q.free0 e1 e2
    have hk : k < h.length := by have := q.lt e1; have := q.hl; omega
    have hg : ∀ i, (h.set k 1).getD i 0 = h.getD i 0 + if (k : Int) = (i : Int) then 1 else 0 := fun i => by
      rw [getD_set hk]
      by_cases e : k = i
      · subst e; rw [if_pos rfl, if_pos rfl, f0.1]; rfl
      · rw [if_neg e, if_neg (by omega)]; omega
    refine ⟨⟨⟨H.ok.a, H.ok.t, H.ok.r⟩, _, p1, fun i => ?_, q2, q3⟩, fun _ => ⟨⟨H.ok.a, H.ok.t, H.ok.r⟩, _, p1, fun i => ?_, q2, fun x hx => ?_⟩⟩
    · have := q1 i
      rw [hg]; split <;> omega
    · have := q1 i
      simp only
      rw [hg, cnt_app, cnt_one]; omega
    · rcases List.mem_append.1 hx with hx | hx
      · exact q3 x hx
      · simp at hx; omega
  · rw [e3]
    exact ⟨⟨⟨H.ok.a, H.ok.t, H.ok.r⟩, h, q, q1, q2, q3⟩, fun e => absurd e (show ¬ (8 : Int) = 0 by decide)⟩
theorem FJ.own (H : FJ n S come mine) {x : Int} (hx : x ∈ mine) {f : Bf → Int × Bf} (hf : ∀ b, b.refs = 1 → (f b).1 = 0 → (f b).2.refs = 1) : FJ n { S with L := (ownF S.L x f).2 } come mine := by
  obtain ⟨h, q, q1, q2, q3⟩ := H.ex
  have h1 := cnt_mem hx (q3 x hx)
  have h2 := q1 x.toNat
  have h3 := cnt_nn come x.toNat
  have h4 := q.hb x.toNat
  have same : FJ n { S with L := S.L } come mine := H
  rcases own_cases S.L x with he | he | ⟨k, b, rfl, hk, hr⟩
  · rw [ownF_err he]; exact same
  · rw [ownF_err he]; exact same
  · rw [ownF_in hk hr]
    split
    · rename_i h0
      rw [Int.toNat_natCast] at h1 h2 h3 h4
      exact ⟨⟨H.ok.a, H.ok.t, H.ok.r⟩, h, q.put_h id hk (by omega) hr (hf b hr h0), q1, q2, q3⟩
    · exact same
theorem FJ.send (H : FJ n S come mine) (id : Int) : FJ n (sendF S id).2 come mine := by
  have hm := H.ok.t.m
  unfold sendF
  simp only
  split
  · exact H
  · rename_i e1
    split
    · exact H
    · split
      · exact H
      · rename_i e3
        split
        · exact H.dev (setTx_ok H.ok.a _ _)
        · rename_i e4
          obtain ⟨h, q, q1, q2, q3⟩ := H.ex
          have e1' : (seeF S.L id).2 = 0 := by simpa using e1
          obtain ⟨b, b1, b2, b3⟩ : ∃ b, bufAt S.L id = some b ∧ 0 < b.refs ∧ seeF S.L id = (b, 0) := by
            revert e1'
            unfold seeF
            cases bufAt S.L id with
            | none => simp
            | some b => simp only; split
                        · rename_i hr; exact fun _ => ⟨b, rfl, hr, rfl⟩
                        · simp
          rw [b3] at e4 ⊢
          have hid : 0 ≤ id := by
            rcases Int.lt_or_le id 0 with h2 | h2
            · unfold bufAt at b1; rw [if_neg (by omega)] at b1; cases b1
            · exact h2
          obtain ⟨k, rfl⟩ := Int.eq_ofNat_of_zero_le hid
          rw [bufAt_nat] at b1
          have hne : b ≠ ⟨1, [], []⟩ := by
            rintro rfl
            apply e4
            unfold setTxF
            split
            · simp_all [setTxF]
            · simp_all [setTxF]
          have hmm : S.T.many < 15 := by omega
          refine ⟨⟨write_ok (setTx_ok H.ok.a _ _) _ _, putL_ok H.ok.t hmm _, H.ok.r⟩, h, ?_, q1, q2, q3⟩
          simp only
          rw [allL_put H.ok.t hmm]
          have : holdF S.L (k : Int) = (0, S.L.set k { b with refs := b.refs + 1 }) := by
            unfold holdF; rw [bufAt_nat, b1]; simp only [if_pos b2, putF, Int.toNat_natCast]
          rw [this]
          exact q.hold_t2 b1 hne
theorem FJ.reset (H : FJ n S come mine) : FJ n (resetF S) come mine ∧ ((resetF S).R.many = 15 ∨ ∀ b ∈ (resetF S).L, b.refs ≠ 0) := by
  obtain ⟨h, q, q1, q2, q3⟩ := H.ex
  obtain ⟨z1, z2, z3⟩ := resetF_P H.ok.a q
  exact ⟨⟨(reset_okR H.ok.a H.few).1, h, z1, q1, q2, q3⟩, z3⟩
theorem FJ.poll (H : FJ n S come mine) : (∀ j, FJ n (pollF S).1 (come ++ ((pollF S).2.take j).map (·.1)) mine) ∧ ((pollF S).1.R.many = 15 ∨ ∀ b ∈ (pollF S).1.L, b.refs ≠ 0) := by
  have hok := poll_ok H.ok H.few
  by_cases hd : downB S.A = true
  · have e : pollF S = (resetF { S with A := A6 S.A }, []) := by unfold pollF; rw [if_pos hd]
    rw [e] at hok ⊢
    obtain ⟨z1, z2⟩ := (H.dev (read6_ok H.ok.a)).reset
    exact ⟨fun j => by rw [show come ++ (List.take j ([] : List (Int × Bool))).map (fun x : Int × Bool => x.1) = come by simp]; exact z1, z2⟩
  · obtain ⟨h, q, q1, q2, q3⟩ := H.ex
    have hm := H.ok.t.m
    have hm2 := H.ok.r.m
    have x1 := uptoT_P (hd := S.A.r 4) S.T.many.toNat H.ok.t (by omega) q
    obtain ⟨xa, xb⟩ := uptoT_ok (hd := S.A.r 4) S.T.many.toNat H.few H.ok.t (by omega)
    obtain ⟨h', o', y1, y2, y3, y4⟩ := uptoR_P (A := A6 S.A) (hd := S.A.r 2) (acc := []) S.R.many.toNat H.ok.r (by omega) x1
    obtain ⟨ya, yb⟩ := uptoR_ok (A := A6 S.A) (hd := S.A.r 2) (o := []) S.R.many.toNat xa H.ok.r (by omega)
    rw [List.nil_append] at y1
    have e : pollF S = (fillF ⟨A6 S.A, (uptoR (A6 S.A) S.R.many.toNat (S.A.r 2) (uptoT S.T.many.toNat (S.A.r 4) S.L S.T).1 S.R []).1, (uptoT S.T.many.toNat (S.A.r 4) S.L S.T).2, (uptoR (A6 S.A) S.R.many.toNat (S.A.r 2) (uptoT S.T.many.toNat (S.A.r 4) S.L S.T).1 S.R []).2.1⟩, o') := by
      unfold pollF; rw [if_neg hd, ← y1]
    rw [e] at hok ⊢
    obtain ⟨f1, f2, f3⟩ := fillF_P (S := ⟨A6 S.A, (uptoR (A6 S.A) S.R.many.toNat (S.A.r 2) (uptoT S.T.many.toNat (S.A.r 4) S.L S.T).1 S.R []).1, (uptoT S.T.many.toNat (S.A.r 4) S.L S.T).2, (uptoR (A6 S.A) S.R.many.toNat (S.A.r 2) (uptoT S.T.many.toNat (S.A.r 4) S.L S.T).1 S.R []).2.1⟩) ⟨read6_ok H.ok.a, xb, yb⟩ y2
    refine ⟨fun j => ⟨hok.1, h', f1, fun i => ?_, fun x hx => ?_, q3⟩, f3⟩
    · have := q1 i
      simp only
      have h3 := List.Sublist.count_le (i : Int) ((List.take_sublist j o').map (·.1))
      rw [y3, cnt_app]
      unfold cnt at *
      omega
    · rcases List.mem_append.1 hx with hx | hx
      · exact q2 x hx
      · exact y4 x (((List.take_sublist j o').map (·.1)).subset hx)
theorem free_held (q : PJ hp n L h t r []) {x : Int} (hx : 0 ≤ x) (h1 : h.getD x.toNat 0 = 1) : PJ hp n (freeF L x).2 (h.set x.toNat 0) t r [] ∧ x.toNat < h.length := by
  obtain ⟨k, rfl⟩ := Int.eq_ofNat_of_zero_le hx
  rw [Int.toNat_natCast] at h1 ⊢
  have hl := q.hl
  have hn := q.len
  have hkl : k < h.length := by
    rcases Nat.lt_or_ge k h.length with h2 | h2
    · exact h2
    · simp [List.getD, List.getElem?_eq_none h2] at h1
  have hk := List.getElem?_eq_getElem (show k < L.length by omega)
  obtain ⟨z1, z2, z3⟩ := q.free_h hk (by omega)
  rw [free_put (by rw [bufAt_nat]; exact hk) z2]
  simp only [putF, Int.toNat_natCast]
  exact ⟨z1, hkl⟩
theorem cut_cnt {l : List Int} {k : Nat} (hk : k < l.length) (i : Nat) : cnt l i = cnt (l.take k ++ l.drop (k + 1)) i + if l.getD k 0 = (i : Int) then 1 else 0 := by
  have e : l = l.take k ++ (l.getD k 0 :: l.drop (k + 1)) := by
    conv => lhs; rw [← List.take_append_drop k l, List.drop_eq_getElem_cons hk]
    simp [List.getD, List.getElem?_eq_getElem hk]
  conv => lhs; rw [e]
  rw [cnt_app, cnt_cons, cnt_app]; omega
theorem cut_mem {l : List Int} {k : Nat} {x : Int} (hx : x ∈ l.take k ++ l.drop (k + 1)) : x ∈ l := (List.mem_append.1 hx).elim List.mem_of_mem_take List.mem_of_mem_drop
theorem getD_mem {l : List Int} {k : Nat} (hk : k < l.length) : l.getD k 0 ∈ l := by
  simp [List.getD, List.getElem?_eq_getElem hk]
theorem FJ.free_mine (H : FJ n S come mine) {k : Nat} (hk : k < mine.length) : FJ n { S with L := (freeF S.L (mine.getD k 0)).2 } come (mine.take k ++ mine.drop (k + 1)) := by
  obtain ⟨h, q, q1, q2, q3⟩ := H.ex
  have hx := getD_mem hk
  have h0 := q3 _ hx
  have h1 := cnt_mem hx h0
  have h2 := q1 (mine.getD k 0).toNat
  have h3 := cnt_nn come (mine.getD k 0).toNat
  have h4 := q.hb (mine.getD k 0).toNat
  obtain ⟨z1, z2⟩ := free_held q h0 (by omega)
  refine ⟨⟨H.ok.a, H.ok.t, H.ok.r⟩, _, z1, fun i => ?_, q2, fun x hx => q3 x (cut_mem hx)⟩
  have h5 := q1 i
  rw [cut_cnt hk i] at h5
  rw [getD_set z2]
  have h6 := q.hb i
  have h7 := cnt_nn come i
  have h8 := cnt_nn (mine.take k ++ mine.drop (k + 1)) i
  by_cases e : (mine.getD k 0).toNat = i
  · rw [if_pos e]; rw [if_pos (by omega)] at h5; omega
  · rw [if_neg e]; rw [if_neg (by omega)] at h5; omega
theorem FJ.free_come (H : FJ n S come mine) {k : Nat} (hk : k < come.length) : FJ n { S with L := (freeF S.L (come.getD k 0)).2 } (come.take k ++ come.drop (k + 1)) mine := by
  obtain ⟨h, q, q1, q2, q3⟩ := H.ex
  have hx := getD_mem hk
  have h0 := q2 _ hx
  have h1 := cnt_mem hx h0
  have h2 := q1 (come.getD k 0).toNat
  have h3 := cnt_nn mine (come.getD k 0).toNat
  have h4 := q.hb (come.getD k 0).toNat
  obtain ⟨z1, z2⟩ := free_held q h0 (by omega)
  refine ⟨⟨H.ok.a, H.ok.t, H.ok.r⟩, _, z1, fun i => ?_, fun x hx => q2 x (cut_mem hx), q3⟩
  have h5 := q1 i
  rw [cut_cnt hk i] at h5
  rw [getD_set z2]
  have h6 := q.hb i
  have h7 := cnt_nn mine i
  have h8 := cnt_nn (come.take k ++ come.drop (k + 1)) i
  by_cases e : (come.getD k 0).toNat = i
  · rw [if_pos e]; rw [if_pos (by omega)] at h5; omega
  · rw [if_neg e]; rw [if_neg (by omega)] at h5; omega
end
end Go.Proofs.Ytghfkgcaglabpaa

/-
  A call of both rings, of the law's helper: what is known of them all, and the calls on the document's side.
-/
namespace Go.Proofs.Ytghfkgcaglabpaa
open Go.RowKit
def headF (d : List UInt8) (b : Bf) : Int × Bf := if 104 < d.length then (2, b) else (0, { b with head := d })
section
variable {w w' : World} {p ab r rb : Nat} {F : Nat → Prop} {L : List Bf}
theorem front_any (h : PoolAt w p ab L) (id : Int) {v : Value} {d : List UInt8} (hd : BytesAt w v d) : Calls Try.prog 68 #[pt p 0, iw id, v] w fun e w' => e = .returned (iw (ownF L id (headF d)).1) ∧ PoolTo w p ab (ownF L id (headF d)).2 w' := by
  obtain ⟨a, c, rfl⟩ := hd.form
  rcases own_cases L id with he | he | ⟨k, b, rfl, hk, hr⟩
  · rw [ownF_err he]; exact (front_err h he _ _ _).mono (by rintro e w' ⟨rfl, rfl⟩; exact ⟨rfl, PoolTo.same h⟩)
  · rw [ownF_err he]; exact (front_err h he _ _ _).mono (by rintro e w' ⟨rfl, rfl⟩; exact ⟨rfl, PoolTo.same h⟩)
  · rw [ownF_in hk hr]
    by_cases hl : d.length ≤ 104
    · have e : headF d b = (0, { b with head := d }) := by unfold headF; rw [if_neg (by omega)]
      rw [e, if_pos rfl]
      exact (front_in h hk hr hd hl).mono (by rintro e w' ⟨rfl, h1, h2⟩; exact ⟨rfl, PoolTo.buf h1 h2⟩)
    · have e : headF d b = (2, b) := by unfold headF; rw [if_pos (by omega)]
      rw [e, if_neg (show ¬ (2 : Int) = 0 by decide)]
      exact (front_long h hk hr _ _ _ (by omega)).mono (by rintro e w' ⟨rfl, rfl⟩; exact ⟨rfl, PoolTo.same h⟩)
theorem rfront_any (h : RefP w r rb F L) (id : Int) {v : Value} {d : List UInt8} (hd : BytesAt w v d) : Calls Try.prog 69 #[pt r 0, iw id, v] w fun e w' => e = .returned (iw (ownF L id (headF d)).1) ∧ RefPTo w r rb F (ownF L id (headF d)).2 w' := by
  obtain ⟨a, c, rfl⟩ := hd.form
  rcases own_cases L id with he | he | ⟨k, b, rfl, hk, hr⟩
  · rw [ownF_err he]; exact (rfront_err h.base he _ _ _).mono (by rintro e w' ⟨rfl, rfl⟩; exact ⟨rfl, RefPTo.same h⟩)
  · rw [ownF_err he]; exact (rfront_err h.base he _ _ _).mono (by rintro e w' ⟨rfl, rfl⟩; exact ⟨rfl, RefPTo.same h⟩)
  · rw [ownF_in hk hr]
    by_cases hl : d.length ≤ 104
    · have e : headF d b = (0, { b with head := d }) := by unfold headF; rw [if_neg (by omega)]
      rw [e, if_pos rfl]
      exact (rfront_in h.base hk hr hd hl).mono (by rintro e w' ⟨rfl, h1, h2⟩; exact ⟨rfl, RefPTo.at h1 h2⟩)
    · have e : headF d b = (2, b) := by unfold headF; rw [if_pos (by omega)]
      rw [e, if_neg (show ¬ (2 : Int) = 0 by decide)]
      exact (rfront_long h.base hk hr _ _ _ (by omega)).mono (by rintro e w' ⟨rfl, rfl⟩; exact ⟨rfl, RefPTo.same h⟩)
theorem headF_lim (d : List UInt8) (b : Bf) (h1 : b.refs = 1) (_ : b.head.length ≤ 104) (h2 : b.data.length ≤ 288) (h : (headF d b).1 = 0) : (headF d b).2.refs ≤ 1 ∧ (headF d b).2.head.length ≤ 104 ∧ (headF d b).2.data.length ≤ 288 := by
  unfold headF at h ⊢
  split at h
  · exact absurd h (show ¬ (2 : Int) = 0 by decide)
  · rename_i e
    rw [if_neg e]; simp only; omega
theorem headF_refs (d : List UInt8) (b : Bf) (h : b.refs = 1) (_ : (headF d b).1 = 0) : (headF d b).2.refs = 1 := by unfold headF; split <;> exact h
theorem setF_refs (d : List UInt8) (b : Bf) (_ : b.refs = 1) (_ : (setF d b).1 = 0) : (setF d b).2.refs = 1 := by unfold setF; split <;> rfl
end
theorem r1_write {A : NicA} {reg v : Int} (h : reg.toNat ≠ 1) : (writeF A reg v).2.r 1 = A.r 1 := by
  unfold writeF
  split
  · show up newA.r 1 (A.r 1) 1 = A.r 1; exact up_same _ _ _
  · split
    · exact up_ne _ _ (Ne.symm h)
    · split
      · rfl
      · split
        · exact up_ne _ _ (Ne.symm h)
        · split
          · exact up_ne _ _ (Ne.symm h)
          · rfl
theorem r1_setTx {A : NicA} {i : Int} {f : List UInt8} : (setTxF A i f).2.r 1 = A.r 1 := by unfold setTxF; split; rfl; split; rfl; split <;> rfl
theorem r1_setRx {A : NicA} {i m : Int} : (setRxF A i m).2.r 1 = A.r 1 := by unfold setRxF; split <;> rfl
theorem r1_fillL : ∀ (n : Nat) {A : NicA} {L : List Bf} {R : Line}, (fillL n A L R).1.r 1 = A.r 1
  | 0, A, L, R => rfl
  | n + 1, A, L, R => by
    unfold fillL
    split
    · rw [r1_fillL n]; exact r1_setRx
    · rfl
theorem r1_fill {S : RingA} : (fillF S).A.r 1 = S.A.r 1 := by
  unfold fillF
  simp only
  split
  · exact (r1_write (by decide)).trans (r1_fillL _)
  · exact r1_fillL _
theorem r1_reset {S : RingA} : (resetF S).A.r 1 = S.A.r 1 := r1_fill.trans ((r1_write (by decide)).trans (r1_write (by decide)))
theorem r1_poll {S : RingA} : (pollF S).1.A.r 1 = S.A.r 1 := by
  have h6 : (A6 S.A).r 1 = S.A.r 1 := by show up S.A.r 6 0 1 = S.A.r 1; exact up_ne _ _ (by decide)
  unfold pollF
  split
  · exact r1_reset.trans h6
  · exact r1_fill.trans h6
theorem r1_send {S : RingA} {id : Int} : (sendF S id).2.A.r 1 = S.A.r 1 := by
  unfold sendF
  simp only
  split
  · rfl
  · split
    · rfl
    · split
      · rfl
      · split
        · exact r1_setTx
        · exact (r1_write (by decide)).trans r1_setTx
theorem r1_take {A : NicA} : (takeR A).2.r 1 = A.r 1 := by
  unfold takeR
  split
  · rfl
  · split
    · rfl
    · show (takeF A).r 1 = _
      unfold takeF
      simp only
      rw [up_ne _ _ (by decide), up_ne _ _ (by decide)]
theorem r1_give {A : NicA} {f : List UInt8} {b : Bool} : (giveF A f b).2.r 1 = A.r 1 := by
  unfold giveF
  split
  · rfl
  · split
    · show up A.r 7 (inc (A.r 7)) 1 = A.r 1; exact up_ne _ _ (by decide)
    · split
      · show up A.r 7 (inc (A.r 7)) 1 = A.r 1; exact up_ne _ _ (by decide)
      · show (comeA A f b).r 1 = _
        unfold comeA
        simp only
        rw [up_ne _ _ (by decide), up_ne _ _ (by decide)]
def rRefRL (s e q : Nat) (G : Nat → Prop) (Z : RefS) (v : Value) (f : List UInt8) : Res where
  ok w := RRAt w s e q G Z ∧ BytesAt w v f ∧ sliceIn v G
  fp := G
  lt w h b hb := (rRefR s e q G Z).lt w h.1 b hb
  st w w' h hw := ⟨(rRefR s e q G Z).st w w' h.1 hw, h.2.1.agree h.2.2 hw, h.2.2⟩
section
variable {X : Cx} {l : List Res} {w w' : World} {s e q rb : Nat} {G FE FQ : Nat → Prop} {Z Z' : RefS} {qt qc : Option Addr} {ct cc j B B' : Nat}
theorem RRTo.dev {A' : NicA} (h : Sep w (RR5 s e q rb FE FQ qt ct qc cc Z)) (ge : G e) (hFE : ∀ b, FE b → G b ∨ w.heap.size ≤ b) (hFQ : ∀ b, FQ b → G b ∨ w.heap.size ≤ b) (hqt : ∀ b, (Value.slice qt Z.T.length ct).ownBlock = some b → G b ∨ w.heap.size ≤ b) (hqc : ∀ b, (Value.slice qc Z.C.length cc).ownBlock = some b → G b ∨ w.heap.size ≤ b) (k : NicTo 108 w e FE A' w') : RRTo w s e q rb G { Z with A := A' } w' := by
  have hI : Inv ⟨0, w, G⟩ w (RR5 s e q rb FE FQ qt ct qc cc Z) := ⟨h, Only.refl _ _⟩
  obtain ⟨F2, k1, k2⟩ := hI.nicB (F0 := G) (i := 1) rfl (.inl ge) k hFE
  exact ⟨F2, FQ, qt, ct, qc, cc, k1.1, k2, hFQ, hqt, hqc, k1.2⟩
theorem rr_pool {f : FuncId} {args : Array Value} {v : Value} {L' : List Bf} (h : Inv X w l) (hi : l[j]? = some (rRefR s e q G Z)) (hS : ∀ b, G b → X.S b ∨ X.w0.heap.size ≤ b) (hR : RB B Z) (hL' : Lim B' L')
    (C : ∀ rb F, RefP w q rb F Z.L → Calls Try.prog f args w fun e' w' => e' = .returned v ∧ RefPTo w q rb F L' w') :
    Calls Try.prog f args w fun e' w' => ∃ z : Unit × RefS × (Nat → Prop), e' = .returned v ∧ Inv X w' (l.set j (rRefR s e q z.2.2 z.2.1)) ∧ RB B' z.2.1 ∧ ∀ b, z.2.2 b → X.S b ∨ X.w0.heap.size ≤ b :=
  ref_call (val := fun _ : Unit => v) h hi hS fun rb FE FQ qt ct qc cc k1 k2 k3 k4 k5 k6 k7 k8 k9 => (C rb FQ (k1.1 (rRefP q rb FQ Z.L) (by simp))).mono fun e' w' ⟨h1, h2⟩ => ⟨(), { Z with L := L' }, h1, ⟨⟨hR.ok.a, hR.ok.n, hR.ok.f, hR.ok.t, hR.ok.c⟩, hL'⟩, RRTo.pool k1 k5 k6 k7 k8 k9 h2⟩
theorem rr_dev {f : FuncId} {args : Array Value} {v : Value} {A' : NicA} (h : Inv X w l) (hi : l[j]? = some (rRefR s e q G Z)) (hS : ∀ b, G b → X.S b ∨ X.w0.heap.size ≤ b) (hR : RB B Z) (hA : NicOk A')
    (C : ∀ F, NicAt 108 w e F Z.A → Calls Try.prog f args w fun e' w' => e' = .returned v ∧ NicTo 108 w e F A' w') :
    Calls Try.prog f args w fun e' w' => ∃ z : Unit × RefS × (Nat → Prop), e' = .returned v ∧ Inv X w' (l.set j (rRefR s e q z.2.2 z.2.1)) ∧ RB B z.2.1 ∧ ∀ b, z.2.2 b → X.S b ∨ X.w0.heap.size ≤ b :=
  ref_call (val := fun _ : Unit => v) h hi hS fun rb FE FQ qt ct qc cc k1 k2 k3 k4 k5 k6 k7 k8 k9 => (C FE (k1.1 (rDevQ e FE Z.A) (by simp))).mono fun e' w' ⟨h1, h2⟩ => ⟨(), { Z with A := A' }, h1, ⟨⟨hA, hR.ok.n, hR.ok.f, hR.ok.t, hR.ok.c⟩, hR.lim⟩, RRTo.dev k1 k3 k6 k7 k8 k9 h2⟩
theorem rr_send (h : Inv X w l) (hi : l[j]? = some (rRefR s e q G Z)) (hS : ∀ b, G b → X.S b ∨ X.w0.heap.size ≤ b) (hR : RB B Z) (h1B : 1 ≤ B) (hB : B ≤ 10000000000000) (id : Int) :
    Calls Try.prog 45 #[pt s 0, iw id] w fun e' w' => ∃ z : Int × RefS × (Nat → Prop), e' = .returned (iw z.1) ∧ Inv X w' (l.set j (rRefR s e q z.2.2 z.2.1)) ∧ RB (B + 1) z.2.1 ∧ ∀ b, z.2.2 b → X.S b ∨ X.w0.heap.size ≤ b :=
  ref_call (val := fun x : Int => iw x) h hi hS fun rb FE FQ qt ct qc cc k1 k2 k3 k4 k5 k6 k7 k8 k9 => rsend_any (A := Z.A) (L := Z.L) (T := Z.T) (C := Z.C) (nx := Z.next) (fi := Z.fill) hR.ok.a hR.lim h1B hB hR.ok.n hR.ok.f hR.ok.t hR.ok.c k2 k3 k5 k6 k7 k8 k9 id k1
theorem rr_reset (h : Inv X w l) (hi : l[j]? = some (rRefR s e q G Z)) (hS : ∀ b, G b → X.S b ∨ X.w0.heap.size ≤ b) (hR : RB B Z) (h1B : 1 ≤ B) (hB : B ≤ 10000000000000) :
    Calls Try.prog 48 #[pt s 0] w fun e' w' => ∃ z : Unit × RefS × (Nat → Prop), e' = .returned (.tuple #[]) ∧ Inv X w' (l.set j (rRefR s e q z.2.2 z.2.1)) ∧ RB (B + 1) z.2.1 ∧ ∀ b, z.2.2 b → X.S b ∨ X.w0.heap.size ≤ b :=
  ref_call (val := fun _ : Unit => .tuple #[]) h hi hS fun rb FE FQ qt ct qc cc k1 k2 k3 k4 k5 k6 k7 k8 k9 => (rreset_any (A := Z.A) (L := Z.L) (T := Z.T) (C := Z.C) (nx := Z.next) (fi := Z.fill) hR.ok.a hR.lim h1B hB hR.ok.n hR.ok.f hR.ok.t hR.ok.c k2 k3 k5 k6 k7 k8 k9 k1).mono fun e' w' ⟨Z9, h1, h2, h3⟩ => ⟨(), Z9, h1, h2, h3⟩
theorem Inv.refRow {G' : Nat → Prop} {r : Res} (h : Inv X w l) (hi : l[j]? = some (rRefR s e q G Z)) (hS : ∀ b, G b → X.S b ∨ X.w0.heap.size ≤ b) (k : Sep w' [rRefR s e q G' Z', r]) (k1 : ∀ b, G' b → G b ∨ w.heap.size ≤ b) (k2 : ∀ b, r.fp b → G b ∨ w.heap.size ≤ b) (hO : Only G w w') : Inv X w' (l.set j (rRefR s e q G' Z') ++ [r]) := by
  have hj : j < l.length := (List.getElem?_eq_some_iff.1 hi).1
  have h1 := h.upd hi (r' := rRefR s e q G' Z') hO hS (k.1 (rRefR s e q G' Z') (by simp)) k1
  refine h1.news (fun x hx => k.1 x (by simp at hx; simp [hx])) (List.pairwise_singleton _ _) (fun x hx y hy b hb hc => ?_)
  simp only [List.mem_cons, List.not_mem_nil, or_false] at hy
  subst hy
  obtain ⟨i, hx⟩ := List.getElem?_of_mem hx
  rw [List.getElem?_set] at hx
  by_cases e1 : j = i
  · rw [if_pos e1, if_pos hj] at hx
    cases hx
    exact (List.pairwise_cons.1 k.2).1 y (by simp) b hb hc
  · rw [if_neg e1] at hx
    rcases k2 b hc with h2 | h2
    · exact h.apart hx hi (Ne.symm e1) b hb h2
    · have := x.lt w (h.1.1 x (List.mem_of_getElem? hx)) b hb
      omega
theorem rr_poll (h : Inv X w l) (hi : l[j]? = some (rRefR s e q G Z)) (hS : ∀ b, G b → X.S b ∨ X.w0.heap.size ≤ b) (hR : RB B Z) (h1B : 1 ≤ B) (hB : B ≤ 10000000000000) :
    Calls Try.prog 74 #[pt s 0] w fun e' w' => ∃ z : (Option Addr × Nat × List (Int × Bool)) × RefS × (Nat → Prop), e' = .returned (.slice z.1.1 z.1.2.2.length z.1.2.1) ∧ Inv X w' (l.set j (rRefR s e q z.2.2 z.2.1) ++ [rRowN (.slice z.1.1 z.1.2.2.length z.1.2.1) (comeV z.1.2.2) 67 2]) ∧ RB (B + 1) z.2.1 ∧ (∀ b, z.2.2 b → X.S b ∨ X.w0.heap.size ≤ b) ∧ z.1.2.2.length ≤ 15 := by
  obtain ⟨rb, FE, FQ, qt, ct, qc, cc, h1, g1, g2, g3, g4, g5, g6, g7, g8, g9⟩ : RRAt w s e q G Z := h.1.get hi
  refine (rpoll_any (A := Z.A) (L := Z.L) (T := Z.T) (C := Z.C) (nx := Z.next) (fi := Z.fill) hR.ok.a hR.lim h1B hB hR.ok.n hR.ok.f hR.ok.t hR.ok.c g1 g2 g4 (fun b hb => .inl (g5 b hb)) (fun b hb => .inl (g6 b hb)) (fun b hb => .inl (g7 b hb)) (fun b hb => .inl (g8 b hb)) g3 h1).mono ?_
  rintro e' w' ⟨q2, c2, o, Z9, G9, k1, k2, k3, k4, k5, k6, k7⟩
  refine ⟨((q2, c2, o), Z9, G9), k1, h.refRow hi hS k3 k4 k5 k7, k2, fun b hb => ?_, k6⟩
  rcases k4 b hb with h2 | h2
  · exact hS b h2
  · exact .inr (Nat.le_trans h.2.size h2)
theorem rr_take (h : Inv X w l) (hi : l[j]? = some (rRefR s e q G Z)) (hS : ∀ b, G b → X.S b ∨ X.w0.heap.size ≤ b) (hR : RB B Z) :
    Calls Try.prog 49 #[pt e 0] w fun e' w' => ∃ z : (Option Addr × Nat) × RefS × (Nat → Prop), e' = .returned (.tuple #[.agg #[.slice z.1.1 (takeR Z.A).1.1.1.length z.1.2, bo false, iw (takeR Z.A).1.1.2], iw (takeR Z.A).1.2]) ∧ Inv X w' (l.set j (rRefRL s e q z.2.2 z.2.1 (.slice z.1.1 (takeR Z.A).1.1.1.length z.1.2) (takeR Z.A).1.1.1)) ∧ RB B z.2.1 ∧ ∀ b, z.2.2 b → X.S b ∨ X.w0.heap.size ≤ b := by
  obtain ⟨rb, FE, FQ, qt, ct, qc, cc, h1, g1, g2, g3, g4, g5, g6, g7, g8, g9⟩ : RRAt w s e q G Z := h.1.get hi
  have hN : NicAt 108 w e FE Z.A := h1.1 (rDevQ e FE Z.A) (by simp)
  refine (q_take hR.ok.a hN).mono ?_
  rintro e' w' ⟨v, k1, k2, k3, k4⟩
  obtain ⟨qa, qc', rfl⟩ := k4.1.form
  have hT := RRTo.dev (G := G) h1 g2 (fun b hb => .inl (g5 b hb)) (fun b hb => .inl (g6 b hb)) (fun b hb => .inl (g7 b hb)) (fun b hb => .inl (g8 b hb)) (NicTo.of ⟨k2, k3⟩)
  have hO : Only G w w' := k3.mono (fun b hb => by subst hb; exact .inl g2)
  refine ⟨((qa, qc'), { Z with A := (takeR Z.A).2 }, fun b => (G b ∨ w.heap.size ≤ b) ∧ b < w'.heap.size), k1, h.upd hi hO hS ⟨RRTo.at hT (.inl g1) g2 g3 g4, k4.1, fun b o n c hv hn => ⟨.inl (g5 b (k4.2 b o n c hv hn)), k4.1.lt b o n c hv hn⟩⟩ (fun b hb => hb.1), ⟨⟨takeR_ok hR.ok.a, hR.ok.n, hR.ok.f, hR.ok.t, hR.ok.c⟩, hR.lim⟩, fun b hb => ?_⟩
  rcases hb.1 with h2 | h2
  · exact hS b h2
  · exact .inr (Nat.le_trans h.2.size h2)
variable {P : Program} {ops : Array Oper} {Q : Exit → Act → World → Prop} {rest : List Oper} {o : Oper} {m : List (Nat × Value)}
theorem ru_ref_clk {t : TypeId} {z : Value} {x : Operand} (ht : TySc P t z) (ho : o.op = .load t x) (hx : evM m x = some (pt e 104)) (hi : l[j]? = some (rRefR s e q G Z)) : Ru P X o m l (iw Z.A.clk) := fun a w hf hI => by
  obtain ⟨rb, FE, FQ, qt, ct, qc, cc, h1, _⟩ : RRAt w s e q G Z := hI.1.get hi
  exact ru_nic_clk (X := ⟨X.n, w, fun _ => False⟩) (l := RR5 s e q rb FE FQ qt ct qc cc Z) (i := 1) ht ho hx rfl a w hf ⟨h1, Only.refl _ _⟩
theorem SL.ref_clk {t : TypeId} {z : Value} {x y : Operand} {n : Int} (hg : o.guard = none) (hd : o.dst = none) (ht : TySc P t z) (ho : o.op = .store t x y) (hx : evM m x = some (pt e 104)) (hy : evM m y = some (iw n)) (hi : l[j]? = some (rRefR s e q G Z)) (hS : ∀ b, G b → X.S b ∨ X.w0.heap.size ≤ b) (hR : RB B Z)
    (k : ∀ Z' G', RB B Z' → (∀ b, G' b → X.S b ∨ X.w0.heap.size ≤ b) → SL P X ops Q rest m (l.set j (rRefR s e q G' Z'))) : SL P X ops Q (o :: rest) m l := fun a w hf hI => by
  obtain ⟨rb, FE, FQ, qt, ct, qc, cc, h1, g1, g2, g3, g4, g5, g6, g7, g8, g9⟩ : RRAt w s e q G Z := hI.1.get hi
  refine SL.nic_clk (X := ⟨X.n, w, fun b => b = e⟩) (l := RR5 s e q rb FE FQ qt ct qc cc Z) (i := 1) hg hd ht ho hx hy rfl (.inl rfl) (fun a' w' hf' hI' => ?_) a w hf ⟨h1, Only.refl _ _⟩
  have hO : Only (fun b => b = e) w w' := hI'.2
  have hOG : Only G w w' := hO.mono (fun b hb => by subst hb; exact .inl g2)
  have hT : RRTo w s e q rb G { Z with A := { Z.A with clk := n } } w' := ⟨FE, FQ, qt, ct, qc, cc, hI'.1, fun b hb => .inl (g5 b hb), fun b hb => .inl (g6 b hb), fun b hb => .inl (g7 b hb), fun b hb => .inl (g8 b hb), hOG⟩
  refine k { Z with A := { Z.A with clk := n } } (fun b => (G b ∨ w.heap.size ≤ b) ∧ b < w'.heap.size) ⟨⟨⟨hR.ok.a.h2, hR.ok.a.h3, hR.ok.a.h4, hR.ok.a.h5, hR.ok.a.h6, hR.ok.a.tl, hR.ok.a.cl, hR.ok.a.rm⟩, hR.ok.n, hR.ok.f, hR.ok.t, hR.ok.c⟩, hR.lim⟩ (fun b hb => ?_) a' w' hf' (hI.upd hi hOG hS (RRTo.at hT (.inl g1) g2 g3 g4) (fun b hb => hb.1))
  rcases hb.1 with h2 | h2
  · exact hS b h2
  · exact .inr (Nat.le_trans hI.2.size h2)
end
theorem sub_in {w : World} {f : List UInt8} {K : Nat → Prop} {q : Option Addr} {n c k n2 c2 : Nat} (hb : BytesAt w (.slice q n c) f) (h : sliceIn (.slice q n c) K) (hn : n2 ≤ n) {p : Prop} [Decidable p] : sliceIn (.slice (if p then q else q.map (·.add k)) n2 c2) K := fun b o n3 c3 hv h0 => by
  simp only [Value.slice.injEq] at hv
  obtain ⟨hv, rfl, _⟩ := hv
  rcases hb with ⟨a, c', h1, h2, rfl⟩ | ⟨b0, o0, cap, h1, h2, h3, h4⟩
  · simp only [Value.slice.injEq] at h1
    omega
  · simp only [Value.slice.injEq] at h1
    obtain ⟨rfl, rfl, rfl⟩ := h1
    have e : b0 = b := by
      split at hv
      · simp at hv; exact hv.1
      · simp [Addr.add] at hv
        split at hv <;> (simp at hv; exact hv.1)
    subst e
    exact h b0 o0 _ c rfl (by omega)
theorem sub_drop {w : World} {q : Option Addr} {n c k : Nat} {f : List UInt8} (h : BytesAt w (.slice q n c) f) (hk : k ≤ n) : BytesAt w (.slice (if c = k then q else q.map (·.add (k * 1))) (n - k) (c - k)) (f.drop k) := by
  rw [Nat.mul_one]
  rcases h with ⟨a, c', h1, h2, rfl⟩ | ⟨b, o, cap, h1, h2, h3, h4⟩
  · simp only [Value.slice.injEq] at h1
    obtain ⟨rfl, rfl, rfl⟩ := h1
    have : k = 0 := by omega
    subst this
    refine .inl ⟨_, _, rfl, fun e => ?_, by simp⟩
    split at e
    · rw [h2 e]
    · cases q with
      | none => rw [h2 rfl]
      | some a => simp at e
  · simp only [Value.slice.injEq] at h1
    obtain ⟨rfl, rfl, rfl⟩ := h1
    by_cases e : k = f.length
    · subst e
      refine .inl ⟨_, _, by rw [Nat.sub_self], fun e => ?_, by simp⟩
      split at e
      · cases e
      · simp at e
    · refine .inr ⟨b, o + k, c - k, ?_, ?_, ?_, fun j hj => ?_⟩
      · rw [if_neg (by omega), List.length_drop]; simp [Addr.add]
      · rw [List.length_drop]; omega
      · rw [List.length_drop]; omega
      · rw [List.length_drop] at hj
        rw [List.getElem_drop, Nat.add_assoc]
        exact h4 (k + j) (by omega)
theorem sub_take {w : World} {q : Option Addr} {n c k : Nat} {f : List UInt8} (h : BytesAt w (.slice q n c) f) (hk : k ≤ n) : BytesAt w (.slice (if c = 0 then q else q.map (·.add (0 * 1))) (k - 0) (c - 0)) (f.take k) := by
  have e0 : (if c = 0 then q else q.map (·.add (0 * 1))) = q ∨ k = 0 := by
    split
    · exact .inl rfl
    · rcases h with ⟨a, c', h1, h2, rfl⟩ | ⟨b, o, cap, h1, h2, h3, h4⟩
      · simp only [Value.slice.injEq] at h1
        exact .inr (by omega)
      · simp only [Value.slice.injEq] at h1
        obtain ⟨rfl, _, _⟩ := h1
        exact .inl (by simp [Addr.add])
  rcases h with ⟨a, c', h1, h2, rfl⟩ | ⟨b, o, cap, h1, h2, h3, h4⟩
  · simp only [Value.slice.injEq] at h1
    obtain ⟨rfl, rfl, rfl⟩ := h1
    have : k = 0 := by omega
    subst this
    refine .inl ⟨_, _, rfl, fun e => ?_, by simp⟩
    split at e
    · rw [h2 e]
    · cases q with
      | none => rw [h2 rfl]
      | some a => simp at e
  · simp only [Value.slice.injEq] at h1
    obtain ⟨rfl, rfl, rfl⟩ := h1
    by_cases e : k = 0
    · subst e
      refine .inl ⟨_, _, rfl, fun e => ?_, by simp⟩
      split at e
      · cases e
      · simp at e
    · have e1 := e0.resolve_right e
      rw [e1]
      refine .inr ⟨b, o, c, ?_, ?_, ?_, fun j hj => ?_⟩
      · rw [List.length_take, Nat.min_eq_left hk]; simp
      · rw [List.length_take]; omega
      · rw [List.length_take]; omega
      · rw [List.length_take] at hj
        rw [List.getElem_take]
        exact h4 j (by omega)
structure DS where
  S : RingA
  F : Nat → Prop
  Z : RefS
  K : Nat → Prop
  come : List Int
  mine : List Int
  qc : Option Addr
  cc : Nat
  qm : Option Addr
  cm : Nat
abbrev RX (g d p ab r e q s : Nat) (x : DS) : List Res := [rBlk g [pt d 0, pt p 0, pt r 0, pt e 0, pt q 0, pt s 0, .slice x.qc x.come.length x.cc, .slice x.qm x.mine.length x.cm] 43, rRing r d p ab x.F x.S, rRefR s e q x.K x.Z, rRowO (.slice x.qc x.come.length x.cc) (ivs x.come) 3, rRowO (.slice x.qm x.mine.length x.cm) (ivs x.mine) 3]
structure GX (G : Nat → Prop) (n0 g d p ab r : Nat) (x : DS) : Prop where
  g : G g ∨ n0 ≤ g
  r : ∀ b, rS r d p ab b → G b ∨ n0 ≤ b
  f : ∀ b, x.F b → G b ∨ n0 ≤ b
  k : ∀ b, x.K b → G b ∨ n0 ≤ b
  c : ∀ b, (Value.slice x.qc x.come.length x.cc).ownBlock = some b → G b ∨ n0 ≤ b
  m : ∀ b, (Value.slice x.qm x.mine.length x.cm).ownBlock = some b → G b ∨ n0 ≤ b
def DTo (n B : Nat) (w : World) (g d p ab r e q s : Nat) (G : Nat → Prop) (r1 : Int) (w' : World) : Prop := ∃ x, FJ n x.S x.come x.mine ∧ RB B x.Z ∧ x.S.A.r 1 = r1 ∧ Sep w' (RX g d p ab r e q s x) ∧ GX G w.heap.size g d p ab r x ∧ Only G w w'
end Go.Proofs.Ytghfkgcaglabpaa

/-
  For the walks of the law's calls of both rings: parts of rows, what came compared, a call among other things.
-/
namespace Go.Proofs.Ytghfkgcaglabpaa
open Go.RowKit
theorem row_take {w : World} {q : Option Addr} {n c k : Nat} {xs : List Value} {e : TypeId} (h : RowO w (.slice q n c) xs e) (hk : k ≤ n) : CellsAt w (.slice (if c = 0 then q else q.map (·.add (0 * 1))) (k - 0) (c - 0)) (xs.take k) := by
  have en := rowO_form h
  by_cases h0 : k = 0
  · subst h0; exact .inl ⟨_, _, rfl, by simp⟩
  · rcases h with ⟨h1, rfl⟩ | ⟨g, o, c', cur, h1, hb, h2, h3, h4, h5⟩
    · simp at en; omega
    · have hl : (xs.take k).length = k := by rw [List.length_take]; omega
      refine .inr ⟨g, o, c, ?_, fun j u hj => ?_⟩
      · simp only [Value.slice.injEq] at h1
        obtain ⟨rfl, _, _⟩ := h1
        rw [hl]
        simp [Addr.add]
      · rw [List.getElem?_take] at hj
        split at hj
        · exact RowO.cell (.inr ⟨g, o, c', cur, rfl, hb, h2, h3, h4, h5⟩) hj
        · cases hj
theorem row_drop {w : World} {q : Option Addr} {n c k : Nat} {xs : List Value} {e : TypeId} (h : RowO w (.slice q n c) xs e) (hk : k ≤ n) : CellsAt w (.slice (if c = k then q else q.map (·.add (k * 1))) (n - k) (c - k)) (xs.drop k) := by
  have en := rowO_form h
  by_cases h0 : k = n
  · subst h0; exact .inl ⟨_, _, by rw [Nat.sub_self], List.drop_eq_nil_of_le (by omega)⟩
  · rcases h with ⟨h1, rfl⟩ | ⟨g, o, c', cur, h1, hb, h2, h3, h4, h5⟩
    · simp at en; omega
    · simp only [Value.slice.injEq] at h1
      obtain ⟨rfl, rfl, rfl⟩ := h1
      refine .inr ⟨g, o + k, c - k, ?_, fun j u hj => ?_⟩
      · rw [List.length_drop, if_neg (by omega)]
        simp [Addr.add]
      · rw [List.getElem?_drop] at hj
        have := RowO.cell (.inr ⟨g, o, c, cur, rfl, hb, h2, h3, h4, h5⟩) hj
        rw [Nat.add_assoc]
        exact this
theorem ivs_cut {l : List Int} {k : Nat} : ([] ++ (ivs l).take k) ++ (ivs l).drop (k + 1) = ivs (l.take k ++ l.drop (k + 1)) := by simp [ivs, List.map_take, List.map_drop]
theorem ivs_one {l : List Int} : ∀ u ∈ ivs l, u.oneCell' = true := by
  intro u hu
  obtain ⟨x, _, rfl⟩ := List.mem_map.1 hu
  rfl
theorem mod_at {m : Int} {n : Nat} (hm : (decide (m < 0)) = false) (hn : 0 < n) : ∃ k : Nat, Int.tmod m (n : Int) = (k : Int) ∧ k < n := by
  have h0 : 0 ≤ m := by simpa using hm
  refine ⟨(Int.tmod m n).toNat, ?_, ?_⟩
  · have := Int.tmod_nonneg (n : Int) h0
    omega
  · have h1 := Int.tmod_eq_emod_of_nonneg (b := (n : Int)) h0
    have h2 := Int.emod_lt_of_pos m (show (0 : Int) < n by omega)
    have h3 := Int.tmod_nonneg (n : Int) h0
    omega
theorem or_f {a b : Bool} (h : (a || b) = false) : a = false ∧ b = false := by simpa using h
def comeB (x y : Int × Bool) : Bool := x.1 == y.1 && x.2 == y.2
theorem comeB_eq {x y : Int × Bool} (h : (!comeB x y) = false) : x = y := by
  unfold comeB at h
  simp only [Bool.not_eq_false', Bool.and_eq_true, beq_iff_eq] at h
  exact Prod.ext h.1 h.2
theorem come_stood : Try.prog.stoodInHeld 67 = false := by kernel_rfl
theorem run_come_ne (w : World) (x y : Int × Bool) : (binOp .neq 67 (.agg ([iw x.1, bo x.2] : List Value).toArray) (.agg ([iw y.1, bo y.2] : List Value).toArray)).run Try.prog w = .ok (.bool (!(comeB x y))) w := by
  obtain ⟨n, hn⟩ : ∃ n, (10000 : Nat) = n + 1 + 1 := ⟨9998, rfl⟩
  rw [run_neq_struct, hn, run_equalIn_agg w (n + 1) 67 _ _ (by simp only [Program.fieldsOf, Try.underlying67]) come_stood]
  simp [Program.fieldsOf, Try.underlying67, Op.eqFields, part, isAgg, run_underlying, Try.underlying3, Try.underlying4, run_equalIn_int _ _ _ _ _ _ _ Try.underlying3, run_equalIn_bool' _ _ _ _ _ Try.underlying4]
  (repeat' split) <;> simp_all [comeB]
section
variable {X : Cx} {o : Oper} {m : List (Nat × Value)} {l : List Res}
theorem ru_come_ne {a b : Operand} {t' : TypeId} {x y : Int × Bool} (ho : o.op = .binOp .neq 67 a b t') (hx : evM m a = some (.agg ([iw x.1, bo x.2] : List Value).toArray)) (hy : evM m b = some (.agg ([iw y.1, bo y.2] : List Value).toArray)) : Ru Try.prog X o m l (bo (!(comeB x y))) :=
  ru_binv ho hx hy (fun w => by simp [eqGuard]) fun w _ => run_come_ne w x y
end
section
variable {X : Cx} {l : List Res} {w w' : World} {g d p ab r e q s n B : Nat} {G : Nat → Prop} {x : DS} {r1 : Int}
theorem GX.self {n0 : Nat} : GX (fpl (RX g d p ab r e q s x)) n0 g d p ab r x where
  g := .inl ⟨_, List.mem_cons_self, rfl⟩
  r b hb := .inl ⟨rRing r d p ab x.F x.S, by simp, rS_rfp hb⟩
  f b hb := .inl ⟨rRing r d p ab x.F x.S, by simp, .inr (.inr (.inl hb))⟩
  k b hb := .inl ⟨rRefR s e q x.K x.Z, by simp, hb⟩
  c b hb := .inl ⟨rRowO (.slice x.qc x.come.length x.cc) (ivs x.come) 3, by simp, hb⟩
  m b hb := .inl ⟨rRowO (.slice x.qm x.mine.length x.cm) (ivs x.mine) 3, by simp, hb⟩
theorem GX.fp {n0 : Nat} (h : GX G n0 g d p ab r x) : ∀ b, fpl (RX g d p ab r e q s x) b → G b ∨ n0 ≤ b := by
  rintro b ⟨y, hy, hb⟩
  simp only [List.mem_cons, List.not_mem_nil, or_false] at hy
  rcases hy with rfl | rfl | rfl | rfl | rfl
  · have : b = g := hb
    rw [this]; exact h.g
  · exact rfp_cases (P := fun b => G b ∨ n0 ≤ b) (h.r b) (h.f b) hb
  · exact h.k b hb
  · exact h.c b hb
  · exact h.m b hb
theorem GX.of {n0 n1 : Nat} (h : GX G n0 g d p ab r x) {x' : DS} (hn : n0 ≤ n1) (k : GX (fpl (RX g d p ab r e q s x)) n1 g d p ab r x') : GX G n0 g d p ab r x' := by
  have f : ∀ b, fpl (RX g d p ab r e q s x) b ∨ n1 ≤ b → G b ∨ n0 ≤ b := fun b hb => hb.elim (h.fp b) (fun e => .inr (Nat.le_trans hn e))
  exact ⟨f _ k.g, fun b hb => f b (k.r b hb), fun b hb => f b (k.f b hb), fun b hb => f b (k.k b hb), fun b hb => f b (k.c b hb), fun b hb => f b (k.m b hb)⟩
theorem DTo.lift (h : Inv X w (RX g d p ab r e q s x ++ l)) (hX : GX X.S X.w0.heap.size g d p ab r x) (k : DTo n B w g d p ab r e q s (fpl (RX g d p ab r e q s x)) r1 w') :
    ∃ x', Inv X w' (RX g d p ab r e q s x' ++ l) ∧ FJ n x'.S x'.come x'.mine ∧ RB B x'.Z ∧ x'.S.A.r 1 = r1 ∧ GX X.S X.w0.heap.size g d p ab r x' := by
  obtain ⟨x', h1, h2, h3, h4, h5, h6⟩ := k
  refine ⟨x', Inv.turns (Z := fpl (RX g d p ab r e q s x)) h ⟨h4, h6, fun y hy b hb => ?_⟩ (fun b hb => hb) (hX.fp), h1, h2, h3, hX.of h.2.size h5⟩
  exact h5.fp b ⟨y, hy, hb⟩
end
end Go.Proofs.Ytghfkgcaglabpaa

/-
  takes.
-/
namespace Go.Proofs.Ytghfkgcaglabpaa
open Go.RowKit
set_option maxRecDepth 100000
set_option maxHeartbeats 4000000
theorem cut_of {m : Int} {n : Nat} (h : (decide ((m : Int) < 0) || decide ((n : Int) < m)) = false) : ∃ k : Nat, m = (k : Int) ∧ k ≤ n := by
  simp only [Bool.or_eq_false_iff, decide_eq_false_iff_not] at h
  exact ⟨m.toNat, by omega, by omega⟩
theorem takes_any {w : World} {n B g d p ab r e q s : Nat} {G F KZ : Nat → Prop} {S : RingA} {Z : RefS} {come mine : List Int} {qc qm : Option Addr} {cc cm : Nat} {k m : Int} {fa : Option Addr} {fc : Nat} {f : List UInt8} {y : Bool} (hj : FJ n S come mine) (hn60 : n ≤ 60) (hZ : RB B Z) (h1B : 1 ≤ B) (hB : B ≤ 10000000000000) (hX : GX G w.heap.size g d p ab r ⟨S, F, Z, KZ, come, mine, qc, cc, qm, cm⟩) (hbs : BytesAt w (.slice fa f.length fc) f) (hbx : sliceIn (.slice fa f.length fc) (fun b => ¬ G b)) (hbl : sliceIn (.slice fa f.length fc) (fun b => ¬ fpl (RX g d p ab r e q s ⟨S, F, Z, KZ, come, mine, qc, cc, qm, cm⟩) b)) (h : Sep w (RX g d p ab r e q s ⟨S, F, Z, KZ, come, mine, qc, cc, qm, cm⟩)) : Calls Try.prog 44 #[pt g 0, Value.agg #[iw k, iw m, Value.slice fa f.length fc, bo y]] w fun e' w' => (∃ v : Bool, e' = .returned (bo v)) ∧ DTo n (B + 1) w g d p ab r e q s G (S.A.r 1) w' := by
  have hg : G g ∨ w.heap.size ≤ g := hX.g
  have hG : ∀ b, rS r d p ab b → G b ∨ w.heap.size ≤ b := hX.r
  have hF : ∀ b, F b → G b ∨ w.heap.size ≤ b := hX.f
  have hKZ : ∀ b, KZ b → G b ∨ w.heap.size ≤ b := hX.k
  have hqc : ∀ b, (Value.slice qc come.length cc).ownBlock = some b → G b ∨ w.heap.size ≤ b := hX.c
  have hqm : ∀ b, (Value.slice qm mine.length cm).ownBlock = some b → G b ∨ w.heap.size ≤ b := hX.m
  have hcl := hj.lens.1
  have hml := hj.lens.2
  have hfc := hbs.cap
  refine calls_sc (l0 := (RX g d p ab r e q s ⟨S, F, Z, KZ, come, mine, qc, cc, qm, cm⟩)) (args := [pt g 0, Value.agg #[iw k, iw m, Value.slice fa f.length fc, bo y]]) G Try.func44 rfl 98 Try.ntmps44 (le_b rfl) ⟨h, Only.refl _ _⟩ ?_
  show SC _ _ _ _ [(0, pt g 0), (1, Value.agg #[iw k, iw m, Value.slice fa f.length fc, bo y])] (RX g d p ab r e q s ⟨S, F, Z, KZ, come, mine, qc, cc, qm, cm⟩)
  refine SC.sr ?_
  refine SL.box (c := [iw k, iw m, Value.slice fa f.length fc, bo y]) rfl rfl (lt_b rfl) rfl rfl rfl fun b1 hb1 => ?_
  refine SL.as ?_
  refine SL.nn [(0, pt g 0), (3, pt b1 0), (4, bo false)] [rBlk g [pt d 0, pt p 0, pt r 0, pt e 0, pt q 0, pt s 0, Value.slice qc come.length cc, Value.slice qm mine.length cm] 43, rRing r d p ab F S, rRefR s e q KZ Z, rRowO (.slice qc come.length cc) (ivs come) 3, rRowO (.slice qm mine.length cm) (ivs mine) 3, rBlk b1 [iw k, iw m, Value.slice fa f.length fc, bo y] 30] ⟨rfl, rfl, rfl, trivial⟩ ?_
  refine SC.sr ?_
  refine SL.mv ?_
  refine SL.nk ?_
  refine SL.uu (ru_fieldAddr (o2 := 1) fd43_1 rfl rfl rfl) ?_
  refine SL.uu (ru_load (i := 0) ts37 rfl rfl rfl rfl) ?_
  refine SL.call (ζ := Nat → Prop) (fun F2 => Value.tuple #[iw ((getF S.L).1.1), iw ((getF S.L).1.2)]) (fun F2 => [rBlk g [pt d 0, pt p 0, pt r 0, pt e 0, pt q 0, pt s 0, Value.slice qc come.length cc, Value.slice qm mine.length cm] 43, rRing r d p ab F2 ({ S with L := (getF S.L).2 }), rRefR s e q KZ Z, rRowO (.slice qc come.length cc) (ivs come) 3, rRowO (.slice qm mine.length cm) (ivs mine) 3, rBlk b1 [iw k, iw m, Value.slice fa f.length fc, bo y] 30]) (fun F2 => (∀ b, F2 b → G b ∨ w.heap.size ≤ b)) rfl rfl co17 rfl rfl rfl (lt_b rfl) (fun w hI => (get_any (ring_at hI (i := 1) rfl).pool).mono fun e w2 ⟨h1, h2⟩ => by obtain ⟨F2, k1, k2⟩ := hI.ringTo (F0 := G) (i := 1) rfl hG ((ring_at hI (i := 1) rfl).poolTo h2) hF; exact ⟨F2, h1, k1, k2⟩) ?_
  intro F2 hF2
  refine SL.mv ?_
  refine SL.uu (ru_extract rfl rfl rfl) ?_
  refine SL.uu (ru_extract rfl rfl rfl) ?_
  refine SL.as ?_
  refine SL.as ?_
  refine SL.nn [(0, pt g 0), (3, pt b1 0), (4, bo false), (5, iw ((getF S.L).1.1)), (6, iw ((getF S.L).1.2))] [rBlk g [pt d 0, pt p 0, pt r 0, pt e 0, pt q 0, pt s 0, Value.slice qc come.length cc, Value.slice qm mine.length cm] 43, rRing r d p ab F2 ({ S with L := (getF S.L).2 }), rRefR s e q KZ Z, rRowO (.slice qc come.length cc) (ivs come) 3, rRowO (.slice qm mine.length cm) (ivs mine) 3, rBlk b1 [iw k, iw m, Value.slice fa f.length fc, bo y] 30] ⟨rfl, rfl, rfl, rfl, rfl, trivial⟩ ?_
  refine SC.sr ?_
  refine SL.mv ?_
  refine SL.nk ?_
  refine SL.uu (ru_fieldAddr (o2 := 4) fd43_4 rfl rfl rfl) ?_
  refine SL.uu (ru_load (i := 0) ts40 rfl rfl rfl rfl) ?_
  refine SL.call (ζ := Unit × RefS × (Nat → Prop)) (fun z => Value.tuple #[iw ((getF Z.L).1.1), iw ((getF Z.L).1.2)]) (fun z => [rBlk g [pt d 0, pt p 0, pt r 0, pt e 0, pt q 0, pt s 0, Value.slice qc come.length cc, Value.slice qm mine.length cm] 43, rRing r d p ab F2 ({ S with L := (getF S.L).2 }), rRefR s e q z.2.2 z.2.1, rRowO (.slice qc come.length cc) (ivs come) 3, rRowO (.slice qm mine.length cm) (ivs mine) 3, rBlk b1 [iw k, iw m, Value.slice fa f.length fc, bo y] 30]) (fun z => RB (B) z.2.1 ∧ ∀ b, z.2.2 b → G b ∨ w.heap.size ≤ b) rfl rfl co66 rfl rfl rfl (lt_b rfl) (fun w9 hI => by refine rr_pool (v := Value.tuple #[iw ((getF Z.L).1.1), iw ((getF Z.L).1.2)]) (L' := (getF Z.L).2) (B' := B) (Z := Z) (G := KZ) (s := s) (e := e) (q := q) (j := 2) hI rfl hKZ hZ ?_ ?_; exact lim_get hZ.lim h1B; intro rb F hP; exact rget_any hP) ?_
  rintro ⟨x3, Z4, K5⟩ ⟨hZ4, hK5⟩
  refine SL.mv ?_
  refine SL.uu (ru_extract rfl rfl rfl) ?_
  refine SL.uu (ru_extract rfl rfl rfl) ?_
  refine SL.as ?_
  refine SL.as ?_
  refine SL.nn [(0, pt g 0), (3, pt b1 0), (4, bo false), (5, iw ((getF S.L).1.1)), (6, iw ((getF S.L).1.2)), (7, iw ((getF Z.L).1.1)), (8, iw ((getF Z.L).1.2))] [rBlk g [pt d 0, pt p 0, pt r 0, pt e 0, pt q 0, pt s 0, Value.slice qc come.length cc, Value.slice qm mine.length cm] 43, rRing r d p ab F2 ({ S with L := (getF S.L).2 }), rRefR s e q K5 Z4, rRowO (.slice qc come.length cc) (ivs come) 3, rRowO (.slice qm mine.length cm) (ivs mine) 3, rBlk b1 [iw k, iw m, Value.slice fa f.length fc, bo y] 30] ⟨rfl, rfl, rfl, rfl, rfl, rfl, rfl, trivial⟩ ?_
  refine SC.seq ?_
  refine SC.sr ?_
  refine SL.mv ?_
  refine SL.mv ?_
  refine SL.uu (ru_ne (b := ((((getF S.L).1.1) : Int) != ((getF Z.L).1.1))) rfl rfl rfl rfl) ?_
  refine SL.mv ?_
  refine SL.join 4 [(0, pt g 0), (3, pt b1 0), (4, bo false), (5, iw ((getF S.L).1.1)), (6, iw ((getF S.L).1.2)), (7, iw ((getF Z.L).1.1)), (8, iw ((getF Z.L).1.2)), (26, iw ((getF S.L).1.1)), (27, iw ((getF Z.L).1.1)), (28, bo ((((getF S.L).1.1) : Int) != ((getF Z.L).1.1))), (29, bo ((((getF S.L).1.1) : Int) != ((getF Z.L).1.1))), (33, bo (((((getF S.L).1.1) : Int) != ((getF Z.L).1.1)) || ((((getF S.L).1.2) : Int) != ((getF Z.L).1.2))))] [rBlk g [pt d 0, pt p 0, pt r 0, pt e 0, pt q 0, pt s 0, Value.slice qc come.length cc, Value.slice qm mine.length cm] 43, rRing r d p ab F2 ({ S with L := (getF S.L).2 }), rRefR s e q K5 Z4, rRowO (.slice qc come.length cc) (ivs come) 3, rRowO (.slice qm mine.length cm) (ivs mine) 3, rBlk b1 [iw k, iw m, Value.slice fa f.length fc, bo y] 30] ?_ ?_
  rotate_left
  · intro K hK
    rcases tf ((((getF S.L).1.1) : Int) != ((getF Z.L).1.1)) with h6 | h6
    · skip
      refine SL.norm [(0, pt g 0), (3, pt b1 0), (4, bo false), (5, iw ((getF S.L).1.1)), (6, iw ((getF S.L).1.2)), (7, iw ((getF Z.L).1.1)), (8, iw ((getF Z.L).1.2)), (26, iw ((getF S.L).1.1)), (27, iw ((getF Z.L).1.1)), (28, bo true), (29, bo true)] _ ⟨rfl, rfl, rfl, rfl, rfl, rfl, rfl, rfl, rfl, (congrArg (fun x => some (Value.bool x)) h6), (congrArg (fun x => some (Value.bool x)) h6), trivial⟩ rfl ?_
      refine SL.oo ?_
      refine SL.oo ?_
      refine SL.oo ?_
      refine SL.uu (ru_pick (u := bo true) (v := undef) rfl rfl rfl rfl) ?_
      exact SL.joined hK ⟨rfl, rfl, rfl, rfl, rfl, rfl, rfl, rfl, rfl, (congrArg (fun x => some (Value.bool x)) h6.symm), (congrArg (fun x => some (Value.bool x)) h6.symm), (congrArg (fun bx => some (Value.bool (bx || ((((getF S.L).1.2) : Int) != ((getF Z.L).1.2))))) h6.symm), trivial⟩ rfl
    refine SL.norm [(0, pt g 0), (3, pt b1 0), (4, bo false), (5, iw ((getF S.L).1.1)), (6, iw ((getF S.L).1.2)), (7, iw ((getF Z.L).1.1)), (8, iw ((getF Z.L).1.2)), (26, iw ((getF S.L).1.1)), (27, iw ((getF Z.L).1.1)), (28, bo false), (29, bo false)] _ ⟨rfl, rfl, rfl, rfl, rfl, rfl, rfl, rfl, rfl, (congrArg (fun x => some (Value.bool x)) h6), (congrArg (fun x => some (Value.bool x)) h6), trivial⟩ rfl ?_
    refine SL.gg (ru_move rfl rfl) ?_
    refine SL.gg (ru_move rfl rfl) ?_
    refine SL.gg (ru_ne (b := ((((getF S.L).1.2) : Int) != ((getF Z.L).1.2))) rfl rfl rfl rfl) ?_
    refine SL.uu (ru_pick (u := bo true) (v := bo ((((getF S.L).1.2) : Int) != ((getF Z.L).1.2))) rfl rfl rfl rfl) ?_
    exact SL.joined hK ⟨rfl, rfl, rfl, rfl, rfl, rfl, rfl, rfl, rfl, (congrArg (fun x => some (Value.bool x)) h6.symm), (congrArg (fun x => some (Value.bool x)) h6.symm), (congrArg (fun bx => some (Value.bool (bx || ((((getF S.L).1.2) : Int) != ((getF Z.L).1.2))))) h6.symm), trivial⟩ rfl
  skip
  refine SL.nn [(0, pt g 0), (3, pt b1 0), (4, bo false), (5, iw ((getF S.L).1.1)), (7, iw ((getF Z.L).1.1)), (8, iw ((getF Z.L).1.2)), (33, bo (((((getF S.L).1.1) : Int) != ((getF Z.L).1.1)) || ((((getF S.L).1.2) : Int) != ((getF Z.L).1.2))))] _ ⟨rfl, rfl, rfl, rfl, rfl, rfl, rfl, trivial⟩ ?_
  refine SC.both (((((getF S.L).1.1) : Int) != ((getF Z.L).1.1)) || ((((getF S.L).1.2) : Int) != ((getF Z.L).1.2))) rfl (fun h7 => ?_) (fun h7 => ?_)
  · skip
    refine SC.sr ?_
    refine SL.as ?_
    refine SL.nn [(0, pt g 0), (3, pt b1 0), (4, bo false), (5, iw ((getF S.L).1.1)), (7, iw ((getF Z.L).1.1)), (8, iw ((getF Z.L).1.2))] _ ⟨rfl, rfl, rfl, rfl, rfl, rfl, trivial⟩ ?_
    refine SC.ret ?_
    refine SE.passr ?_
    refine SE.res (.inl rfl) (res1 Try.results44 rfl) fun w1 hI => ⟨⟨_, rfl⟩, ⟨{ S with L := (getF S.L).2 }, F2, Z4, K5, come, mine, qc, cc, qm, cm⟩, hj.get.1, hZ4.up, rfl, ?_, ⟨hg, hG, hF2, hK5, hqc, hqm⟩, hI.2⟩
    exact (hI.pick (js := [0, 1, 2, 3, 4]) rfl).1
  have hab : (getF S.L).1.1 = (getF Z.L).1.1 := bne_no (or_f h7).1
  have hef : (getF S.L).1.2 = (getF Z.L).1.2 := bne_no (or_f h7).2
  refine SC.skip ?_
  refine SC.of_SE ?_
  refine SC.norm [(0, pt g 0), (3, pt b1 0), (4, bo false), (5, iw ((getF S.L).1.1)), (7, iw ((getF Z.L).1.1)), (8, iw ((getF Z.L).1.2))] _ ⟨rfl, rfl, rfl, rfl, rfl, rfl, trivial⟩ rfl ?_
  refine SC.seq ?_
  refine SC.sr ?_
  refine SL.mv ?_
  refine SL.uu (ru_ne (b := ((((getF Z.L).1.2) : Int) != 0)) rfl rfl rfl rfl) ?_
  refine SL.nn [(0, pt g 0), (3, pt b1 0), (4, bo false), (5, iw ((getF S.L).1.1)), (7, iw ((getF Z.L).1.1)), (35, bo ((((getF Z.L).1.2) : Int) != 0))] _ ⟨rfl, rfl, rfl, rfl, rfl, rfl, trivial⟩ ?_
  refine SC.both ((((getF Z.L).1.2) : Int) != 0) rfl (fun h8 => ?_) (fun h8 => ?_)
  · skip
    refine SC.sr ?_
    refine SL.as ?_
    refine SL.nn [(0, pt g 0), (3, pt b1 0), (4, bo true), (5, iw ((getF S.L).1.1)), (7, iw ((getF Z.L).1.1))] _ ⟨rfl, rfl, rfl, rfl, rfl, trivial⟩ ?_
    refine SC.ret ?_
    refine SE.passr ?_
    refine SE.res (.inl rfl) (res1 Try.results44 rfl) fun w1 hI => ⟨⟨_, rfl⟩, ⟨{ S with L := (getF S.L).2 }, F2, Z4, K5, come, mine, qc, cc, qm, cm⟩, hj.get.1, hZ4.up, rfl, ?_, ⟨hg, hG, hF2, hK5, hqc, hqm⟩, hI.2⟩
    exact (hI.pick (js := [0, 1, 2, 3, 4]) rfl).1
  have h00 : (getF S.L).1.2 = 0 := hef.trans (bne_no h8)
  have hj2 : FJ n { S with L := (getF S.L).2 } come (mine ++ [(getF Z.L).1.1]) := by rw [← hab]; exact hj.get.2 h00
  refine SC.skip ?_
  refine SC.of_SE ?_
  refine SC.norm [(0, pt g 0), (3, pt b1 0), (4, bo false), (5, iw ((getF S.L).1.1)), (7, iw ((getF Z.L).1.1))] _ ⟨rfl, rfl, rfl, rfl, rfl, trivial⟩ rfl ?_
  refine SC.sr ?_
  refine SL.mv ?_
  refine SL.mv ?_
  refine SL.nk ?_
  refine SL.uu (ru_fieldAddr (o2 := 7) fd43_7 rfl rfl rfl) ?_
  refine SL.uu (ru_load (i := 0) ts26 rfl rfl rfl rfl) ?_
  refine SL.mv ?_
  refine SL.buildSlice (size := 1) (vals := [(0, iw ((getF Z.L).1.1))]) (z := [iw 0]) (cs := [iw ((getF Z.L).1.1)]) rfl rfl (lt_b rfl) rfl Try.underlying26 (by kernel_rfl) rfl rfl (by kernel_rfl) fun b9 hb9 => ?_
  refine SL.append_rowO (ri := 4) (rj := 6) (z := iw 0) (bytes := 8) rfl rfl (lt_b rfl) rfl Try.underlying26 (by kernel_rfl) rfl rfl rfl rfl rfl rfl (by first | omega | (rw [ivs_len]; omega)) (by unfold maxLen; first | omega | (rw [ivs_len]; omega)) (fun b hb => hqm b hb) fun q10 c11 hq12 => ?_
  refine SL.nk ?_
  refine SL.uu (ru_fieldAddr (o2 := 7) fd43_7 rfl rfl rfl) ?_
  refine SL.store (i := 0) (c' := [pt d 0, pt p 0, pt r 0, pt e 0, pt q 0, pt s 0, Value.slice qc come.length cc, Value.slice q10 (mine.length + 1) c11]) rfl rfl ts26 rfl rfl rfl rfl rfl (lt_b rfl) hg rfl ?_
  refine SL.nn [(0, pt g 0), (3, pt b1 0), (4, bo false), (5, iw ((getF S.L).1.1)), (7, iw ((getF Z.L).1.1))] [rBlk g [pt d 0, pt p 0, pt r 0, pt e 0, pt q 0, pt s 0, Value.slice qc come.length cc, Value.slice q10 (mine.length + 1) c11] 43, rRing r d p ab F2 ({ S with L := (getF S.L).2 }), rRefR s e q K5 Z4, rRowO (.slice qc come.length cc) (ivs come) 3, rRowO (.slice q10 (mine.length + 1) c11) (ivs mine ++ [iw ((getF Z.L).1.1)]) 3, rBlk b1 [iw k, iw m, Value.slice fa f.length fc, bo y] 30, rBlk b9 [iw ((getF Z.L).1.1)] 3] ⟨rfl, rfl, rfl, rfl, rfl, trivial⟩ ?_
  refine SC.sr ?_
  refine SL.uu (ru_fieldAddr (o2 := 1) fd30_1 rfl rfl rfl) ?_
  refine SL.uu (ru_load (i := 5) ts3 rfl rfl rfl rfl) ?_
  refine SL.as ?_
  refine SL.nn [(0, pt g 0), (3, pt b1 0), (4, bo false), (5, iw ((getF S.L).1.1)), (7, iw ((getF Z.L).1.1)), (9, iw m)] _ ⟨rfl, rfl, rfl, rfl, rfl, rfl, trivial⟩ ?_
  refine SC.seq ?_
  refine SC.sr ?_
  refine SL.mv ?_
  refine SL.uu (ru_lt (b := (decide ((m : Int) < 0))) rfl rfl rfl rfl) ?_
  refine SL.mv ?_
  refine SL.join 6 [(0, pt g 0), (3, pt b1 0), (4, bo false), (5, iw ((getF S.L).1.1)), (7, iw ((getF Z.L).1.1)), (9, iw m), (48, iw m), (49, bo (decide ((m : Int) < 0))), (50, bo (decide ((m : Int) < 0))), (56, bo ((decide ((m : Int) < 0)) || (decide (((f.length : Int) : Int) < m))))] [rBlk g [pt d 0, pt p 0, pt r 0, pt e 0, pt q 0, pt s 0, Value.slice qc come.length cc, Value.slice q10 (mine.length + 1) c11] 43, rRing r d p ab F2 ({ S with L := (getF S.L).2 }), rRefR s e q K5 Z4, rRowO (.slice qc come.length cc) (ivs come) 3, rRowO (.slice q10 (mine.length + 1) c11) (ivs mine ++ [iw ((getF Z.L).1.1)]) 3, rBlk b1 [iw k, iw m, Value.slice fa f.length fc, bo y] 30, rBlk b9 [iw ((getF Z.L).1.1)] 3] ?_ ?_
  rotate_left
  · intro K hK
    rcases tf (decide ((m : Int) < 0)) with h13 | h13
    · skip
      refine SL.norm [(0, pt g 0), (3, pt b1 0), (4, bo false), (5, iw ((getF S.L).1.1)), (7, iw ((getF Z.L).1.1)), (9, iw m), (48, iw m), (49, bo true), (50, bo true)] _ ⟨rfl, rfl, rfl, rfl, rfl, rfl, rfl, (congrArg (fun x => some (Value.bool x)) h13), (congrArg (fun x => some (Value.bool x)) h13), trivial⟩ rfl ?_
      refine SL.oo ?_
      refine SL.oo ?_
      refine SL.oo ?_
      refine SL.oo ?_
      refine SL.oo ?_
      refine SL.uu (ru_pick (u := bo true) (v := undef) rfl rfl rfl rfl) ?_
      exact SL.joined hK ⟨rfl, rfl, rfl, rfl, rfl, rfl, rfl, (congrArg (fun x => some (Value.bool x)) h13.symm), (congrArg (fun x => some (Value.bool x)) h13.symm), (congrArg (fun bx => some (Value.bool (bx || (decide (((f.length : Int) : Int) < m))))) h13.symm), trivial⟩ rfl
    refine SL.norm [(0, pt g 0), (3, pt b1 0), (4, bo false), (5, iw ((getF S.L).1.1)), (7, iw ((getF Z.L).1.1)), (9, iw m), (48, iw m), (49, bo false), (50, bo false)] _ ⟨rfl, rfl, rfl, rfl, rfl, rfl, rfl, (congrArg (fun x => some (Value.bool x)) h13), (congrArg (fun x => some (Value.bool x)) h13), trivial⟩ rfl ?_
    refine SL.gg (ru_move rfl rfl) ?_
    refine SL.gg (ru_fieldAddr (o2 := 2) fd30_2 rfl rfl rfl) ?_
    refine SL.gg (ru_load (i := 5) ts28 rfl rfl rfl rfl) ?_
    refine SL.gg (ru_len Try.underlying28 rfl rfl) ?_
    refine SL.gg (ru_gt (b := (decide (((f.length : Int) : Int) < m))) rfl rfl rfl rfl) ?_
    refine SL.uu (ru_pick (u := bo true) (v := bo (decide (((f.length : Int) : Int) < m))) rfl rfl rfl rfl) ?_
    exact SL.joined hK ⟨rfl, rfl, rfl, rfl, rfl, rfl, rfl, (congrArg (fun x => some (Value.bool x)) h13.symm), (congrArg (fun x => some (Value.bool x)) h13.symm), (congrArg (fun bx => some (Value.bool (bx || (decide (((f.length : Int) : Int) < m))))) h13.symm), trivial⟩ rfl
  skip
  refine SL.nn [(0, pt g 0), (3, pt b1 0), (4, bo false), (5, iw ((getF S.L).1.1)), (7, iw ((getF Z.L).1.1)), (9, iw m), (56, bo ((decide ((m : Int) < 0)) || (decide (((f.length : Int) : Int) < m))))] _ ⟨rfl, rfl, rfl, rfl, rfl, rfl, rfl, trivial⟩ ?_
  refine SC.both ((decide ((m : Int) < 0)) || (decide (((f.length : Int) : Int) < m))) rfl (fun h14 => ?_) (fun h14 => ?_)
  · skip
    refine SC.region ?_
    refine SL.as ?_
    refine SL.nn [(0, pt g 0), (3, pt b1 0), (4, bo false), (5, iw ((getF S.L).1.1)), (7, iw ((getF Z.L).1.1)), (9, iw 0)] _ ⟨rfl, rfl, rfl, rfl, rfl, rfl, trivial⟩ ?_
    refine SC.seq ?_
    refine SC.region_tail 9 (by kernel_rfl) (by kernel_rfl) ?_
    refine SQ.uu (ru_move rfl rfl) ?_
    refine SQ.uu (ru_nilCheck rfl rfl) ?_
    refine SQ.uu (ru_fieldAddr (o2 := 1) fd43_1 rfl rfl rfl) ?_
    refine SQ.uu (ru_load (i := 0) ts37 rfl rfl rfl rfl) ?_
    refine SQ.uu (ru_move rfl rfl) ?_
    refine SQ.uu (ru_fieldAddr (o2 := 2) fd30_2 rfl rfl rfl) ?_
    refine SQ.uu (ru_load (i := 5) ts28 rfl rfl rfl rfl) ?_
    refine SQ.uu (ru_move rfl rfl) ?_
    refine SQ.uu (ru_slice (size := 1) (l0 := 0) (h0 := f.length) (m0 := fc) si28 rfl rfl rfl rfl rfl (by simp) (Nat.le_refl _) (hfc) (by omega)) ?_
    refine SQ.nilL ?_
    refine SL.call (ζ := Nat → Prop) (fun F15 => iw ((ownF ({ S with L := (getF S.L).2 }).L ((getF S.L).1.1) (setF (f.drop 0))).1)) (fun F15 => [rBlk g [pt d 0, pt p 0, pt r 0, pt e 0, pt q 0, pt s 0, Value.slice qc come.length cc, Value.slice q10 (mine.length + 1) c11] 43, rRing r d p ab F15 ({ { S with L := (getF S.L).2 } with L := (ownF ({ S with L := (getF S.L).2 }).L ((getF S.L).1.1) (setF (f.drop 0))).2 }), rRefR s e q K5 Z4, rRowO (.slice qc come.length cc) (ivs come) 3, rRowO (.slice q10 (mine.length + 1) c11) (ivs mine ++ [iw ((getF Z.L).1.1)]) 3, rBlk b1 [iw k, iw m, Value.slice fa f.length fc, bo y] 30, rBlk b9 [iw ((getF Z.L).1.1)] 3]) (fun F15 => (∀ b, F15 b → G b ∨ w.heap.size ≤ b)) rfl rfl co18 rfl rfl rfl (lt_b rfl) (fun w hI => (set_any (ring_at hI (i := 1) rfl).pool ((getF S.L).1.1) (sub_drop (k := 0) (hbs.only hI.2 hbx) (by omega)) (sub_in hbs (hbl.mono fun b hb e1 => hb ⟨rRing r d p ab F S, by simp, rS_rfp (.inr (.inr (.inr e1)))⟩) (by omega))).mono fun e w2 ⟨h1, h2⟩ => by obtain ⟨F2, k1, k2⟩ := hI.ringTo (F0 := G) (i := 1) rfl hG ((ring_at hI (i := 1) rfl).poolTo h2) hF2; exact ⟨F2, h1, k1, k2⟩) ?_
    intro F15 hF15
    refine SL.nn [(0, pt g 0), (3, pt b1 0), (4, bo false), (5, iw ((getF S.L).1.1)), (7, iw ((getF Z.L).1.1)), (9, iw 0)] [rBlk g [pt d 0, pt p 0, pt r 0, pt e 0, pt q 0, pt s 0, Value.slice qc come.length cc, Value.slice q10 (mine.length + 1) c11] 43, rRing r d p ab F15 ({ { S with L := (getF S.L).2 } with L := (ownF ({ S with L := (getF S.L).2 }).L ((getF S.L).1.1) (setF (f.drop 0))).2 }), rRefR s e q K5 Z4, rRowO (.slice qc come.length cc) (ivs come) 3, rRowO (.slice q10 (mine.length + 1) c11) (ivs mine ++ [iw ((getF Z.L).1.1)]) 3, rBlk b1 [iw k, iw m, Value.slice fa f.length fc, bo y] 30, rBlk b9 [iw ((getF Z.L).1.1)] 3] ⟨rfl, rfl, rfl, rfl, rfl, rfl, trivial⟩ ?_
    refine SC.seq ?_
    refine SC.region_tail 9 (by kernel_rfl) (by kernel_rfl) ?_
    refine SQ.uu (ru_move rfl rfl) ?_
    refine SQ.uu (ru_nilCheck rfl rfl) ?_
    refine SQ.uu (ru_fieldAddr (o2 := 4) fd43_4 rfl rfl rfl) ?_
    refine SQ.uu (ru_load (i := 0) ts40 rfl rfl rfl rfl) ?_
    refine SQ.uu (ru_move rfl rfl) ?_
    refine SQ.uu (ru_fieldAddr (o2 := 2) fd30_2 rfl rfl rfl) ?_
    refine SQ.uu (ru_load (i := 5) ts28 rfl rfl rfl rfl) ?_
    refine SQ.uu (ru_move rfl rfl) ?_
    refine SQ.uu (ru_slice (size := 1) (l0 := 0) (h0 := f.length) (m0 := fc) si28 rfl rfl rfl rfl rfl (by simp) (Nat.le_refl _) (hfc) (by omega)) ?_
    refine SQ.nilL ?_
    refine SL.call (ζ := Unit × RefS × (Nat → Prop)) (fun z => iw ((ownF Z4.L ((getF Z.L).1.1) (setF (f.drop 0))).1)) (fun z => [rBlk g [pt d 0, pt p 0, pt r 0, pt e 0, pt q 0, pt s 0, Value.slice qc come.length cc, Value.slice q10 (mine.length + 1) c11] 43, rRing r d p ab F15 ({ { S with L := (getF S.L).2 } with L := (ownF ({ S with L := (getF S.L).2 }).L ((getF S.L).1.1) (setF (f.drop 0))).2 }), rRefR s e q z.2.2 z.2.1, rRowO (.slice qc come.length cc) (ivs come) 3, rRowO (.slice q10 (mine.length + 1) c11) (ivs mine ++ [iw ((getF Z.L).1.1)]) 3, rBlk b1 [iw k, iw m, Value.slice fa f.length fc, bo y] 30, rBlk b9 [iw ((getF Z.L).1.1)] 3]) (fun z => RB (B) z.2.1 ∧ ∀ b, z.2.2 b → G b ∨ w.heap.size ≤ b) rfl rfl co67 rfl rfl rfl (lt_b rfl) (fun w9 hI => by refine rr_pool (v := iw ((ownF Z4.L ((getF Z.L).1.1) (setF (f.drop 0))).1)) (L' := (ownF Z4.L ((getF Z.L).1.1) (setF (f.drop 0))).2) (B' := B) (Z := Z4) (G := K5) (s := s) (e := e) (q := q) (j := 2) hI rfl hK5 hZ4 ?_ ?_; exact lim_own hZ4.lim h1B ((getF Z.L).1.1) (setF_lim (f.drop 0)); intro rb F hP; exact rset_any hP ((getF Z.L).1.1) (sub_drop (k := 0) (hbs.only hI.2 hbx) (by omega))) ?_
    rintro ⟨x16, Z17, K18⟩ ⟨hZ17, hK18⟩
    refine SL.nn [(0, pt g 0), (3, pt b1 0), (4, bo false), (5, iw ((getF S.L).1.1)), (7, iw ((getF Z.L).1.1)), (9, iw 0)] [rBlk g [pt d 0, pt p 0, pt r 0, pt e 0, pt q 0, pt s 0, Value.slice qc come.length cc, Value.slice q10 (mine.length + 1) c11] 43, rRing r d p ab F15 ({ { S with L := (getF S.L).2 } with L := (ownF ({ S with L := (getF S.L).2 }).L ((getF S.L).1.1) (setF (f.drop 0))).2 }), rRefR s e q K18 Z17, rRowO (.slice qc come.length cc) (ivs come) 3, rRowO (.slice q10 (mine.length + 1) c11) (ivs mine ++ [iw ((getF Z.L).1.1)]) 3, rBlk b1 [iw k, iw m, Value.slice fa f.length fc, bo y] 30, rBlk b9 [iw ((getF Z.L).1.1)] 3] ⟨rfl, rfl, rfl, rfl, rfl, rfl, trivial⟩ ?_
    refine SC.seq ?_
    have hcb20 := CU.base (X := ⟨98, w, G⟩) (l := [rBlk g [pt d 0, pt p 0, pt r 0, pt e 0, pt q 0, pt s 0, Value.slice qc come.length cc, Value.slice q10 (mine.length + 1) c11] 43, rRing r d p ab F15 ({ { S with L := (getF S.L).2 } with L := (ownF ({ S with L := (getF S.L).2 }).L ((getF S.L).1.1) (setF (f.drop 0))).2 }), rRefR s e q K18 Z17, rRowO (.slice qc come.length cc) (ivs come) 3, rRowO (.slice q10 (mine.length + 1) c11) (ivs mine ++ [iw ((getF Z.L).1.1)]) 3, rBlk b1 [iw k, iw m, Value.slice fa f.length fc, bo y] 30, rBlk b9 [iw ((getF Z.L).1.1)] 3]) (l2 := fun (F19 : Nat → Prop) => [rBlk g [pt d 0, pt p 0, pt r 0, pt e 0, pt q 0, pt s 0, Value.slice qc come.length cc, Value.slice q10 (mine.length + 1) c11] 43, rRing r d p ab F19 ({ { { S with L := (getF S.L).2 } with L := (ownF ({ S with L := (getF S.L).2 }).L ((getF S.L).1.1) (setF (f.drop 0))).2 } with L := (ownF ({ { S with L := (getF S.L).2 } with L := (ownF ({ S with L := (getF S.L).2 }).L ((getF S.L).1.1) (setF (f.drop 0))).2 }).L ((getF S.L).1.1) (headF (f.take 0))).2 }), rRefR s e q K18 Z17, rRowO (.slice qc come.length cc) (ivs come) 3, rRowO (.slice q10 (mine.length + 1) c11) (ivs mine ++ [iw ((getF Z.L).1.1)]) 3, rBlk b1 [iw k, iw m, Value.slice fa f.length fc, bo y] 30, rBlk b9 [iw ((getF Z.L).1.1)] 3]) (p := fun (F19 : Nat → Prop) => (∀ b, F19 b → G b ∨ w.heap.size ≤ b)) (k := 9) (lb := [rBlk g [pt d 0, pt p 0, pt r 0, pt e 0, pt q 0, pt s 0, Value.slice qc come.length cc, Value.slice q10 (mine.length + 1) c11] 43, rNone, rRefR s e q K18 Z17, rRowO (.slice qc come.length cc) (ivs come) 3, rRowO (.slice q10 (mine.length + 1) c11) (ivs mine ++ [iw ((getF Z.L).1.1)]) 3, rBlk b1 [iw k, iw m, Value.slice fa f.length fc, bo y] 30, rBlk b9 [iw ((getF Z.L).1.1)] 3]) (fun w hI => hI.weak (i := 1) (r' := rNone) rfl (fun _ => trivial) (fun b hb => hb.elim)) (fun z w hI => hI.weak (i := 1) (r' := rNone) rfl (fun _ => trivial) (fun b hb => hb.elim))
    refine SC.region_turn (ζ := Nat → Prop) 19 9 (fun F19 => [rBlk g [pt d 0, pt p 0, pt r 0, pt e 0, pt q 0, pt s 0, Value.slice qc come.length cc, Value.slice q10 (mine.length + 1) c11] 43, rRing r d p ab F19 ({ { { S with L := (getF S.L).2 } with L := (ownF ({ S with L := (getF S.L).2 }).L ((getF S.L).1.1) (setF (f.drop 0))).2 } with L := (ownF ({ { S with L := (getF S.L).2 } with L := (ownF ({ S with L := (getF S.L).2 }).L ((getF S.L).1.1) (setF (f.drop 0))).2 }).L ((getF S.L).1.1) (headF (f.take 0))).2 }), rRefR s e q K18 Z17, rRowO (.slice qc come.length cc) (ivs come) 3, rRowO (.slice q10 (mine.length + 1) c11) (ivs mine ++ [iw ((getF Z.L).1.1)]) 3, rBlk b1 [iw k, iw m, Value.slice fa f.length fc, bo y] 30, rBlk b9 [iw ((getF Z.L).1.1)] 3]) (fun F19 => (∀ b, F19 b → G b ∨ w.heap.size ≤ b)) (by kernel_rfl) (by kernel_rfl) rfl ?_
    refine SS.ru _ hcb20 rfl rfl rfl (lt_b rfl) (ru_move rfl rfl) ?_
    refine SS.ru _ hcb20 rfl rfl rfl (lt_b rfl) (ru_nilCheck rfl rfl) ?_
    refine SS.ru _ hcb20 rfl rfl rfl (lt_b rfl) (ru_fieldAddr (o2 := 1) fd43_1 rfl rfl rfl) ?_
    refine SS.ru _ hcb20 rfl rfl rfl (lt_b rfl) (ru_load (i := 0) ts37 rfl rfl rfl rfl) ?_
    refine SS.ru _ hcb20 rfl rfl rfl (lt_b rfl) (ru_move rfl rfl) ?_
    refine SS.ru _ hcb20 rfl rfl rfl (lt_b rfl) (ru_fieldAddr (o2 := 2) fd30_2 rfl rfl rfl) ?_
    refine SS.ru _ hcb20 rfl rfl rfl (lt_b rfl) (ru_load (i := 5) ts28 rfl rfl rfl rfl) ?_
    refine SS.ru _ hcb20 rfl rfl rfl (lt_b rfl) (ru_move rfl rfl) ?_
    refine SS.ru _ hcb20 rfl rfl rfl (lt_b rfl) (ru_slice (size := 1) (l0 := 0) (h0 := 0) (m0 := fc) si28 rfl rfl rfl rfl rfl (by simp) (Nat.le_refl _) (by have := hfc; omega) (Nat.zero_le _)) ?_
    refine SS.turnc (iw ((ownF ({ { S with L := (getF S.L).2 } with L := (ownF ({ S with L := (getF S.L).2 }).L ((getF S.L).1.1) (setF (f.drop 0))).2 }).L ((getF S.L).1.1) (headF (f.take 0))).1)) rfl rfl co68 rfl rfl rfl (lt_b rfl) (fun w hI => (front_any (ring_at hI (i := 1) rfl).pool ((getF S.L).1.1) (sub_take (k := 0) (hbs.only hI.2 hbx) (by omega))).mono fun e w2 ⟨h1, h2⟩ => by obtain ⟨F2, k1, k2⟩ := hI.ringTo (F0 := G) (i := 1) rfl hG ((ring_at hI (i := 1) rfl).poolTo h2) hF15; exact ⟨F2, h1, k1, k2⟩) ?_
    refine SS.ru _ hcb20 rfl rfl rfl (lt_b rfl) (ru_move rfl rfl) ?_
    refine SS.ru _ hcb20 rfl rfl rfl (lt_b rfl) (ru_nilCheck rfl rfl) ?_
    refine SS.ru _ hcb20 rfl rfl rfl (lt_b rfl) (ru_fieldAddr (o2 := 4) fd43_4 rfl rfl rfl) ?_
    refine SS.ru _ hcb20 rfl rfl rfl (lt_b rfl) (ru_load (i := 0) ts40 rfl rfl rfl rfl) ?_
    refine SS.ru _ hcb20 rfl rfl rfl (lt_b rfl) (ru_move rfl rfl) ?_
    refine SS.ru _ hcb20 rfl rfl rfl (lt_b rfl) (ru_fieldAddr (o2 := 2) fd30_2 rfl rfl rfl) ?_
    refine SS.ru _ hcb20 rfl rfl rfl (lt_b rfl) (ru_load (i := 5) ts28 rfl rfl rfl rfl) ?_
    refine SS.ru _ hcb20 rfl rfl rfl (lt_b rfl) (ru_move rfl rfl) ?_
    refine SS.ru _ hcb20 rfl rfl rfl (lt_b rfl) (ru_slice (size := 1) (l0 := 0) (h0 := 0) (m0 := fc) si28 rfl rfl rfl rfl rfl (by simp) (Nat.le_refl _) (by have := hfc; omega) (Nat.zero_le _)) ?_
    refine SS.nilU ?_
    intro F19 hF19
    refine SL.call (ζ := Unit × RefS × (Nat → Prop)) (fun z => iw ((ownF Z17.L ((getF Z.L).1.1) (headF (f.take 0))).1)) (fun z => [rBlk g [pt d 0, pt p 0, pt r 0, pt e 0, pt q 0, pt s 0, Value.slice qc come.length cc, Value.slice q10 (mine.length + 1) c11] 43, rRing r d p ab F19 ({ { { S with L := (getF S.L).2 } with L := (ownF ({ S with L := (getF S.L).2 }).L ((getF S.L).1.1) (setF (f.drop 0))).2 } with L := (ownF ({ { S with L := (getF S.L).2 } with L := (ownF ({ S with L := (getF S.L).2 }).L ((getF S.L).1.1) (setF (f.drop 0))).2 }).L ((getF S.L).1.1) (headF (f.take 0))).2 }), rRefR s e q z.2.2 z.2.1, rRowO (.slice qc come.length cc) (ivs come) 3, rRowO (.slice q10 (mine.length + 1) c11) (ivs mine ++ [iw ((getF Z.L).1.1)]) 3, rBlk b1 [iw k, iw m, Value.slice fa f.length fc, bo y] 30, rBlk b9 [iw ((getF Z.L).1.1)] 3]) (fun z => RB (B) z.2.1 ∧ ∀ b, z.2.2 b → G b ∨ w.heap.size ≤ b) rfl rfl co69 rfl rfl rfl (lt_b rfl) (fun w9 hI => by refine rr_pool (v := iw ((ownF Z17.L ((getF Z.L).1.1) (headF (f.take 0))).1)) (L' := (ownF Z17.L ((getF Z.L).1.1) (headF (f.take 0))).2) (B' := B) (Z := Z17) (G := K18) (s := s) (e := e) (q := q) (j := 2) hI rfl hK18 hZ17 ?_ ?_; exact lim_own hZ17.lim h1B ((getF Z.L).1.1) (headF_lim (f.take 0)); intro rb F hP; exact rfront_any hP ((getF Z.L).1.1) (sub_take (k := 0) (hbs.only hI.2 hbx) (by omega))) ?_
    rintro ⟨x21, Z22, K23⟩ ⟨hZ22, hK23⟩
    refine SL.uu (ru_eq (b := ((((ownF ({ { S with L := (getF S.L).2 } with L := (ownF ({ S with L := (getF S.L).2 }).L ((getF S.L).1.1) (setF (f.drop 0))).2 }).L ((getF S.L).1.1) (headF (f.take 0))).1) : Int) == ((ownF Z17.L ((getF Z.L).1.1) (headF (f.take 0))).1))) rfl rfl rfl rfl) ?_
    refine SL.as ?_
    refine SL.nn [(4, bo ((((ownF ({ { S with L := (getF S.L).2 } with L := (ownF ({ S with L := (getF S.L).2 }).L ((getF S.L).1.1) (setF (f.drop 0))).2 }).L ((getF S.L).1.1) (headF (f.take 0))).1) : Int) == ((ownF Z17.L ((getF Z.L).1.1) (headF (f.take 0))).1)))] [rBlk g [pt d 0, pt p 0, pt r 0, pt e 0, pt q 0, pt s 0, Value.slice qc come.length cc, Value.slice q10 (mine.length + 1) c11] 43, rRing r d p ab F19 ({ { { S with L := (getF S.L).2 } with L := (ownF ({ S with L := (getF S.L).2 }).L ((getF S.L).1.1) (setF (f.drop 0))).2 } with L := (ownF ({ { S with L := (getF S.L).2 } with L := (ownF ({ S with L := (getF S.L).2 }).L ((getF S.L).1.1) (setF (f.drop 0))).2 }).L ((getF S.L).1.1) (headF (f.take 0))).2 }), rRefR s e q K23 Z22, rRowO (.slice qc come.length cc) (ivs come) 3, rRowO (.slice q10 (mine.length + 1) c11) (ivs mine ++ [iw ((getF Z.L).1.1)]) 3, rBlk b1 [iw k, iw m, Value.slice fa f.length fc, bo y] 30, rBlk b9 [iw ((getF Z.L).1.1)] 3] ⟨rfl, trivial⟩ ?_
    refine SC.ret ?_
    refine SE.res (.inl rfl) (res1 Try.results44 rfl) fun w1 hI => ⟨⟨_, rfl⟩, ⟨{ { { S with L := (getF S.L).2 } with L := (ownF ({ S with L := (getF S.L).2 }).L ((getF S.L).1.1) (setF (f.drop 0))).2 } with L := (ownF ({ { S with L := (getF S.L).2 } with L := (ownF ({ S with L := (getF S.L).2 }).L ((getF S.L).1.1) (setF (f.drop 0))).2 }).L ((getF S.L).1.1) (headF (f.take 0))).2 }, F19, Z22, K23, come, mine ++ [(getF Z.L).1.1], qc, cc, q10, c11⟩, ((hj2.own (by rw [hab]; simp) (setF_refs _)).own (by rw [hab]; simp) (headF_refs _)), hZ22.up, rfl, ?_, ⟨hg, hG, hF19, hK23, hqc, (by simpa only [List.length_append, List.length_singleton] using hq12)⟩, hI.2⟩
    have e1 : mine.length + 1 = (mine ++ [(getF Z.L).1.1]).length := by simp
    rw [ivs_snoc, e1] at hI
    exact (hI.pick (js := [0, 1, 2, 3, 4]) rfl).1
  obtain ⟨k0, rfl, hk0⟩ := cut_of h14
  refine SC.skip ?_
  refine SC.of_SE ?_
  refine SC.norm [(0, pt g 0), (3, pt b1 0), (4, bo false), (5, iw ((getF S.L).1.1)), (7, iw ((getF Z.L).1.1)), (9, iw (k0 : Int))] [rBlk g [pt d 0, pt p 0, pt r 0, pt e 0, pt q 0, pt s 0, Value.slice qc come.length cc, Value.slice q10 (mine.length + 1) c11] 43, rRing r d p ab F2 ({ S with L := (getF S.L).2 }), rRefR s e q K5 Z4, rRowO (.slice qc come.length cc) (ivs come) 3, rRowO (.slice q10 (mine.length + 1) c11) (ivs mine ++ [iw ((getF Z.L).1.1)]) 3, rBlk b1 [iw k, iw (k0 : Int), Value.slice fa f.length fc, bo y] 30, rBlk b9 [iw ((getF Z.L).1.1)] 3] ⟨rfl, rfl, rfl, rfl, rfl, rfl, trivial⟩ rfl ?_
  refine SC.seq ?_
  refine SC.region_tail 9 (by kernel_rfl) (by kernel_rfl) ?_
  refine SQ.uu (ru_move rfl rfl) ?_
  refine SQ.uu (ru_nilCheck rfl rfl) ?_
  refine SQ.uu (ru_fieldAddr (o2 := 1) fd43_1 rfl rfl rfl) ?_
  refine SQ.uu (ru_load (i := 0) ts37 rfl rfl rfl rfl) ?_
  refine SQ.uu (ru_move rfl rfl) ?_
  refine SQ.uu (ru_fieldAddr (o2 := 2) fd30_2 rfl rfl rfl) ?_
  refine SQ.uu (ru_load (i := 5) ts28 rfl rfl rfl rfl) ?_
  refine SQ.uu (ru_move rfl rfl) ?_
  refine SQ.uu (ru_slice (size := 1) (l0 := k0) (h0 := f.length) (m0 := fc) si28 rfl rfl rfl rfl rfl (by simp) (Nat.le_refl _) (hfc) (by omega)) ?_
  refine SQ.nilL ?_
  refine SL.call (ζ := Nat → Prop) (fun F24 => iw ((ownF ({ S with L := (getF S.L).2 }).L ((getF S.L).1.1) (setF (f.drop k0))).1)) (fun F24 => [rBlk g [pt d 0, pt p 0, pt r 0, pt e 0, pt q 0, pt s 0, Value.slice qc come.length cc, Value.slice q10 (mine.length + 1) c11] 43, rRing r d p ab F24 ({ { S with L := (getF S.L).2 } with L := (ownF ({ S with L := (getF S.L).2 }).L ((getF S.L).1.1) (setF (f.drop k0))).2 }), rRefR s e q K5 Z4, rRowO (.slice qc come.length cc) (ivs come) 3, rRowO (.slice q10 (mine.length + 1) c11) (ivs mine ++ [iw ((getF Z.L).1.1)]) 3, rBlk b1 [iw k, iw (k0 : Int), Value.slice fa f.length fc, bo y] 30, rBlk b9 [iw ((getF Z.L).1.1)] 3]) (fun F24 => (∀ b, F24 b → G b ∨ w.heap.size ≤ b)) rfl rfl co18 rfl rfl rfl (lt_b rfl) (fun w hI => (set_any (ring_at hI (i := 1) rfl).pool ((getF S.L).1.1) (sub_drop (k := k0) (hbs.only hI.2 hbx) (by omega)) (sub_in hbs (hbl.mono fun b hb e1 => hb ⟨rRing r d p ab F S, by simp, rS_rfp (.inr (.inr (.inr e1)))⟩) (by omega))).mono fun e w2 ⟨h1, h2⟩ => by obtain ⟨F2, k1, k2⟩ := hI.ringTo (F0 := G) (i := 1) rfl hG ((ring_at hI (i := 1) rfl).poolTo h2) hF2; exact ⟨F2, h1, k1, k2⟩) ?_
  intro F24 hF24
  refine SL.nn [(0, pt g 0), (3, pt b1 0), (4, bo false), (5, iw ((getF S.L).1.1)), (7, iw ((getF Z.L).1.1)), (9, iw (k0 : Int))] [rBlk g [pt d 0, pt p 0, pt r 0, pt e 0, pt q 0, pt s 0, Value.slice qc come.length cc, Value.slice q10 (mine.length + 1) c11] 43, rRing r d p ab F24 ({ { S with L := (getF S.L).2 } with L := (ownF ({ S with L := (getF S.L).2 }).L ((getF S.L).1.1) (setF (f.drop k0))).2 }), rRefR s e q K5 Z4, rRowO (.slice qc come.length cc) (ivs come) 3, rRowO (.slice q10 (mine.length + 1) c11) (ivs mine ++ [iw ((getF Z.L).1.1)]) 3, rBlk b1 [iw k, iw (k0 : Int), Value.slice fa f.length fc, bo y] 30, rBlk b9 [iw ((getF Z.L).1.1)] 3] ⟨rfl, rfl, rfl, rfl, rfl, rfl, trivial⟩ ?_
  refine SC.seq ?_
  refine SC.region_tail 9 (by kernel_rfl) (by kernel_rfl) ?_
  refine SQ.uu (ru_move rfl rfl) ?_
  refine SQ.uu (ru_nilCheck rfl rfl) ?_
  refine SQ.uu (ru_fieldAddr (o2 := 4) fd43_4 rfl rfl rfl) ?_
  refine SQ.uu (ru_load (i := 0) ts40 rfl rfl rfl rfl) ?_
  refine SQ.uu (ru_move rfl rfl) ?_
  refine SQ.uu (ru_fieldAddr (o2 := 2) fd30_2 rfl rfl rfl) ?_
  refine SQ.uu (ru_load (i := 5) ts28 rfl rfl rfl rfl) ?_
  refine SQ.uu (ru_move rfl rfl) ?_
  refine SQ.uu (ru_slice (size := 1) (l0 := k0) (h0 := f.length) (m0 := fc) si28 rfl rfl rfl rfl rfl (by simp) (Nat.le_refl _) (hfc) (by omega)) ?_
  refine SQ.nilL ?_
  refine SL.call (ζ := Unit × RefS × (Nat → Prop)) (fun z => iw ((ownF Z4.L ((getF Z.L).1.1) (setF (f.drop k0))).1)) (fun z => [rBlk g [pt d 0, pt p 0, pt r 0, pt e 0, pt q 0, pt s 0, Value.slice qc come.length cc, Value.slice q10 (mine.length + 1) c11] 43, rRing r d p ab F24 ({ { S with L := (getF S.L).2 } with L := (ownF ({ S with L := (getF S.L).2 }).L ((getF S.L).1.1) (setF (f.drop k0))).2 }), rRefR s e q z.2.2 z.2.1, rRowO (.slice qc come.length cc) (ivs come) 3, rRowO (.slice q10 (mine.length + 1) c11) (ivs mine ++ [iw ((getF Z.L).1.1)]) 3, rBlk b1 [iw k, iw (k0 : Int), Value.slice fa f.length fc, bo y] 30, rBlk b9 [iw ((getF Z.L).1.1)] 3]) (fun z => RB (B) z.2.1 ∧ ∀ b, z.2.2 b → G b ∨ w.heap.size ≤ b) rfl rfl co67 rfl rfl rfl (lt_b rfl) (fun w9 hI => by refine rr_pool (v := iw ((ownF Z4.L ((getF Z.L).1.1) (setF (f.drop k0))).1)) (L' := (ownF Z4.L ((getF Z.L).1.1) (setF (f.drop k0))).2) (B' := B) (Z := Z4) (G := K5) (s := s) (e := e) (q := q) (j := 2) hI rfl hK5 hZ4 ?_ ?_; exact lim_own hZ4.lim h1B ((getF Z.L).1.1) (setF_lim (f.drop k0)); intro rb F hP; exact rset_any hP ((getF Z.L).1.1) (sub_drop (k := k0) (hbs.only hI.2 hbx) (by omega))) ?_
  rintro ⟨x25, Z26, K27⟩ ⟨hZ26, hK27⟩
  refine SL.nn [(0, pt g 0), (3, pt b1 0), (4, bo false), (5, iw ((getF S.L).1.1)), (7, iw ((getF Z.L).1.1)), (9, iw (k0 : Int))] [rBlk g [pt d 0, pt p 0, pt r 0, pt e 0, pt q 0, pt s 0, Value.slice qc come.length cc, Value.slice q10 (mine.length + 1) c11] 43, rRing r d p ab F24 ({ { S with L := (getF S.L).2 } with L := (ownF ({ S with L := (getF S.L).2 }).L ((getF S.L).1.1) (setF (f.drop k0))).2 }), rRefR s e q K27 Z26, rRowO (.slice qc come.length cc) (ivs come) 3, rRowO (.slice q10 (mine.length + 1) c11) (ivs mine ++ [iw ((getF Z.L).1.1)]) 3, rBlk b1 [iw k, iw (k0 : Int), Value.slice fa f.length fc, bo y] 30, rBlk b9 [iw ((getF Z.L).1.1)] 3] ⟨rfl, rfl, rfl, rfl, rfl, rfl, trivial⟩ ?_
  refine SC.seq ?_
  have hcb29 := CU.base (X := ⟨98, w, G⟩) (l := [rBlk g [pt d 0, pt p 0, pt r 0, pt e 0, pt q 0, pt s 0, Value.slice qc come.length cc, Value.slice q10 (mine.length + 1) c11] 43, rRing r d p ab F24 ({ { S with L := (getF S.L).2 } with L := (ownF ({ S with L := (getF S.L).2 }).L ((getF S.L).1.1) (setF (f.drop k0))).2 }), rRefR s e q K27 Z26, rRowO (.slice qc come.length cc) (ivs come) 3, rRowO (.slice q10 (mine.length + 1) c11) (ivs mine ++ [iw ((getF Z.L).1.1)]) 3, rBlk b1 [iw k, iw (k0 : Int), Value.slice fa f.length fc, bo y] 30, rBlk b9 [iw ((getF Z.L).1.1)] 3]) (l2 := fun (F28 : Nat → Prop) => [rBlk g [pt d 0, pt p 0, pt r 0, pt e 0, pt q 0, pt s 0, Value.slice qc come.length cc, Value.slice q10 (mine.length + 1) c11] 43, rRing r d p ab F28 ({ { { S with L := (getF S.L).2 } with L := (ownF ({ S with L := (getF S.L).2 }).L ((getF S.L).1.1) (setF (f.drop k0))).2 } with L := (ownF ({ { S with L := (getF S.L).2 } with L := (ownF ({ S with L := (getF S.L).2 }).L ((getF S.L).1.1) (setF (f.drop k0))).2 }).L ((getF S.L).1.1) (headF (f.take k0))).2 }), rRefR s e q K27 Z26, rRowO (.slice qc come.length cc) (ivs come) 3, rRowO (.slice q10 (mine.length + 1) c11) (ivs mine ++ [iw ((getF Z.L).1.1)]) 3, rBlk b1 [iw k, iw (k0 : Int), Value.slice fa f.length fc, bo y] 30, rBlk b9 [iw ((getF Z.L).1.1)] 3]) (p := fun (F28 : Nat → Prop) => (∀ b, F28 b → G b ∨ w.heap.size ≤ b)) (k := 9) (lb := [rBlk g [pt d 0, pt p 0, pt r 0, pt e 0, pt q 0, pt s 0, Value.slice qc come.length cc, Value.slice q10 (mine.length + 1) c11] 43, rNone, rRefR s e q K27 Z26, rRowO (.slice qc come.length cc) (ivs come) 3, rRowO (.slice q10 (mine.length + 1) c11) (ivs mine ++ [iw ((getF Z.L).1.1)]) 3, rBlk b1 [iw k, iw (k0 : Int), Value.slice fa f.length fc, bo y] 30, rBlk b9 [iw ((getF Z.L).1.1)] 3]) (fun w hI => hI.weak (i := 1) (r' := rNone) rfl (fun _ => trivial) (fun b hb => hb.elim)) (fun z w hI => hI.weak (i := 1) (r' := rNone) rfl (fun _ => trivial) (fun b hb => hb.elim))
  refine SC.region_turn (ζ := Nat → Prop) 19 9 (fun F28 => [rBlk g [pt d 0, pt p 0, pt r 0, pt e 0, pt q 0, pt s 0, Value.slice qc come.length cc, Value.slice q10 (mine.length + 1) c11] 43, rRing r d p ab F28 ({ { { S with L := (getF S.L).2 } with L := (ownF ({ S with L := (getF S.L).2 }).L ((getF S.L).1.1) (setF (f.drop k0))).2 } with L := (ownF ({ { S with L := (getF S.L).2 } with L := (ownF ({ S with L := (getF S.L).2 }).L ((getF S.L).1.1) (setF (f.drop k0))).2 }).L ((getF S.L).1.1) (headF (f.take k0))).2 }), rRefR s e q K27 Z26, rRowO (.slice qc come.length cc) (ivs come) 3, rRowO (.slice q10 (mine.length + 1) c11) (ivs mine ++ [iw ((getF Z.L).1.1)]) 3, rBlk b1 [iw k, iw (k0 : Int), Value.slice fa f.length fc, bo y] 30, rBlk b9 [iw ((getF Z.L).1.1)] 3]) (fun F28 => (∀ b, F28 b → G b ∨ w.heap.size ≤ b)) (by kernel_rfl) (by kernel_rfl) rfl ?_
  refine SS.ru _ hcb29 rfl rfl rfl (lt_b rfl) (ru_move rfl rfl) ?_
  refine SS.ru _ hcb29 rfl rfl rfl (lt_b rfl) (ru_nilCheck rfl rfl) ?_
  refine SS.ru _ hcb29 rfl rfl rfl (lt_b rfl) (ru_fieldAddr (o2 := 1) fd43_1 rfl rfl rfl) ?_
  refine SS.ru _ hcb29 rfl rfl rfl (lt_b rfl) (ru_load (i := 0) ts37 rfl rfl rfl rfl) ?_
  refine SS.ru _ hcb29 rfl rfl rfl (lt_b rfl) (ru_move rfl rfl) ?_
  refine SS.ru _ hcb29 rfl rfl rfl (lt_b rfl) (ru_fieldAddr (o2 := 2) fd30_2 rfl rfl rfl) ?_
  refine SS.ru _ hcb29 rfl rfl rfl (lt_b rfl) (ru_load (i := 5) ts28 rfl rfl rfl rfl) ?_
  refine SS.ru _ hcb29 rfl rfl rfl (lt_b rfl) (ru_move rfl rfl) ?_
  refine SS.ru _ hcb29 rfl rfl rfl (lt_b rfl) (ru_slice (size := 1) (l0 := 0) (h0 := k0) (m0 := fc) si28 rfl rfl rfl rfl rfl (by simp) (Nat.le_refl _) (by have := hfc; omega) (Nat.zero_le _)) ?_
  refine SS.turnc (iw ((ownF ({ { S with L := (getF S.L).2 } with L := (ownF ({ S with L := (getF S.L).2 }).L ((getF S.L).1.1) (setF (f.drop k0))).2 }).L ((getF S.L).1.1) (headF (f.take k0))).1)) rfl rfl co68 rfl rfl rfl (lt_b rfl) (fun w hI => (front_any (ring_at hI (i := 1) rfl).pool ((getF S.L).1.1) (sub_take (k := k0) (hbs.only hI.2 hbx) (by omega))).mono fun e w2 ⟨h1, h2⟩ => by obtain ⟨F2, k1, k2⟩ := hI.ringTo (F0 := G) (i := 1) rfl hG ((ring_at hI (i := 1) rfl).poolTo h2) hF24; exact ⟨F2, h1, k1, k2⟩) ?_
  refine SS.ru _ hcb29 rfl rfl rfl (lt_b rfl) (ru_move rfl rfl) ?_
  refine SS.ru _ hcb29 rfl rfl rfl (lt_b rfl) (ru_nilCheck rfl rfl) ?_
  refine SS.ru _ hcb29 rfl rfl rfl (lt_b rfl) (ru_fieldAddr (o2 := 4) fd43_4 rfl rfl rfl) ?_
  refine SS.ru _ hcb29 rfl rfl rfl (lt_b rfl) (ru_load (i := 0) ts40 rfl rfl rfl rfl) ?_
  refine SS.ru _ hcb29 rfl rfl rfl (lt_b rfl) (ru_move rfl rfl) ?_
  refine SS.ru _ hcb29 rfl rfl rfl (lt_b rfl) (ru_fieldAddr (o2 := 2) fd30_2 rfl rfl rfl) ?_
  refine SS.ru _ hcb29 rfl rfl rfl (lt_b rfl) (ru_load (i := 5) ts28 rfl rfl rfl rfl) ?_
  refine SS.ru _ hcb29 rfl rfl rfl (lt_b rfl) (ru_move rfl rfl) ?_
  refine SS.ru _ hcb29 rfl rfl rfl (lt_b rfl) (ru_slice (size := 1) (l0 := 0) (h0 := k0) (m0 := fc) si28 rfl rfl rfl rfl rfl (by simp) (Nat.le_refl _) (by have := hfc; omega) (Nat.zero_le _)) ?_
  refine SS.nilU ?_
  intro F28 hF28
  refine SL.call (ζ := Unit × RefS × (Nat → Prop)) (fun z => iw ((ownF Z26.L ((getF Z.L).1.1) (headF (f.take k0))).1)) (fun z => [rBlk g [pt d 0, pt p 0, pt r 0, pt e 0, pt q 0, pt s 0, Value.slice qc come.length cc, Value.slice q10 (mine.length + 1) c11] 43, rRing r d p ab F28 ({ { { S with L := (getF S.L).2 } with L := (ownF ({ S with L := (getF S.L).2 }).L ((getF S.L).1.1) (setF (f.drop k0))).2 } with L := (ownF ({ { S with L := (getF S.L).2 } with L := (ownF ({ S with L := (getF S.L).2 }).L ((getF S.L).1.1) (setF (f.drop k0))).2 }).L ((getF S.L).1.1) (headF (f.take k0))).2 }), rRefR s e q z.2.2 z.2.1, rRowO (.slice qc come.length cc) (ivs come) 3, rRowO (.slice q10 (mine.length + 1) c11) (ivs mine ++ [iw ((getF Z.L).1.1)]) 3, rBlk b1 [iw k, iw (k0 : Int), Value.slice fa f.length fc, bo y] 30, rBlk b9 [iw ((getF Z.L).1.1)] 3]) (fun z => RB (B) z.2.1 ∧ ∀ b, z.2.2 b → G b ∨ w.heap.size ≤ b) rfl rfl co69 rfl rfl rfl (lt_b rfl) (fun w9 hI => by refine rr_pool (v := iw ((ownF Z26.L ((getF Z.L).1.1) (headF (f.take k0))).1)) (L' := (ownF Z26.L ((getF Z.L).1.1) (headF (f.take k0))).2) (B' := B) (Z := Z26) (G := K27) (s := s) (e := e) (q := q) (j := 2) hI rfl hK27 hZ26 ?_ ?_; exact lim_own hZ26.lim h1B ((getF Z.L).1.1) (headF_lim (f.take k0)); intro rb F hP; exact rfront_any hP ((getF Z.L).1.1) (sub_take (k := k0) (hbs.only hI.2 hbx) (by omega))) ?_
  rintro ⟨x30, Z31, K32⟩ ⟨hZ31, hK32⟩
  refine SL.uu (ru_eq (b := ((((ownF ({ { S with L := (getF S.L).2 } with L := (ownF ({ S with L := (getF S.L).2 }).L ((getF S.L).1.1) (setF (f.drop k0))).2 }).L ((getF S.L).1.1) (headF (f.take k0))).1) : Int) == ((ownF Z26.L ((getF Z.L).1.1) (headF (f.take k0))).1))) rfl rfl rfl rfl) ?_
  refine SL.as ?_
  refine SL.nn [(4, bo ((((ownF ({ { S with L := (getF S.L).2 } with L := (ownF ({ S with L := (getF S.L).2 }).L ((getF S.L).1.1) (setF (f.drop k0))).2 }).L ((getF S.L).1.1) (headF (f.take k0))).1) : Int) == ((ownF Z26.L ((getF Z.L).1.1) (headF (f.take k0))).1)))] [rBlk g [pt d 0, pt p 0, pt r 0, pt e 0, pt q 0, pt s 0, Value.slice qc come.length cc, Value.slice q10 (mine.length + 1) c11] 43, rRing r d p ab F28 ({ { { S with L := (getF S.L).2 } with L := (ownF ({ S with L := (getF S.L).2 }).L ((getF S.L).1.1) (setF (f.drop k0))).2 } with L := (ownF ({ { S with L := (getF S.L).2 } with L := (ownF ({ S with L := (getF S.L).2 }).L ((getF S.L).1.1) (setF (f.drop k0))).2 }).L ((getF S.L).1.1) (headF (f.take k0))).2 }), rRefR s e q K32 Z31, rRowO (.slice qc come.length cc) (ivs come) 3, rRowO (.slice q10 (mine.length + 1) c11) (ivs mine ++ [iw ((getF Z.L).1.1)]) 3, rBlk b1 [iw k, iw (k0 : Int), Value.slice fa f.length fc, bo y] 30, rBlk b9 [iw ((getF Z.L).1.1)] 3] ⟨rfl, trivial⟩ ?_
  refine SC.ret ?_
  refine SE.res (.inl rfl) (res1 Try.results44 rfl) fun w1 hI => ⟨⟨_, rfl⟩, ⟨{ { { S with L := (getF S.L).2 } with L := (ownF ({ S with L := (getF S.L).2 }).L ((getF S.L).1.1) (setF (f.drop k0))).2 } with L := (ownF ({ { S with L := (getF S.L).2 } with L := (ownF ({ S with L := (getF S.L).2 }).L ((getF S.L).1.1) (setF (f.drop k0))).2 }).L ((getF S.L).1.1) (headF (f.take k0))).2 }, F28, Z31, K32, come, mine ++ [(getF Z.L).1.1], qc, cc, q10, c11⟩, ((hj2.own (by rw [hab]; simp) (setF_refs _)).own (by rw [hab]; simp) (headF_refs _)), hZ31.up, rfl, ?_, ⟨hg, hG, hF28, hK32, hqc, (by simpa only [List.length_append, List.length_singleton] using hq12)⟩, hI.2⟩
  have e1 : mine.length + 1 = (mine ++ [(getF Z.L).1.1]).length := by simp
  rw [ivs_snoc, e1] at hI
  exact (hI.pick (js := [0, 1, 2, 3, 4]) rfl).1

end Go.Proofs.Ytghfkgcaglabpaa

/-
  frees.
-/
namespace Go.Proofs.Ytghfkgcaglabpaa
open Go.RowKit
set_option maxRecDepth 100000
set_option maxHeartbeats 1000000
theorem frees_any {w : World} {n B g d p ab r e q s : Nat} {G F KZ : Nat → Prop} {S : RingA} {Z : RefS} {come mine : List Int} {qc qm : Option Addr} {cc cm : Nat} {k m : Int} {fa : Option Addr} {fc : Nat} {f : List UInt8} {y : Bool} (hj : FJ n S come mine) (hn60 : n ≤ 60) (hZ : RB B Z) (h1B : 1 ≤ B) (hB : B ≤ 10000000000000) (hX : GX G w.heap.size g d p ab r ⟨S, F, Z, KZ, come, mine, qc, cc, qm, cm⟩) (h : Sep w (RX g d p ab r e q s ⟨S, F, Z, KZ, come, mine, qc, cc, qm, cm⟩)) : Calls Try.prog 53 #[pt g 0, Value.agg #[iw k, iw m, Value.slice fa f.length fc, bo y]] w fun e' w' => (∃ v : Bool, e' = .returned (bo v)) ∧ DTo n (B + 1) w g d p ab r e q s G (S.A.r 1) w' := by
  have hg : G g ∨ w.heap.size ≤ g := hX.g
  have hG : ∀ b, rS r d p ab b → G b ∨ w.heap.size ≤ b := hX.r
  have hF : ∀ b, F b → G b ∨ w.heap.size ≤ b := hX.f
  have hKZ : ∀ b, KZ b → G b ∨ w.heap.size ≤ b := hX.k
  have hqc : ∀ b, (Value.slice qc come.length cc).ownBlock = some b → G b ∨ w.heap.size ≤ b := hX.c
  have hqm : ∀ b, (Value.slice qm mine.length cm).ownBlock = some b → G b ∨ w.heap.size ≤ b := hX.m
  have hcl := hj.lens.1
  have hml := hj.lens.2
  refine calls_sc (l0 := (RX g d p ab r e q s ⟨S, F, Z, KZ, come, mine, qc, cc, qm, cm⟩)) (args := [pt g 0, Value.agg #[iw k, iw m, Value.slice fa f.length fc, bo y]]) G Try.func53 rfl 71 Try.ntmps53 (le_b rfl) ⟨h, Only.refl _ _⟩ ?_
  show SC _ _ _ _ [(0, pt g 0), (1, Value.agg #[iw k, iw m, Value.slice fa f.length fc, bo y])] (RX g d p ab r e q s ⟨S, F, Z, KZ, come, mine, qc, cc, qm, cm⟩)
  refine SC.sr ?_
  refine SL.box (c := [iw k, iw m, Value.slice fa f.length fc, bo y]) rfl rfl (lt_b rfl) rfl rfl rfl fun b1 hb1 => ?_
  refine SL.as ?_
  refine SL.nn [(0, pt g 0), (3, pt b1 0), (4, bo false)] [rBlk g [pt d 0, pt p 0, pt r 0, pt e 0, pt q 0, pt s 0, Value.slice qc come.length cc, Value.slice qm mine.length cm] 43, rRing r d p ab F S, rRefR s e q KZ Z, rRowO (.slice qc come.length cc) (ivs come) 3, rRowO (.slice qm mine.length cm) (ivs mine) 3, rBlk b1 [iw k, iw m, Value.slice fa f.length fc, bo y] 30] ⟨rfl, rfl, rfl, trivial⟩ ?_
  refine SC.sr ?_
  refine SL.mv ?_
  refine SL.nk ?_
  refine SL.uu (ru_fieldAddr (o2 := 7) fd43_7 rfl rfl rfl) ?_
  refine SL.uu (ru_load (i := 0) ts26 rfl rfl rfl rfl) ?_
  refine SL.as ?_
  refine SL.nn [(0, pt g 0), (3, pt b1 0), (4, bo false), (5, Value.slice qm mine.length cm)] _ ⟨rfl, rfl, rfl, rfl, trivial⟩ ?_
  refine SC.seq ?_
  refine SC.sr ?_
  refine SL.uu (ru_fieldAddr (o2 := 0) fd30_0 rfl rfl rfl) ?_
  refine SL.uu (ru_load (i := 5) ts3 rfl rfl rfl rfl) ?_
  refine SL.uu (ru_eq (b := ((k : Int) == 9)) rfl rfl rfl rfl) ?_
  refine SL.nn [(0, pt g 0), (3, pt b1 0), (4, bo false), (5, Value.slice qm mine.length cm), (15, bo ((k : Int) == 9))] _ ⟨rfl, rfl, rfl, rfl, rfl, trivial⟩ ?_
  refine SC.both ((k : Int) == 9) rfl (fun h2 => ?_) (fun h2 => ?_)
  · skip
    refine SC.region ?_
    refine SL.mv ?_
    refine SL.nk ?_
    refine SL.uu (ru_fieldAddr (o2 := 6) fd43_6 rfl rfl rfl) ?_
    refine SL.uu (ru_load (i := 0) ts26 rfl rfl rfl rfl) ?_
    refine SL.as ?_
    refine SL.nn [(0, pt g 0), (3, pt b1 0), (4, bo false), (5, Value.slice qc come.length cc)] _ ⟨rfl, rfl, rfl, rfl, trivial⟩ ?_
    refine SC.seq ?_
    refine SC.sr ?_
    refine SL.mv ?_
    refine SL.uu (ru_len Try.underlying26 rfl rfl) ?_
    refine SL.uu (ru_eq (b := (((come.length : Int) : Int) == 0)) rfl rfl rfl rfl) ?_
    refine SL.mv ?_
    refine SL.join 4 [(0, pt g 0), (3, pt b1 0), (4, bo false), (5, Value.slice qc come.length cc), (20, Value.slice qc come.length cc), (21, iw (come.length : Int)), (22, bo (((come.length : Int) : Int) == 0)), (23, bo (((come.length : Int) : Int) == 0)), (27, bo ((((come.length : Int) : Int) == 0) || (decide ((m : Int) < 0))))] [rBlk g [pt d 0, pt p 0, pt r 0, pt e 0, pt q 0, pt s 0, Value.slice qc come.length cc, Value.slice qm mine.length cm] 43, rRing r d p ab F S, rRefR s e q KZ Z, rRowO (.slice qc come.length cc) (ivs come) 3, rRowO (.slice qm mine.length cm) (ivs mine) 3, rBlk b1 [iw k, iw m, Value.slice fa f.length fc, bo y] 30] ?_ ?_
    rotate_left
    · intro K hK
      rcases tf (((come.length : Int) : Int) == 0) with h3 | h3
      · skip
        refine SL.norm [(0, pt g 0), (3, pt b1 0), (4, bo false), (5, Value.slice qc come.length cc), (20, Value.slice qc come.length cc), (21, iw (come.length : Int)), (22, bo true), (23, bo true)] _ ⟨rfl, rfl, rfl, rfl, rfl, rfl, (congrArg (fun x => some (Value.bool x)) h3), (congrArg (fun x => some (Value.bool x)) h3), trivial⟩ rfl ?_
        refine SL.oo ?_
        refine SL.oo ?_
        refine SL.oo ?_
        refine SL.uu (ru_pick (u := bo true) (v := undef) rfl rfl rfl rfl) ?_
        exact SL.joined hK ⟨rfl, rfl, rfl, rfl, rfl, rfl, (congrArg (fun x => some (Value.bool x)) h3.symm), (congrArg (fun x => some (Value.bool x)) h3.symm), (congrArg (fun bx => some (Value.bool (bx || (decide ((m : Int) < 0))))) h3.symm), trivial⟩ rfl
      refine SL.norm [(0, pt g 0), (3, pt b1 0), (4, bo false), (5, Value.slice qc come.length cc), (20, Value.slice qc come.length cc), (21, iw (come.length : Int)), (22, bo false), (23, bo false)] _ ⟨rfl, rfl, rfl, rfl, rfl, rfl, (congrArg (fun x => some (Value.bool x)) h3), (congrArg (fun x => some (Value.bool x)) h3), trivial⟩ rfl ?_
      refine SL.gg (ru_fieldAddr (o2 := 1) fd30_1 rfl rfl rfl) ?_
      refine SL.gg (ru_load (i := 5) ts3 rfl rfl rfl rfl) ?_
      refine SL.gg (ru_lt (b := (decide ((m : Int) < 0))) rfl rfl rfl rfl) ?_
      refine SL.uu (ru_pick (u := bo true) (v := bo (decide ((m : Int) < 0))) rfl rfl rfl rfl) ?_
      exact SL.joined hK ⟨rfl, rfl, rfl, rfl, rfl, rfl, (congrArg (fun x => some (Value.bool x)) h3.symm), (congrArg (fun x => some (Value.bool x)) h3.symm), (congrArg (fun bx => some (Value.bool (bx || (decide ((m : Int) < 0))))) h3.symm), trivial⟩ rfl
    skip
    refine SL.nn [(0, pt g 0), (3, pt b1 0), (4, bo false), (5, Value.slice qc come.length cc), (27, bo ((((come.length : Int) : Int) == 0) || (decide ((m : Int) < 0))))] _ ⟨rfl, rfl, rfl, rfl, rfl, trivial⟩ ?_
    refine SC.both ((((come.length : Int) : Int) == 0) || (decide ((m : Int) < 0))) rfl (fun h4 => ?_) (fun h4 => ?_)
    · skip
      refine SC.sr ?_
      refine SL.as ?_
      refine SL.nn [(0, pt g 0), (3, pt b1 0), (4, bo true), (5, Value.slice qc come.length cc)] _ ⟨rfl, rfl, rfl, rfl, trivial⟩ ?_
      refine SC.ret ?_
      refine SE.passr ?_
      refine SE.res (.inl rfl) (res1 Try.results53 rfl) fun w1 hI => ⟨⟨_, rfl⟩, ⟨S, F, Z, KZ, come, mine, qc, cc, qm, cm⟩, hj, hZ.up, rfl, ?_, ⟨hg, hG, hF, hKZ, hqc, hqm⟩, hI.2⟩
      exact (hI.pick (js := [0, 1, 2, 3, 4]) rfl).1
    have hl0 := eq_f (or_f h4).1
    obtain ⟨k0, hk0, hkl⟩ := mod_at (n := come.length) (or_f h4).2 (by omega)
    refine SC.skip ?_
    refine SC.of_SE ?_
    refine SC.norm [(0, pt g 0), (3, pt b1 0), (4, bo false), (5, Value.slice qc come.length cc)] _ ⟨rfl, rfl, rfl, rfl, trivial⟩ rfl ?_
    refine SC.sr ?_
    refine SL.uu (ru_fieldAddr (o2 := 1) fd30_1 rfl rfl rfl) ?_
    refine SL.uu (ru_load (i := 5) ts3 rfl rfl rfl rfl) ?_
    refine SL.mv ?_
    refine SL.uu (ru_len Try.underlying26 rfl rfl) ?_
    refine SL.uu (ru_rem (r := (k0 : Int)) rfl rfl rfl (by omega) hk0) ?_
    refine SL.as ?_
    refine SL.nn [(0, pt g 0), (3, pt b1 0), (4, bo false), (5, Value.slice qc come.length cc), (6, iw (k0 : Int))] _ ⟨rfl, rfl, rfl, rfl, rfl, trivial⟩ ?_
    refine SC.sr ?_
    refine SL.mv ?_
    refine SL.mv ?_
    refine SL.uu (ru_index_rowO (ri := 3) si26 rfl rfl rfl rfl (by omega) (by omega)) ?_
    refine SL.uu (ru_load_rowO (ri := 3) (i := (k0 : Int).toNat) ts3 rfl rfl rfl (ivs_getN (by omega))) ?_
    refine SL.as ?_
    refine SL.nn [(0, pt g 0), (3, pt b1 0), (4, bo false), (5, Value.slice qc come.length cc), (6, iw (k0 : Int)), (7, iw (come.getD k0 0))] _ ⟨rfl, rfl, rfl, rfl, rfl, rfl, trivial⟩ ?_
    refine SC.seq ?_
    refine SC.rows (rRow (.slice none 0 0) ([] : List Value) 3) (fun b hb => by cases hb) (fun w => row_nil w 3) ?_
    refine SC.fact (p := come.length ≤ cc) (fun w hI => rowO_le (hI.1.get (i := 3) rfl)) fun hle => ?_
    refine SC.region ?_
    refine SL.mv ?_
    refine SL.mv ?_
    refine SL.uu (ru_slice (size := 1) (l0 := 0) (h0 := k0) (m0 := cc) si26 rfl rfl rfl rfl rfl (by simp) (Nat.le_refl _) (by have := hle; omega) (Nat.zero_le _)) ?_
    refine SL.append_own (ri := 6) (z := iw 0) (bytes := 8) (xs := ([] : List Value)) (ys := (ivs come).take k0) rfl rfl (lt_b rfl) rfl Try.underlying26 (by kernel_rfl) rfl (fun u hu => ivs_one u (List.mem_of_mem_take hu)) rfl rfl rfl (fun w hI => row_take (hI.1.get (i := 3) rfl) (by omega)) (by simp [ivs]; omega) (by unfold maxLen; simp [ivs]; omega) (fun b hb => by simp [Value.ownBlock] at hb) fun q5 c6 hq7 => ?_
    refine SL.as ?_
    refine SL.nn [(0, pt g 0), (3, pt b1 0), (4, bo false), (5, Value.slice qc come.length cc), (6, iw (k0 : Int)), (7, iw (come.getD k0 0)), (8, Value.slice q5 ((([] : List Value) ++ (ivs come).take k0).length) c6)] [rBlk g [pt d 0, pt p 0, pt r 0, pt e 0, pt q 0, pt s 0, Value.slice qc come.length cc, Value.slice qm mine.length cm] 43, rRing r d p ab F S, rRefR s e q KZ Z, rRowO (.slice qc come.length cc) (ivs come) 3, rRowO (.slice qm mine.length cm) (ivs mine) 3, rBlk b1 [iw k, iw m, Value.slice fa f.length fc, bo y] 30, rRow (.slice q5 ((([] : List Value) ++ (ivs come).take k0).length) c6) (([] : List Value) ++ (ivs come).take k0) 3] ⟨rfl, rfl, rfl, rfl, rfl, rfl, rfl, trivial⟩ ?_
    refine SC.sr ?_
    refine SL.mv ?_
    refine SL.mv ?_
    refine SL.mv ?_
    refine SL.uu (ru_add (r := ((k0 + 1 : Nat) : Int)) rfl rfl rfl ((by rw [IntKind.wrap_i64]; omega))) ?_
    refine SL.uu (ru_slice (size := 1) (l0 := (k0 + 1)) (h0 := come.length) (m0 := cc) si26 rfl rfl rfl rfl rfl (by simp) (Nat.le_refl _) (hle) (by omega)) ?_
    refine SL.append_own (ri := 6) (z := iw 0) (bytes := 8) (xs := (([] : List Value) ++ (ivs come).take k0)) (ys := (ivs come).drop (k0 + 1)) rfl rfl (lt_b rfl) rfl Try.underlying26 (by kernel_rfl) rfl (fun u hu => ivs_one u (List.mem_of_mem_drop hu)) rfl rfl rfl (fun w hI => row_drop (hI.1.get (i := 3) rfl) (by omega)) (by simp [ivs]; omega) (by unfold maxLen; simp [ivs]; omega) hq7 fun q8 c9 hq10 => ?_
    refine SL.as ?_
    refine SL.nn [(0, pt g 0), (3, pt b1 0), (4, bo false), (7, iw (come.getD k0 0)), (8, Value.slice q8 (((([] : List Value) ++ (ivs come).take k0) ++ (ivs come).drop (k0 + 1)).length) c9)] [rBlk g [pt d 0, pt p 0, pt r 0, pt e 0, pt q 0, pt s 0, Value.slice qc come.length cc, Value.slice qm mine.length cm] 43, rRing r d p ab F S, rRefR s e q KZ Z, rRowO (.slice qc come.length cc) (ivs come) 3, rRowO (.slice qm mine.length cm) (ivs mine) 3, rBlk b1 [iw k, iw m, Value.slice fa f.length fc, bo y] 30, rRow (.slice q8 (((([] : List Value) ++ (ivs come).take k0) ++ (ivs come).drop (k0 + 1)).length) c9) ((([] : List Value) ++ (ivs come).take k0) ++ (ivs come).drop (k0 + 1)) 3] ⟨rfl, rfl, rfl, rfl, rfl, trivial⟩ ?_
    refine SC.seq ?_
    refine SC.sr ?_
    refine SL.uu (ru_fieldAddr (o2 := 0) fd30_0 rfl rfl rfl) ?_
    refine SL.uu (ru_load (i := 5) ts3 rfl rfl rfl rfl) ?_
    refine SL.uu (ru_eq (b := ((k : Int) == 9)) rfl rfl rfl rfl) ?_
    refine SL.nn [(0, pt g 0), (4, bo false), (7, iw (come.getD k0 0)), (8, Value.slice q8 (((([] : List Value) ++ (ivs come).take k0) ++ (ivs come).drop (k0 + 1)).length) c9), (49, bo ((k : Int) == 9))] _ ⟨rfl, rfl, rfl, rfl, rfl, trivial⟩ ?_
    refine SC.yes (show some (Value.bool ((k : Int) == 9)) = some (Value.bool true) from congrArg (fun x => some (Value.bool x)) h2) ?_
    refine SC.region ?_
    refine SL.mv ?_
    refine SL.mv ?_
    refine SL.nk ?_
    refine SL.uu (ru_fieldAddr (o2 := 6) fd43_6 rfl rfl rfl) ?_
    refine SL.store (i := 0) (c' := [pt d 0, pt p 0, pt r 0, pt e 0, pt q 0, pt s 0, Value.slice q8 (((([] : List Value) ++ (ivs come).take k0) ++ (ivs come).drop (k0 + 1)).length) c9, Value.slice qm mine.length cm]) rfl rfl ts26 rfl rfl rfl rfl rfl (lt_b rfl) hg rfl ?_
    refine SL.nn [(0, pt g 0), (4, bo false), (7, iw (come.getD k0 0))] [rBlk g [pt d 0, pt p 0, pt r 0, pt e 0, pt q 0, pt s 0, Value.slice q8 (((([] : List Value) ++ (ivs come).take k0) ++ (ivs come).drop (k0 + 1)).length) c9, Value.slice qm mine.length cm] 43, rRing r d p ab F S, rRefR s e q KZ Z, rRowO (.slice qc come.length cc) (ivs come) 3, rRowO (.slice qm mine.length cm) (ivs mine) 3, rBlk b1 [iw k, iw m, Value.slice fa f.length fc, bo y] 30, rRow (.slice q8 (((([] : List Value) ++ (ivs come).take k0) ++ (ivs come).drop (k0 + 1)).length) c9) ((([] : List Value) ++ (ivs come).take k0) ++ (ivs come).drop (k0 + 1)) 3] ⟨rfl, rfl, rfl, trivial⟩ ?_
    refine SC.seq ?_
    have hcb12 := CU.base (X := ⟨71, w, G⟩) (l := [rBlk g [pt d 0, pt p 0, pt r 0, pt e 0, pt q 0, pt s 0, Value.slice q8 (((([] : List Value) ++ (ivs come).take k0) ++ (ivs come).drop (k0 + 1)).length) c9, Value.slice qm mine.length cm] 43, rRing r d p ab F S, rRefR s e q KZ Z, rRowO (.slice qc come.length cc) (ivs come) 3, rRowO (.slice qm mine.length cm) (ivs mine) 3, rBlk b1 [iw k, iw m, Value.slice fa f.length fc, bo y] 30, rRow (.slice q8 (((([] : List Value) ++ (ivs come).take k0) ++ (ivs come).drop (k0 + 1)).length) c9) ((([] : List Value) ++ (ivs come).take k0) ++ (ivs come).drop (k0 + 1)) 3]) (l2 := fun (F11 : Nat → Prop) => [rBlk g [pt d 0, pt p 0, pt r 0, pt e 0, pt q 0, pt s 0, Value.slice q8 (((([] : List Value) ++ (ivs come).take k0) ++ (ivs come).drop (k0 + 1)).length) c9, Value.slice qm mine.length cm] 43, rRing r d p ab F11 ({ S with L := (freeF S.L (come.getD k0 0)).2 }), rRefR s e q KZ Z, rRowO (.slice qc come.length cc) (ivs come) 3, rRowO (.slice qm mine.length cm) (ivs mine) 3, rBlk b1 [iw k, iw m, Value.slice fa f.length fc, bo y] 30, rRow (.slice q8 (((([] : List Value) ++ (ivs come).take k0) ++ (ivs come).drop (k0 + 1)).length) c9) ((([] : List Value) ++ (ivs come).take k0) ++ (ivs come).drop (k0 + 1)) 3]) (p := fun (F11 : Nat → Prop) => (∀ b, F11 b → G b ∨ w.heap.size ≤ b)) (k := 5) (lb := [rBlk g [pt d 0, pt p 0, pt r 0, pt e 0, pt q 0, pt s 0, Value.slice q8 (((([] : List Value) ++ (ivs come).take k0) ++ (ivs come).drop (k0 + 1)).length) c9, Value.slice qm mine.length cm] 43, rNone, rRefR s e q KZ Z, rRowO (.slice qc come.length cc) (ivs come) 3, rRowO (.slice qm mine.length cm) (ivs mine) 3, rBlk b1 [iw k, iw m, Value.slice fa f.length fc, bo y] 30, rRow (.slice q8 (((([] : List Value) ++ (ivs come).take k0) ++ (ivs come).drop (k0 + 1)).length) c9) ((([] : List Value) ++ (ivs come).take k0) ++ (ivs come).drop (k0 + 1)) 3]) (fun w hI => hI.weak (i := 1) (r' := rNone) rfl (fun _ => trivial) (fun b hb => hb.elim)) (fun z w hI => hI.weak (i := 1) (r' := rNone) rfl (fun _ => trivial) (fun b hb => hb.elim))
    refine SC.region_turn (ζ := Nat → Prop) 11 5 (fun F11 => [rBlk g [pt d 0, pt p 0, pt r 0, pt e 0, pt q 0, pt s 0, Value.slice q8 (((([] : List Value) ++ (ivs come).take k0) ++ (ivs come).drop (k0 + 1)).length) c9, Value.slice qm mine.length cm] 43, rRing r d p ab F11 ({ S with L := (freeF S.L (come.getD k0 0)).2 }), rRefR s e q KZ Z, rRowO (.slice qc come.length cc) (ivs come) 3, rRowO (.slice qm mine.length cm) (ivs mine) 3, rBlk b1 [iw k, iw m, Value.slice fa f.length fc, bo y] 30, rRow (.slice q8 (((([] : List Value) ++ (ivs come).take k0) ++ (ivs come).drop (k0 + 1)).length) c9) ((([] : List Value) ++ (ivs come).take k0) ++ (ivs come).drop (k0 + 1)) 3]) (fun F11 => (∀ b, F11 b → G b ∨ w.heap.size ≤ b)) (by kernel_rfl) (by kernel_rfl) rfl ?_
    refine SS.ru _ hcb12 rfl rfl rfl (lt_b rfl) (ru_move rfl rfl) ?_
    refine SS.ru _ hcb12 rfl rfl rfl (lt_b rfl) (ru_nilCheck rfl rfl) ?_
    refine SS.ru _ hcb12 rfl rfl rfl (lt_b rfl) (ru_fieldAddr (o2 := 1) fd43_1 rfl rfl rfl) ?_
    refine SS.ru _ hcb12 rfl rfl rfl (lt_b rfl) (ru_load (i := 0) ts37 rfl rfl rfl rfl) ?_
    refine SS.ru _ hcb12 rfl rfl rfl (lt_b rfl) (ru_move rfl rfl) ?_
    refine SS.turnc (iw ((freeF S.L (come.getD k0 0)).1)) rfl rfl co26 rfl rfl rfl (lt_b rfl) (fun w hI => (free_any (ring_at hI (i := 1) rfl).pool (come.getD k0 0) hj.few).mono fun e w2 ⟨h1, h2⟩ => by obtain ⟨F2, k1, k2⟩ := hI.ringTo (F0 := G) (i := 1) rfl hG ((ring_at hI (i := 1) rfl).poolTo h2) hF; exact ⟨F2, h1, k1, k2⟩) ?_
    refine SS.ru _ hcb12 rfl rfl rfl (lt_b rfl) (ru_move rfl rfl) ?_
    refine SS.ru _ hcb12 rfl rfl rfl (lt_b rfl) (ru_nilCheck rfl rfl) ?_
    refine SS.ru _ hcb12 rfl rfl rfl (lt_b rfl) (ru_fieldAddr (o2 := 4) fd43_4 rfl rfl rfl) ?_
    refine SS.ru _ hcb12 rfl rfl rfl (lt_b rfl) (ru_load (i := 0) ts40 rfl rfl rfl rfl) ?_
    refine SS.ru _ hcb12 rfl rfl rfl (lt_b rfl) (ru_move rfl rfl) ?_
    refine SS.nilU ?_
    intro F11 hF11
    refine SL.call (ζ := Unit × RefS × (Nat → Prop)) (fun z => iw ((freeF Z.L (come.getD k0 0)).1)) (fun z => [rBlk g [pt d 0, pt p 0, pt r 0, pt e 0, pt q 0, pt s 0, Value.slice q8 (((([] : List Value) ++ (ivs come).take k0) ++ (ivs come).drop (k0 + 1)).length) c9, Value.slice qm mine.length cm] 43, rRing r d p ab F11 ({ S with L := (freeF S.L (come.getD k0 0)).2 }), rRefR s e q z.2.2 z.2.1, rRowO (.slice qc come.length cc) (ivs come) 3, rRowO (.slice qm mine.length cm) (ivs mine) 3, rBlk b1 [iw k, iw m, Value.slice fa f.length fc, bo y] 30, rRow (.slice q8 (((([] : List Value) ++ (ivs come).take k0) ++ (ivs come).drop (k0 + 1)).length) c9) ((([] : List Value) ++ (ivs come).take k0) ++ (ivs come).drop (k0 + 1)) 3]) (fun z => RB (B) z.2.1 ∧ ∀ b, z.2.2 b → G b ∨ w.heap.size ≤ b) rfl rfl co76 rfl rfl rfl (lt_b rfl) (fun w9 hI => by refine rr_pool (v := iw ((freeF Z.L (come.getD k0 0)).1)) (L' := (freeF Z.L (come.getD k0 0)).2) (B' := B) (Z := Z) (G := KZ) (s := s) (e := e) (q := q) (j := 2) hI rfl hKZ hZ ?_ ?_; exact lim_free hZ.lim (come.getD k0 0); intro rb F hP; exact rfree_any hP (come.getD k0 0) (lim_few hZ.lim (by omega))) ?_
    rintro ⟨x13, Z14, K15⟩ ⟨hZ14, hK15⟩
    refine SL.uu (ru_eq (b := ((((freeF S.L (come.getD k0 0)).1) : Int) == ((freeF Z.L (come.getD k0 0)).1))) rfl rfl rfl rfl) ?_
    refine SL.as ?_
    refine SL.nn [(4, bo ((((freeF S.L (come.getD k0 0)).1) : Int) == ((freeF Z.L (come.getD k0 0)).1)))] [rBlk g [pt d 0, pt p 0, pt r 0, pt e 0, pt q 0, pt s 0, Value.slice q8 (((([] : List Value) ++ (ivs come).take k0) ++ (ivs come).drop (k0 + 1)).length) c9, Value.slice qm mine.length cm] 43, rRing r d p ab F11 ({ S with L := (freeF S.L (come.getD k0 0)).2 }), rRefR s e q K15 Z14, rRowO (.slice qc come.length cc) (ivs come) 3, rRowO (.slice qm mine.length cm) (ivs mine) 3, rBlk b1 [iw k, iw m, Value.slice fa f.length fc, bo y] 30, rRow (.slice q8 (((([] : List Value) ++ (ivs come).take k0) ++ (ivs come).drop (k0 + 1)).length) c9) ((([] : List Value) ++ (ivs come).take k0) ++ (ivs come).drop (k0 + 1)) 3] ⟨rfl, trivial⟩ ?_
    refine SC.ret ?_
    refine SE.res (.inl rfl) (res1 Try.results53 rfl) fun w1 hI => ⟨⟨_, rfl⟩, ⟨{ S with L := (freeF S.L (come.getD k0 0)).2 }, F11, Z14, K15, (come.take k0 ++ come.drop (k0 + 1)), mine, q8, c9, qm, cm⟩, (hj.free_come hkl), hZ14.up, rfl, ?_, ⟨hg, hG, hF11, hK15, (by simpa only [ivs_cut, ivs_len] using hq10), hqm⟩, hI.2⟩
    rw [ivs_cut, ivs_len] at hI
    exact (((hI.weak (i := 6) (r' := rRowO (.slice q8 (come.take k0 ++ come.drop (k0 + 1)).length c9) (ivs (come.take k0 ++ come.drop (k0 + 1))) 3) rfl (fun h => ownsRow.toO h) (fun b hb => hb)).pick (js := [0, 1, 2, 4, 6]) rfl).perm (perm_by [0, 1, 2, 4, 3] rfl rfl)).1
  refine SC.skip ?_
  refine SC.of_SE ?_
  refine SC.norm [(0, pt g 0), (3, pt b1 0), (4, bo false), (5, Value.slice qm mine.length cm)] _ ⟨rfl, rfl, rfl, rfl, trivial⟩ rfl ?_
  refine SC.seq ?_
  refine SC.sr ?_
  refine SL.mv ?_
  refine SL.uu (ru_len Try.underlying26 rfl rfl) ?_
  refine SL.uu (ru_eq (b := (((mine.length : Int) : Int) == 0)) rfl rfl rfl rfl) ?_
  refine SL.mv ?_
  refine SL.join 4 [(0, pt g 0), (3, pt b1 0), (4, bo false), (5, Value.slice qm mine.length cm), (20, Value.slice qm mine.length cm), (21, iw (mine.length : Int)), (22, bo (((mine.length : Int) : Int) == 0)), (23, bo (((mine.length : Int) : Int) == 0)), (27, bo ((((mine.length : Int) : Int) == 0) || (decide ((m : Int) < 0))))] [rBlk g [pt d 0, pt p 0, pt r 0, pt e 0, pt q 0, pt s 0, Value.slice qc come.length cc, Value.slice qm mine.length cm] 43, rRing r d p ab F S, rRefR s e q KZ Z, rRowO (.slice qc come.length cc) (ivs come) 3, rRowO (.slice qm mine.length cm) (ivs mine) 3, rBlk b1 [iw k, iw m, Value.slice fa f.length fc, bo y] 30] ?_ ?_
  rotate_left
  · intro K hK
    rcases tf (((mine.length : Int) : Int) == 0) with h16 | h16
    · skip
      refine SL.norm [(0, pt g 0), (3, pt b1 0), (4, bo false), (5, Value.slice qm mine.length cm), (20, Value.slice qm mine.length cm), (21, iw (mine.length : Int)), (22, bo true), (23, bo true)] _ ⟨rfl, rfl, rfl, rfl, rfl, rfl, (congrArg (fun x => some (Value.bool x)) h16), (congrArg (fun x => some (Value.bool x)) h16), trivial⟩ rfl ?_
      refine SL.oo ?_
      refine SL.oo ?_
      refine SL.oo ?_
      refine SL.uu (ru_pick (u := bo true) (v := undef) rfl rfl rfl rfl) ?_
      exact SL.joined hK ⟨rfl, rfl, rfl, rfl, rfl, rfl, (congrArg (fun x => some (Value.bool x)) h16.symm), (congrArg (fun x => some (Value.bool x)) h16.symm), (congrArg (fun bx => some (Value.bool (bx || (decide ((m : Int) < 0))))) h16.symm), trivial⟩ rfl
    refine SL.norm [(0, pt g 0), (3, pt b1 0), (4, bo false), (5, Value.slice qm mine.length cm), (20, Value.slice qm mine.length cm), (21, iw (mine.length : Int)), (22, bo false), (23, bo false)] _ ⟨rfl, rfl, rfl, rfl, rfl, rfl, (congrArg (fun x => some (Value.bool x)) h16), (congrArg (fun x => some (Value.bool x)) h16), trivial⟩ rfl ?_
    refine SL.gg (ru_fieldAddr (o2 := 1) fd30_1 rfl rfl rfl) ?_
    refine SL.gg (ru_load (i := 5) ts3 rfl rfl rfl rfl) ?_
    refine SL.gg (ru_lt (b := (decide ((m : Int) < 0))) rfl rfl rfl rfl) ?_
    refine SL.uu (ru_pick (u := bo true) (v := bo (decide ((m : Int) < 0))) rfl rfl rfl rfl) ?_
    exact SL.joined hK ⟨rfl, rfl, rfl, rfl, rfl, rfl, (congrArg (fun x => some (Value.bool x)) h16.symm), (congrArg (fun x => some (Value.bool x)) h16.symm), (congrArg (fun bx => some (Value.bool (bx || (decide ((m : Int) < 0))))) h16.symm), trivial⟩ rfl
  skip
  refine SL.nn [(0, pt g 0), (3, pt b1 0), (4, bo false), (5, Value.slice qm mine.length cm), (27, bo ((((mine.length : Int) : Int) == 0) || (decide ((m : Int) < 0))))] _ ⟨rfl, rfl, rfl, rfl, rfl, trivial⟩ ?_
  refine SC.both ((((mine.length : Int) : Int) == 0) || (decide ((m : Int) < 0))) rfl (fun h17 => ?_) (fun h17 => ?_)
  · skip
    refine SC.sr ?_
    refine SL.as ?_
    refine SL.nn [(0, pt g 0), (3, pt b1 0), (4, bo true), (5, Value.slice qm mine.length cm)] _ ⟨rfl, rfl, rfl, rfl, trivial⟩ ?_
    refine SC.ret ?_
    refine SE.passr ?_
    refine SE.res (.inl rfl) (res1 Try.results53 rfl) fun w1 hI => ⟨⟨_, rfl⟩, ⟨S, F, Z, KZ, come, mine, qc, cc, qm, cm⟩, hj, hZ.up, rfl, ?_, ⟨hg, hG, hF, hKZ, hqc, hqm⟩, hI.2⟩
    exact (hI.pick (js := [0, 1, 2, 3, 4]) rfl).1
  have hl0 := eq_f (or_f h17).1
  obtain ⟨k0, hk0, hkl⟩ := mod_at (n := mine.length) (or_f h17).2 (by omega)
  refine SC.skip ?_
  refine SC.of_SE ?_
  refine SC.norm [(0, pt g 0), (3, pt b1 0), (4, bo false), (5, Value.slice qm mine.length cm)] _ ⟨rfl, rfl, rfl, rfl, trivial⟩ rfl ?_
  refine SC.sr ?_
  refine SL.uu (ru_fieldAddr (o2 := 1) fd30_1 rfl rfl rfl) ?_
  refine SL.uu (ru_load (i := 5) ts3 rfl rfl rfl rfl) ?_
  refine SL.mv ?_
  refine SL.uu (ru_len Try.underlying26 rfl rfl) ?_
  refine SL.uu (ru_rem (r := (k0 : Int)) rfl rfl rfl (by omega) hk0) ?_
  refine SL.as ?_
  refine SL.nn [(0, pt g 0), (3, pt b1 0), (4, bo false), (5, Value.slice qm mine.length cm), (6, iw (k0 : Int))] _ ⟨rfl, rfl, rfl, rfl, rfl, trivial⟩ ?_
  refine SC.sr ?_
  refine SL.mv ?_
  refine SL.mv ?_
  refine SL.uu (ru_index_rowO (ri := 4) si26 rfl rfl rfl rfl (by omega) (by omega)) ?_
  refine SL.uu (ru_load_rowO (ri := 4) (i := (k0 : Int).toNat) ts3 rfl rfl rfl (ivs_getN (by omega))) ?_
  refine SL.as ?_
  refine SL.nn [(0, pt g 0), (3, pt b1 0), (4, bo false), (5, Value.slice qm mine.length cm), (6, iw (k0 : Int)), (7, iw (mine.getD k0 0))] _ ⟨rfl, rfl, rfl, rfl, rfl, rfl, trivial⟩ ?_
  refine SC.seq ?_
  refine SC.rows (rRow (.slice none 0 0) ([] : List Value) 3) (fun b hb => by cases hb) (fun w => row_nil w 3) ?_
  refine SC.fact (p := mine.length ≤ cm) (fun w hI => rowO_le (hI.1.get (i := 4) rfl)) fun hle => ?_
  refine SC.region ?_
  refine SL.mv ?_
  refine SL.mv ?_
  refine SL.uu (ru_slice (size := 1) (l0 := 0) (h0 := k0) (m0 := cm) si26 rfl rfl rfl rfl rfl (by simp) (Nat.le_refl _) (by have := hle; omega) (Nat.zero_le _)) ?_
  refine SL.append_own (ri := 6) (z := iw 0) (bytes := 8) (xs := ([] : List Value)) (ys := (ivs mine).take k0) rfl rfl (lt_b rfl) rfl Try.underlying26 (by kernel_rfl) rfl (fun u hu => ivs_one u (List.mem_of_mem_take hu)) rfl rfl rfl (fun w hI => row_take (hI.1.get (i := 4) rfl) (by omega)) (by simp [ivs]; omega) (by unfold maxLen; simp [ivs]; omega) (fun b hb => by simp [Value.ownBlock] at hb) fun q18 c19 hq20 => ?_
  refine SL.as ?_
  refine SL.nn [(0, pt g 0), (3, pt b1 0), (4, bo false), (5, Value.slice qm mine.length cm), (6, iw (k0 : Int)), (7, iw (mine.getD k0 0)), (8, Value.slice q18 ((([] : List Value) ++ (ivs mine).take k0).length) c19)] [rBlk g [pt d 0, pt p 0, pt r 0, pt e 0, pt q 0, pt s 0, Value.slice qc come.length cc, Value.slice qm mine.length cm] 43, rRing r d p ab F S, rRefR s e q KZ Z, rRowO (.slice qc come.length cc) (ivs come) 3, rRowO (.slice qm mine.length cm) (ivs mine) 3, rBlk b1 [iw k, iw m, Value.slice fa f.length fc, bo y] 30, rRow (.slice q18 ((([] : List Value) ++ (ivs mine).take k0).length) c19) (([] : List Value) ++ (ivs mine).take k0) 3] ⟨rfl, rfl, rfl, rfl, rfl, rfl, rfl, trivial⟩ ?_
  refine SC.sr ?_
  refine SL.mv ?_
  refine SL.mv ?_
  refine SL.mv ?_
  refine SL.uu (ru_add (r := ((k0 + 1 : Nat) : Int)) rfl rfl rfl ((by rw [IntKind.wrap_i64]; omega))) ?_
  refine SL.uu (ru_slice (size := 1) (l0 := (k0 + 1)) (h0 := mine.length) (m0 := cm) si26 rfl rfl rfl rfl rfl (by simp) (Nat.le_refl _) (hle) (by omega)) ?_
  refine SL.append_own (ri := 6) (z := iw 0) (bytes := 8) (xs := (([] : List Value) ++ (ivs mine).take k0)) (ys := (ivs mine).drop (k0 + 1)) rfl rfl (lt_b rfl) rfl Try.underlying26 (by kernel_rfl) rfl (fun u hu => ivs_one u (List.mem_of_mem_drop hu)) rfl rfl rfl (fun w hI => row_drop (hI.1.get (i := 4) rfl) (by omega)) (by simp [ivs]; omega) (by unfold maxLen; simp [ivs]; omega) hq20 fun q21 c22 hq23 => ?_
  refine SL.as ?_
  refine SL.nn [(0, pt g 0), (3, pt b1 0), (4, bo false), (7, iw (mine.getD k0 0)), (8, Value.slice q21 (((([] : List Value) ++ (ivs mine).take k0) ++ (ivs mine).drop (k0 + 1)).length) c22)] [rBlk g [pt d 0, pt p 0, pt r 0, pt e 0, pt q 0, pt s 0, Value.slice qc come.length cc, Value.slice qm mine.length cm] 43, rRing r d p ab F S, rRefR s e q KZ Z, rRowO (.slice qc come.length cc) (ivs come) 3, rRowO (.slice qm mine.length cm) (ivs mine) 3, rBlk b1 [iw k, iw m, Value.slice fa f.length fc, bo y] 30, rRow (.slice q21 (((([] : List Value) ++ (ivs mine).take k0) ++ (ivs mine).drop (k0 + 1)).length) c22) ((([] : List Value) ++ (ivs mine).take k0) ++ (ivs mine).drop (k0 + 1)) 3] ⟨rfl, rfl, rfl, rfl, rfl, trivial⟩ ?_
  refine SC.seq ?_
  refine SC.sr ?_
  refine SL.uu (ru_fieldAddr (o2 := 0) fd30_0 rfl rfl rfl) ?_
  refine SL.uu (ru_load (i := 5) ts3 rfl rfl rfl rfl) ?_
  refine SL.uu (ru_eq (b := ((k : Int) == 9)) rfl rfl rfl rfl) ?_
  refine SL.nn [(0, pt g 0), (4, bo false), (7, iw (mine.getD k0 0)), (8, Value.slice q21 (((([] : List Value) ++ (ivs mine).take k0) ++ (ivs mine).drop (k0 + 1)).length) c22), (49, bo ((k : Int) == 9))] _ ⟨rfl, rfl, rfl, rfl, rfl, trivial⟩ ?_
  refine SC.no (show some (Value.bool ((k : Int) == 9)) = some (Value.bool false) from congrArg (fun x => some (Value.bool x)) h2) ?_
  refine SC.region ?_
  refine SL.mv ?_
  refine SL.mv ?_
  refine SL.nk ?_
  refine SL.uu (ru_fieldAddr (o2 := 7) fd43_7 rfl rfl rfl) ?_
  refine SL.store (i := 0) (c' := [pt d 0, pt p 0, pt r 0, pt e 0, pt q 0, pt s 0, Value.slice qc come.length cc, Value.slice q21 (((([] : List Value) ++ (ivs mine).take k0) ++ (ivs mine).drop (k0 + 1)).length) c22]) rfl rfl ts26 rfl rfl rfl rfl rfl (lt_b rfl) hg rfl ?_
  refine SL.nn [(0, pt g 0), (4, bo false), (7, iw (mine.getD k0 0))] [rBlk g [pt d 0, pt p 0, pt r 0, pt e 0, pt q 0, pt s 0, Value.slice qc come.length cc, Value.slice q21 (((([] : List Value) ++ (ivs mine).take k0) ++ (ivs mine).drop (k0 + 1)).length) c22] 43, rRing r d p ab F S, rRefR s e q KZ Z, rRowO (.slice qc come.length cc) (ivs come) 3, rRowO (.slice qm mine.length cm) (ivs mine) 3, rBlk b1 [iw k, iw m, Value.slice fa f.length fc, bo y] 30, rRow (.slice q21 (((([] : List Value) ++ (ivs mine).take k0) ++ (ivs mine).drop (k0 + 1)).length) c22) ((([] : List Value) ++ (ivs mine).take k0) ++ (ivs mine).drop (k0 + 1)) 3] ⟨rfl, rfl, rfl, trivial⟩ ?_
  refine SC.seq ?_
  have hcb25 := CU.base (X := ⟨71, w, G⟩) (l := [rBlk g [pt d 0, pt p 0, pt r 0, pt e 0, pt q 0, pt s 0, Value.slice qc come.length cc, Value.slice q21 (((([] : List Value) ++ (ivs mine).take k0) ++ (ivs mine).drop (k0 + 1)).length) c22] 43, rRing r d p ab F S, rRefR s e q KZ Z, rRowO (.slice qc come.length cc) (ivs come) 3, rRowO (.slice qm mine.length cm) (ivs mine) 3, rBlk b1 [iw k, iw m, Value.slice fa f.length fc, bo y] 30, rRow (.slice q21 (((([] : List Value) ++ (ivs mine).take k0) ++ (ivs mine).drop (k0 + 1)).length) c22) ((([] : List Value) ++ (ivs mine).take k0) ++ (ivs mine).drop (k0 + 1)) 3]) (l2 := fun (F24 : Nat → Prop) => [rBlk g [pt d 0, pt p 0, pt r 0, pt e 0, pt q 0, pt s 0, Value.slice qc come.length cc, Value.slice q21 (((([] : List Value) ++ (ivs mine).take k0) ++ (ivs mine).drop (k0 + 1)).length) c22] 43, rRing r d p ab F24 ({ S with L := (freeF S.L (mine.getD k0 0)).2 }), rRefR s e q KZ Z, rRowO (.slice qc come.length cc) (ivs come) 3, rRowO (.slice qm mine.length cm) (ivs mine) 3, rBlk b1 [iw k, iw m, Value.slice fa f.length fc, bo y] 30, rRow (.slice q21 (((([] : List Value) ++ (ivs mine).take k0) ++ (ivs mine).drop (k0 + 1)).length) c22) ((([] : List Value) ++ (ivs mine).take k0) ++ (ivs mine).drop (k0 + 1)) 3]) (p := fun (F24 : Nat → Prop) => (∀ b, F24 b → G b ∨ w.heap.size ≤ b)) (k := 5) (lb := [rBlk g [pt d 0, pt p 0, pt r 0, pt e 0, pt q 0, pt s 0, Value.slice qc come.length cc, Value.slice q21 (((([] : List Value) ++ (ivs mine).take k0) ++ (ivs mine).drop (k0 + 1)).length) c22] 43, rNone, rRefR s e q KZ Z, rRowO (.slice qc come.length cc) (ivs come) 3, rRowO (.slice qm mine.length cm) (ivs mine) 3, rBlk b1 [iw k, iw m, Value.slice fa f.length fc, bo y] 30, rRow (.slice q21 (((([] : List Value) ++ (ivs mine).take k0) ++ (ivs mine).drop (k0 + 1)).length) c22) ((([] : List Value) ++ (ivs mine).take k0) ++ (ivs mine).drop (k0 + 1)) 3]) (fun w hI => hI.weak (i := 1) (r' := rNone) rfl (fun _ => trivial) (fun b hb => hb.elim)) (fun z w hI => hI.weak (i := 1) (r' := rNone) rfl (fun _ => trivial) (fun b hb => hb.elim))
  refine SC.region_turn (ζ := Nat → Prop) 11 5 (fun F24 => [rBlk g [pt d 0, pt p 0, pt r 0, pt e 0, pt q 0, pt s 0, Value.slice qc come.length cc, Value.slice q21 (((([] : List Value) ++ (ivs mine).take k0) ++ (ivs mine).drop (k0 + 1)).length) c22] 43, rRing r d p ab F24 ({ S with L := (freeF S.L (mine.getD k0 0)).2 }), rRefR s e q KZ Z, rRowO (.slice qc come.length cc) (ivs come) 3, rRowO (.slice qm mine.length cm) (ivs mine) 3, rBlk b1 [iw k, iw m, Value.slice fa f.length fc, bo y] 30, rRow (.slice q21 (((([] : List Value) ++ (ivs mine).take k0) ++ (ivs mine).drop (k0 + 1)).length) c22) ((([] : List Value) ++ (ivs mine).take k0) ++ (ivs mine).drop (k0 + 1)) 3]) (fun F24 => (∀ b, F24 b → G b ∨ w.heap.size ≤ b)) (by kernel_rfl) (by kernel_rfl) rfl ?_
  refine SS.ru _ hcb25 rfl rfl rfl (lt_b rfl) (ru_move rfl rfl) ?_
  refine SS.ru _ hcb25 rfl rfl rfl (lt_b rfl) (ru_nilCheck rfl rfl) ?_
  refine SS.ru _ hcb25 rfl rfl rfl (lt_b rfl) (ru_fieldAddr (o2 := 1) fd43_1 rfl rfl rfl) ?_
  refine SS.ru _ hcb25 rfl rfl rfl (lt_b rfl) (ru_load (i := 0) ts37 rfl rfl rfl rfl) ?_
  refine SS.ru _ hcb25 rfl rfl rfl (lt_b rfl) (ru_move rfl rfl) ?_
  refine SS.turnc (iw ((freeF S.L (mine.getD k0 0)).1)) rfl rfl co26 rfl rfl rfl (lt_b rfl) (fun w hI => (free_any (ring_at hI (i := 1) rfl).pool (mine.getD k0 0) hj.few).mono fun e w2 ⟨h1, h2⟩ => by obtain ⟨F2, k1, k2⟩ := hI.ringTo (F0 := G) (i := 1) rfl hG ((ring_at hI (i := 1) rfl).poolTo h2) hF; exact ⟨F2, h1, k1, k2⟩) ?_
  refine SS.ru _ hcb25 rfl rfl rfl (lt_b rfl) (ru_move rfl rfl) ?_
  refine SS.ru _ hcb25 rfl rfl rfl (lt_b rfl) (ru_nilCheck rfl rfl) ?_
  refine SS.ru _ hcb25 rfl rfl rfl (lt_b rfl) (ru_fieldAddr (o2 := 4) fd43_4 rfl rfl rfl) ?_
  refine SS.ru _ hcb25 rfl rfl rfl (lt_b rfl) (ru_load (i := 0) ts40 rfl rfl rfl rfl) ?_
  refine SS.ru _ hcb25 rfl rfl rfl (lt_b rfl) (ru_move rfl rfl) ?_
  refine SS.nilU ?_
  intro F24 hF24
  refine SL.call (ζ := Unit × RefS × (Nat → Prop)) (fun z => iw ((freeF Z.L (mine.getD k0 0)).1)) (fun z => [rBlk g [pt d 0, pt p 0, pt r 0, pt e 0, pt q 0, pt s 0, Value.slice qc come.length cc, Value.slice q21 (((([] : List Value) ++ (ivs mine).take k0) ++ (ivs mine).drop (k0 + 1)).length) c22] 43, rRing r d p ab F24 ({ S with L := (freeF S.L (mine.getD k0 0)).2 }), rRefR s e q z.2.2 z.2.1, rRowO (.slice qc come.length cc) (ivs come) 3, rRowO (.slice qm mine.length cm) (ivs mine) 3, rBlk b1 [iw k, iw m, Value.slice fa f.length fc, bo y] 30, rRow (.slice q21 (((([] : List Value) ++ (ivs mine).take k0) ++ (ivs mine).drop (k0 + 1)).length) c22) ((([] : List Value) ++ (ivs mine).take k0) ++ (ivs mine).drop (k0 + 1)) 3]) (fun z => RB (B) z.2.1 ∧ ∀ b, z.2.2 b → G b ∨ w.heap.size ≤ b) rfl rfl co76 rfl rfl rfl (lt_b rfl) (fun w9 hI => by refine rr_pool (v := iw ((freeF Z.L (mine.getD k0 0)).1)) (L' := (freeF Z.L (mine.getD k0 0)).2) (B' := B) (Z := Z) (G := KZ) (s := s) (e := e) (q := q) (j := 2) hI rfl hKZ hZ ?_ ?_; exact lim_free hZ.lim (mine.getD k0 0); intro rb F hP; exact rfree_any hP (mine.getD k0 0) (lim_few hZ.lim (by omega))) ?_
  rintro ⟨x26, Z27, K28⟩ ⟨hZ27, hK28⟩
  refine SL.uu (ru_eq (b := ((((freeF S.L (mine.getD k0 0)).1) : Int) == ((freeF Z.L (mine.getD k0 0)).1))) rfl rfl rfl rfl) ?_
  refine SL.as ?_
  refine SL.nn [(4, bo ((((freeF S.L (mine.getD k0 0)).1) : Int) == ((freeF Z.L (mine.getD k0 0)).1)))] [rBlk g [pt d 0, pt p 0, pt r 0, pt e 0, pt q 0, pt s 0, Value.slice qc come.length cc, Value.slice q21 (((([] : List Value) ++ (ivs mine).take k0) ++ (ivs mine).drop (k0 + 1)).length) c22] 43, rRing r d p ab F24 ({ S with L := (freeF S.L (mine.getD k0 0)).2 }), rRefR s e q K28 Z27, rRowO (.slice qc come.length cc) (ivs come) 3, rRowO (.slice qm mine.length cm) (ivs mine) 3, rBlk b1 [iw k, iw m, Value.slice fa f.length fc, bo y] 30, rRow (.slice q21 (((([] : List Value) ++ (ivs mine).take k0) ++ (ivs mine).drop (k0 + 1)).length) c22) ((([] : List Value) ++ (ivs mine).take k0) ++ (ivs mine).drop (k0 + 1)) 3] ⟨rfl, trivial⟩ ?_
  refine SC.ret ?_
  refine SE.res (.inl rfl) (res1 Try.results53 rfl) fun w1 hI => ⟨⟨_, rfl⟩, ⟨{ S with L := (freeF S.L (mine.getD k0 0)).2 }, F24, Z27, K28, come, (mine.take k0 ++ mine.drop (k0 + 1)), qc, cc, q21, c22⟩, (hj.free_mine hkl), hZ27.up, rfl, ?_, ⟨hg, hG, hF24, hK28, hqc, (by simpa only [ivs_cut, ivs_len] using hq23)⟩, hI.2⟩
  rw [ivs_cut, ivs_len] at hI
  exact ((hI.weak (i := 6) (r' := rRowO (.slice q21 (mine.take k0 ++ mine.drop (k0 + 1)).length c22) (ivs (mine.take k0 ++ mine.drop (k0 + 1))) 3) rfl (fun h => ownsRow.toO h) (fun b hb => hb)).pick (js := [0, 1, 2, 3, 6]) rfl).1

end Go.Proofs.Ytghfkgcaglabpaa

/-
  polls.
-/
namespace Go.Proofs.Ytghfkgcaglabpaa
open Go.RowKit
set_option maxRecDepth 100000
set_option maxHeartbeats 4000000
theorem come_next {come : List Int} {o : List (Int × Bool)} {i : Nat} {x : Int × Bool} (h : o[i]? = some x) : come ++ (o.take i).map (fun x : Int × Bool => x.1) ++ [x.1] = come ++ (o.take (i + 1)).map (fun x : Int × Bool => x.1) := by
  rw [List.take_add_one, h]
  simp
theorem polls_any {w : World} {n B g d p ab r e q s : Nat} {G F KZ : Nat → Prop} {S : RingA} {Z : RefS} {come mine : List Int} {qc qm : Option Addr} {cc cm : Nat} (hj : FJ n S come mine) (hn60 : n ≤ 60) (hZ : RB B Z) (h1B : 1 ≤ B) (hB : B ≤ 10000000000000) (hX : GX G w.heap.size g d p ab r ⟨S, F, Z, KZ, come, mine, qc, cc, qm, cm⟩) (h : Sep w (RX g d p ab r e q s ⟨S, F, Z, KZ, come, mine, qc, cc, qm, cm⟩)) : Calls Try.prog 46 #[pt g 0] w fun e' w' => (∃ v : Bool, e' = .returned (bo v)) ∧ DTo n (B + 1) w g d p ab r e q s G (S.A.r 1) w' := by
  have hg : G g ∨ w.heap.size ≤ g := hX.g
  have hG : ∀ b, rS r d p ab b → G b ∨ w.heap.size ≤ b := hX.r
  have hF : ∀ b, F b → G b ∨ w.heap.size ≤ b := hX.f
  have hKZ : ∀ b, KZ b → G b ∨ w.heap.size ≤ b := hX.k
  have hqc : ∀ b, (Value.slice qc come.length cc).ownBlock = some b → G b ∨ w.heap.size ≤ b := hX.c
  have hqm : ∀ b, (Value.slice qm mine.length cm).ownBlock = some b → G b ∨ w.heap.size ≤ b := hX.m
  have hcl := hj.lens.1
  have hml := hj.lens.2
  have hj0 : FJ n (pollF S).1 come mine := by have := hj.poll.1 0; simpa using this
  have hpl := poll_len hj.ok
  refine calls_sc (l0 := (RX g d p ab r e q s ⟨S, F, Z, KZ, come, mine, qc, cc, qm, cm⟩)) (args := [pt g 0]) G Try.func46 rfl 54 Try.ntmps46 (le_b rfl) ⟨h, Only.refl _ _⟩ ?_
  show SC _ _ _ _ [(0, pt g 0)] (RX g d p ab r e q s ⟨S, F, Z, KZ, come, mine, qc, cc, qm, cm⟩)
  refine SC.sr ?_
  refine SL.as ?_
  refine SL.nn [(0, pt g 0), (2, bo false)] [rBlk g [pt d 0, pt p 0, pt r 0, pt e 0, pt q 0, pt s 0, Value.slice qc come.length cc, Value.slice qm mine.length cm] 43, rRing r d p ab F S, rRefR s e q KZ Z, rRowO (.slice qc come.length cc) (ivs come) 3, rRowO (.slice qm mine.length cm) (ivs mine) 3] ⟨rfl, rfl, trivial⟩ ?_
  refine SC.sr ?_
  refine SL.mv ?_
  refine SL.nk ?_
  refine SL.uu (ru_fieldAddr (o2 := 2) fd43_2 rfl rfl rfl) ?_
  refine SL.uu (ru_load (i := 0) ts38 rfl rfl rfl rfl) ?_
  refine SL.call (ζ := (Nat → Prop) × Option Addr × Nat) (fun z => Value.slice z.2.1 ((pollF S).2.length) z.2.2) (fun z => [rBlk g [pt d 0, pt p 0, pt r 0, pt e 0, pt q 0, pt s 0, Value.slice qc come.length cc, Value.slice qm mine.length cm] 43, rRing r d p ab z.1 ((pollF S).1), rRefR s e q KZ Z, rRowO (.slice qc come.length cc) (ivs come) 3, rRowO (.slice qm mine.length cm) (ivs mine) 3, rRowN (.slice z.2.1 ((pollF S).2.length) z.2.2) (comeV (pollF S).2) 67 2]) (fun z => (∀ b, z.1 b → G b ∨ w.heap.size ≤ b) ∧ ∀ b, (Value.slice z.2.1 (pollF S).2.length z.2.2).ownBlock = some b → w.heap.size ≤ b) rfl rfl co20 rfl rfl rfl (lt_b rfl) (fun w hI => (poll_any hj.ok.a hj.ok.t hj.ok.r hj.few (ring_at hI (i := 1) rfl)).mono fun e w2 ⟨q, c, h1, h2⟩ => by obtain ⟨F2, k1, k2, k3⟩ := hI.ringToW (F0 := G) (i := 1) rfl hG h2 hF; exact ⟨(F2, q, c), h1, k1, k2, fun b hb => k3 _ List.mem_cons_self b hb⟩) ?_
  rintro ⟨F3, q1, c2⟩ ⟨hF3, hqa⟩
  refine SL.as ?_
  refine SL.nn [(0, pt g 0), (2, bo false), (3, Value.slice q1 ((pollF S).2.length) c2)] [rBlk g [pt d 0, pt p 0, pt r 0, pt e 0, pt q 0, pt s 0, Value.slice qc come.length cc, Value.slice qm mine.length cm] 43, rRing r d p ab F3 ((pollF S).1), rRefR s e q KZ Z, rRowO (.slice qc come.length cc) (ivs come) 3, rRowO (.slice qm mine.length cm) (ivs mine) 3, rRowN (.slice q1 ((pollF S).2.length) c2) (comeV (pollF S).2) 67 2] ⟨rfl, rfl, rfl, trivial⟩ ?_
  refine SC.sr ?_
  refine SL.mv ?_
  refine SL.nk ?_
  refine SL.uu (ru_fieldAddr (o2 := 5) fd43_5 rfl rfl rfl) ?_
  refine SL.uu (ru_load (i := 0) ts41 rfl rfl rfl rfl) ?_
  refine SL.call (ζ := (Option Addr × Nat × List (Int × Bool)) × RefS × (Nat → Prop)) (fun z => Value.slice z.1.1 z.1.2.2.length z.1.2.1) (fun z => [rBlk g [pt d 0, pt p 0, pt r 0, pt e 0, pt q 0, pt s 0, Value.slice qc come.length cc, Value.slice qm mine.length cm] 43, rRing r d p ab F3 ((pollF S).1), rRefR s e q z.2.2 z.2.1, rRowO (.slice qc come.length cc) (ivs come) 3, rRowO (.slice qm mine.length cm) (ivs mine) 3, rRowN (.slice q1 ((pollF S).2.length) c2) (comeV (pollF S).2) 67 2, rRowN (.slice z.1.1 z.1.2.2.length z.1.2.1) (comeV z.1.2.2) 67 2]) (fun z => RB (B + 1) z.2.1 ∧ (∀ b, z.2.2 b → G b ∨ w.heap.size ≤ b) ∧ z.1.2.2.length ≤ 15) rfl rfl co74 rfl rfl rfl (lt_b rfl) (fun w9 hI => rr_poll (Z := Z) (G := KZ) (s := s) (e := e) (q := q) (j := 2) hI rfl hKZ hZ h1B hB) ?_
  rintro ⟨⟨q6, c7, ob⟩, Z4, K5⟩ ⟨hZ4, hK5, hol⟩
  refine SL.as ?_
  refine SL.nn [(0, pt g 0), (2, bo false), (3, Value.slice q1 ((pollF S).2.length) c2), (4, Value.slice q6 ob.length c7)] [rBlk g [pt d 0, pt p 0, pt r 0, pt e 0, pt q 0, pt s 0, Value.slice qc come.length cc, Value.slice qm mine.length cm] 43, rRing r d p ab F3 ((pollF S).1), rRefR s e q K5 Z4, rRowO (.slice qc come.length cc) (ivs come) 3, rRowO (.slice qm mine.length cm) (ivs mine) 3, rRowN (.slice q1 ((pollF S).2.length) c2) (comeV (pollF S).2) 67 2, rRowN (.slice q6 ob.length c7) (comeV ob) 67 2] ⟨rfl, rfl, rfl, rfl, trivial⟩ ?_
  refine SC.seq ?_
  refine SC.sr ?_
  refine SL.mv ?_
  refine SL.uu (ru_len Try.underlying61 rfl rfl) ?_
  refine SL.mv ?_
  refine SL.uu (ru_len Try.underlying61 rfl rfl) ?_
  refine SL.uu (ru_ne (b := ((((pollF S).2.length : Int) : Int) != (ob.length : Int))) rfl rfl rfl rfl) ?_
  refine SL.nn [(0, pt g 0), (2, bo false), (3, Value.slice q1 ((pollF S).2.length) c2), (4, Value.slice q6 ob.length c7), (20, bo ((((pollF S).2.length : Int) : Int) != (ob.length : Int)))] _ ⟨rfl, rfl, rfl, rfl, rfl, trivial⟩ ?_
  refine SC.both ((((pollF S).2.length : Int) : Int) != (ob.length : Int)) rfl (fun h8 => ?_) (fun h8 => ?_)
  · skip
    refine SC.sr ?_
    refine SL.as ?_
    refine SL.nn [(0, pt g 0), (2, bo false), (3, Value.slice q1 ((pollF S).2.length) c2), (4, Value.slice q6 ob.length c7)] _ ⟨rfl, rfl, rfl, rfl, trivial⟩ ?_
    refine SC.ret ?_
    refine SE.passr ?_
    refine SE.res (.inl rfl) (res1 Try.results46 rfl) fun w1 hI => ⟨⟨_, rfl⟩, ⟨(pollF S).1, F3, Z4, K5, come, mine, qc, cc, qm, cm⟩, hj0, hZ4, r1_poll, ?_, ⟨hg, hG, hF3, hK5, hqc, hqm⟩, hI.2⟩
    exact (hI.pick (js := [0, 1, 2, 3, 4]) rfl).1
  have hle : (pollF S).2.length = ob.length := by have := bne_no h8; omega
  refine SC.skip ?_
  refine SC.of_SE ?_
  refine SC.norm [(0, pt g 0), (2, bo false), (3, Value.slice q1 ((pollF S).2.length) c2), (4, Value.slice q6 ob.length c7)] _ ⟨rfl, rfl, rfl, rfl, trivial⟩ rfl ?_
  refine SC.seq ?_
  refine SC.sr ?_
  refine SL.as ?_
  refine SL.nn [(0, pt g 0), (2, bo false), (3, Value.slice q1 ((pollF S).2.length) c2), (4, Value.slice q6 ob.length c7), (5, iw 0)] _ ⟨rfl, rfl, rfl, rfl, rfl, trivial⟩ ?_
  refine SC.block ?_
  refine SC.loop (γ := Nat × List (List Value) × List Int × Option Addr × Nat) (fun n z => [(0, pt g 0), (2, bo false), (3, Value.slice q1 ((pollF S).2.length) c2), (4, Value.slice q6 ob.length c7), (5, iw (z.1 : Int))]) (fun n z => [rBlk g [pt d 0, pt p 0, pt r 0, pt e 0, pt q 0, pt s 0, Value.slice z.2.2.2.1 z.2.2.1.length z.2.2.2.2, Value.slice qm mine.length cm] 43, rRing r d p ab F3 ((pollF S).1), rRefR s e q K5 Z4, rRowO (.slice z.2.2.2.1 z.2.2.1.length z.2.2.2.2) (ivs z.2.2.1) 3, rRowO (.slice qm mine.length cm) (ivs mine) 3, rRowN (.slice q1 ((pollF S).2.length) c2) z.2.1 67 2, rRowN (.slice q6 ob.length c7) (comeV ob) 67 2]) (fun n z => n + z.1 = (pollF S).2.length ∧ z.2.2.1 = come ++ ((pollF S).2.take z.1).map (fun x : Int × Bool => x.1) ∧ (∀ j, z.1 ≤ j → z.2.1[j]? = (comeV (pollF S).2)[j]?) ∧ (∀ b, (Value.slice z.2.2.2.1 z.2.2.1.length z.2.2.2.2).ownBlock = some b → G b ∨ w.heap.size ≤ b)) (pollF S).2.length (0, comeV (pollF S).2, come, qc, cc) ⟨rfl, by simp, fun _ _ => rfl, hqc⟩ ⟨rfl, rfl, rfl, rfl, rfl, trivial⟩ rfl ?_
  rintro N ⟨i, xs, cs, qc, cc⟩ ⟨hN, hcs, hxs, hqc⟩
  dsimp only at hN hcs hxs hqc
  have hji : FJ n (pollF S).1 cs mine := by rw [hcs]; exact hj.poll.1 i
  have hcl := hji.lens.1
  rcases N with _ | N
  · skip
    refine SC.seq ?_
    refine SC.sr ?_
    refine SL.mv ?_
    refine SL.mv ?_
    refine SL.uu (ru_len Try.underlying61 rfl rfl) ?_
    refine SL.uu (ru_lt (b := (decide (((i : Int) : Int) < ((pollF S).2.length : Int)))) rfl rfl rfl rfl) ?_
    refine SL.nn [(0, pt g 0), (2, bo false), (3, Value.slice q1 ((pollF S).2.length) c2), (4, Value.slice q6 ob.length c7), (5, iw (i : Int)), (24, bo (decide (((i : Int) : Int) < ((pollF S).2.length : Int))))] [rBlk g [pt d 0, pt p 0, pt r 0, pt e 0, pt q 0, pt s 0, Value.slice qc cs.length cc, Value.slice qm mine.length cm] 43, rRing r d p ab F3 ((pollF S).1), rRefR s e q K5 Z4, rRowO (.slice qc cs.length cc) (ivs cs) 3, rRowO (.slice qm mine.length cm) (ivs mine) 3, rRowN (.slice q1 ((pollF S).2.length) c2) xs 67 2, rRowN (.slice q6 ob.length c7) (comeV ob) 67 2] ⟨rfl, rfl, rfl, rfl, rfl, rfl, trivial⟩ ?_
    refine SC.no (show some (Value.bool (decide (((i : Int) : Int) < ((pollF S).2.length : Int)))) = some (Value.bool false) from congrArg (fun x => some (Value.bool x)) (decide_eq_false (by omega))) ?_
    refine SC.exit ?_
    refine SE.passe ?_
    refine SE.passe ?_
    refine SE.blke ?_
    refine SC.of_SE ?_
    refine SC.norm [(2, bo false)] _ ⟨rfl, trivial⟩ rfl ?_
    refine SC.sr ?_
    refine SL.as ?_
    refine SL.nn [(2, bo true)] _ ⟨rfl, trivial⟩ ?_
    refine SC.ret ?_
    refine SE.res (.inl rfl) (res1 Try.results46 rfl) fun w1 hI => ⟨⟨_, rfl⟩, ⟨(pollF S).1, F3, Z4, K5, cs, mine, qc, cc, qm, cm⟩, hji, hZ4, r1_poll, ?_, ⟨hg, hG, hF3, hK5, hqc, hqm⟩, hI.2⟩
    exact (hI.pick (js := [0, 1, 2, 3, 4]) rfl).1
  obtain ⟨x, hx⟩ : ∃ x, (pollF S).2[i]? = some x := ⟨_, List.getElem?_eq_getElem (by omega)⟩
  obtain ⟨y, hy⟩ : ∃ y, ob[i]? = some y := ⟨_, List.getElem?_eq_getElem (by omega)⟩
  have hxa : xs[((i : Nat) : Int).toNat]? = some [iw x.1, bo x.2] := by rw [Int.toNat_natCast, hxs i (Nat.le_refl _)]; simp [comeV, hx]
  have hyb := come_get hy
  refine SC.seq ?_
  refine SC.sr ?_
  refine SL.mv ?_
  refine SL.mv ?_
  refine SL.uu (ru_len Try.underlying61 rfl rfl) ?_
  refine SL.uu (ru_lt (b := (decide (((i : Int) : Int) < ((pollF S).2.length : Int)))) rfl rfl rfl rfl) ?_
  refine SL.nn [(0, pt g 0), (2, bo false), (3, Value.slice q1 ((pollF S).2.length) c2), (4, Value.slice q6 ob.length c7), (5, iw (i : Int)), (24, bo (decide (((i : Int) : Int) < ((pollF S).2.length : Int))))] [rBlk g [pt d 0, pt p 0, pt r 0, pt e 0, pt q 0, pt s 0, Value.slice qc cs.length cc, Value.slice qm mine.length cm] 43, rRing r d p ab F3 ((pollF S).1), rRefR s e q K5 Z4, rRowO (.slice qc cs.length cc) (ivs cs) 3, rRowO (.slice qm mine.length cm) (ivs mine) 3, rRowN (.slice q1 ((pollF S).2.length) c2) xs 67 2, rRowN (.slice q6 ob.length c7) (comeV ob) 67 2] ⟨rfl, rfl, rfl, rfl, rfl, rfl, trivial⟩ ?_
  refine SC.yes (show some (Value.bool (decide (((i : Int) : Int) < ((pollF S).2.length : Int)))) = some (Value.bool true) from congrArg (fun x => some (Value.bool x)) (decide_eq_true (by omega))) ?_
  refine SC.skip ?_
  refine SC.of_SE ?_
  refine SC.norm [(0, pt g 0), (2, bo false), (3, Value.slice q1 ((pollF S).2.length) c2), (4, Value.slice q6 ob.length c7), (5, iw (i : Int))] _ ⟨rfl, rfl, rfl, rfl, rfl, trivial⟩ rfl ?_
  refine SC.seq ?_
  refine SC.block ?_
  refine SC.seq ?_
  refine SC.seq ?_
  refine SC.region_quiet (by kernel_rfl) (by kernel_rfl) ?_
  refine SQ.uu (ru_move rfl rfl) ?_
  refine SQ.uu (ru_move rfl rfl) ?_
  refine SQ.uu (ru_index_rowN (ri := 5) si61 rfl rfl rfl rfl (by omega) (by omega)) ?_
  refine SQ.uu (ru_loada_rowN (ri := 5) (i := (i : Int).toNat) (r := [iw x.1, bo x.2]) ta67 rfl rfl rfl hxa rfl rfl) ?_
  refine SQ.uu (ru_move rfl rfl) ?_
  refine SQ.uu (ru_move rfl rfl) ?_
  refine SQ.uu (ru_index_rowN (ri := 6) si61 rfl rfl rfl rfl (by omega) (by omega)) ?_
  refine SQ.uu (ru_loada_rowN (ri := 6) (i := (i : Int).toNat) (r := [iw y.1, bo y.2]) ta67 rfl rfl rfl hyb rfl rfl) ?_
  refine SQ.uu (ru_come_ne (x := x) (y := y) rfl rfl rfl) ?_
  refine SQ.nilE ?_
  refine SC.of_SE ?_
  refine SC.norm [(0, pt g 0), (2, bo false), (3, Value.slice q1 ((pollF S).2.length) c2), (4, Value.slice q6 ob.length c7), (5, iw (i : Int)), (35, bo (!comeB x y))] _ ⟨rfl, rfl, rfl, rfl, rfl, rfl, trivial⟩ rfl ?_
  refine SC.both (!comeB x y) rfl (fun h9 => ?_) (fun h9 => ?_)
  · skip
    refine SC.sr ?_
    refine SL.as ?_
    refine SL.nn [(0, pt g 0), (2, bo false), (3, Value.slice q1 ((pollF S).2.length) c2), (4, Value.slice q6 ob.length c7), (5, iw (i : Int))] _ ⟨rfl, rfl, rfl, rfl, rfl, trivial⟩ ?_
    refine SC.ret ?_
    refine SE.passr ?_
    refine SE.blkr ?_
    refine SE.passr ?_
    refine SE.passr ?_
    refine SE.blkr ?_
    refine SE.passr ?_
    refine SE.res (.inl rfl) (res1 Try.results46 rfl) fun w1 hI => ⟨⟨_, rfl⟩, ⟨(pollF S).1, F3, Z4, K5, cs, mine, qc, cc, qm, cm⟩, hji, hZ4, r1_poll, ?_, ⟨hg, hG, hF3, hK5, hqc, hqm⟩, hI.2⟩
    exact (hI.pick (js := [0, 1, 2, 3, 4]) rfl).1
  have hxy := comeB_eq h9
  refine SC.skip ?_
  refine SC.of_SE ?_
  refine SC.norm [(0, pt g 0), (2, bo false), (3, Value.slice q1 ((pollF S).2.length) c2), (4, Value.slice q6 ob.length c7), (5, iw (i : Int))] _ ⟨rfl, rfl, rfl, rfl, rfl, trivial⟩ rfl ?_
  refine SC.seq ?_
  refine SC.region_mk_tailE [(1, 0)] 11 [(10, Mk.row ⟨54, w, G⟩ 1 1 [] (fun _ => [iw y.1]) 3)] [] rfl rfl (by kernel_rfl) (by kernel_rfl) (by kernel_rfl) (by kernel_rfl) ?_
  refine SM.ru rfl rfl rfl (w_all rfl) rfl (lt_b rfl) (ru_move rfl rfl) ?_
  refine SM.ru rfl rfl rfl (w_all rfl) rfl (lt_b rfl) (ru_move rfl rfl) ?_
  refine SM.ru rfl rfl rfl (w_all rfl) rfl (lt_b rfl) (ru_nilCheck rfl rfl) ?_
  refine SM.ru rfl rfl rfl (w_all rfl) rfl (lt_b rfl) (ru_fieldAddr (o2 := 6) fd43_6 rfl rfl rfl) ?_
  refine SM.ru rfl rfl rfl (w_all rfl) rfl (lt_b rfl) (ru_load (i := 0) ts26 rfl rfl rfl rfl) ?_
  refine SM.ru rfl rfl rfl (w_all rfl) rfl (lt_b rfl) (ru_move rfl rfl) ?_
  refine SM.ru rfl rfl rfl (w_all rfl) rfl (lt_b rfl) (ru_move rfl rfl) ?_
  refine SM.ru rfl rfl rfl (w_all rfl) rfl (lt_b rfl) (ru_index_rowN (ri := 6) si61 rfl rfl rfl rfl (by omega) (by omega)) ?_
  refine SM.ru rfl rfl rfl (w_all rfl) rfl (lt_b rfl) (ru_fieldAddr (o2 := ((i : Int).toNat * 2 + 0)) fd67_0 rfl rfl rfl) ?_
  refine SM.ru rfl rfl rfl (w_all rfl) rfl (lt_b rfl) (ru_load_rowN (ri := 6) (i := (i : Int).toNat) (k := 0) (size := 2) ts3 rfl rfl rfl hyb (by decide) rfl) ?_
  refine SM.buildSlice (size := 1) (vals := [(0, iw y.1)]) (z := [iw 0]) (cs := [iw y.1]) (dp := []) (csf := fun _ => [iw y.1]) rfl rfl rfl rfl (w_all rfl) rfl (lt_b rfl) rfl rfl rfl rfl Try.underlying26 (by kernel_rfl) rfl rfl (by kernel_rfl) fun b10 hb10 => ?_
  refine SM.nilL (l' := [rBlk g [pt d 0, pt p 0, pt r 0, pt e 0, pt q 0, pt s 0, Value.slice qc cs.length cc, Value.slice qm mine.length cm] 43, rRing r d p ab F3 ((pollF S).1), rRefR s e q K5 Z4, rRowO (.slice qc cs.length cc) (ivs cs) 3, rRowO (.slice qm mine.length cm) (ivs mine) 3, rRowN (.slice q1 ((pollF S).2.length) c2) xs 67 2, rRowN (.slice q6 ob.length c7) (comeV ob) 67 2, rBlk b10 [iw y.1] 3]) rfl ?_
  refine SL.append_rowO (ri := 3) (rj := 7) (z := iw 0) (bytes := 8) rfl rfl (lt_b rfl) rfl Try.underlying26 (by kernel_rfl) rfl rfl rfl rfl rfl rfl (by first | omega | (rw [ivs_len]; omega)) (by unfold maxLen; first | omega | (rw [ivs_len]; omega)) (fun b hb => hqc b hb) fun q11 c12 hq13 => ?_
  refine SL.nk ?_
  refine SL.uu (ru_fieldAddr (o2 := 6) fd43_6 rfl rfl rfl) ?_
  refine SL.store (i := 0) (c' := [pt d 0, pt p 0, pt r 0, pt e 0, pt q 0, pt s 0, Value.slice q11 (cs.length + 1) c12, Value.slice qm mine.length cm]) rfl rfl ts26 rfl rfl rfl rfl rfl (lt_b rfl) hg rfl ?_
  refine SL.nil ?_
  refine SE.onlyN ?_
  refine SC.of_SE ?_
  refine SC.norm [(0, pt g 0), (2, bo false), (3, Value.slice q1 ((pollF S).2.length) c2), (4, Value.slice q6 ob.length c7), (5, iw (i : Int))] [rBlk g [pt d 0, pt p 0, pt r 0, pt e 0, pt q 0, pt s 0, Value.slice q11 (cs.length + 1) c12, Value.slice qm mine.length cm] 43, rRing r d p ab F3 ((pollF S).1), rRefR s e q K5 Z4, rRowO (.slice q11 (cs.length + 1) c12) (ivs cs ++ [iw y.1]) 3, rRowO (.slice qm mine.length cm) (ivs mine) 3, rRowN (.slice q1 ((pollF S).2.length) c2) xs 67 2, rRowN (.slice q6 ob.length c7) (comeV ob) 67 2, rBlk b10 [iw y.1] 3] ⟨rfl, rfl, rfl, rfl, rfl, trivial⟩ rfl ?_
  refine SC.region ?_
  refine SL.mv ?_
  refine SL.mv ?_
  refine SL.uu (ru_index_rowN (ri := 5) si61 rfl rfl rfl rfl (by omega) (by omega)) ?_
  refine SL.uu (ru_fieldAddr (o2 := ((i : Int).toNat * 2 + 0)) fd67_0 rfl rfl rfl) ?_
  refine SL.store_rowN (ri := 5) (i := (i : Int).toNat) (k := 0) (size := 2) rfl rfl ts3 rfl rfl rfl rfl rfl hxa (by decide) (fun b hb => .inr (hqa b hb)) ?_
  refine SL.nil ?_
  refine SE.blkn ?_
  refine SC.of_SE ?_
  refine SC.norm [(0, pt g 0), (2, bo false), (3, Value.slice q1 ((pollF S).2.length) c2), (4, Value.slice q6 ob.length c7), (5, iw (i : Int))] [rBlk g [pt d 0, pt p 0, pt r 0, pt e 0, pt q 0, pt s 0, Value.slice q11 (cs.length + 1) c12, Value.slice qm mine.length cm] 43, rRing r d p ab F3 ((pollF S).1), rRefR s e q K5 Z4, rRowO (.slice q11 (cs.length + 1) c12) (ivs cs ++ [iw y.1]) 3, rRowO (.slice qm mine.length cm) (ivs mine) 3, rRowN (.slice q1 ((pollF S).2.length) c2) (xs.set (i : Int).toNat ([iw x.1, bo x.2].set 0 (iw (-1)))) 67 2, rRowN (.slice q6 ob.length c7) (comeV ob) 67 2, rBlk b10 [iw y.1] 3] ⟨rfl, rfl, rfl, rfl, rfl, trivial⟩ rfl ?_
  refine SC.region ?_
  refine SL.mv ?_
  refine SL.uu (ru_add (r := (IntKind.i64.wrap ((i : Int) + 1))) rfl rfl rfl rfl) ?_
  refine SL.as ?_
  refine SL.nil ?_
  refine SE.pick [0, 1, 2, 3, 4, 5, 6] rfl ?_
  refine SE.again N (i + 1, xs.set (i : Int).toNat ([iw x.1, bo x.2].set 0 (iw (-1))), cs ++ [y.1], q11, c12) (by omega) ⟨by simp only; omega, by simp only; rw [hcs, ← hxy, come_next hx], fun j hj9 => ?_, by simpa only [List.length_append, List.length_singleton] using hq13⟩ ⟨rfl, rfl, rfl, rfl, (congrArg (fun x => some (iw x)) (show IntKind.i64.wrap ((i : Int) + 1) = ((i + 1 : Nat) : Int) by rw [IntKind.wrap_i64]; omega)), trivial⟩ (by simp only [ivs_snoc, List.length_append, List.length_singleton]; rfl)
  rw [Int.toNat_natCast, List.getElem?_set_ne (by simp only at hj9; omega)]; exact hxs j (by simp only at hj9; omega)

end Go.Proofs.Ytghfkgcaglabpaa

/-
  does.
-/
namespace Go.Proofs.Ytghfkgcaglabpaa
open Go.RowKit
set_option maxRecDepth 100000
set_option maxHeartbeats 1000000
theorem RRAt.e {w : World} {s e q : Nat} {G : Nat → Prop} {Z : RefS} (h : RRAt w s e q G Z) : G e := by
  obtain ⟨rb, FE, FQ, qt, ct, qc, cc, h1, g1, g2, _⟩ := h
  exact g2
theorem does_any {w : World} {n B g d p ab r e q s : Nat} {G F KZ : Nat → Prop} {S : RingA} {Z : RefS} {come mine : List Int} {qc qm : Option Addr} {cc cm : Nat} {k m : Int} {fa : Option Addr} {fc : Nat} {f : List UInt8} {y : Bool} (hj : FJ n S come mine) (hn60 : n ≤ 60) (hZ : RB B Z) (h1B : 1 ≤ B) (hB : B ≤ 10000000000000) (hX : GX G w.heap.size g d p ab r ⟨S, F, Z, KZ, come, mine, qc, cc, qm, cm⟩) (hbs : BytesAt w (.slice fa f.length fc) f) (hbx : sliceIn (.slice fa f.length fc) (fun b => ¬ G b)) (hbl : sliceIn (.slice fa f.length fc) (fun b => ¬ fpl (RX g d p ab r e q s ⟨S, F, Z, KZ, come, mine, qc, cc, qm, cm⟩) b)) (h : Sep w (RX g d p ab r e q s ⟨S, F, Z, KZ, come, mine, qc, cc, qm, cm⟩)) : Calls Try.prog 16 #[pt g 0, Value.agg #[iw k, iw m, Value.slice fa f.length fc, bo y]] w fun e' w' => (∃ v : Bool, e' = .returned (bo v)) ∧ DTo n (B + 1) w g d p ab r e q s G (if k = 6 then (linkF S.A y).r 1 else S.A.r 1) w' := by
  have hg : G g ∨ w.heap.size ≤ g := hX.g
  have hG : ∀ b, rS r d p ab b → G b ∨ w.heap.size ≤ b := hX.r
  have hF : ∀ b, F b → G b ∨ w.heap.size ≤ b := hX.f
  have hKZ : ∀ b, KZ b → G b ∨ w.heap.size ≤ b := hX.k
  have hqc : ∀ b, (Value.slice qc come.length cc).ownBlock = some b → G b ∨ w.heap.size ≤ b := hX.c
  have hqm : ∀ b, (Value.slice qm mine.length cm).ownBlock = some b → G b ∨ w.heap.size ≤ b := hX.m
  have hcl := hj.lens.1
  have hml := hj.lens.2
  have hKe : KZ e := RRAt.e (h.1 (rRefR s e q KZ Z) (by simp))
  refine calls_sc (l0 := (RX g d p ab r e q s ⟨S, F, Z, KZ, come, mine, qc, cc, qm, cm⟩)) (args := [pt g 0, Value.agg #[iw k, iw m, Value.slice fa f.length fc, bo y]]) G Try.func16 rfl 146 Try.ntmps16 (le_b rfl) ⟨h, Only.refl _ _⟩ ?_
  show SC _ _ _ _ [(0, pt g 0), (1, Value.agg #[iw k, iw m, Value.slice fa f.length fc, bo y])] (RX g d p ab r e q s ⟨S, F, Z, KZ, come, mine, qc, cc, qm, cm⟩)
  refine SC.sr ?_
  refine SL.box (c := [iw k, iw m, Value.slice fa f.length fc, bo y]) rfl rfl (lt_b rfl) rfl rfl rfl fun b1 hb1 => ?_
  refine SL.as ?_
  refine SL.nn [(0, pt g 0), (3, pt b1 0), (4, bo false)] [rBlk g [pt d 0, pt p 0, pt r 0, pt e 0, pt q 0, pt s 0, Value.slice qc come.length cc, Value.slice qm mine.length cm] 43, rRing r d p ab F S, rRefR s e q KZ Z, rRowO (.slice qc come.length cc) (ivs come) 3, rRowO (.slice qm mine.length cm) (ivs mine) 3, rBlk b1 [iw k, iw m, Value.slice fa f.length fc, bo y] 30] ⟨rfl, rfl, rfl, trivial⟩ ?_
  refine SC.seq ?_
  refine SC.sr ?_
  refine SL.uu (ru_fieldAddr (o2 := 0) fd30_0 rfl rfl rfl) ?_
  refine SL.uu (ru_load (i := 5) ts3 rfl rfl rfl rfl) ?_
  refine SL.nn [(0, pt g 0), (3, pt b1 0), (4, bo false), (10, iw k)] _ ⟨rfl, rfl, rfl, rfl, trivial⟩ ?_
  refine SC.block ?_
  refine SC.sr ?_
  refine SL.uu (ru_eq (b := ((k : Int) == 0)) rfl rfl rfl rfl) ?_
  refine SL.as ?_
  refine SL.nn [(0, pt g 0), (3, pt b1 0), (4, bo false), (10, iw k), (11, bo ((k : Int) == 0))] _ ⟨rfl, rfl, rfl, rfl, rfl, trivial⟩ ?_
  refine SC.both ((k : Int) == 0) rfl (fun h2 => ?_) (fun h2 => ?_)
  · skip
    have hk0 := eq_t h2
    refine SC.sr ?_
    refine SL.mv ?_
    refine SL.uu (ru_loada (i := 5) (vs := [iw k, iw m, Value.slice fa f.length fc, bo y]) ta30 rfl rfl rfl rfl (le_b rfl)) ?_
    refine SL.call (ζ := Bool × DS) (fun z => bo z.1) (fun z => [rBlk g [pt d 0, pt p 0, pt r 0, pt e 0, pt q 0, pt s 0, Value.slice z.2.qc z.2.come.length z.2.cc, Value.slice z.2.qm z.2.mine.length z.2.cm] 43, rRing r d p ab z.2.F z.2.S, rRefR s e q z.2.K z.2.Z, rRowO (.slice z.2.qc z.2.come.length z.2.cc) (ivs z.2.come) 3, rRowO (.slice z.2.qm z.2.mine.length z.2.cm) (ivs z.2.mine) 3, rBlk b1 [iw k, iw m, Value.slice fa f.length fc, bo y] 30]) (fun z => FJ n z.2.S z.2.come z.2.mine ∧ RB (B + 1) z.2.Z ∧ z.2.S.A.r 1 = S.A.r 1 ∧ GX G w.heap.size g d p ab r z.2) rfl rfl co44 rfl rfl rfl (lt_b rfl) (fun w9 hI => (takes_any (G := fpl (RX g d p ab r e q s ⟨S, F, Z, KZ, come, mine, qc, cc, qm, cm⟩)) hj hn60 hZ h1B hB GX.self (hbs.only hI.2 hbx) hbl hbl (Inv.headL (l1 := (RX g d p ab r e q s ⟨S, F, Z, KZ, come, mine, qc, cc, qm, cm⟩)) hI)).mono fun e2 w2 ⟨⟨v, h1⟩, h2⟩ => by obtain ⟨x9, k1, k2, k3, k4, k5⟩ := DTo.lift (x := ⟨S, F, Z, KZ, come, mine, qc, cc, qm, cm⟩) hI hX h2; exact ⟨(v, x9), h1, k1, k2, k3, k4, k5⟩) ?_
    rintro ⟨v4, x3⟩ ⟨hx3j, hx3z, hx3r, hx3X⟩
    refine SL.as ?_
    refine SL.nn [(4, bo v4)] [rBlk g [pt d 0, pt p 0, pt r 0, pt e 0, pt q 0, pt s 0, Value.slice x3.qc x3.come.length x3.cc, Value.slice x3.qm x3.mine.length x3.cm] 43, rRing r d p ab x3.F x3.S, rRefR s e q x3.K x3.Z, rRowO (.slice x3.qc x3.come.length x3.cc) (ivs x3.come) 3, rRowO (.slice x3.qm x3.mine.length x3.cm) (ivs x3.mine) 3, rBlk b1 [iw k, iw m, Value.slice fa f.length fc, bo y] 30] ⟨rfl, trivial⟩ ?_
    refine SC.ret ?_
    refine SE.blkr ?_
    refine SE.passr ?_
    refine SE.res (.inl rfl) (res1 Try.results16 rfl) fun w1 hI => ⟨⟨_, rfl⟩, x3, hx3j, hx3z, (Eq.trans hx3r (if_neg (by omega)).symm), (hI.pick (js := [0, 1, 2, 3, 4]) rfl).1, hx3X, hI.2⟩
  have hk0 := eq_f h2
  refine SC.sr ?_
  refine SL.uu (ru_eq (b := ((k : Int) == 1)) rfl rfl rfl rfl) ?_
  refine SL.as ?_
  refine SL.nn [(0, pt g 0), (3, pt b1 0), (4, bo false), (10, iw k), (16, bo ((k : Int) == 1))] _ ⟨rfl, rfl, rfl, rfl, rfl, trivial⟩ ?_
  refine SC.both ((k : Int) == 1) rfl (fun h5 => ?_) (fun h5 => ?_)
  · skip
    have hk1 := eq_t h5
    refine SC.seq ?_
    have hcb7 := CU.base (X := ⟨146, w, G⟩) (l := [rBlk g [pt d 0, pt p 0, pt r 0, pt e 0, pt q 0, pt s 0, Value.slice qc come.length cc, Value.slice qm mine.length cm] 43, rRing r d p ab F S, rRefR s e q KZ Z, rRowO (.slice qc come.length cc) (ivs come) 3, rRowO (.slice qm mine.length cm) (ivs mine) 3, rBlk b1 [iw k, iw m, Value.slice fa f.length fc, bo y] 30]) (l2 := fun (F6 : Nat → Prop) => [rBlk g [pt d 0, pt p 0, pt r 0, pt e 0, pt q 0, pt s 0, Value.slice qc come.length cc, Value.slice qm mine.length cm] 43, rRing r d p ab F6 ((sendF S m).2), rRefR s e q KZ Z, rRowO (.slice qc come.length cc) (ivs come) 3, rRowO (.slice qm mine.length cm) (ivs mine) 3, rBlk b1 [iw k, iw m, Value.slice fa f.length fc, bo y] 30]) (p := fun (F6 : Nat → Prop) => (∀ b, F6 b → G b ∨ w.heap.size ≤ b)) (k := 6) (lb := [rBlk g [pt d 0, pt p 0, pt r 0, pt e 0, pt q 0, pt s 0, Value.slice qc come.length cc, Value.slice qm mine.length cm] 43, rNone, rRefR s e q KZ Z, rRowO (.slice qc come.length cc) (ivs come) 3, rRowO (.slice qm mine.length cm) (ivs mine) 3, rBlk b1 [iw k, iw m, Value.slice fa f.length fc, bo y] 30]) (fun w hI => hI.weak (i := 1) (r' := rNone) rfl (fun _ => trivial) (fun b hb => hb.elim)) (fun z w hI => hI.weak (i := 1) (r' := rNone) rfl (fun _ => trivial) (fun b hb => hb.elim))
    refine SC.region_turn (ζ := Nat → Prop) 13 6 (fun F6 => [rBlk g [pt d 0, pt p 0, pt r 0, pt e 0, pt q 0, pt s 0, Value.slice qc come.length cc, Value.slice qm mine.length cm] 43, rRing r d p ab F6 ((sendF S m).2), rRefR s e q KZ Z, rRowO (.slice qc come.length cc) (ivs come) 3, rRowO (.slice qm mine.length cm) (ivs mine) 3, rBlk b1 [iw k, iw m, Value.slice fa f.length fc, bo y] 30]) (fun F6 => (∀ b, F6 b → G b ∨ w.heap.size ≤ b)) (by kernel_rfl) (by kernel_rfl) rfl ?_
    refine SS.ru _ hcb7 rfl rfl rfl (lt_b rfl) (ru_move rfl rfl) ?_
    refine SS.ru _ hcb7 rfl rfl rfl (lt_b rfl) (ru_nilCheck rfl rfl) ?_
    refine SS.ru _ hcb7 rfl rfl rfl (lt_b rfl) (ru_fieldAddr (o2 := 2) fd43_2 rfl rfl rfl) ?_
    refine SS.ru _ hcb7 rfl rfl rfl (lt_b rfl) (ru_load (i := 0) ts38 rfl rfl rfl rfl) ?_
    refine SS.ru _ hcb7 rfl rfl rfl (lt_b rfl) (ru_fieldAddr (o2 := 1) fd30_1 rfl rfl rfl) ?_
    refine SS.ru _ hcb7 rfl rfl rfl (lt_b rfl) (ru_load (i := 5) ts3 rfl rfl rfl rfl) ?_
    refine SS.turnc (iw ((sendF S m).1)) rfl rfl co10 rfl rfl rfl (lt_b rfl) (fun w hI => (send_anyR hj.ok hj.few (ring_at hI (i := 1) rfl) m).mono fun e w2 ⟨h1, h2⟩ => by obtain ⟨F2, k1, k2⟩ := hI.ringTo (F0 := G) (i := 1) rfl hG h2 hF; exact ⟨F2, h1, k1, k2⟩) ?_
    refine SS.ru _ hcb7 rfl rfl rfl (lt_b rfl) (ru_move rfl rfl) ?_
    refine SS.ru _ hcb7 rfl rfl rfl (lt_b rfl) (ru_nilCheck rfl rfl) ?_
    refine SS.ru _ hcb7 rfl rfl rfl (lt_b rfl) (ru_fieldAddr (o2 := 5) fd43_5 rfl rfl rfl) ?_
    refine SS.ru _ hcb7 rfl rfl rfl (lt_b rfl) (ru_load (i := 0) ts41 rfl rfl rfl rfl) ?_
    refine SS.ru _ hcb7 rfl rfl rfl (lt_b rfl) (ru_fieldAddr (o2 := 1) fd30_1 rfl rfl rfl) ?_
    refine SS.ru _ hcb7 rfl rfl rfl (lt_b rfl) (ru_load (i := 5) ts3 rfl rfl rfl rfl) ?_
    refine SS.nilU ?_
    intro F6 hF6
    refine SL.call (ζ := Int × RefS × (Nat → Prop)) (fun z => iw z.1) (fun z => [rBlk g [pt d 0, pt p 0, pt r 0, pt e 0, pt q 0, pt s 0, Value.slice qc come.length cc, Value.slice qm mine.length cm] 43, rRing r d p ab F6 ((sendF S m).2), rRefR s e q z.2.2 z.2.1, rRowO (.slice qc come.length cc) (ivs come) 3, rRowO (.slice qm mine.length cm) (ivs mine) 3, rBlk b1 [iw k, iw m, Value.slice fa f.length fc, bo y] 30]) (fun z => RB (B + 1) z.2.1 ∧ ∀ b, z.2.2 b → G b ∨ w.heap.size ≤ b) rfl rfl co45 rfl rfl rfl (lt_b rfl) (fun w9 hI => rr_send (Z := Z) (G := KZ) (s := s) (e := e) (q := q) (j := 2) hI rfl hKZ hZ h1B hB m) ?_
    rintro ⟨x8, Z9, K10⟩ ⟨hZ9, hK10⟩
    refine SL.uu (ru_eq (b := ((((sendF S m).1) : Int) == x8)) rfl rfl rfl rfl) ?_
    refine SL.as ?_
    refine SL.nn [(4, bo ((((sendF S m).1) : Int) == x8))] [rBlk g [pt d 0, pt p 0, pt r 0, pt e 0, pt q 0, pt s 0, Value.slice qc come.length cc, Value.slice qm mine.length cm] 43, rRing r d p ab F6 ((sendF S m).2), rRefR s e q K10 Z9, rRowO (.slice qc come.length cc) (ivs come) 3, rRowO (.slice qm mine.length cm) (ivs mine) 3, rBlk b1 [iw k, iw m, Value.slice fa f.length fc, bo y] 30] ⟨rfl, trivial⟩ ?_
    refine SC.ret ?_
    refine SE.blkr ?_
    refine SE.passr ?_
    refine SE.res (.inl rfl) (res1 Try.results16 rfl) fun w1 hI => ⟨⟨_, rfl⟩, ⟨(sendF S m).2, F6, Z9, K10, come, mine, qc, cc, qm, cm⟩, (hj.send m), hZ9, (Eq.trans r1_send (if_neg (by omega)).symm), ?_, ⟨hg, hG, hF6, hK10, hqc, hqm⟩, hI.2⟩
    exact (hI.pick (js := [0, 1, 2, 3, 4]) rfl).1
  have hk1 := eq_f h5
  refine SC.sr ?_
  refine SL.uu (ru_eq (b := ((k : Int) == 2)) rfl rfl rfl rfl) ?_
  refine SL.as ?_
  refine SL.nn [(0, pt g 0), (3, pt b1 0), (4, bo false), (10, iw k), (33, bo ((k : Int) == 2))] _ ⟨rfl, rfl, rfl, rfl, rfl, trivial⟩ ?_
  refine SC.both ((k : Int) == 2) rfl (fun h11 => ?_) (fun h11 => ?_)
  · skip
    have hk2 := eq_t h11
    refine SC.sr ?_
    refine SL.mv ?_
    refine SL.call (ζ := Bool × DS) (fun z => bo z.1) (fun z => [rBlk g [pt d 0, pt p 0, pt r 0, pt e 0, pt q 0, pt s 0, Value.slice z.2.qc z.2.come.length z.2.cc, Value.slice z.2.qm z.2.mine.length z.2.cm] 43, rRing r d p ab z.2.F z.2.S, rRefR s e q z.2.K z.2.Z, rRowO (.slice z.2.qc z.2.come.length z.2.cc) (ivs z.2.come) 3, rRowO (.slice z.2.qm z.2.mine.length z.2.cm) (ivs z.2.mine) 3, rBlk b1 [iw k, iw m, Value.slice fa f.length fc, bo y] 30]) (fun z => FJ n z.2.S z.2.come z.2.mine ∧ RB (B + 1) z.2.Z ∧ z.2.S.A.r 1 = S.A.r 1 ∧ GX G w.heap.size g d p ab r z.2) rfl rfl co46 rfl rfl rfl (lt_b rfl) (fun w9 hI => (polls_any (G := fpl (RX g d p ab r e q s ⟨S, F, Z, KZ, come, mine, qc, cc, qm, cm⟩)) hj hn60 hZ h1B hB GX.self (Inv.headL (l1 := (RX g d p ab r e q s ⟨S, F, Z, KZ, come, mine, qc, cc, qm, cm⟩)) hI)).mono fun e2 w2 ⟨⟨v, h1⟩, h2⟩ => by obtain ⟨x9, k1, k2, k3, k4, k5⟩ := DTo.lift (x := ⟨S, F, Z, KZ, come, mine, qc, cc, qm, cm⟩) hI hX h2; exact ⟨(v, x9), h1, k1, k2, k3, k4, k5⟩) ?_
    rintro ⟨v13, x12⟩ ⟨hx12j, hx12z, hx12r, hx12X⟩
    refine SL.as ?_
    refine SL.nn [(4, bo v13)] [rBlk g [pt d 0, pt p 0, pt r 0, pt e 0, pt q 0, pt s 0, Value.slice x12.qc x12.come.length x12.cc, Value.slice x12.qm x12.mine.length x12.cm] 43, rRing r d p ab x12.F x12.S, rRefR s e q x12.K x12.Z, rRowO (.slice x12.qc x12.come.length x12.cc) (ivs x12.come) 3, rRowO (.slice x12.qm x12.mine.length x12.cm) (ivs x12.mine) 3, rBlk b1 [iw k, iw m, Value.slice fa f.length fc, bo y] 30] ⟨rfl, trivial⟩ ?_
    refine SC.ret ?_
    refine SE.blkr ?_
    refine SE.passr ?_
    refine SE.res (.inl rfl) (res1 Try.results16 rfl) fun w1 hI => ⟨⟨_, rfl⟩, x12, hx12j, hx12z, (Eq.trans hx12r (if_neg (by omega)).symm), (hI.pick (js := [0, 1, 2, 3, 4]) rfl).1, hx12X, hI.2⟩
  have hk2 := eq_f h11
  refine SC.sr ?_
  refine SL.uu (ru_eq (b := ((k : Int) == 3)) rfl rfl rfl rfl) ?_
  refine SL.as ?_
  refine SL.nn [(0, pt g 0), (3, pt b1 0), (4, bo false), (10, iw k), (37, bo ((k : Int) == 3))] _ ⟨rfl, rfl, rfl, rfl, rfl, trivial⟩ ?_
  refine SC.both ((k : Int) == 3) rfl (fun h14 => ?_) (fun h14 => ?_)
  · skip
    have hk3 := eq_t h14
    refine SC.sr ?_
    refine SL.mv ?_
    refine SL.nk ?_
    refine SL.uu (ru_fieldAddr (o2 := 2) fd43_2 rfl rfl rfl) ?_
    refine SL.uu (ru_load (i := 0) ts38 rfl rfl rfl rfl) ?_
    refine SL.call (ζ := Nat → Prop) (fun F15 => Value.tuple #[]) (fun F15 => [rBlk g [pt d 0, pt p 0, pt r 0, pt e 0, pt q 0, pt s 0, Value.slice qc come.length cc, Value.slice qm mine.length cm] 43, rRing r d p ab F15 (resetF S), rRefR s e q KZ Z, rRowO (.slice qc come.length cc) (ivs come) 3, rRowO (.slice qm mine.length cm) (ivs mine) 3, rBlk b1 [iw k, iw m, Value.slice fa f.length fc, bo y] 30]) (fun F15 => (∀ b, F15 b → G b ∨ w.heap.size ≤ b)) rfl rfl co47 rfl rfl rfl (lt_b rfl) (fun w hI => (reset_any hj.ok.a hj.ok.t hj.ok.r hj.few (ring_at hI (i := 1) rfl)).mono fun e w2 ⟨h1, h2⟩ => by obtain ⟨F2, k1, k2⟩ := hI.ringTo (F0 := G) (i := 1) rfl hG h2 hF; exact ⟨F2, h1, k1, k2⟩) ?_
    intro F15 hF15
    refine SL.nn [(0, pt g 0), (4, bo false)] [rBlk g [pt d 0, pt p 0, pt r 0, pt e 0, pt q 0, pt s 0, Value.slice qc come.length cc, Value.slice qm mine.length cm] 43, rRing r d p ab F15 (resetF S), rRefR s e q KZ Z, rRowO (.slice qc come.length cc) (ivs come) 3, rRowO (.slice qm mine.length cm) (ivs mine) 3, rBlk b1 [iw k, iw m, Value.slice fa f.length fc, bo y] 30] ⟨rfl, rfl, trivial⟩ ?_
    refine SC.region ?_
    refine SL.mv ?_
    refine SL.nk ?_
    refine SL.uu (ru_fieldAddr (o2 := 5) fd43_5 rfl rfl rfl) ?_
    refine SL.uu (ru_load (i := 0) ts41 rfl rfl rfl rfl) ?_
    refine SL.call (ζ := Unit × RefS × (Nat → Prop)) (fun z => Value.tuple #[]) (fun z => [rBlk g [pt d 0, pt p 0, pt r 0, pt e 0, pt q 0, pt s 0, Value.slice qc come.length cc, Value.slice qm mine.length cm] 43, rRing r d p ab F15 (resetF S), rRefR s e q z.2.2 z.2.1, rRowO (.slice qc come.length cc) (ivs come) 3, rRowO (.slice qm mine.length cm) (ivs mine) 3, rBlk b1 [iw k, iw m, Value.slice fa f.length fc, bo y] 30]) (fun z => RB (B + 1) z.2.1 ∧ ∀ b, z.2.2 b → G b ∨ w.heap.size ≤ b) rfl rfl co48 rfl rfl rfl (lt_b rfl) (fun w9 hI => rr_reset (Z := Z) (G := KZ) (s := s) (e := e) (q := q) (j := 2) hI rfl hKZ hZ h1B hB) ?_
    rintro ⟨x16, Z17, K18⟩ ⟨hZ17, hK18⟩
    refine SL.nil ?_
    refine SE.blkn ?_
    refine SC.of_SE ?_
    refine SC.norm [(4, bo false)] [rBlk g [pt d 0, pt p 0, pt r 0, pt e 0, pt q 0, pt s 0, Value.slice qc come.length cc, Value.slice qm mine.length cm] 43, rRing r d p ab F15 (resetF S), rRefR s e q K18 Z17, rRowO (.slice qc come.length cc) (ivs come) 3, rRowO (.slice qm mine.length cm) (ivs mine) 3, rBlk b1 [iw k, iw m, Value.slice fa f.length fc, bo y] 30] ⟨rfl, trivial⟩ rfl ?_
    refine SC.sr ?_
    refine SL.as ?_
    refine SL.nn [(4, bo true)] _ ⟨rfl, trivial⟩ ?_
    refine SC.ret ?_
    refine SE.res (.inl rfl) (res1 Try.results16 rfl) fun w1 hI => ⟨⟨_, rfl⟩, ⟨resetF S, F15, Z17, K18, come, mine, qc, cc, qm, cm⟩, hj.reset.1, hZ17, (Eq.trans r1_reset (if_neg (by omega)).symm), ?_, ⟨hg, hG, hF15, hK18, hqc, hqm⟩, hI.2⟩
    exact (hI.pick (js := [0, 1, 2, 3, 4]) rfl).1
  have hk3 := eq_f h14
  refine SC.sr ?_
  refine SL.uu (ru_eq (b := ((k : Int) == 4)) rfl rfl rfl rfl) ?_
  refine SL.as ?_
  refine SL.nn [(0, pt g 0), (3, pt b1 0), (4, bo false), (10, iw k), (49, bo ((k : Int) == 4))] _ ⟨rfl, rfl, rfl, rfl, rfl, trivial⟩ ?_
  refine SC.both ((k : Int) == 4) rfl (fun h19 => ?_) (fun h19 => ?_)
  · skip
    have hk4 := eq_t h19
    refine SC.sr ?_
    refine SL.mv ?_
    refine SL.nk ?_
    refine SL.uu (ru_fieldAddr (o2 := 0) fd43_0 rfl rfl rfl) ?_
    refine SL.uu (ru_load (i := 0) ts36 rfl rfl rfl rfl) ?_
    refine SL.call (ζ := (Nat → Prop) × Option Addr × Nat) (fun z => Value.tuple #[Value.agg #[Value.slice z.2.1 ((takeR S.A).1.1.1.length) z.2.2, bo false, iw ((takeR S.A).1.1.2)], iw ((takeR S.A).1.2)]) (fun z => [rBlk g [pt d 0, pt p 0, pt r 0, pt e 0, pt q 0, pt s 0, Value.slice qc come.length cc, Value.slice qm mine.length cm] 43, rRing r d p ab z.1 ({ S with A := (takeR S.A).2 }), rRefR s e q KZ Z, rRowO (.slice qc come.length cc) (ivs come) 3, rRowO (.slice qm mine.length cm) (ivs mine) 3, rBlk b1 [iw k, iw m, Value.slice fa f.length fc, bo y] 30, rMine (.slice z.2.1 ((takeR S.A).1.1.1).length z.2.2) ((takeR S.A).1.1.1) 5]) (fun z => (∀ b, z.1 b → G b ∨ w.heap.size ≤ b) ∧ ∀ b, (Value.slice z.2.1 (takeR S.A).1.1.1.length z.2.2).ownBlock = some b → w.heap.size ≤ b) rfl rfl co12 rfl rfl rfl (lt_b rfl) (fun w hI => (p_take hj.ok.a (ring_at hI (i := 1) rfl).dev).mono fun e w2 ⟨v, h1, h2, h3, h4⟩ => by obtain ⟨qa, qc, rfl, k0⟩ := (ring_at hI (i := 1) rfl).tookW (take_len hj.ok.a) h2 h3 h4; obtain ⟨F2, k1, k2, k3⟩ := hI.ringToW (F0 := G) (i := 1) rfl hG k0 hF; exact ⟨(F2, qa, qc), h1, k1, k2, fun b hb => k3 _ List.mem_cons_self b hb⟩) ?_
    rintro ⟨F22, a20, c21⟩ ⟨hF22, hoa20⟩
    refine SL.mv ?_
    refine SL.uu (ru_extract rfl rfl rfl) ?_
    refine SL.uu (ru_extract rfl rfl rfl) ?_
    refine SL.alloca rfl rfl (lt_b rfl) ta49 rfl fun b23 hb23 => ?_
    refine SL.storea (i := 7) (vs := [Value.slice a20 ((takeR S.A).1.1.1.length) c21, bo false, iw ((takeR S.A).1.1.2)]) (c' := [Value.slice a20 ((takeR S.A).1.1.1.length) c21, bo false, iw ((takeR S.A).1.1.2)]) rfl rfl ta49 rfl rfl rfl rfl rfl rfl (le_b rfl) (.inr hb23) rfl ?_
    refine SL.as ?_
    refine SL.nn [(0, pt g 0), (4, bo false), (5, pt b23 0), (6, iw ((takeR S.A).1.2))] [rBlk g [pt d 0, pt p 0, pt r 0, pt e 0, pt q 0, pt s 0, Value.slice qc come.length cc, Value.slice qm mine.length cm] 43, rRing r d p ab F22 ({ S with A := (takeR S.A).2 }), rRefR s e q KZ Z, rRowO (.slice qc come.length cc) (ivs come) 3, rRowO (.slice qm mine.length cm) (ivs mine) 3, rBlk b1 [iw k, iw m, Value.slice fa f.length fc, bo y] 30, rMine (.slice a20 ((takeR S.A).1.1.1).length c21) ((takeR S.A).1.1.1) 5, rBlk b23 [Value.slice a20 ((takeR S.A).1.1.1.length) c21, bo false, iw ((takeR S.A).1.1.2)] 49] ⟨rfl, rfl, rfl, rfl, trivial⟩ ?_
    refine SC.sr ?_
    refine SL.mv ?_
    refine SL.nk ?_
    refine SL.uu (ru_fieldAddr (o2 := 3) fd43_3 rfl rfl rfl) ?_
    refine SL.uu (ru_load (i := 0) ts39 rfl rfl rfl rfl) ?_
    refine SL.call (ζ := (Option Addr × Nat) × RefS × (Nat → Prop)) (fun z => Value.tuple #[Value.agg #[Value.slice z.1.1 ((takeR Z.A).1.1.1.length) z.1.2, bo false, iw ((takeR Z.A).1.1.2)], iw ((takeR Z.A).1.2)]) (fun z => [rBlk g [pt d 0, pt p 0, pt r 0, pt e 0, pt q 0, pt s 0, Value.slice qc come.length cc, Value.slice qm mine.length cm] 43, rRing r d p ab F22 ({ S with A := (takeR S.A).2 }), rRefRL s e q z.2.2 z.2.1 (.slice z.1.1 (takeR Z.A).1.1.1.length z.1.2) (takeR Z.A).1.1.1, rRowO (.slice qc come.length cc) (ivs come) 3, rRowO (.slice qm mine.length cm) (ivs mine) 3, rBlk b1 [iw k, iw m, Value.slice fa f.length fc, bo y] 30, rMine (.slice a20 ((takeR S.A).1.1.1).length c21) ((takeR S.A).1.1.1) 5, rBlk b23 [Value.slice a20 ((takeR S.A).1.1.1.length) c21, bo false, iw ((takeR S.A).1.1.2)] 49]) (fun z => RB (B) z.2.1 ∧ ∀ b, z.2.2 b → G b ∨ w.heap.size ≤ b) rfl rfl co49 rfl rfl rfl (lt_b rfl) (fun w9 hI => rr_take (Z := Z) (G := KZ) (s := s) (e := e) (q := q) (j := 2) hI rfl hKZ hZ) ?_
    rintro ⟨⟨a26, c27⟩, Z24, K25⟩ ⟨hZ24, hK25⟩
    refine SL.mv ?_
    refine SL.uu (ru_extract rfl rfl rfl) ?_
    refine SL.uu (ru_extract rfl rfl rfl) ?_
    refine SL.alloca rfl rfl (lt_b rfl) ta49 rfl fun b28 hb28 => ?_
    refine SL.storea (i := 8) (vs := [Value.slice a26 ((takeR Z.A).1.1.1.length) c27, bo false, iw ((takeR Z.A).1.1.2)]) (c' := [Value.slice a26 ((takeR Z.A).1.1.1.length) c27, bo false, iw ((takeR Z.A).1.1.2)]) rfl rfl ta49 rfl rfl rfl rfl rfl rfl (le_b rfl) (.inr hb28) rfl ?_
    refine SL.as ?_
    refine SL.nn [(4, bo false), (5, pt b23 0), (6, iw ((takeR S.A).1.2)), (7, pt b28 0), (8, iw ((takeR Z.A).1.2))] [rBlk g [pt d 0, pt p 0, pt r 0, pt e 0, pt q 0, pt s 0, Value.slice qc come.length cc, Value.slice qm mine.length cm] 43, rRing r d p ab F22 ({ S with A := (takeR S.A).2 }), rRefRL s e q K25 Z24 (.slice a26 (takeR Z.A).1.1.1.length c27) (takeR Z.A).1.1.1, rRowO (.slice qc come.length cc) (ivs come) 3, rRowO (.slice qm mine.length cm) (ivs mine) 3, rBlk b1 [iw k, iw m, Value.slice fa f.length fc, bo y] 30, rMine (.slice a20 ((takeR S.A).1.1.1).length c21) ((takeR S.A).1.1.1) 5, rBlk b23 [Value.slice a20 ((takeR S.A).1.1.1.length) c21, bo false, iw ((takeR S.A).1.1.2)] 49, rBlk b28 [Value.slice a26 ((takeR Z.A).1.1.1.length) c27, bo false, iw ((takeR Z.A).1.1.2)] 49] ⟨rfl, rfl, rfl, rfl, rfl, trivial⟩ ?_
    refine SC.sr ?_
    refine SL.uu (ru_fieldAddr (o2 := 0) fd49_0 rfl rfl rfl) ?_
    refine SL.uu (ru_load (i := 7) ts28 rfl rfl rfl rfl) ?_
    refine SL.uu (ru_str (f := ((takeR S.A).1.1.1)) Try.underlying28 Try.underlying5 Try.underlying9 rfl rfl (fun w hI => mine_bytes hI (j := 6) rfl (take_len hj.ok.a))) ?_
    refine SL.uu (ru_fieldAddr (o2 := 0) fd49_0 rfl rfl rfl) ?_
    refine SL.uu (ru_load (i := 8) ts28 rfl rfl rfl rfl) ?_
    refine SL.uu (ru_str (f := ((takeR Z.A).1.1.1)) Try.underlying28 Try.underlying5 Try.underlying9 rfl rfl (fun w hI => (hI.1.get (i := 2) rfl).2.1)) ?_
    refine SL.uu (ru_streq (f := ((takeR S.A).1.1.1)) (h := ((takeR Z.A).1.1.1)) (b := (decide (((takeR S.A).1.1.1) = ((takeR Z.A).1.1.1)))) Try.underlying9 rfl rfl rfl rfl) ?_
    refine SL.mv ?_
    refine SL.join 6 [(4, bo false), (5, pt b23 0), (6, iw ((takeR S.A).1.2)), (7, pt b28 0), (8, iw ((takeR Z.A).1.2)), (67, pt b23 0), (68, Value.slice a20 ((takeR S.A).1.1.1.length) c21), (69, Value.string ⟨((takeR S.A).1.1.1).toArray⟩), (70, pt b28 0), (71, Value.slice a26 ((takeR Z.A).1.1.1.length) c27), (72, Value.string ⟨((takeR Z.A).1.1.1).toArray⟩), (73, bo (decide (((takeR S.A).1.1.1) = ((takeR Z.A).1.1.1)))), (74, bo (decide (((takeR S.A).1.1.1) = ((takeR Z.A).1.1.1)))), (80, bo ((decide (((takeR S.A).1.1.1) = ((takeR Z.A).1.1.1))) && ((((takeR S.A).1.1.2) : Int) == ((takeR Z.A).1.1.2))))] [rBlk g [pt d 0, pt p 0, pt r 0, pt e 0, pt q 0, pt s 0, Value.slice qc come.length cc, Value.slice qm mine.length cm] 43, rRing r d p ab F22 ({ S with A := (takeR S.A).2 }), rRefRL s e q K25 Z24 (.slice a26 (takeR Z.A).1.1.1.length c27) (takeR Z.A).1.1.1, rRowO (.slice qc come.length cc) (ivs come) 3, rRowO (.slice qm mine.length cm) (ivs mine) 3, rBlk b1 [iw k, iw m, Value.slice fa f.length fc, bo y] 30, rMine (.slice a20 ((takeR S.A).1.1.1).length c21) ((takeR S.A).1.1.1) 5, rBlk b23 [Value.slice a20 ((takeR S.A).1.1.1.length) c21, bo false, iw ((takeR S.A).1.1.2)] 49, rBlk b28 [Value.slice a26 ((takeR Z.A).1.1.1.length) c27, bo false, iw ((takeR Z.A).1.1.2)] 49] ?_ ?_
    rotate_left
    · intro K hK
      rcases tf (decide (((takeR S.A).1.1.1) = ((takeR Z.A).1.1.1))) with h29 | h29
      · skip
        refine SL.norm [(4, bo false), (5, pt b23 0), (6, iw ((takeR S.A).1.2)), (7, pt b28 0), (8, iw ((takeR Z.A).1.2)), (67, pt b23 0), (68, Value.slice a20 ((takeR S.A).1.1.1.length) c21), (69, Value.string ⟨((takeR S.A).1.1.1).toArray⟩), (70, pt b28 0), (71, Value.slice a26 ((takeR Z.A).1.1.1.length) c27), (72, Value.string ⟨((takeR Z.A).1.1.1).toArray⟩), (73, bo true), (74, bo true)] _ ⟨rfl, rfl, rfl, rfl, rfl, rfl, rfl, rfl, rfl, rfl, rfl, (congrArg (fun x => some (Value.bool x)) h29), (congrArg (fun x => some (Value.bool x)) h29), trivial⟩ rfl ?_
        refine SL.gg (ru_fieldAddr (o2 := 2) fd49_2 rfl rfl rfl) ?_
        refine SL.gg (ru_load (i := 7) ts3 rfl rfl rfl rfl) ?_
        refine SL.gg (ru_fieldAddr (o2 := 2) fd49_2 rfl rfl rfl) ?_
        refine SL.gg (ru_load (i := 8) ts3 rfl rfl rfl rfl) ?_
        refine SL.gg (ru_eq (b := ((((takeR S.A).1.1.2) : Int) == ((takeR Z.A).1.1.2))) rfl rfl rfl rfl) ?_
        refine SL.uu (ru_pick (u := bo ((((takeR S.A).1.1.2) : Int) == ((takeR Z.A).1.1.2))) (v := bo false) rfl rfl rfl rfl) ?_
        exact SL.joined hK ⟨rfl, rfl, rfl, rfl, rfl, rfl, rfl, rfl, rfl, rfl, rfl, (congrArg (fun x => some (Value.bool x)) h29.symm), (congrArg (fun x => some (Value.bool x)) h29.symm), (congrArg (fun bx => some (Value.bool (bx && ((((takeR S.A).1.1.2) : Int) == ((takeR Z.A).1.1.2))))) h29.symm), trivial⟩ rfl
      refine SL.norm [(4, bo false), (5, pt b23 0), (6, iw ((takeR S.A).1.2)), (7, pt b28 0), (8, iw ((takeR Z.A).1.2)), (67, pt b23 0), (68, Value.slice a20 ((takeR S.A).1.1.1.length) c21), (69, Value.string ⟨((takeR S.A).1.1.1).toArray⟩), (70, pt b28 0), (71, Value.slice a26 ((takeR Z.A).1.1.1.length) c27), (72, Value.string ⟨((takeR Z.A).1.1.1).toArray⟩), (73, bo false), (74, bo false)] _ ⟨rfl, rfl, rfl, rfl, rfl, rfl, rfl, rfl, rfl, rfl, rfl, (congrArg (fun x => some (Value.bool x)) h29), (congrArg (fun x => some (Value.bool x)) h29), trivial⟩ rfl ?_
      refine SL.oo ?_
      refine SL.oo ?_
      refine SL.oo ?_
      refine SL.oo ?_
      refine SL.oo ?_
      refine SL.uu (ru_pick (u := undef) (v := bo false) rfl rfl rfl rfl) ?_
      exact SL.joined hK ⟨rfl, rfl, rfl, rfl, rfl, rfl, rfl, rfl, rfl, rfl, rfl, (congrArg (fun x => some (Value.bool x)) h29.symm), (congrArg (fun x => some (Value.bool x)) h29.symm), (congrArg (fun bx => some (Value.bool (bx && ((((takeR S.A).1.1.2) : Int) == ((takeR Z.A).1.1.2))))) h29.symm), trivial⟩ rfl
    skip
    refine SL.mv ?_
    refine SL.join 4 [(4, bo false), (5, pt b23 0), (6, iw ((takeR S.A).1.2)), (7, pt b28 0), (8, iw ((takeR Z.A).1.2)), (67, pt b23 0), (68, Value.slice a20 ((takeR S.A).1.1.1.length) c21), (69, Value.string ⟨((takeR S.A).1.1.1).toArray⟩), (70, pt b28 0), (71, Value.slice a26 ((takeR Z.A).1.1.1.length) c27), (72, Value.string ⟨((takeR Z.A).1.1.1).toArray⟩), (73, bo (decide (((takeR S.A).1.1.1) = ((takeR Z.A).1.1.1)))), (74, bo (decide (((takeR S.A).1.1.1) = ((takeR Z.A).1.1.1)))), (80, bo ((decide (((takeR S.A).1.1.1) = ((takeR Z.A).1.1.1))) && ((((takeR S.A).1.1.2) : Int) == ((takeR Z.A).1.1.2)))), (81, bo ((decide (((takeR S.A).1.1.1) = ((takeR Z.A).1.1.1))) && ((((takeR S.A).1.1.2) : Int) == ((takeR Z.A).1.1.2)))), (85, bo (((decide (((takeR S.A).1.1.1) = ((takeR Z.A).1.1.1))) && ((((takeR S.A).1.1.2) : Int) == ((takeR Z.A).1.1.2))) && ((((takeR S.A).1.2) : Int) == ((takeR Z.A).1.2))))] [rBlk g [pt d 0, pt p 0, pt r 0, pt e 0, pt q 0, pt s 0, Value.slice qc come.length cc, Value.slice qm mine.length cm] 43, rRing r d p ab F22 ({ S with A := (takeR S.A).2 }), rRefRL s e q K25 Z24 (.slice a26 (takeR Z.A).1.1.1.length c27) (takeR Z.A).1.1.1, rRowO (.slice qc come.length cc) (ivs come) 3, rRowO (.slice qm mine.length cm) (ivs mine) 3, rBlk b1 [iw k, iw m, Value.slice fa f.length fc, bo y] 30, rMine (.slice a20 ((takeR S.A).1.1.1).length c21) ((takeR S.A).1.1.1) 5, rBlk b23 [Value.slice a20 ((takeR S.A).1.1.1.length) c21, bo false, iw ((takeR S.A).1.1.2)] 49, rBlk b28 [Value.slice a26 ((takeR Z.A).1.1.1.length) c27, bo false, iw ((takeR Z.A).1.1.2)] 49] ?_ ?_
    rotate_left
    · intro K hK
      rcases tf ((decide (((takeR S.A).1.1.1) = ((takeR Z.A).1.1.1))) && ((((takeR S.A).1.1.2) : Int) == ((takeR Z.A).1.1.2))) with h30 | h30
      · skip
        refine SL.norm [(4, bo false), (5, pt b23 0), (6, iw ((takeR S.A).1.2)), (7, pt b28 0), (8, iw ((takeR Z.A).1.2)), (67, pt b23 0), (68, Value.slice a20 ((takeR S.A).1.1.1.length) c21), (69, Value.string ⟨((takeR S.A).1.1.1).toArray⟩), (70, pt b28 0), (71, Value.slice a26 ((takeR Z.A).1.1.1.length) c27), (72, Value.string ⟨((takeR Z.A).1.1.1).toArray⟩), (73, bo (decide (((takeR S.A).1.1.1) = ((takeR Z.A).1.1.1)))), (74, bo (decide (((takeR S.A).1.1.1) = ((takeR Z.A).1.1.1)))), (80, bo true), (81, bo true)] _ ⟨rfl, rfl, rfl, rfl, rfl, rfl, rfl, rfl, rfl, rfl, rfl, rfl, rfl, (congrArg (fun x => some (Value.bool x)) h30), (congrArg (fun x => some (Value.bool x)) h30), trivial⟩ rfl ?_
        refine SL.gg (ru_move rfl rfl) ?_
        refine SL.gg (ru_move rfl rfl) ?_
        refine SL.gg (ru_eq (b := ((((takeR S.A).1.2) : Int) == ((takeR Z.A).1.2))) rfl rfl rfl rfl) ?_
        refine SL.uu (ru_pick (u := bo ((((takeR S.A).1.2) : Int) == ((takeR Z.A).1.2))) (v := bo false) rfl rfl rfl rfl) ?_
        exact SL.joined hK ⟨rfl, rfl, rfl, rfl, rfl, rfl, rfl, rfl, rfl, rfl, rfl, rfl, rfl, (congrArg (fun x => some (Value.bool x)) h30.symm), (congrArg (fun x => some (Value.bool x)) h30.symm), (congrArg (fun bx => some (Value.bool (bx && ((((takeR S.A).1.2) : Int) == ((takeR Z.A).1.2))))) h30.symm), trivial⟩ rfl
      refine SL.norm [(4, bo false), (5, pt b23 0), (6, iw ((takeR S.A).1.2)), (7, pt b28 0), (8, iw ((takeR Z.A).1.2)), (67, pt b23 0), (68, Value.slice a20 ((takeR S.A).1.1.1.length) c21), (69, Value.string ⟨((takeR S.A).1.1.1).toArray⟩), (70, pt b28 0), (71, Value.slice a26 ((takeR Z.A).1.1.1.length) c27), (72, Value.string ⟨((takeR Z.A).1.1.1).toArray⟩), (73, bo (decide (((takeR S.A).1.1.1) = ((takeR Z.A).1.1.1)))), (74, bo (decide (((takeR S.A).1.1.1) = ((takeR Z.A).1.1.1)))), (80, bo false), (81, bo false)] _ ⟨rfl, rfl, rfl, rfl, rfl, rfl, rfl, rfl, rfl, rfl, rfl, rfl, rfl, (congrArg (fun x => some (Value.bool x)) h30), (congrArg (fun x => some (Value.bool x)) h30), trivial⟩ rfl ?_
      refine SL.oo ?_
      refine SL.oo ?_
      refine SL.oo ?_
      refine SL.uu (ru_pick (u := undef) (v := bo false) rfl rfl rfl rfl) ?_
      exact SL.joined hK ⟨rfl, rfl, rfl, rfl, rfl, rfl, rfl, rfl, rfl, rfl, rfl, rfl, rfl, (congrArg (fun x => some (Value.bool x)) h30.symm), (congrArg (fun x => some (Value.bool x)) h30.symm), (congrArg (fun bx => some (Value.bool (bx && ((((takeR S.A).1.2) : Int) == ((takeR Z.A).1.2))))) h30.symm), trivial⟩ rfl
    skip
    refine SL.as ?_
    refine SL.nn [(4, bo (((decide (((takeR S.A).1.1.1) = ((takeR Z.A).1.1.1))) && ((((takeR S.A).1.1.2) : Int) == ((takeR Z.A).1.1.2))) && ((((takeR S.A).1.2) : Int) == ((takeR Z.A).1.2))))] _ ⟨rfl, trivial⟩ ?_
    refine SC.ret ?_
    refine SE.blkr ?_
    refine SE.passr ?_
    refine SE.weak (i := 2) (rRefR s e q K25 Z24) rfl (fun w h => h.1) (fun b hb => hb) ?_
    refine SE.res (.inl rfl) (res1 Try.results16 rfl) fun w1 hI => ⟨⟨_, rfl⟩, ⟨{ S with A := (takeR S.A).2 }, F22, Z24, K25, come, mine, qc, cc, qm, cm⟩, (hj.dev (takeR_ok hj.ok.a)), hZ24.up, (Eq.trans r1_take (if_neg (by omega)).symm), ?_, ⟨hg, hG, hF22, hK25, hqc, hqm⟩, hI.2⟩
    exact (hI.pick (js := [0, 1, 2, 3, 4]) rfl).1
  have hk4 := eq_f h19
  refine SC.sr ?_
  refine SL.uu (ru_eq (b := ((k : Int) == 5)) rfl rfl rfl rfl) ?_
  refine SL.as ?_
  refine SL.nn [(0, pt g 0), (3, pt b1 0), (4, bo false), (10, iw k), (86, bo ((k : Int) == 5))] _ ⟨rfl, rfl, rfl, rfl, rfl, trivial⟩ ?_
  refine SC.both ((k : Int) == 5) rfl (fun h31 => ?_) (fun h31 => ?_)
  · skip
    have hk5 := eq_t h31
    refine SC.seq ?_
    have hcb33 := CU.base (X := ⟨146, w, G⟩) (l := [rBlk g [pt d 0, pt p 0, pt r 0, pt e 0, pt q 0, pt s 0, Value.slice qc come.length cc, Value.slice qm mine.length cm] 43, rRing r d p ab F S, rRefR s e q KZ Z, rRowO (.slice qc come.length cc) (ivs come) 3, rRowO (.slice qm mine.length cm) (ivs mine) 3, rBlk b1 [iw k, iw m, Value.slice fa f.length fc, bo y] 30]) (l2 := fun (F32 : Nat → Prop) => [rBlk g [pt d 0, pt p 0, pt r 0, pt e 0, pt q 0, pt s 0, Value.slice qc come.length cc, Value.slice qm mine.length cm] 43, rRing r d p ab F32 ({ S with A := (giveF S.A f y).2 }), rRefR s e q KZ Z, rRowO (.slice qc come.length cc) (ivs come) 3, rRowO (.slice qm mine.length cm) (ivs mine) 3, rBlk b1 [iw k, iw m, Value.slice fa f.length fc, bo y] 30]) (p := fun (F32 : Nat → Prop) => (∀ b, F32 b → G b ∨ w.heap.size ≤ b)) (k := 8) (lb := [rBlk g [pt d 0, pt p 0, pt r 0, pt e 0, pt q 0, pt s 0, Value.slice qc come.length cc, Value.slice qm mine.length cm] 43, rNone, rRefR s e q KZ Z, rRowO (.slice qc come.length cc) (ivs come) 3, rRowO (.slice qm mine.length cm) (ivs mine) 3, rBlk b1 [iw k, iw m, Value.slice fa f.length fc, bo y] 30]) (fun w hI => hI.weak (i := 1) (r' := rNone) rfl (fun _ => trivial) (fun b hb => hb.elim)) (fun z w hI => hI.weak (i := 1) (r' := rNone) rfl (fun _ => trivial) (fun b hb => hb.elim))
    refine SC.region_turn (ζ := Nat → Prop) 17 8 (fun F32 => [rBlk g [pt d 0, pt p 0, pt r 0, pt e 0, pt q 0, pt s 0, Value.slice qc come.length cc, Value.slice qm mine.length cm] 43, rRing r d p ab F32 ({ S with A := (giveF S.A f y).2 }), rRefR s e q KZ Z, rRowO (.slice qc come.length cc) (ivs come) 3, rRowO (.slice qm mine.length cm) (ivs mine) 3, rBlk b1 [iw k, iw m, Value.slice fa f.length fc, bo y] 30]) (fun F32 => (∀ b, F32 b → G b ∨ w.heap.size ≤ b)) (by kernel_rfl) (by kernel_rfl) rfl ?_
    refine SS.ru _ hcb33 rfl rfl rfl (lt_b rfl) (ru_move rfl rfl) ?_
    refine SS.ru _ hcb33 rfl rfl rfl (lt_b rfl) (ru_nilCheck rfl rfl) ?_
    refine SS.ru _ hcb33 rfl rfl rfl (lt_b rfl) (ru_fieldAddr (o2 := 0) fd43_0 rfl rfl rfl) ?_
    refine SS.ru _ hcb33 rfl rfl rfl (lt_b rfl) (ru_load (i := 0) ts36 rfl rfl rfl rfl) ?_
    refine SS.ru _ hcb33 rfl rfl rfl (lt_b rfl) (ru_fieldAddr (o2 := 2) fd30_2 rfl rfl rfl) ?_
    refine SS.ru _ hcb33 rfl rfl rfl (lt_b rfl) (ru_load (i := 5) ts28 rfl rfl rfl rfl) ?_
    refine SS.ru _ hcb33 rfl rfl rfl (lt_b rfl) (ru_fieldAddr (o2 := 3) fd30_3 rfl rfl rfl) ?_
    refine SS.ru _ hcb33 rfl rfl rfl (lt_b rfl) (ru_load (i := 5) ts4 rfl rfl rfl rfl) ?_
    refine SS.turnc (iw ((giveF S.A f y).1)) rfl rfl co13 rfl rfl rfl (lt_b rfl) (fun w hI => (p_give hj.ok.a (ring_at hI (i := 1) rfl).dev (hbs.only hI.2 hbx) (hbl.mono fun b hb e1 => hb ⟨rRing r d p ab F S, by simp, rS_rfp (.inr (.inl e1))⟩) y).mono fun e w2 ⟨h1, h2⟩ => by obtain ⟨F2, k1, k2⟩ := hI.ringTo (F0 := G) (i := 1) rfl hG ((ring_at hI (i := 1) rfl).devTo h2) hF; exact ⟨F2, h1, k1, k2⟩) ?_
    refine SS.ru _ hcb33 rfl rfl rfl (lt_b rfl) (ru_move rfl rfl) ?_
    refine SS.ru _ hcb33 rfl rfl rfl (lt_b rfl) (ru_nilCheck rfl rfl) ?_
    refine SS.ru _ hcb33 rfl rfl rfl (lt_b rfl) (ru_fieldAddr (o2 := 3) fd43_3 rfl rfl rfl) ?_
    refine SS.ru _ hcb33 rfl rfl rfl (lt_b rfl) (ru_load (i := 0) ts39 rfl rfl rfl rfl) ?_
    refine SS.ru _ hcb33 rfl rfl rfl (lt_b rfl) (ru_fieldAddr (o2 := 2) fd30_2 rfl rfl rfl) ?_
    refine SS.ru _ hcb33 rfl rfl rfl (lt_b rfl) (ru_load (i := 5) ts28 rfl rfl rfl rfl) ?_
    refine SS.ru _ hcb33 rfl rfl rfl (lt_b rfl) (ru_fieldAddr (o2 := 3) fd30_3 rfl rfl rfl) ?_
    refine SS.ru _ hcb33 rfl rfl rfl (lt_b rfl) (ru_load (i := 5) ts4 rfl rfl rfl rfl) ?_
    refine SS.nilU ?_
    intro F32 hF32
    refine SL.call (ζ := Unit × RefS × (Nat → Prop)) (fun z => iw ((giveF Z.A f y).1)) (fun z => [rBlk g [pt d 0, pt p 0, pt r 0, pt e 0, pt q 0, pt s 0, Value.slice qc come.length cc, Value.slice qm mine.length cm] 43, rRing r d p ab F32 ({ S with A := (giveF S.A f y).2 }), rRefR s e q z.2.2 z.2.1, rRowO (.slice qc come.length cc) (ivs come) 3, rRowO (.slice qm mine.length cm) (ivs mine) 3, rBlk b1 [iw k, iw m, Value.slice fa f.length fc, bo y] 30]) (fun z => RB (B) z.2.1 ∧ ∀ b, z.2.2 b → G b ∨ w.heap.size ≤ b) rfl rfl co50 rfl rfl rfl (lt_b rfl) (fun w9 hI => by refine rr_dev (v := iw ((giveF Z.A f y).1)) (A' := (giveF Z.A f y).2) (B := B) (Z := Z) (G := KZ) (s := s) (e := e) (q := q) (j := 2) hI rfl hKZ hZ ?_ ?_; exact give_ok hZ.ok.a f y; intro F9 hN; exact q_give hZ.ok.a hN (hbs.only hI.2 hbx) (hbl.mono fun b hb e1 => hb ⟨rRefR s e q KZ Z, by simp, by rw [e1]; exact hKe⟩) y) ?_
    rintro ⟨x34, Z35, K36⟩ ⟨hZ35, hK36⟩
    refine SL.uu (ru_eq (b := ((((giveF S.A f y).1) : Int) == ((giveF Z.A f y).1))) rfl rfl rfl rfl) ?_
    refine SL.as ?_
    refine SL.nn [(4, bo ((((giveF S.A f y).1) : Int) == ((giveF Z.A f y).1)))] [rBlk g [pt d 0, pt p 0, pt r 0, pt e 0, pt q 0, pt s 0, Value.slice qc come.length cc, Value.slice qm mine.length cm] 43, rRing r d p ab F32 ({ S with A := (giveF S.A f y).2 }), rRefR s e q K36 Z35, rRowO (.slice qc come.length cc) (ivs come) 3, rRowO (.slice qm mine.length cm) (ivs mine) 3, rBlk b1 [iw k, iw m, Value.slice fa f.length fc, bo y] 30] ⟨rfl, trivial⟩ ?_
    refine SC.ret ?_
    refine SE.blkr ?_
    refine SE.passr ?_
    refine SE.res (.inl rfl) (res1 Try.results16 rfl) fun w1 hI => ⟨⟨_, rfl⟩, ⟨{ S with A := (giveF S.A f y).2 }, F32, Z35, K36, come, mine, qc, cc, qm, cm⟩, (hj.dev (give_ok hj.ok.a f y)), hZ35.up, (Eq.trans r1_give (if_neg (by omega)).symm), ?_, ⟨hg, hG, hF32, hK36, hqc, hqm⟩, hI.2⟩
    exact (hI.pick (js := [0, 1, 2, 3, 4]) rfl).1
  have hk5 := eq_f h31
  refine SC.sr ?_
  refine SL.uu (ru_eq (b := ((k : Int) == 6)) rfl rfl rfl rfl) ?_
  refine SL.as ?_
  refine SL.nn [(0, pt g 0), (3, pt b1 0), (4, bo false), (10, iw k), (107, bo ((k : Int) == 6))] _ ⟨rfl, rfl, rfl, rfl, rfl, trivial⟩ ?_
  refine SC.both ((k : Int) == 6) rfl (fun h37 => ?_) (fun h37 => ?_)
  · skip
    have hk6 := eq_t h37
    refine SC.seq ?_
    refine SC.region_tail 6 (by kernel_rfl) (by kernel_rfl) ?_
    refine SQ.uu (ru_move rfl rfl) ?_
    refine SQ.uu (ru_nilCheck rfl rfl) ?_
    refine SQ.uu (ru_fieldAddr (o2 := 0) fd43_0 rfl rfl rfl) ?_
    refine SQ.uu (ru_load (i := 0) ts36 rfl rfl rfl rfl) ?_
    refine SQ.uu (ru_fieldAddr (o2 := 3) fd30_3 rfl rfl rfl) ?_
    refine SQ.uu (ru_load (i := 5) ts4 rfl rfl rfl rfl) ?_
    refine SQ.nilL ?_
    refine SL.call (ζ := Nat → Prop) (fun F38 => Value.tuple #[]) (fun F38 => [rBlk g [pt d 0, pt p 0, pt r 0, pt e 0, pt q 0, pt s 0, Value.slice qc come.length cc, Value.slice qm mine.length cm] 43, rRing r d p ab F38 ({ S with A := linkF S.A y }), rRefR s e q KZ Z, rRowO (.slice qc come.length cc) (ivs come) 3, rRowO (.slice qm mine.length cm) (ivs mine) 3, rBlk b1 [iw k, iw m, Value.slice fa f.length fc, bo y] 30]) (fun F38 => (∀ b, F38 b → G b ∨ w.heap.size ≤ b)) rfl rfl co19 rfl rfl rfl (lt_b rfl) (fun w hI => (p_link hj.ok.a (ring_at hI (i := 1) rfl).dev y).mono fun e w2 ⟨h1, h2⟩ => by obtain ⟨F2, k1, k2⟩ := hI.ringTo (F0 := G) (i := 1) rfl hG ((ring_at hI (i := 1) rfl).devTo h2) hF; exact ⟨F2, h1, k1, k2⟩) ?_
    intro F38 hF38
    refine SL.nn [(0, pt g 0), (3, pt b1 0), (4, bo false)] [rBlk g [pt d 0, pt p 0, pt r 0, pt e 0, pt q 0, pt s 0, Value.slice qc come.length cc, Value.slice qm mine.length cm] 43, rRing r d p ab F38 ({ S with A := linkF S.A y }), rRefR s e q KZ Z, rRowO (.slice qc come.length cc) (ivs come) 3, rRowO (.slice qm mine.length cm) (ivs mine) 3, rBlk b1 [iw k, iw m, Value.slice fa f.length fc, bo y] 30] ⟨rfl, rfl, rfl, trivial⟩ ?_
    refine SC.region_tail 6 (by kernel_rfl) (by kernel_rfl) ?_
    refine SQ.uu (ru_move rfl rfl) ?_
    refine SQ.uu (ru_nilCheck rfl rfl) ?_
    refine SQ.uu (ru_fieldAddr (o2 := 3) fd43_3 rfl rfl rfl) ?_
    refine SQ.uu (ru_load (i := 0) ts39 rfl rfl rfl rfl) ?_
    refine SQ.uu (ru_fieldAddr (o2 := 3) fd30_3 rfl rfl rfl) ?_
    refine SQ.uu (ru_load (i := 5) ts4 rfl rfl rfl rfl) ?_
    refine SQ.nilL ?_
    refine SL.call (ζ := Unit × RefS × (Nat → Prop)) (fun z => Value.tuple #[]) (fun z => [rBlk g [pt d 0, pt p 0, pt r 0, pt e 0, pt q 0, pt s 0, Value.slice qc come.length cc, Value.slice qm mine.length cm] 43, rRing r d p ab F38 ({ S with A := linkF S.A y }), rRefR s e q z.2.2 z.2.1, rRowO (.slice qc come.length cc) (ivs come) 3, rRowO (.slice qm mine.length cm) (ivs mine) 3, rBlk b1 [iw k, iw m, Value.slice fa f.length fc, bo y] 30]) (fun z => RB (B) z.2.1 ∧ ∀ b, z.2.2 b → G b ∨ w.heap.size ≤ b) rfl rfl co51 rfl rfl rfl (lt_b rfl) (fun w9 hI => by refine rr_dev (v := Value.tuple #[]) (A' := linkF Z.A y) (B := B) (Z := Z) (G := KZ) (s := s) (e := e) (q := q) (j := 2) hI rfl hKZ hZ ?_ ?_; exact link_ok hZ.ok.a _; intro F9 hN; exact q_link hZ.ok.a hN y) ?_
    rintro ⟨x39, Z40, K41⟩ ⟨hZ40, hK41⟩
    refine SL.nil ?_
    refine SE.blkn ?_
    refine SC.of_SE ?_
    refine SC.norm [(4, bo false)] [rBlk g [pt d 0, pt p 0, pt r 0, pt e 0, pt q 0, pt s 0, Value.slice qc come.length cc, Value.slice qm mine.length cm] 43, rRing r d p ab F38 ({ S with A := linkF S.A y }), rRefR s e q K41 Z40, rRowO (.slice qc come.length cc) (ivs come) 3, rRowO (.slice qm mine.length cm) (ivs mine) 3, rBlk b1 [iw k, iw m, Value.slice fa f.length fc, bo y] 30] ⟨rfl, trivial⟩ rfl ?_
    refine SC.sr ?_
    refine SL.as ?_
    refine SL.nn [(4, bo true)] _ ⟨rfl, trivial⟩ ?_
    refine SC.ret ?_
    refine SE.res (.inl rfl) (res1 Try.results16 rfl) fun w1 hI => ⟨⟨_, rfl⟩, ⟨{ S with A := linkF S.A y }, F38, Z40, K41, come, mine, qc, cc, qm, cm⟩, (hj.dev (link_ok hj.ok.a _)), hZ40.up, (Eq.trans rfl (if_pos (by omega)).symm), ?_, ⟨hg, hG, hF38, hK41, hqc, hqm⟩, hI.2⟩
    exact (hI.pick (js := [0, 1, 2, 3, 4]) rfl).1
  have hk6 := eq_f h37
  refine SC.sr ?_
  refine SL.uu (ru_eq (b := ((k : Int) == 7)) rfl rfl rfl rfl) ?_
  refine SL.as ?_
  refine SL.nn [(0, pt g 0), (3, pt b1 0), (4, bo false), (10, iw k), (123, bo ((k : Int) == 7))] _ ⟨rfl, rfl, rfl, rfl, rfl, trivial⟩ ?_
  refine SC.both ((k : Int) == 7) rfl (fun h42 => ?_) (fun h42 => ?_)
  · skip
    have hk7 := eq_t h42
    refine SC.sr ?_
    refine SL.mv ?_
    refine SL.nk ?_
    refine SL.uu (ru_fieldAddr (o2 := 0) fd43_0 rfl rfl rfl) ?_
    refine SL.uu (ru_load (i := 0) ts36 rfl rfl rfl rfl) ?_
    refine SL.call (ζ := Nat → Prop) (fun F43 => Value.tuple #[]) (fun F43 => [rBlk g [pt d 0, pt p 0, pt r 0, pt e 0, pt q 0, pt s 0, Value.slice qc come.length cc, Value.slice qm mine.length cm] 43, rRing r d p ab F43 ({ S with A := tickF S.A }), rRefR s e q KZ Z, rRowO (.slice qc come.length cc) (ivs come) 3, rRowO (.slice qm mine.length cm) (ivs mine) 3, rBlk b1 [iw k, iw m, Value.slice fa f.length fc, bo y] 30]) (fun F43 => (∀ b, F43 b → G b ∨ w.heap.size ≤ b)) rfl rfl co52 rfl rfl rfl (lt_b rfl) (fun w hI => (p_tick hj.ok.a (ring_at hI (i := 1) rfl).dev).mono fun e w2 ⟨h1, h2⟩ => by obtain ⟨F2, k1, k2⟩ := hI.ringTo (F0 := G) (i := 1) rfl hG ((ring_at hI (i := 1) rfl).devTo h2) hF; exact ⟨F2, h1, k1, k2⟩) ?_
    intro F43 hF43
    refine SL.nn [(0, pt g 0), (4, bo false)] [rBlk g [pt d 0, pt p 0, pt r 0, pt e 0, pt q 0, pt s 0, Value.slice qc come.length cc, Value.slice qm mine.length cm] 43, rRing r d p ab F43 ({ S with A := tickF S.A }), rRefR s e q KZ Z, rRowO (.slice qc come.length cc) (ivs come) 3, rRowO (.slice qm mine.length cm) (ivs mine) 3, rBlk b1 [iw k, iw m, Value.slice fa f.length fc, bo y] 30] ⟨rfl, rfl, trivial⟩ ?_
    refine SC.region ?_
    refine SL.mv ?_
    refine SL.nk ?_
    refine SL.uu (ru_fieldAddr (o2 := 3) fd43_3 rfl rfl rfl) ?_
    refine SL.uu (ru_load (i := 0) ts39 rfl rfl rfl rfl) ?_
    refine SL.nk ?_
    refine SL.uu (ru_fieldAddr (o2 := 104) fd108_3 rfl rfl rfl) ?_
    refine SL.uu (ru_ref_clk (j := 2) ts3 rfl rfl rfl) ?_
    refine SL.uu (ru_add (r := (IntKind.i64.wrap (Z.A.clk + 1))) rfl rfl rfl rfl) ?_
    refine SL.nk ?_
    refine SL.uu (ru_fieldAddr (o2 := 104) fd108_3 rfl rfl rfl) ?_
    refine SL.ref_clk (j := 2) (B := B) rfl rfl ts3 rfl rfl rfl rfl hKZ hZ fun Z44 K45 hZ44 hK45 => ?_
    refine SL.nil ?_
    refine SE.blkn ?_
    refine SC.of_SE ?_
    refine SC.norm [(4, bo false)] [rBlk g [pt d 0, pt p 0, pt r 0, pt e 0, pt q 0, pt s 0, Value.slice qc come.length cc, Value.slice qm mine.length cm] 43, rRing r d p ab F43 ({ S with A := tickF S.A }), rRefR s e q K45 Z44, rRowO (.slice qc come.length cc) (ivs come) 3, rRowO (.slice qm mine.length cm) (ivs mine) 3, rBlk b1 [iw k, iw m, Value.slice fa f.length fc, bo y] 30] ⟨rfl, trivial⟩ rfl ?_
    refine SC.sr ?_
    refine SL.as ?_
    refine SL.nn [(4, bo true)] _ ⟨rfl, trivial⟩ ?_
    refine SC.ret ?_
    refine SE.res (.inl rfl) (res1 Try.results16 rfl) fun w1 hI => ⟨⟨_, rfl⟩, ⟨{ S with A := tickF S.A }, F43, Z44, K45, come, mine, qc, cc, qm, cm⟩, (hj.dev (tick_ok hj.ok.a)), hZ44.up, (Eq.trans rfl (if_neg (by omega)).symm), ?_, ⟨hg, hG, hF43, hK45, hqc, hqm⟩, hI.2⟩
    exact (hI.pick (js := [0, 1, 2, 3, 4]) rfl).1
  have hk7 := eq_f h42
  refine SC.seq ?_
  refine SC.sr ?_
  refine SL.uu (ru_eq (b := ((k : Int) == 8)) rfl rfl rfl rfl) ?_
  refine SL.as ?_
  refine SL.nn [(0, pt g 0), (3, pt b1 0), (4, bo false), (10, iw k), (140, bo ((k : Int) == 8))] _ ⟨rfl, rfl, rfl, rfl, rfl, trivial⟩ ?_
  refine SC.both ((k : Int) == 8) rfl (fun h46 => ?_) (fun h46 => ?_)
  · skip
    have hk8 := eq_t h46
    refine SC.skip ?_
    refine SC.of_SE ?_
    refine SC.norm [(0, pt g 0), (3, pt b1 0), (4, bo false), (140, bo ((k : Int) == 8))] _ ⟨rfl, rfl, rfl, rfl, trivial⟩ rfl ?_
    refine SC.both ((k : Int) == 8) rfl (fun h47 => ?_) (fun h47 => ?_)
    · skip
      have hk8 := eq_t h47
      refine SC.sr ?_
      refine SL.mv ?_
      refine SL.uu (ru_loada (i := 5) (vs := [iw k, iw m, Value.slice fa f.length fc, bo y]) ta30 rfl rfl rfl rfl (le_b rfl)) ?_
      refine SL.call (ζ := Bool × DS) (fun z => bo z.1) (fun z => [rBlk g [pt d 0, pt p 0, pt r 0, pt e 0, pt q 0, pt s 0, Value.slice z.2.qc z.2.come.length z.2.cc, Value.slice z.2.qm z.2.mine.length z.2.cm] 43, rRing r d p ab z.2.F z.2.S, rRefR s e q z.2.K z.2.Z, rRowO (.slice z.2.qc z.2.come.length z.2.cc) (ivs z.2.come) 3, rRowO (.slice z.2.qm z.2.mine.length z.2.cm) (ivs z.2.mine) 3, rBlk b1 [iw k, iw m, Value.slice fa f.length fc, bo y] 30]) (fun z => FJ n z.2.S z.2.come z.2.mine ∧ RB (B + 1) z.2.Z ∧ z.2.S.A.r 1 = S.A.r 1 ∧ GX G w.heap.size g d p ab r z.2) rfl rfl co53 rfl rfl rfl (lt_b rfl) (fun w9 hI => (frees_any (G := fpl (RX g d p ab r e q s ⟨S, F, Z, KZ, come, mine, qc, cc, qm, cm⟩)) hj hn60 hZ h1B hB GX.self (Inv.headL (l1 := (RX g d p ab r e q s ⟨S, F, Z, KZ, come, mine, qc, cc, qm, cm⟩)) hI)).mono fun e2 w2 ⟨⟨v, h1⟩, h2⟩ => by obtain ⟨x9, k1, k2, k3, k4, k5⟩ := DTo.lift (x := ⟨S, F, Z, KZ, come, mine, qc, cc, qm, cm⟩) hI hX h2; exact ⟨(v, x9), h1, k1, k2, k3, k4, k5⟩) ?_
      rintro ⟨v49, x48⟩ ⟨hx48j, hx48z, hx48r, hx48X⟩
      refine SL.as ?_
      refine SL.nn [(4, bo v49)] [rBlk g [pt d 0, pt p 0, pt r 0, pt e 0, pt q 0, pt s 0, Value.slice x48.qc x48.come.length x48.cc, Value.slice x48.qm x48.mine.length x48.cm] 43, rRing r d p ab x48.F x48.S, rRefR s e q x48.K x48.Z, rRowO (.slice x48.qc x48.come.length x48.cc) (ivs x48.come) 3, rRowO (.slice x48.qm x48.mine.length x48.cm) (ivs x48.mine) 3, rBlk b1 [iw k, iw m, Value.slice fa f.length fc, bo y] 30] ⟨rfl, trivial⟩ ?_
      refine SC.ret ?_
      refine SE.blkr ?_
      refine SE.passr ?_
      refine SE.res (.inl rfl) (res1 Try.results16 rfl) fun w1 hI => ⟨⟨_, rfl⟩, x48, hx48j, hx48z, (Eq.trans hx48r (if_neg (by omega)).symm), (hI.pick (js := [0, 1, 2, 3, 4]) rfl).1, hx48X, hI.2⟩
    have hk8 := eq_f h47
    refine SC.skip ?_
    refine SE.blkn ?_
    refine SC.of_SE ?_
    refine SC.norm [(4, bo false)] _ ⟨rfl, trivial⟩ rfl ?_
    refine SC.sr ?_
    refine SL.as ?_
    refine SL.nn [(4, bo true)] _ ⟨rfl, trivial⟩ ?_
    refine SC.ret ?_
    refine SE.res (.inl rfl) (res1 Try.results16 rfl) fun w1 hI => ⟨⟨_, rfl⟩, ⟨S, F, Z, KZ, come, mine, qc, cc, qm, cm⟩, hj, hZ.up, (Eq.trans rfl (if_neg (by omega)).symm), ?_, ⟨hg, hG, hF, hKZ, hqc, hqm⟩, hI.2⟩
    exact (hI.pick (js := [0, 1, 2, 3, 4]) rfl).1
  have hk8 := eq_f h46
  refine SC.region ?_
  refine SL.uu (ru_eq (b := ((k : Int) == 9)) rfl rfl rfl rfl) ?_
  refine SL.as ?_
  refine SL.nn [(0, pt g 0), (3, pt b1 0), (4, bo false), (140, bo ((k : Int) == 9))] _ ⟨rfl, rfl, rfl, rfl, trivial⟩ ?_
  refine SC.both ((k : Int) == 9) rfl (fun h50 => ?_) (fun h50 => ?_)
  · skip
    have hk9 := eq_t h50
    refine SC.sr ?_
    refine SL.mv ?_
    refine SL.uu (ru_loada (i := 5) (vs := [iw k, iw m, Value.slice fa f.length fc, bo y]) ta30 rfl rfl rfl rfl (le_b rfl)) ?_
    refine SL.call (ζ := Bool × DS) (fun z => bo z.1) (fun z => [rBlk g [pt d 0, pt p 0, pt r 0, pt e 0, pt q 0, pt s 0, Value.slice z.2.qc z.2.come.length z.2.cc, Value.slice z.2.qm z.2.mine.length z.2.cm] 43, rRing r d p ab z.2.F z.2.S, rRefR s e q z.2.K z.2.Z, rRowO (.slice z.2.qc z.2.come.length z.2.cc) (ivs z.2.come) 3, rRowO (.slice z.2.qm z.2.mine.length z.2.cm) (ivs z.2.mine) 3, rBlk b1 [iw k, iw m, Value.slice fa f.length fc, bo y] 30]) (fun z => FJ n z.2.S z.2.come z.2.mine ∧ RB (B + 1) z.2.Z ∧ z.2.S.A.r 1 = S.A.r 1 ∧ GX G w.heap.size g d p ab r z.2) rfl rfl co53 rfl rfl rfl (lt_b rfl) (fun w9 hI => (frees_any (G := fpl (RX g d p ab r e q s ⟨S, F, Z, KZ, come, mine, qc, cc, qm, cm⟩)) hj hn60 hZ h1B hB GX.self (Inv.headL (l1 := (RX g d p ab r e q s ⟨S, F, Z, KZ, come, mine, qc, cc, qm, cm⟩)) hI)).mono fun e2 w2 ⟨⟨v, h1⟩, h2⟩ => by obtain ⟨x9, k1, k2, k3, k4, k5⟩ := DTo.lift (x := ⟨S, F, Z, KZ, come, mine, qc, cc, qm, cm⟩) hI hX h2; exact ⟨(v, x9), h1, k1, k2, k3, k4, k5⟩) ?_
    rintro ⟨v52, x51⟩ ⟨hx51j, hx51z, hx51r, hx51X⟩
    refine SL.as ?_
    refine SL.nn [(4, bo v52)] [rBlk g [pt d 0, pt p 0, pt r 0, pt e 0, pt q 0, pt s 0, Value.slice x51.qc x51.come.length x51.cc, Value.slice x51.qm x51.mine.length x51.cm] 43, rRing r d p ab x51.F x51.S, rRefR s e q x51.K x51.Z, rRowO (.slice x51.qc x51.come.length x51.cc) (ivs x51.come) 3, rRowO (.slice x51.qm x51.mine.length x51.cm) (ivs x51.mine) 3, rBlk b1 [iw k, iw m, Value.slice fa f.length fc, bo y] 30] ⟨rfl, trivial⟩ ?_
    refine SC.ret ?_
    refine SE.blkr ?_
    refine SE.passr ?_
    refine SE.res (.inl rfl) (res1 Try.results16 rfl) fun w1 hI => ⟨⟨_, rfl⟩, x51, hx51j, hx51z, (Eq.trans hx51r (if_neg (by omega)).symm), (hI.pick (js := [0, 1, 2, 3, 4]) rfl).1, hx51X, hI.2⟩
  have hk9 := eq_f h50
  refine SC.skip ?_
  refine SE.blkn ?_
  refine SC.of_SE ?_
  refine SC.norm [(4, bo false)] _ ⟨rfl, trivial⟩ rfl ?_
  refine SC.sr ?_
  refine SL.as ?_
  refine SL.nn [(4, bo true)] _ ⟨rfl, trivial⟩ ?_
  refine SC.ret ?_
  refine SE.res (.inl rfl) (res1 Try.results16 rfl) fun w1 hI => ⟨⟨_, rfl⟩, ⟨S, F, Z, KZ, come, mine, qc, cc, qm, cm⟩, hj, hZ.up, (Eq.trans rfl (if_neg (by omega)).symm), ?_, ⟨hg, hG, hF, hKZ, hqc, hqm⟩, hI.2⟩
  exact (hI.pick (js := [0, 1, 2, 3, 4]) rfl).1

end Go.Proofs.Ytghfkgcaglabpaa

/-
  For the walks of RingFills and RingDown: what begun leaves, of both rings; what is known ahead of the first call.
-/
namespace Go.Proofs.Ytghfkgcaglabpaa
open Go.RowKit
section
variable {X : Cx} {w w' : World} {n g : Nat}
def ds0 (n : Nat) (F K : Nat → Prop) : DS := ⟨beg0 n, F, ref0 n, K, [], [], none, 0, none, 0⟩
theorem Rig.three {l' : List Res} (h : Rig w n g l' w') (hI : Inv X w []) (hO : Only (fun _ => False) w w') : ∃ d p ab r e q s F K, Inv X w' [rBlk g [pt d 0, pt p 0, pt r 0, pt e 0, pt q 0, pt s 0, .slice none 0 0, .slice none 0 0] 43, rRing r d p ab F (beg0 n), rRefR s e q K (ref0 n)] ∧
    GX X.S X.w0.heap.size g d p ab r (ds0 n F K) := by
  obtain ⟨d, p, ab, r, e, q, s, F, K, rfl, h2, h3⟩ := h
  have hsz := hI.2.size
  have big : ∀ b, rfp r d p ab F b → X.w0.heap.size ≤ b := fun b hb => Nat.le_trans hsz (h3 (rRing r d p ab F (beg0 n)) (by simp) b hb)
  refine ⟨d, p, ab, r, e, q, s, F, K, ⟨h2, hI.2.trans' hO (fun _ h => h.elim)⟩, .inr (Nat.le_trans hsz (h3 _ List.mem_cons_self g rfl)), fun b hb => .inr (big b (rS_rfp hb)), fun b hb => .inr (big b (.inr (.inr (.inl hb)))), fun b hb => .inr (Nat.le_trans hsz (h3 (rRefR s e q K (ref0 n)) (by simp) b hb)), fun b hb => ?_, fun b hb => ?_⟩
  · simp [ds0, Value.ownBlock] at hb
  · simp [ds0, Value.ownBlock] at hb
end
theorem fj0 {n : Nat} (h1 : 1 ≤ n) : FJ n (beg0 n) [] [] := by
  have h := (RJ.law h1).beg
  obtain ⟨a, b, c, d, e, f, k, _⟩ := h.q
  exact ⟨h.ok, _, ⟨a, b, c, d, e, f, k, fun z => z.elim⟩, fun i => (by rw [cnt_nil]; exact (h.q.hb i).1), fun x hx => (by cases hx), fun x hx => (by cases hx)⟩
theorem rb0 {n : Nat} : RB 1 (ref0 n) := ⟨(rbegin_ok (Z := ⟨newA, List.replicate n ⟨0, [], []⟩, [], [], 0, 0⟩) newA_ok few0).1, lim_rbegin (Z := ⟨newA, List.replicate n ⟨0, [], []⟩, [], [], 0, 0⟩) (fun b hb => by rw [(List.mem_replicate.1 hb).2]; simp) (Nat.le_refl _)⟩
theorem beg0_r1 {n : Nat} : (beg0 n).A.r 1 = 1 := r1_fill.trans ((r1_write (by decide)).trans (r1_write (by decide)))
end Go.Proofs.Ytghfkgcaglabpaa

/-
  The plain law of RingDown: a buffer is taken, says something, is sent; the link goes down, and comes up again.
-/
namespace Go.Proofs.Ytghfkgcaglabpaa
open Go.RowKit
section
variable {n : Nat} {S : RingA} {h : List Int} {L : List Bf}
theorem send_P (hok : RingOk S) (q : PJ False n S.L h (allL S.T) (allL S.R) []) (id : Int) : PJ False n (sendF S id).2.L h (allL (sendF S id).2.T) (allL (sendF S id).2.R) [] := by
  have hm := hok.t.m
  unfold sendF
  simp only
  split
  · exact q
  · rename_i e1
    split
    · exact q
    · split
      · exact q
      · rename_i e3
        split
        · exact q
        · rename_i e4
          have e1' : (seeF S.L id).2 = 0 := by simpa using e1
          obtain ⟨b, b1, b2, b3⟩ : ∃ b, bufAt S.L id = some b ∧ 0 < b.refs ∧ seeF S.L id = (b, 0) := by
            revert e1'
            unfold seeF
            cases bufAt S.L id with
            | none => simp
            | some b => simp only; split
                        · rename_i hr; exact fun _ => ⟨b, rfl, hr, rfl⟩
                        · simp
          rw [b3] at e4 ⊢
          have hid : 0 ≤ id := by
            rcases Int.lt_or_le id 0 with h2 | h2
            · unfold bufAt at b1; rw [if_neg (by omega)] at b1; cases b1
            · exact h2
          obtain ⟨k, rfl⟩ := Int.eq_ofNat_of_zero_le hid
          rw [bufAt_nat] at b1
          have hne : b ≠ ⟨1, [], []⟩ := by
            rintro rfl
            apply e4
            unfold setTxF
            split
            · simp_all [setTxF]
            · simp_all [setTxF]
          have hmm : S.T.many < 15 := by omega
          simp only
          rw [allL_put hok.t hmm]
          have : holdF S.L (k : Int) = (0, S.L.set k { b with refs := b.refs + 1 }) := by
            unfold holdF; rw [bufAt_nat, b1]; simp only [if_pos b2, putF, Int.toNat_natCast]
          rw [this]
          exact q.hold_t2 b1 hne
def Says (k : Nat) (d : List UInt8) (L : List Bf) : Prop := ∃ m, L[k]? = some ⟨m, [], d⟩
theorem says_set {k j : Nat} {d : List UInt8} {b b' : Bf} (hs : Says k d L) (hj : L[j]? = some b) (h1 : b'.head = b.head) (h2 : b'.data = b.data) : Says k d (L.set j b') := by
  obtain ⟨m, hm⟩ := hs
  by_cases e : j = k
  · subst e
    rw [hm] at hj
    cases hj
    refine ⟨b'.refs, ?_⟩
    rw [List.getElem?_set_self (List.getElem?_eq_some_iff.1 hm).1]
    obtain ⟨a, c, f⟩ := b'
    simp only at h1 h2
    rw [h1, h2]
  · exact ⟨m, by rw [List.getElem?_set_ne e]; exact hm⟩
theorem says_free {k : Nat} {d : List UInt8} (hs : Says k d L) (x : Int) : Says k d (freeF L x).2 := by
  unfold freeF
  split
  · rename_i b hb
    split
    · have : L[x.toNat]? = some b := by unfold bufAt at hb; split at hb; exact hb; cases hb
      exact says_set hs this rfl rfl
    · exact hs
  · exact hs
theorem says_frees {k : Nat} {d : List UInt8} : ∀ (l : List Int) {L : List Bf}, Says k d L → Says k d (freesF L l)
  | [], L, hs => hs
  | x :: l, L, hs => by rw [frees_cons]; exact says_frees l (says_free hs x)
theorem says_hold {k : Nat} {d : List UInt8} (hs : Says k d L) (x : Int) : Says k d (holdF L x).2 := by
  unfold holdF
  split
  · rename_i b hb
    split
    · have : L[x.toNat]? = some b := by unfold bufAt at hb; split at hb; exact hb; cases hb
      exact says_set hs this rfl rfl
    · exact hs
  · exact hs
theorem says_send {k : Nat} {d : List UInt8} (hs : Says k d S.L) (id : Int) : Says k d (sendF S id).2.L := by
  unfold sendF
  simp only
  split
  · exact hs
  · split
    · exact hs
    · split
      · exact hs
      · split
        · exact hs
        · exact says_hold hs id
theorem keep_fillL {k : Nat} {b : Bf} (hb : b.refs ≠ 0) : ∀ (n : Nat) {A : NicA} {L : List Bf} {R : Line}, L[k]? = some b → (fillL n A L R).2.1[k]? = some b
  | 0, A, L, R, hk => hk
  | n + 1, A, L, R, hk => by
    unfold fillL
    rcases getF_cases2 L with ⟨i, c, e1, e2, e3⟩ | ⟨e3, e4⟩
    · rw [e3]
      simp only [if_true]
      refine keep_fillL hb n ?_
      rw [List.getElem?_set_ne (fun e => by subst e; rw [hk] at e1; cases e1; exact hb e2)]
      exact hk
    · rw [e3]
      rw [if_neg (show ¬ (8 : Int) = 0 by decide)]
      exact hk
theorem keep_fill {k : Nat} {b : Bf} (hb : b.refs ≠ 0) (hk : S.L[k]? = some b) : (fillF S).L[k]? = some b := by
  have := keep_fillL hb (15 - S.R.many).toNat (A := S.A) (R := S.R) hk
  unfold fillF
  simp only
  split <;> exact this
end
def upA (A : NicA) : NicA := { A with r := up A.r 1 1 }
theorem up_comm {α : Type} (f : Nat → α) {k j : Nat} (v w : α) (h : k ≠ j) : up (up f k v) j w = up (up f j w) k v := by
  funext i
  unfold up
  by_cases e : i = j
  · by_cases e2 : i = k
    · omega
    · simp [e]; omega
  · simp [e]
theorem setRx_up (A : NicA) (i m : Int) : (setRxF (upA A) i m).2 = upA (setRxF A i m).2 := by
  have h2 : (upA A).r 2 = A.r 2 := by show up A.r 1 1 2 = A.r 2; exact up_ne _ _ (by decide)
  have h3 : (upA A).r 3 = A.r 3 := by show up A.r 1 1 3 = A.r 3; exact up_ne _ _ (by decide)
  unfold setRxF
  rw [h2, h3]
  split <;> rfl
theorem write3_up (A : NicA) (v : Int) (h : 0 ≤ v ∧ v < 16) : (writeF (upA A) 3 v).2 = upA (writeF A 3 v).2 := by
  unfold writeF
  rw [if_neg (by omega), if_neg (by omega), if_neg (by omega), if_neg (by omega), if_pos rfl, if_neg (by omega), if_neg (by omega), if_neg (by omega), if_neg (by omega), if_pos rfl]
  simp only [upA]
  rw [up_comm _ _ _ (by decide)]
theorem fillL_up : ∀ (n : Nat) {A : NicA} {L : List Bf} {R : Line}, fillL n (upA A) L R = (upA (fillL n A L R).1, (fillL n A L R).2.1, (fillL n A L R).2.2)
  | 0, A, L, R => rfl
  | n + 1, A, L, R => by
    unfold fillL
    split
    · rw [setRx_up]; exact fillL_up n
    · rfl
theorem fillF_up {A : NicA} {L : List Bf} {T R : Line} : fillF ⟨upA A, L, T, R⟩ = { fillF ⟨A, L, T, R⟩ with A := upA (fillF ⟨A, L, T, R⟩).A } := by
  unfold fillF
  simp only [fillL_up]
  split
  · rw [write3_up _ _ (lastI_bd _)]
  · rfl
theorem begin_DJ {n : Nat} {h : List Int} {S : RingA} (q : PJ False n S.L h [] [] []) (hA : NicOk S.A) : DJ (upA (beginF S).A) line0 (beginF S).R (beginF S).R.many [] [] := by
  have hd0 : DJ (upA (writeF (writeF S.A 0 2).2 0 1).2) line0 line0 line0.many [] [] := by
    refine ⟨rfl, rfl, rfl, by decide, rfl, fun j b hb => by simp at hb, by decide, Int.le_refl _, rfl, rfl, fun j b hb => by simp at hb, fun j _ hj => ?_⟩
    simp only [line0] at hj; omega
  have hok : NicOk (upA (writeF (writeF S.A 0 2).2 0 1).2) := by
    have := write_ok (write_ok hA 0 2) 0 1
    obtain ⟨h2, h3, h4, h5, h6, tl, cl, rm⟩ := this
    refine ⟨?_, ?_, ?_, ?_, ?_, tl, cl, rm⟩ <;> (unfold upA; simp only; rw [up_ne _ _ (by decide)]; assumption)
  obtain ⟨f1, _, f3⟩ := fillF_J (S := ⟨upA (writeF (writeF S.A 0 2).2 0 1).2, S.L, line0, line0⟩) ⟨hok, line0_ok, line0_ok⟩ hd0 q
  rw [fillF_up] at f1 f3
  unfold beginF
  have e : (fillF ⟨(writeF (writeF S.A 0 2).2 0 1).2, S.L, line0, line0⟩).T = line0 := by
    have := (fillF_P (S := ⟨(writeF (writeF S.A 0 2).2 0 1).2, S.L, line0, line0⟩) ⟨write_ok (write_ok hA 0 2) 0 1, line0_ok, line0_ok⟩ q).2.1
    exact this
  have f1' : DJ (upA (fillF ⟨(writeF (writeF S.A 0 2).2 0 1).2, S.L, line0, line0⟩).A) (fillF ⟨(writeF (writeF S.A 0 2).2 0 1).2, S.L, line0, line0⟩).T (fillF ⟨(writeF (writeF S.A 0 2).2 0 1).2, S.L, line0, line0⟩).R (fillF ⟨(writeF (writeF S.A 0 2).2 0 1).2, S.L, line0, line0⟩).R.many [] [] := f1
  rw [e] at f1'
  exact f1'
theorem down_bit {x : Int} (h : 0 ≤ x ∧ x < 8) : (bits .and .i64 (ev x 4) 4 != 0) = true := by
  obtain ⟨m, hm, rfl⟩ : ∃ m : Nat, m < 8 ∧ x = (m : Int) := ⟨x.toNat, by omega, by omega⟩
  have : ∀ k : Fin 8, (bits .and .i64 (ev (k.val : Int) 4) 4 != 0) = true := by decide +kernel
  exact this ⟨m, hm⟩
section
variable (S : RingA) (bs : List UInt8)
abbrev dnI : Int := (getF S.L).1.1
def dn1 : RingA := { S with L := (getF S.L).2 }
def dn2 : RingA := { dn1 S with L := (ownF (dn1 S).L (dnI S) (setF bs)).2 }
def dn3 : RingA := (sendF (dn2 S bs) (dnI S)).2
def dn4 : RingA := { dn3 S bs with A := linkF (dn3 S bs).A false }
def dn5 : RingA := (pollF (dn4 S bs)).1
def dn6 : RingA := { dn5 S bs with A := linkF (dn5 S bs).A true }
def dn7 : RingA := (sendF (dn6 S bs) (dnI S)).2
def dn8 : RingA := { dn7 S bs with A := (takeR (dn7 S bs).A).2 }
def dn9 : RingA := { dn8 S bs with A := (giveF (dn8 S bs).A bs true).2 }
def dn10 : RingA := (pollF (dn9 S bs)).1
structure Down : Prop where
  ok1 : RingOk (dn1 S)
  ok2 : RingOk (dn2 S bs)
  ok3 : RingOk (dn3 S bs)
  ok4 : RingOk (dn4 S bs)
  ok5 : RingOk (dn5 S bs)
  ok6 : RingOk (dn6 S bs)
  ok7 : RingOk (dn7 S bs)
  ok8 : RingOk (dn8 S bs)
  ok9 : RingOk (dn9 S bs)
  ok10 : RingOk (dn10 S bs)
  few1 : Few (dn1 S).L
  few2 : Few (dn2 S bs).L
  few3 : Few (dn3 S bs).L
  few5 : Few (dn5 S bs).L
  few7 : Few (dn7 S bs).L
  few10 : Few (dn10 S bs).L
  p1 : (pollF (dn4 S bs)).2 = []
  p2 : seeF (dn5 S bs).L (dnI S) = (⟨1, [], bs⟩, 0)
  p3 : sendF (dn5 S bs) (dnI S) = (20, dn5 S bs)
  p4 : (dn5 S bs).T.many = 0
  p5 : (sendF (dn6 S bs) (dnI S)).1 = 0
  p6 : (takeR (dn7 S bs).A).1.2 = 0 ∧ (takeR (dn7 S bs).A).1.1.1 = bs
  p7 : 0 < (dn8 S bs).R.many → (giveF (dn8 S bs).A bs true).1 = 0 ∧ ∃ c, (pollF (dn9 S bs)).2 = [(c, true)] ∧ seeF (dn10 S bs).L c = (⟨1, [], bs⟩, 0)
end
section
variable {n : Nat} {S : RingA} {bs : List UInt8} {come mine : List Int}
theorem see_nat {L : List Bf} {k m : Nat} {d : List UInt8} (h : L[k]? = some ⟨m, [], d⟩) (hm : 0 < m) : seeF L (k : Int) = (⟨m, [], d⟩, 0) := by
  unfold seeF; rw [bufAt_nat, h]; simp only [if_pos hm]
theorem FJ.down (H : FJ n S come mine) (hlk : S.A.r 1 = 1) (he : (getF S.L).1.2 = 0) (h1 : 1 ≤ bs.length) (h2 : bs.length ≤ 200) : Down S bs := by
  have ok1 : RingOk (dn1 S) := H.get.1.ok
  have few1 : Few (dn1 S).L := H.get.1.few
  obtain ⟨h, q, _⟩ := H.ex
  rcases getF_cases2 S.L with ⟨k, b0, e1, e2, e3⟩ | ⟨e3, _⟩
  rotate_left
  · rw [e3] at he; exact absurd he (show ¬ (8 : Int) = 0 by decide)
  have eI : dnI S = (k : Int) := by unfold dnI; rw [e3]
  have hkS : k < S.L.length := (List.getElem?_eq_some_iff.1 e1).1
  have q2' := q.get_h e1 e2 bs
  have eL1 : (dn1 S).L = S.L.set k ⟨1, [], []⟩ := by unfold dn1; rw [e3]
  have eL2 : (dn2 S bs).L = S.L.set k ⟨1, [], bs⟩ := by
    have hs : (S.L.set k ⟨1, [], []⟩)[k]? = some ⟨1, [], []⟩ := by simp [List.getElem?_set, hkS]
    unfold dn2
    simp only
    rw [eI, eL1, own_put (by rw [bufAt_nat]; exact hs) (by omega)]
    simp only [putF, Int.toNat_natCast, List.set_set]
  have ok2 : RingOk (dn2 S bs) := ⟨ok1.a, ok1.t, ok1.r⟩
  have q2 : PJ False n (dn2 S bs).L (h.set k 1) (allL (dn2 S bs).T) (allL (dn2 S bs).R) [] := by rw [eL2]; exact q2'
  have hk1 : (h.set k 1).getD k 0 = 1 := by
    rw [getD_set (by have := q.lt e1; have := q.hl; omega), if_pos rfl]
  have s2 : Says k bs (dn2 S bs).L := ⟨1, by rw [eL2]; simp [List.getElem?_set, hkS]⟩
  have q3 : PJ False n (dn3 S bs).L (h.set k 1) (allL (dn3 S bs).T) (allL (dn3 S bs).R) [] := send_P ok2 q2 _
  have ok3 : RingOk (dn3 S bs) := send_okR ok2 _
  have s3 : Says k bs (dn3 S bs).L := says_send s2 _
  have r3 : (dn3 S bs).A.r 1 = 1 := r1_send.trans hlk
  have ok4 : RingOk (dn4 S bs) := ⟨link_ok ok3.a _, ok3.t, ok3.r⟩
  have few3 := q3.few ok3
  have eA4 : (dn4 S bs).A = { (dn3 S bs).A with r := up (up (dn3 S bs).A.r 1 0) 6 (ev ((dn3 S bs).A.r 6) 4) } := by
    unfold dn4 linkF; simp only [Bool.false_eq_true, if_false]; rw [if_neg (by rw [r3]; decide)]
  have dB : downB (dn4 S bs).A = true := by
    have e6 : (dn4 S bs).A.r 6 = ev ((dn3 S bs).A.r 6) 4 := by rw [eA4]; simp only; exact up_same _ _ _
    have e7 : (dn4 S bs).A.r 1 = 0 := by rw [eA4]; simp only; rw [up_ne _ _ (by decide), up_same]
    unfold downB; rw [e6, e7, down_bit ok3.a.h6]; rfl
  have eP : pollF (dn4 S bs) = (resetF { dn4 S bs with A := A6 (dn4 S bs).A }, []) := by unfold pollF; rw [if_pos dB]
  have e5 : dn5 S bs = resetF { dn4 S bs with A := A6 (dn4 S bs).A } := by unfold dn5; rw [eP]
  have ok5 : RingOk (dn5 S bs) := (poll_ok ok4 few3).1
  have few5 : Few (dn5 S bs).L := (poll_ok ok4 few3).2
  obtain ⟨q5, t5, _⟩ := resetF_P (S := { dn4 S bs with A := A6 (dn4 S bs).A }) (read6_ok ok4.a) q3
  rw [← e5] at q5 t5
  have qf := frees_P (allL (dn4 S bs).T) (allL (dn4 S bs).R) (L := (dn4 S bs).L) q3
  obtain ⟨m, hm⟩ := says_frees (allL (dn4 S bs).T ++ allL (dn4 S bs).R) (L := (dn4 S bs).L) s3
  have hm1 : m = 1 := by
    have := qf.refs k _ hm
    rw [hk1, cnt_nil, List.map_nil, cnt_nil] at this
    simp only at this; omega
  subst hm1
  have hL5 : (dn5 S bs).L[k]? = some ⟨1, [], bs⟩ := by
    rw [e5]
    exact keep_fill (S := ⟨(writeF (writeF (A6 (dn4 S bs).A) 0 2).2 0 1).2, freesF (dn4 S bs).L (allL (dn4 S bs).T ++ allL (dn4 S bs).R), line0, line0⟩) (by simp) hm
  have p2 : seeF (dn5 S bs).L (dnI S) = (⟨1, [], bs⟩, 0) := by rw [eI]; exact see_nat hL5 (by decide)
  have r5 : (dn5 S bs).A.r 1 = 0 := by
    have : (dn5 S bs).A.r 1 = (dn4 S bs).A.r 1 := r1_poll
    rw [this, eA4]; simp only; rw [up_ne _ _ (by decide), up_same]
  have p3 : sendF (dn5 S bs) (dnI S) = (20, dn5 S bs) := by
    unfold sendF; simp only; rw [p2, if_neg (by simp), if_pos r5]
  have p4 : (dn5 S bs).T.many = 0 := by rw [t5]; rfl
  have D5 : DJ (upA (dn5 S bs).A) line0 (dn5 S bs).R (dn5 S bs).R.many [] [] := by
    rw [e5]
    exact begin_DJ (S := { dn4 S bs with A := A6 (dn4 S bs).A, L := freesF (dn4 S bs).L (allL (dn4 S bs).T ++ allL (dn4 S bs).R) }) qf (read6_ok ok4.a)
  have ok6 : RingOk (dn6 S bs) := ⟨link_ok ok5.a _, ok5.t, ok5.r⟩
  have eA6 : (dn6 S bs).A = { (dn5 S bs).A with r := up (up (dn5 S bs).A.r 1 1) 6 (ev ((dn5 S bs).A.r 6) 4) } := by
    unfold dn6 linkF; simp only [if_true]; rw [if_neg (by rw [r5]; decide)]
  have D6 : DJ (dn6 S bs).A line0 (dn5 S bs).R (dn5 S bs).R.many [] [] := by
    rw [eA6]
    exact D5.regs (r' := up (up (dn5 S bs).A.r 1 1) 6 (ev ((dn5 S bs).A.r 6) 4)) (tp' := (dn5 S bs).A.tp) (fun j hj => up_ne _ _ (by omega))
  have r6 : (dn6 S bs).A.r 1 = 1 := D6.r1
  have p26 : seeF (dn6 S bs).L (dnI S) = (⟨1, [], bs⟩, 0) := p2
  have t6 : (dn6 S bs).T = line0 := t5
  have eX : setTxF (dn6 S bs).A (lastI line0) bs = (0, { (dn6 S bs).A with tb := up (dn6 S bs).A.tb (lastI line0).toNat bs }) := by
    have h4 := D6.r4
    have h5 := D6.r5
    have z4 : (dn6 S bs).A.r 4 = 0 := by rw [h4]; rfl
    have z5 : (dn6 S bs).A.r 5 = 0 := by rw [h5]; rfl
    unfold setTxF
    rw [z4, z5, if_neg (by decide), if_neg (by omega), if_neg (by omega)]
  have eS7 : sendF (dn6 S bs) (dnI S) = (0, ⟨(writeF { (dn6 S bs).A with tb := up (dn6 S bs).A.tb (lastI line0).toNat bs } 5 (lastI (putL line0 (dnI S)))).2, (holdF (dn6 S bs).L (dnI S)).2, putL line0 (dnI S), (dn6 S bs).R⟩) := by
    unfold sendF
    simp only
    rw [p26, t6, if_neg (by simp), if_neg (by rw [r6]; decide), if_neg (by decide)]
    simp only [List.nil_append]
    rw [eX]
    simp
  have p5 : (sendF (dn6 S bs) (dnI S)).1 = 0 := by rw [eS7]
  have ok7 : RingOk (dn7 S bs) := send_okR ok6 _
  have q7 : PJ False n (dn7 S bs).L (h.set k 1) (allL (dn7 S bs).T) (allL (dn7 S bs).R) [] := send_P ok6 q5 _
  have few7 := q7.few ok7
  have e7 : dn7 S bs = ⟨(writeF { (dn6 S bs).A with tb := up (dn6 S bs).A.tb (lastI line0).toNat bs } 5 (lastI (putL line0 (dnI S)))).2, (holdF (dn6 S bs).L (dnI S)).2, putL line0 (dnI S), (dn6 S bs).R⟩ := by unfold dn7; rw [eS7]
  have D7 : DJ (dn7 S bs).A (putL line0 (dnI S)) (dn5 S bs).R (dn5 S bs).R.many [] [bs] := by
    rw [e7]; exact D6.send line0_ok (by decide)
  have hoff : offB (dn7 S bs).A = false := D7.offB
  obtain ⟨k1, k2, k3⟩ := D7.take (by show (0 : Int) + 1 ≤ 15; decide)
  have eT : takeR (dn7 S bs).A = (((bs, (dn7 S bs).A.tp ((dn7 S bs).A.r 4).toNat), 0), takeF (dn7 S bs).A) := by
    unfold takeR; rw [hoff, if_neg (by simp), if_neg k1, k2]
  have p6 : (takeR (dn7 S bs).A).1.2 = 0 ∧ (takeR (dn7 S bs).A).1.1.1 = bs := by rw [eT]; exact ⟨rfl, rfl⟩
  have ok8 : RingOk (dn8 S bs) := ⟨takeR_ok ok7.a, ok7.t, ok7.r⟩
  have eA8 : (dn8 S bs).A = takeF (dn7 S bs).A := by unfold dn8; rw [eT]
  have eR8 : (dn8 S bs).R = (dn5 S bs).R := by show (dn7 S bs).R = _; rw [e7]; rfl
  have ok9 : RingOk (dn9 S bs) := ⟨give_ok ok8.a _ _, ok8.t, ok8.r⟩
  have k10 := poll_ok ok9 few7
  refine ⟨ok1, ok2, ok3, ok4, ok5, ok6, ok7, ok8, ok9, k10.1, few1, q2.few ok2, few3, few5, few7, k10.2, by rw [eP], p2, p3, p4, p5, p6, fun h0 => ?_⟩
  have hmR := ok8.r.m
  have hfR := ok8.r.f
  rw [eR8] at h0 hmR hfR
  have D8 : DJ (dn8 S bs).A (putL line0 (dnI S)) (dn5 S bs).R (dn5 S bs).R.many [] [] := by rw [eA8]; exact k3
  have z2 : (dn8 S bs).A.r 2 = (dn5 S bs).R.first := by rw [D8.r2]; simp only [List.length_nil]; omega
  have z3 := D8.r3
  have zr := D8.rm 0 (by simp) (by omega)
  rw [show ((dn5 S bs).R.first + ((0 : Nat) : Int)) % 16 = (dn5 S bs).R.first by omega] at zr
  have eG : giveF (dn8 S bs).A bs true = (0, comeA (dn8 S bs).A bs true) := by
    unfold giveF
    rw [D8.offB, if_neg (by simp), if_neg (by rw [z2, z3]; omega), if_neg (by rw [z2, zr]; omega)]
  refine ⟨by rw [eG], ?_⟩
  have eA9 : (dn9 S bs).A = comeA (dn8 S bs).A bs true := by unfold dn9; rw [eG]
  have y1 : (dn9 S bs).A.r 1 = 1 := by
    have : (dn9 S bs).A.r 1 = (dn8 S bs).A.r 1 := r1_give
    rw [this]; exact D8.r1
  have y2 : (dn9 S bs).A.r 2 = nx (dn5 S bs).R.first := by
    rw [eA9]; unfold comeA; simp only; rw [up_ne _ _ (by decide), up_same, z2]
  have dn : downB (dn9 S bs).A = false := by unfold downB; rw [y1]; simp
  have yx : rxR (A6 (dn9 S bs).A) (dn5 S bs).R.first = ((bs, true), 0) := by
    unfold rxR A6
    rw [eA9]
    unfold comeA
    simp only
    rw [if_neg (by omega), z2, up_same, up_same, up_same, if_neg (by simp)]
  have eR9 : (dn9 S bs).R = (dn5 S bs).R := eR8
  obtain ⟨x1, x2⟩ : PJ False n (uptoT (dn9 S bs).T.many.toNat ((dn9 S bs).A.r 4) (dn9 S bs).L (dn9 S bs).T).1 (h.set k 1) (allL (uptoT (dn9 S bs).T.many.toNat ((dn9 S bs).A.r 4) (dn9 S bs).L (dn9 S bs).T).2) (allL (dn9 S bs).R) [] ∧ LineOk (uptoT (dn9 S bs).T.many.toNat ((dn9 S bs).A.r 4) (dn9 S bs).L (dn9 S bs).T).2 := by
    have hm9 := ok9.t.m
    exact ⟨uptoT_P _ ok9.t (by omega) q7, (uptoT_ok (hd := (dn9 S bs).A.r 4) _ few7 ok9.t (by omega)).2⟩
  generalize hx : uptoT (dn9 S bs).T.many.toNat ((dn9 S bs).A.r 4) (dn9 S bs).L (dn9 S bs).T = x at x1 x2
  rw [eR9, allL_pop (by rw [← eR9]; exact ok9.r) h0] at x1
  obtain ⟨w1, w2⟩ := x1.come bs
  have eU : uptoR (A6 (dn9 S bs).A) (dn9 S bs).R.many.toNat ((dn9 S bs).A.r 2) x.1 (dn9 S bs).R [] = (putF x.1 ((dn5 S bs).R.buf (dn5 S bs).R.first.toNat) ⟨1, [], bs⟩, popL (dn5 S bs).R, [((dn5 S bs).R.buf (dn5 S bs).R.first.toNat, true)]) := by
    rw [eR9]
    obtain ⟨m, hm⟩ : ∃ m, (dn5 S bs).R.many.toNat = m + 1 := ⟨(dn5 S bs).R.many.toNat - 1, by omega⟩
    rw [hm]
    unfold uptoR
    rw [if_neg (by rw [y2]; unfold nx; omega), yx]
    simp only
    rw [own_put w1 (by omega)]
    simp only [List.nil_append]
    cases m with
    | zero => rfl
    | succ m => unfold uptoR; rw [if_pos (by rw [y2]; rfl)]
  have eQ : pollF (dn9 S bs) = (fillF ⟨A6 (dn9 S bs).A, putF x.1 ((dn5 S bs).R.buf (dn5 S bs).R.first.toNat) ⟨1, [], bs⟩, x.2, popL (dn5 S bs).R⟩, [((dn5 S bs).R.buf (dn5 S bs).R.first.toNat, true)]) := by
    unfold pollF
    rw [dn, if_neg (by simp)]
    simp only
    rw [hx, eU]
  refine ⟨_, by rw [eQ], ?_⟩
  have f := (fillF_P (S := ⟨A6 (dn9 S bs).A, putF x.1 ((dn5 S bs).R.buf (dn5 S bs).R.first.toNat) ⟨1, [], bs⟩, x.2, popL (dn5 S bs).R⟩) ⟨read6_ok ok9.a, x2, popL_ok (by rw [← eR9]; exact ok9.r) h0⟩ w2).1
  have e10 : dn10 S bs = fillF ⟨A6 (dn9 S bs).A, putF x.1 ((dn5 S bs).R.buf (dn5 S bs).R.first.toNat) ⟨1, [], bs⟩, x.2, popL (dn5 S bs).R⟩ := by unfold dn10; rw [eQ]
  rw [e10]
  have o := f.ob ((dn5 S bs).R.buf (dn5 S bs).R.first.toNat, bs) (by simp)
  simp only at o
  unfold seeF bufAt
  rw [if_pos o.1, o.2]
  rfl
end
end Go.Proofs.Ytghfkgcaglabpaa
