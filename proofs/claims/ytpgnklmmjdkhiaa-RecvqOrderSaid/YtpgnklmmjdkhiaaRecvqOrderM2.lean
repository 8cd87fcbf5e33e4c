/-
  What the proof of RecvqOrder stands on, part 2: each theorem by itself, under the conditions that it names.
-/
import Derived.Test.YtpgnklmmjdkhiaaRecvqOrderM1
/-
  Reading: what it comes to, as plain functions.
-/
namespace Go.Proofs.Ytpgnklmmjdkhiaa
open Go.RowKit
/-- A reading under way: the pieces gone over, as they are left; the pool; what was read; how many pieces are through. -/
structure RdS where
  pre : List Pc
  L : List Bf
  o : List UInt8
  dn : Nat
def rdN (most : Int) (o : List UInt8) (x : Pc) : Int := min (most - (o.length : Int)) x.size
def rdB (L : List Bf) (x : Pc) (n : Int) : List UInt8 := ((seeF L x.buf).1.data.drop x.skip.toNat).take n.toNat
def rdStep (most : Int) (s : RdS) (x : Pc) : RdS :=
  if rdN most s.o x ≤ 0 then { s with pre := s.pre ++ [x] }
  else if x.size - rdN most s.o x = 0 then ⟨s.pre ++ [⟨x.off, x.buf, x.skip + rdN most s.o x, x.size - rdN most s.o x, x.fin⟩], (freeF s.L x.buf).2, s.o ++ rdB s.L x (rdN most s.o x), s.dn + 1⟩
  else ⟨s.pre ++ [⟨x.off, x.buf, 0, x.size - rdN most s.o x, x.fin⟩], (ownF s.L x.buf (trimF (x.skip + rdN most s.o x) 0)).2, s.o ++ rdB s.L x (rdN most s.o x), s.dn⟩
def rdAt (most : Int) (S : Rq) (k : Nat) : RdS := (S.l.take k).foldl (rdStep most) ⟨[], S.L, [], 0⟩
def rdRows (most : Int) (S : Rq) (k : Nat) : List Pc := (rdAt most S k).pre ++ S.l.drop k
theorem rd_next {most : Int} {S : Rq} {k : Nat} {x : Pc} (h : S.l[k]? = some x) : rdAt most S (k + 1) = rdStep most (rdAt most S k) x := by
  unfold rdAt
  rw [List.take_add_one, h]
  simp
theorem step_pre (most : Int) (s : RdS) (x : Pc) : ∃ y, (rdStep most s x).pre = s.pre ++ [y] := by
  unfold rdStep; split
  · exact ⟨_, rfl⟩
  · split <;> exact ⟨_, rfl⟩
theorem step_dn (most : Int) (s : RdS) (x : Pc) : (rdStep most s x).dn ≤ s.dn + 1 := by
  unfold rdStep; split
  · simp
  · split <;> simp
theorem rd_len (most : Int) (S : Rq) : ∀ k, k ≤ S.l.length → (rdAt most S k).pre.length = k
  | 0, _ => rfl
  | k + 1, h => by
    have hx : S.l[k]? = some S.l[k] := List.getElem?_eq_getElem (by omega)
    rw [rd_next hx]
    obtain ⟨y, hy⟩ := step_pre most (rdAt most S k) S.l[k]
    rw [hy, List.length_append, rd_len most S k (by omega)]; rfl
theorem rd_big (most : Int) (S : Rq) {k : Nat} (h : S.l.length ≤ k) : rdAt most S k = rdAt most S S.l.length := by
  unfold rdAt
  rw [List.take_of_length_le h, List.take_of_length_le (Nat.le_refl _)]
theorem rows_len (most : Int) (S : Rq) (k : Nat) : (rdRows most S k).length = S.l.length := by
  unfold rdRows
  rcases Nat.le_total k S.l.length with h | h
  · rw [List.length_append, rd_len most S k h, List.length_drop]; omega
  · rw [rd_big most S h, List.length_append, rd_len most S _ (Nat.le_refl _), List.length_drop]; omega
theorem rd_dn (most : Int) (S : Rq) : ∀ k, (rdAt most S k).dn ≤ k ∧ (rdAt most S k).dn ≤ S.l.length
  | 0 => ⟨Nat.le_refl _, Nat.zero_le _⟩
  | k + 1 => by
    have ih := rd_dn most S k
    cases hx : S.l[k]? with
    | none =>
      have hk : S.l.length ≤ k := by simpa using hx
      rw [rd_big most S (show S.l.length ≤ k + 1 by omega), ← rd_big most S hk]
      exact ⟨by omega, ih.2⟩
    | some x =>
      have hk : k < S.l.length := (List.getElem?_eq_some_iff.1 hx).1
      have := step_dn most (rdAt most S k) x
      rw [rd_next hx]
      omega
theorem rows_at {most : Int} {S : Rq} {k : Nat} (hk : k < S.l.length) : (rdRows most S k)[k]? = S.l[k]? := by
  unfold rdRows
  have := rd_len most S k (by omega)
  rw [List.getElem?_append_right (by omega), this, List.getElem?_drop]
  congr 1; omega
theorem rows_next {most : Int} {S : Rq} {k : Nat} {x y : Pc} (h : S.l[k]? = some x) (hy : (rdStep most (rdAt most S k) x).pre = (rdAt most S k).pre ++ [y]) : rdRows most S (k + 1) = (rdRows most S k).set k y := by
  obtain ⟨hk, rfl⟩ := List.getElem?_eq_some_iff.1 h
  have hl := rd_len most S k (by omega)
  unfold rdRows
  rw [rd_next h, hy, List.set_append_right _ _ (by omega), hl, Nat.sub_self, List.drop_eq_getElem_cons hk, List.set_cons_zero, List.append_assoc]
  rfl
/-- Where a reading stops, all that is left stays as it is. -/
theorem rd_stop {most : Int} {S : Rq} (hpos : ∀ x ∈ S.l, 0 < x.size) {k : Nat} {x : Pc} (hx : S.l[k]? = some x) (h : rdN most (rdAt most S k).o x ≤ 0) : ∀ j, k ≤ j → j ≤ S.l.length → (rdAt most S j).L = (rdAt most S k).L ∧ (rdAt most S j).o = (rdAt most S k).o ∧ (rdAt most S j).dn = (rdAt most S k).dn ∧ rdRows most S j = rdRows most S k := by
  have hm : most - ((rdAt most S k).o.length : Int) ≤ 0 := by
    have := hpos x (List.mem_of_getElem? hx)
    unfold rdN at h; omega
  intro j hkj
  induction j with
  | zero => intro _; have : k = 0 := by omega
            subst this; exact ⟨rfl, rfl, rfl, rfl⟩
  | succ j ih =>
    intro hj
    by_cases e : k = j + 1
    · subst e; exact ⟨rfl, rfl, rfl, rfl⟩
    · obtain ⟨i1, i2, i3, i4⟩ := ih (by omega) (by omega)
      have hy : S.l[j]? = some S.l[j] := List.getElem?_eq_getElem (by omega)
      have hst : rdStep most (rdAt most S j) S.l[j] = { rdAt most S j with pre := (rdAt most S j).pre ++ [S.l[j]] } := by
        unfold rdStep
        rw [if_pos (by unfold rdN; rw [i2]; omega)]
      rw [rd_next hy, hst]
      refine ⟨i1, i2, i3, ?_⟩
      rw [rows_next hy (y := S.l[j]) (by rw [hst]), ← i4]
      exact row_self (by rw [rows_at (by omega)]; exact hy)
theorem stop_end {most : Int} {S : Rq} (hpos : ∀ x ∈ S.l, 0 < x.size) {k : Nat} {x : Pc} (hx : S.l[k]? = some x) (h : rdN most (rdAt most S k).o x ≤ 0) : (rdAt most S S.l.length).L = (rdAt most S k).L ∧ (rdAt most S S.l.length).o = (rdAt most S k).o ∧ (rdAt most S S.l.length).dn = (rdAt most S k).dn ∧ rdRows most S S.l.length = rdRows most S k :=
  rd_stop hpos hx h _ (Nat.le_of_lt (List.getElem?_eq_some_iff.1 hx).1) (Nat.le_refl _)
/-- What the walk asks of each piece when it comes. -/
structure RdOk (most : Int) (s : RdS) (x : Pc) : Prop where
  skip : 0 ≤ x.skip
  fit : x.skip + x.size ≤ ((seeF s.L x.buf).1.data.length : Int)
  out : s.o.length ≤ 500000
  wr : IntKind.i64.wrap (most - (s.o.length : Int)) = most - (s.o.length : Int)
/-- No buffer has more than one holder. -/
def Lone (L : List Bf) : Prop := ∀ b ∈ L, b.refs ≤ 1
theorem bufAt_mem' {L : List Bf} {id : Int} {b : Bf} (h : bufAt L id = some b) : b ∈ L := by
  unfold bufAt at h
  split at h
  · exact List.mem_of_getElem? h
  · cases h
theorem Lone.put {L : List Bf} (h : Lone L) (id : Int) {b : Bf} (hb : b.refs ≤ 1) : Lone (putF L id b) := fun c hc => by
  unfold putF at hc
  rcases List.mem_or_eq_of_mem_set hc with h1 | rfl
  · exact h c h1
  · exact hb
theorem Lone.free {L : List Bf} (h : Lone L) (id : Int) : Lone (freeF L id).2 := by
  unfold freeF
  split
  · rename_i b hb
    have := h b (bufAt_mem' hb)
    split
    · exact h.put id (by dsimp only; omega)
    · exact h
  · exact h
theorem Lone.own {L : List Bf} (h : Lone L) (id : Int) {f : Bf → Int × Bf} (hf : ∀ b, b.refs = 1 → (f b).2.refs = 1) : Lone (ownF L id f).2 := by
  unfold ownF
  split
  · rename_i b hb
    split
    · exact h
    · split
      · rename_i h1
        split
        · exact h.put id (by rw [hf b h1]; exact Nat.le_refl _)
        · exact h
      · exact h
  · exact h
theorem trim_one (f g : Int) (b : Bf) (h : b.refs = 1) : (trimF f g b).2.refs = 1 := by unfold trimF; split <;> exact h
theorem app_one (d : List UInt8) (b : Bf) (h : b.refs = 1) : (appF d b).2.refs = 1 := by unfold appF; split <;> exact h
theorem set_one (d : List UInt8) (b : Bf) (_ : b.refs = 1) : (setF d b).2.refs = 1 := by unfold setF; split <;> rfl
theorem Lone.get {L : List Bf} (h : Lone L) : Lone (getF L).2 := by
  unfold getF
  split
  · intro c hc
    rcases List.mem_or_eq_of_mem_set hc with h1 | rfl
    · exact h c h1
    · exact Nat.le_refl _
  · exact h
theorem Lone.few {L : List Bf} (h : Lone L) : ∀ b ∈ L, b.refs < 1000000000000000 := fun b hb => by have := h b hb; omega
theorem Lone.rd {S : Rq} (h : Lone S.L) (most : Int) : ∀ k, Lone (rdAt most S k).L
  | 0 => h
  | k + 1 => by
    have ih := Lone.rd h most k
    cases hx : S.l[k]? with
    | none =>
      have hk : S.l.length ≤ k := by simpa using hx
      rw [rd_big most S (show S.l.length ≤ k + 1 by omega), ← rd_big most S hk]
      exact ih
    | some x =>
      rw [rd_next hx]
      unfold rdStep
      split
      · exact ih
      · split
        · exact ih.free _
        · exact ih.own _ (trim_one _ _)
theorem pRows_one (M : List Pc) : ∀ r ∈ pRows M, ∀ u ∈ r, u.oneCell' = true := by
  intro r hr u hu
  obtain ⟨x, _, rfl⟩ := List.mem_map.1 hr
  simp only [Pc.row, List.mem_cons, List.not_mem_nil, or_false] at hu
  rcases hu with rfl | rfl | rfl | rfl | rfl <;> rfl
theorem pRows_set (M : List Pc) (k : Nat) (y : Pc) : pRows (M.set k y) = (pRows M).set k y.row := by unfold pRows; exact List.map_set
/-- The first are taken away. -/
theorem del0_any {w : World} {q : Option Addr} {n c j : Nat} {M : List Pc} (h : RowsN w (.slice q n c) (pRows M) 61 5) (hj : j ≤ n) :
    Calls Try.prog 24 #[.slice q n c, iw 0, iw (j : Int)] w fun e w' => e = .returned (.slice q (n - j) c) ∧ RowsN w' (.slice q (n - j) c) (pRows (M.drop j)) 61 5 ∧ Only (fun b => (Value.slice q n c).ownBlock = some b) w w' := by
  rcases Nat.eq_zero_or_pos j with rfl | h0
  · have hnc : n ≤ c := by
      obtain ⟨rfl, h2⟩ := rowN_form h
      rcases Nat.eq_zero_or_pos (pRows M).length with e | e
      · omega
      · obtain ⟨_, _, _, _, h3, _⟩ := h2 e; exact h3
    refine (del_same (i := 0) (Nat.zero_le _) hnc).mono ?_
    rintro e w' ⟨rfl, h1⟩
    refine ⟨rfl, ?_, h1.mono (fun b hb => hb.elim)⟩
    rw [Nat.sub_zero, List.drop_zero]
    exact (rRowN (.slice q n c) (pRows M) 61 5).st w w' h (fun b hb => h1.block b ((rRowN (.slice q n c) (pRows M) 61 5).lt w h b hb) id)
  · have := del_any (i := 0) h (pRows_one M) h0 hj
    rw [Nat.zero_add] at this
    refine this.mono ?_
    rintro e w' ⟨rfl, h1, h2⟩
    refine ⟨rfl, ?_, h2⟩
    rw [List.take_zero, List.nil_append, ← List.map_drop] at h1
    exact h1
end Go.Proofs.Ytpgnklmmjdkhiaa

/-
  What joining, ordering, waiting come to, as plain functions.
-/
namespace Go.Proofs.Ytpgnklmmjdkhiaa
open Go.RowKit
/-- All that a queue's calls may turn. -/
def QG (d p ab : Nat) (q1 : Option Addr) (c1 : Nat) (q2 : Option Addr) (c2 : Nat) (S : Rq) : Nat → Prop := fun b => b = d ∨ b = p ∨ b = ab ∨ (Value.slice q1 S.l.length c1).ownBlock = some b ∨ (Value.slice q2 S.late.length c2).ownBlock = some b
def jLast (S : Rq) (x : Pc) : Int := if x.fin = true then max S.nxt x.fin' else S.last
/-- The bytes of a piece that are new. -/
def jB (S : Rq) (x : Pc) : List UInt8 := ((seeF S.L x.buf).1.data.drop (x.skip + (S.nxt - x.off)).toNat).take (x.size - (S.nxt - x.off)).toNat
def jZ (S : Rq) : Pc := match S.l[S.l.length - 1]? with | some z => z | none => ⟨0, 0, 0, 0, false⟩
def jA (S : Rq) (x : Pc) : Int × List Bf := ownF S.L (jZ S).buf (appF (jB S x))
def joinN (S : Rq) (x : Pc) (L : List Bf) : Rq := { S with last := jLast S x, nxt := S.nxt + (x.size - (S.nxt - x.off)), hv := S.hv + (x.size - (S.nxt - x.off)), L := (ownF L x.buf (trimF (x.skip + (S.nxt - x.off)) (((seeF S.L x.buf).1.data.length : Int) - (x.skip + (S.nxt - x.off)) - (x.size - (S.nxt - x.off))))).2, l := S.l ++ [⟨x.off + (S.nxt - x.off), x.buf, 0, x.size - (S.nxt - x.off), x.fin⟩] }
def joinF (S : Rq) (x : Pc) : Rq :=
  if decide (x.size ≤ S.nxt - x.off) = true then { S with last := jLast S x, L := (freeF S.L x.buf).2 }
  else if decide ((0 : Int) < (S.l.length : Int)) = true then
    if ((jA S x).1 == 0) = true then { S with last := jLast S x, nxt := S.nxt + (x.size - (S.nxt - x.off)), hv := S.hv + (x.size - (S.nxt - x.off)), L := (freeF (jA S x).2 x.buf).2, l := S.l.set (S.l.length - 1) ⟨(jZ S).off, (jZ S).buf, (jZ S).skip, (jZ S).size + (x.size - (S.nxt - x.off)), (jZ S).fin⟩ }
    else joinN S x (jA S x).2
  else joinN S x S.L
/-- What the walk asks where a piece is joined. -/
structure JnOk (S : Rq) (x : Pc) : Prop where
  old0 : 0 ≤ S.nxt - x.off
  nx0 : -2000000000000000000 ≤ S.nxt
  nx1 : S.nxt ≤ 2000000000000000000
  of0 : -2000000000000000000 ≤ x.off
  skip : 0 ≤ x.skip
  size : 0 ≤ x.size
  fit : x.skip + x.size ≤ ((seeF S.L x.buf).1.data.length : Int)
  hv0 : 0 ≤ S.hv
  hv1 : S.hv ≤ 1000000
  zs : ∀ z ∈ S.l, 0 ≤ z.size ∧ z.size ≤ 1000000
  few : S.l.length ≤ 1000000
  lone : Lone S.L
theorem jZ_at {S : Rq} (h : 0 < S.l.length) : S.l[S.l.length - 1]? = some (jZ S) := by
  unfold jZ
  have : S.l[S.l.length - 1]? = some (S.l[S.l.length - 1]'(by omega)) := List.getElem?_eq_getElem _
  rw [this]
theorem fin_is {x : Pc} (h0 : -2000000000000000000 ≤ x.off) (h1 : x.off ≤ 2000000000000000000) (h2 : 0 ≤ x.size) (h3 : x.size ≤ 288) : x.fin' = x.off + x.size := by
  unfold Pc.fin'; rw [IntKind.wrap_i64]; omega
theorem cutIn {X : Cx} {w : World} {l : List Res} {i j p ab : Nat} {L : List Bf} {q : Option Addr} {n c k n' c' : Nat} {f : List UInt8} {e : TypeId} {pr : Prop} [Decidable pr] (h : Inv X w l) (hj : l[j]? = some (rMine (.slice q n c) f e)) (hi : l[i]? = some (rPool p ab L)) (hij : i ≠ j) : sliceIn (.slice (if pr then q else q.map (·.add k)) n' c') (fun b => ¬ b = ab) := by
  intro b o m cap hv _ hb
  subst hb
  have hq : (Value.slice q n c).ownBlock = some b := by
    cases q with
    | none => simp at hv
    | some a =>
      have : a.block = b := by
        simp only [Option.map_some, ite_self, Value.slice.injEq] at hv
        split at hv
        · have := hv.1; simp only [Option.some.injEq] at this; rw [this]
        · have := hv.1; simp only [Option.some.injEq] at this
          have e : (a.add k).block = a.block := by unfold Addr.add; split <;> rfl
          rw [← e, this]
      simp [Value.ownBlock, this]
  have hp := List.pairwise_iff_getElem.1 h.1.2
  obtain ⟨hjl, e1⟩ := List.getElem?_eq_some_iff.1 hj
  obtain ⟨hil, e2⟩ := List.getElem?_eq_some_iff.1 hi
  rcases Nat.lt_or_gt_of_ne hij with hlt | hlt
  · refine hp i j hil hjl hlt b ?_ ?_
    · rw [e2]; exact .inr rfl
    · rw [e1]; exact hq
  · refine hp j i hjl hil hlt b ?_ ?_
    · rw [e1]; exact hq
    · rw [e2]; exact .inr rfl
theorem bytes_cut {w : World} {e : TypeId} {q : Option Addr} {n c : Nat} {f : List UInt8} (l0 h0 : Nat) (ho : OwnBytes w 0 e (.slice q n c) f) (hl : f.length ≤ 1000000) (h1 : l0 ≤ h0) (h2 : h0 ≤ n) : BytesAt w (.slice (if c = l0 then q else q.map (·.add (l0 * 1))) (h0 - l0) (c - l0)) ((f.drop l0).take (h0 - l0)) := by
  obtain ⟨rfl, hc⟩ := own_le ho
  exact (ho.bytes (by omega)).slice l0 h0 c h1 h2 (by omega) (Nat.le_refl _)
end Go.Proofs.Ytpgnklmmjdkhiaa

/-
  Reading.
-/
namespace Go.Proofs.Ytpgnklmmjdkhiaa
open Go.RowKit
set_option maxRecDepth 100000
set_option maxHeartbeats 4000000
theorem rdB_len (L : List Bf) (x : Pc) (n : Int) : (rdB L x n).length ≤ (seeF L x.buf).1.data.length := by unfold rdB; rw [List.length_take, List.length_drop]; omega
theorem pr_len (M : List Pc) : (pRows M).length = M.length := List.length_map _
theorem rd_full {most : Int} {S : Rq} {k : Nat} {x : Pc} (h : S.l[k]? = some x) (hn : 0 < rdN most (rdAt most S k).o x) (hz : ((x.size - rdN most (rdAt most S k).o x : Int) == 0) = true) : pRows (rdRows most S (k + 1)) = (pRows (rdRows most S k)).set k [iw x.off, iw x.buf, iw (x.skip + rdN most (rdAt most S k).o x), iw (x.size - rdN most (rdAt most S k).o x), bo x.fin] ∧ (rdAt most S (k + 1)).o = (rdAt most S k).o ++ rdB (rdAt most S k).L x (rdN most (rdAt most S k).o x) ∧ (rdAt most S (k + 1)).L = (freeF (rdAt most S k).L x.buf).2 ∧ (rdAt most S (k + 1)).dn = (rdAt most S k).dn + 1 := by
  have hz' : x.size - rdN most (rdAt most S k).o x = 0 := by simpa using hz
  have hst : rdStep most (rdAt most S k) x = ⟨(rdAt most S k).pre ++ [⟨x.off, x.buf, x.skip + rdN most (rdAt most S k).o x, x.size - rdN most (rdAt most S k).o x, x.fin⟩], (freeF (rdAt most S k).L x.buf).2, (rdAt most S k).o ++ rdB (rdAt most S k).L x (rdN most (rdAt most S k).o x), (rdAt most S k).dn + 1⟩ := by
    unfold rdStep; rw [if_neg (by omega), if_pos hz']
  rw [rd_next h, hst, rows_next h (y := ⟨x.off, x.buf, x.skip + rdN most (rdAt most S k).o x, x.size - rdN most (rdAt most S k).o x, x.fin⟩) (by rw [hst]), pRows_set]
  exact ⟨rfl, rfl, rfl, rfl⟩
theorem rd_part {most : Int} {S : Rq} {k : Nat} {x : Pc} (h : S.l[k]? = some x) (hn : 0 < rdN most (rdAt most S k).o x) (hz : ((x.size - rdN most (rdAt most S k).o x : Int) == 0) = false) : pRows (rdRows most S (k + 1)) = ((pRows (rdRows most S k)).set k [iw x.off, iw x.buf, iw (x.skip + rdN most (rdAt most S k).o x), iw (x.size - rdN most (rdAt most S k).o x), bo x.fin]).set k (([iw x.off, iw x.buf, iw (x.skip + rdN most (rdAt most S k).o x), iw (x.size - rdN most (rdAt most S k).o x), bo x.fin] : List Value).set 2 (iw 0)) ∧ (rdAt most S (k + 1)).o = (rdAt most S k).o ++ rdB (rdAt most S k).L x (rdN most (rdAt most S k).o x) ∧ (rdAt most S (k + 1)).L = (ownF (rdAt most S k).L x.buf (trimF (x.skip + rdN most (rdAt most S k).o x) 0)).2 ∧ (rdAt most S (k + 1)).dn = (rdAt most S k).dn := by
  have hz' : ¬ x.size - rdN most (rdAt most S k).o x = 0 := by simpa using hz
  have hst : rdStep most (rdAt most S k) x = ⟨(rdAt most S k).pre ++ [⟨x.off, x.buf, 0, x.size - rdN most (rdAt most S k).o x, x.fin⟩], (ownF (rdAt most S k).L x.buf (trimF (x.skip + rdN most (rdAt most S k).o x) 0)).2, (rdAt most S k).o ++ rdB (rdAt most S k).L x (rdN most (rdAt most S k).o x), (rdAt most S k).dn⟩ := by
    unfold rdStep; rw [if_neg (by omega), if_neg hz']
  rw [rd_next h, hst, rows_next h (y := ⟨x.off, x.buf, 0, x.size - rdN most (rdAt most S k).o x, x.fin⟩) (by rw [hst]), pRows_set, List.set_set]
  exact ⟨rfl, rfl, rfl, rfl⟩
/-- The queue behind a reading. -/
def readS (most : Int) (S : Rq) : Rq := { S with L := (rdAt most S S.l.length).L, l := (rdAt most S S.l.length).pre.drop (rdAt most S S.l.length).dn, hv := IntKind.i64.wrap (S.hv - ((rdAt most S S.l.length).o.length : Int)) }
def readO (most : Int) (S : Rq) : List UInt8 := (rdAt most S S.l.length).o
theorem read_any {w : World} {d p ab : Nat} {q1 q2 : Option Addr} {c1 c2 : Nat} {S : Rq} {most : Int} (hl : Lone S.L) (hn : S.l.length ≤ 1000) (hpos : ∀ x ∈ S.l, 0 < x.size) (hok : ∀ k x, S.l[k]? = some x → RdOk most (rdAt most S k) x) (h : Sep w (QR d p ab q1 c1 q2 c2 S)) : Calls Try.prog 11 #[pt d 0, iw most] w fun e w' => ∃ q c, e = .returned (.slice q (readO most S).length c) ∧ Sep w' (QR d p ab q1 c1 q2 c2 (readS most S) ++ [rMine (.slice q (readO most S).length c) (readO most S) 5]) ∧ (∀ b, (Value.slice q (readO most S).length c).ownBlock = some b → w.heap.size ≤ b) ∧ Only (fun b => b = d ∨ b = p ∨ b = ab ∨ (Value.slice q1 S.l.length c1).ownBlock = some b) w w' := by
  refine calls_si (l0 := (QR d p ab q1 c1 q2 c2 S)) (args := [pt d 0, iw most]) (fun b => b = d ∨ b = p ∨ b = ab ∨ (Value.slice q1 S.l.length c1).ownBlock = some b) Try.func11 rfl 99 Try.ntmps11 (le_b rfl) ⟨h, Only.refl _ _⟩ (fun _ h => by obtain ⟨_, _, h, _⟩ := h; cases h) fun ho => ?_
  show SI _ _ _ _ _ [(0, pt d 0), (1, iw most)] (QR d p ab q1 c1 q2 c2 S)
  refine SI.seq ?_
  refine SI.of_SG (by exact fun a w h => ho a w h) (by kernel_rfl) (SG.region ?_)
  refine SL.box (c := [pt d 0]) rfl rfl (lt_b rfl) rfl rfl rfl fun b1 hb1 => ?_
  refine SL.box (c := [iw most]) rfl rfl (lt_b rfl) rfl rfl rfl fun b2 hb2 => ?_
  refine SL.ru rfl rfl (lt_b rfl) (ru_assign rfl rfl) ?_
  refine SL.nil ?_
  refine SI.of_SE ?_
  refine SI.norm [(2, pt b1 0), (3, pt b2 0), (4, Value.slice none 0 0)] [rBlk d [pt p 0, Value.slice q1 S.l.length c1, Value.slice q2 S.late.length c2, iw S.nxt, iw S.hv, iw S.last, bo S.gone] 52, rPool p ab S.L, rRowN (.slice q1 S.l.length c1) (pRows S.l) 61 5, rRowN (.slice q2 S.late.length c2) (pRows S.late) 61 5, rBlk b1 [pt d 0] 29, rBlk b2 [iw most] 3] ⟨rfl, rfl, rfl, trivial⟩ rfl ?_
  refine SI.seq ?_
  refine SI.of_SG (by exact fun a w h => ho a w h) (by kernel_rfl) (SG.region ?_)
  refine SL.alloc rfl rfl (lt_b rfl) ts22 rfl fun b3 hb3 => ?_
  refine SL.nil ?_
  refine SI.of_SE ?_
  refine SI.norm [(2, pt b1 0), (3, pt b2 0), (4, Value.slice none 0 0), (5, pt b3 0)] [rBlk d [pt p 0, Value.slice q1 S.l.length c1, Value.slice q2 S.late.length c2, iw S.nxt, iw S.hv, iw S.last, bo S.gone] 52, rPool p ab S.L, rRowN (.slice q1 S.l.length c1) (pRows S.l) 61 5, rRowN (.slice q2 S.late.length c2) (pRows S.late) 61 5, rBlk b1 [pt d 0] 29, rBlk b2 [iw most] 3, rBlk b3 [Value.slice none 0 0] 22] ⟨rfl, rfl, rfl, rfl, trivial⟩ rfl ?_
  refine SI.seq ?_
  refine SI.of_SG (by exact fun a w h => ho a w h) (by kernel_rfl) (SG.region ?_)
  refine SL.alloc rfl rfl (lt_b rfl) ts3 rfl fun b4 hb4 => ?_
  refine SL.store (i := 7) (c' := [iw 0]) rfl rfl ts3 rfl rfl rfl rfl rfl (lt_b rfl) (.inr hb4) rfl ?_
  refine SL.nil ?_
  refine SI.of_SE ?_
  refine SI.norm [(2, pt b1 0), (3, pt b2 0), (4, Value.slice none 0 0), (5, pt b3 0), (6, pt b4 0)] [rBlk d [pt p 0, Value.slice q1 S.l.length c1, Value.slice q2 S.late.length c2, iw S.nxt, iw S.hv, iw S.last, bo S.gone] 52, rPool p ab S.L, rRowN (.slice q1 S.l.length c1) (pRows S.l) 61 5, rRowN (.slice q2 S.late.length c2) (pRows S.late) 61 5, rBlk b1 [pt d 0] 29, rBlk b2 [iw most] 3, rBlk b3 [Value.slice none 0 0] 22, rBlk b4 [iw 0] 3] ⟨rfl, rfl, rfl, rfl, rfl, trivial⟩ rfl ?_
  refine SI.seq ?_
  refine SI.seq ?_
  refine SI.of_SG (by exact fun a w h => ho a w h) (by kernel_rfl) (SG.region ?_)
  refine SL.ru rfl rfl (lt_b rfl) (ru_load (i := 4) ts29 rfl rfl rfl rfl) ?_
  refine SL.mk (Mk.fnc ⟨99, w, fun b => b = d ∨ b = p ∨ b = ab ∨ (Value.slice q1 S.l.length c1).ownBlock = some b⟩ 32 [pt d 0] 29) (w_all rfl) rfl co22 rfl rfl rfl (lt_b rfl) (fun l' w hI => wait0_any.mono fun e w2 ⟨b, h1, h2, h3, h4⟩ => ⟨_, h1, ⟨b, Nat.le_trans hI.2.size h2, rfl⟩, hI.add h4 h3 (fun k hk => by cases hk; exact h2)⟩) ?_
  rintro _ ⟨b5, hb5, rfl⟩
  refine SL.norm [(2, pt b1 0), (3, pt b2 0), (4, Value.slice none 0 0), (5, pt b3 0), (6, pt b4 0), (10, pt d 0), (11, Value.func (.func 32) #[] #[pt b5 0])] [rBlk d [pt p 0, Value.slice q1 S.l.length c1, Value.slice q2 S.late.length c2, iw S.nxt, iw S.hv, iw S.last, bo S.gone] 52, rPool p ab S.L, rRowN (.slice q1 S.l.length c1) (pRows S.l) 61 5, rRowN (.slice q2 S.late.length c2) (pRows S.late) 61 5, rBlk b1 [pt d 0] 29, rBlk b2 [iw most] 3, rBlk b3 [Value.slice none 0 0] 22, rBlk b4 [iw 0] 3, rBlk b5 [pt d 0] 29] ⟨rfl, rfl, rfl, rfl, rfl, rfl, rfl, trivial⟩ rfl ?_
  refine SL.nil ?_
  refine SI.of_SE ?_
  refine SI.norm [(2, pt b1 0), (3, pt b2 0), (4, Value.slice none 0 0), (5, pt b3 0), (6, pt b4 0), (11, Value.func (.func 32) #[] #[pt b5 0])] [rBlk d [pt p 0, Value.slice q1 S.l.length c1, Value.slice q2 S.late.length c2, iw S.nxt, iw S.hv, iw S.last, bo S.gone] 52, rPool p ab S.L, rRowN (.slice q1 S.l.length c1) (pRows S.l) 61 5, rRowN (.slice q2 S.late.length c2) (pRows S.late) 61 5, rBlk b1 [pt d 0] 29, rBlk b2 [iw most] 3, rBlk b3 [Value.slice none 0 0] 22, rBlk b4 [iw 0] 3, rBlk b5 [pt d 0] 29] ⟨rfl, rfl, rfl, rfl, rfl, rfl, trivial⟩ rfl ?_
  refine SI.block ?_
  refine SI.norm [(2, pt b1 0), (3, pt b2 0), (4, Value.slice none 0 0), (5, pt b3 0), (6, pt b4 0), (11, Value.func (.func 32) #[] #[pt b5 0])] [rBlk d [pt p 0, Value.slice q1 S.l.length c1, Value.slice q2 S.late.length c2, iw S.nxt, iw S.hv, iw S.last, bo S.gone] 52, rPool p ab S.L, rRowN (.slice q1 S.l.length c1) (pRows S.l) 61 5, rRowN (.slice q2 S.late.length c2) (pRows S.late) 61 5, rBlk b1 [pt d 0] 29, rBlk b2 [iw most] 3, rBlk b3 [Value.slice none 0 0] 22, rBlk b4 [iw 0] 3, rBlk b5 [pt d 0] 29] ⟨rfl, rfl, rfl, rfl, rfl, rfl, trivial⟩ rfl ?_
  refine SI.range (lb := [pt b5 0]) (ζ := Option Addr × Nat) (fun z => [rBlk d [pt p 0, Value.slice q1 S.l.length c1, Value.slice q2 S.late.length c2, iw S.nxt, iw S.hv, iw S.last, bo S.gone] 52, rPool p ab (rdAt most S S.l.length).L, rRowN (.slice q1 S.l.length c1) (pRows (rdRows most S S.l.length)) 61 5, rRowN (.slice q2 S.late.length c2) (pRows S.late) 61 5, rBlk b3 [Value.slice z.1 ((rdAt most S S.l.length).o.length) z.2] 22, rMine (.slice z.1 ((rdAt most S S.l.length).o.length) z.2) ((rdAt most S S.l.length).o) 5, rBlk b4 [iw ((rdAt most S S.l.length).dn : Int)] 3, rBlk b2 [iw most] 3, rBlk b1 [pt d 0] 29]) (fun z j => (j = none ∨ j = some (.exit 0)) ∧ ∀ b, (Value.slice z.1 (rdAt most S S.l.length).o.length z.2).ownBlock = some b → w.heap.size ≤ b) rfl co32 rfl ?_ ?_
  · intro r D Lk w1 hrp hra hrb hrs hrj hT hD hL hI
    have hI1 := hI.nilMine 5
    have hI2 := hI1.reo [8, 10, 0, 2, 1, 3, 6, 11, 7, 5, 4, 9] (by decide)
    have hI3 := Inv.pack (l1 := [rBlk b5 [pt d 0] 29, rLoop Lk r, rBlk d [pt p 0, Value.slice q1 S.l.length c1, Value.slice q2 S.late.length c2, iw S.nxt, iw S.hv, iw S.last, bo S.gone] 52, rRowN (.slice q1 S.l.length c1) (pRows (rdRows most S 0)) 61 5, rPool p ab (rdAt most S 0).L]) (ls := [rRowN (.slice q2 S.late.length c2) (pRows S.late) 61 5, rBlk b3 [Value.slice none ((rdAt most S 0).o.length) 0] 22, rMine (.slice none ((rdAt most S 0).o.length) 0) ((rdAt most S 0).o) 5, rBlk b4 [iw ((rdAt most S 0).dn : Int)] 3, rBlk b2 [iw most] 3, rBlk b1 [pt d 0] 29, rDef D]) hI2
    refine (wait_any (γ := Option Addr × Nat) (S := fun b => (b = d ∨ b = p ∨ b = ab ∨ (Value.slice q1 S.l.length c1).ownBlock = some b) ∨ w.heap.size ≤ b) (rdRows most S) (fun k => (rdAt most S k).L) (fun k g => [rRowN (.slice q2 S.late.length c2) (pRows S.late) 61 5, rBlk b3 [Value.slice g.1 ((rdAt most S k).o.length) g.2] 22, rMine (.slice g.1 ((rdAt most S k).o.length) g.2) ((rdAt most S k).o) 5, rBlk b4 [iw ((rdAt most S k).dn : Int)] 3, rBlk b2 [iw most] 3, rBlk b1 [pt d 0] 29, rDef D]) (fun k b g => (b = false → ∃ x, S.l[k]? = some x ∧ rdN most (rdAt most S k).o x ≤ 0) ∧ ∀ b, (Value.slice g.1 (rdAt most S k).o.length g.2).ownBlock = some b → w.heap.size ≤ b) (none, 0) (by omega) (by rw [hrp]; rfl) (rows_len most S) (fun k x hk hx => ?_) hI3.1 ⟨(fun h => by cases h), (fun b hb => by simp [Value.ownBlock] at hb)⟩ ?_).mono ?_
    · have := hok k x (by rw [← rows_at (most := most) hk]; exact hx)
      have h1 := this.skip; have h2 := this.fit
      have h3 := hpos x (List.mem_of_getElem? ((rows_at (most := most) hk).symm.trans hx)); exact ⟨h1, by omega⟩
    · intro k g x qy cy W hk hx hg hc8 hW
      obtain ⟨qz, cz⟩ := g
      obtain ⟨_, hg⟩ := hg
      have hWw : w.heap.size ≤ W.heap.size := Nat.le_trans hI.2.size hW.2.size
      have hxl : S.l[k]? = some x := by rw [← rows_at (most := most) hk]; exact hx
      have hw1 := (hok k x hxl).skip; have hw2 := (hok k x hxl).fit; have hw3 := (hok k x hxl).out; have hw4 := (hok k x hxl).wr; have hps := hpos x (List.mem_of_getElem? hxl)
      have hD8 := (see_len (rdAt most S k).L x.buf (show PoolAt W p ab (rdAt most S k).L from hW.1.get (i := 4) rfl)).2
      have hdn := rd_dn most S k
      have hN1 : rdN most (rdAt most S k).o x ≤ x.size := by unfold rdN; omega
      have hW2 := hW.reo [0, 1, 2, 3, 4, 6, 5] (by decide)
      have hW3 := Inv.unpack (l1 := [_, _, _, _, _, _]) hW2
      refine round_si2 (m := [(6, pt b4 0), (5, pt b3 0), (3, pt b2 0), (2, pt b1 0)]) (l0 := [rBlk b5 [pt d 0] 29, rLoop Lk r, rBlk d [pt p 0, Value.slice q1 S.l.length c1, Value.slice q2 S.late.length c2, iw S.nxt, iw S.hv, iw S.last, bo S.gone] 52, rRowN (.slice q1 S.l.length c1) (pRows (rdRows most S k)) 61 5, rPool p ab (rdAt most S k).L, rMine (.slice qy (seeF (rdAt most S k).L x.buf).1.data.length cy) (seeF (rdAt most S k).L x.buf).1.data 5, rRowN (.slice q2 S.late.length c2) (pRows S.late) 61 5, rBlk b3 [Value.slice qz ((rdAt most S k).o.length) cz] 22, rMine (.slice qz ((rdAt most S k).o.length) cz) ((rdAt most S k).o) 5, rBlk b4 [iw ((rdAt most S k).dn : Int)] 3, rBlk b2 [iw most] 3, rBlk b1 [pt d 0] 29, rDef D]) (v1 := pt (rowB q1) (k * 5)) (v2 := cutV qy (seeF (rdAt most S k).L x.buf).1.data.length cy x.skip.toNat) (fun b => (b = d ∨ b = p ∨ b = ab ∨ (Value.slice q1 S.l.length c1).ownBlock = some b) ∨ w.heap.size ≤ b) 99 hrp hra hrb (Fr.sub (m' := [(6, pt b4 0), (5, pt b3 0), (3, pt b2 0), (2, pt b1 0)]) hT ⟨rfl, rfl, rfl, rfl, trivial⟩) (by decide) (by decide) hW3.1 ?_
      refine SI.seq ?_
      refine SI.of_SG (by exact fun _ _ h => h) (by kernel_rfl) (SG.region ?_)
      refine SL.ru rfl rfl (lt_b rfl) (ru_assign rfl rfl) ?_
      refine SL.nil ?_
      refine SI.of_SE ?_
      refine SI.norm [(2, pt b1 0), (3, pt b2 0), (5, pt b3 0), (6, pt b4 0), (7, Value.pointer (some ⟨rowB q1, k * 5, none⟩)), (13, cutV qy (seeF (rdAt most S k).L x.buf).1.data.length cy x.skip.toNat)] [rBlk b5 [pt d 0] 29, rLoop Lk r, rBlk d [pt p 0, Value.slice q1 S.l.length c1, Value.slice q2 S.late.length c2, iw S.nxt, iw S.hv, iw S.last, bo S.gone] 52, rRowN (.slice q1 S.l.length c1) (pRows (rdRows most S k)) 61 5, rPool p ab (rdAt most S k).L, rMine (.slice qy (seeF (rdAt most S k).L x.buf).1.data.length cy) (seeF (rdAt most S k).L x.buf).1.data 5, rRowN (.slice q2 S.late.length c2) (pRows S.late) 61 5, rBlk b3 [Value.slice qz ((rdAt most S k).o.length) cz] 22, rMine (.slice qz ((rdAt most S k).o.length) cz) ((rdAt most S k).o) 5, rBlk b4 [iw ((rdAt most S k).dn : Int)] 3, rBlk b2 [iw most] 3, rBlk b1 [pt d 0] 29, rDef D] ⟨rfl, rfl, rfl, rfl, rfl, rfl, trivial⟩ rfl ?_
      refine SI.of_SG (by exact fun _ _ h => h) (by kernel_rfl) (SG.region ?_)
      refine SL.ru rfl rfl (lt_b rfl) (ru_assign rfl rfl) ?_
      refine SL.nil ?_
      refine SF.begin (j := 1) rfl rfl hrs (.inl (.inr hL)) ?_
      refine SI.block ?_
      refine SI.seq ?_
      refine SI.of_SG (by exact fun _ _ h => h) (by kernel_rfl) (SG.region_quiet (by kernel_rfl) (by kernel_rfl) ?_)
      refine SQ.ru rfl rfl (lt_b rfl) (ru_load (i := 10) ts3 rfl rfl rfl rfl) ?_
      refine SQ.ru rfl rfl (lt_b rfl) (ru_load (i := 7) ts22 rfl rfl rfl rfl) ?_
      refine SQ.ru rfl rfl (lt_b rfl) (ru_len Try.underlying22 rfl rfl) ?_
      refine SQ.ru rfl rfl (lt_b rfl) (ru_sub (r := (most - ((rdAt most S k).o.length : Int))) rfl rfl rfl hw4) ?_
      refine SQ.ru rfl rfl (lt_b rfl) (ru_move rfl rfl) ?_
      refine SQ.ru rfl rfl (lt_b rfl) (ru_nilCheck rfl rfl) ?_
      refine SQ.ru rfl rfl (lt_b rfl) (ru_fieldAddr (o2 := k * 5 + 3) fd61_3 rfl rfl rfl) ?_
      refine SQ.ru rfl rfl (lt_b rfl) (ru_load_rowN (ri := 3) (i := k) (k := 3) (r := [iw x.off, iw x.buf, iw x.skip, iw x.size, bo x.fin]) ts3 rfl rfl rfl (by show ((rdRows most S k).map Pc.row)[k]? = _; rw [List.getElem?_map, hx]; rfl) (by decide) rfl) ?_
      refine SQ.ru rfl rfl (lt_b rfl) (ru_min (r := rdN most (rdAt most S k).o x) rfl rfl rfl rfl) ?_
      refine SQ.ru rfl rfl (lt_b rfl) (ru_assign rfl rfl) ?_
      refine SQ.nilE ?_
      refine SI.of_SE ?_
      refine SI.norm [(2, pt b1 0), (5, pt b3 0), (6, pt b4 0), (7, Value.pointer (some ⟨rowB q1, k * 5, none⟩)), (8, cutV qy (seeF (rdAt most S k).L x.buf).1.data.length cy x.skip.toNat), (9, iw (rdN most (rdAt most S k).o x))] [rBlk b5 [pt d 0] 29, rLoop Lk { r with state := .busy }, rBlk d [pt p 0, Value.slice q1 S.l.length c1, Value.slice q2 S.late.length c2, iw S.nxt, iw S.hv, iw S.last, bo S.gone] 52, rRowN (.slice q1 S.l.length c1) (pRows (rdRows most S k)) 61 5, rPool p ab (rdAt most S k).L, rMine (.slice qy (seeF (rdAt most S k).L x.buf).1.data.length cy) (seeF (rdAt most S k).L x.buf).1.data 5, rRowN (.slice q2 S.late.length c2) (pRows S.late) 61 5, rBlk b3 [Value.slice qz ((rdAt most S k).o.length) cz] 22, rMine (.slice qz ((rdAt most S k).o.length) cz) ((rdAt most S k).o) 5, rBlk b4 [iw ((rdAt most S k).dn : Int)] 3, rBlk b2 [iw most] 3, rBlk b1 [pt d 0] 29, rDef D] ⟨rfl, rfl, rfl, rfl, rfl, rfl, trivial⟩ rfl ?_
      refine SI.seq ?_
      refine SI.seq ?_
      refine SI.of_SG (by exact fun _ _ h => h) (by kernel_rfl) (SG.region ?_)
      refine SL.ru rfl rfl (lt_b rfl) (ru_move rfl rfl) ?_
      refine SL.ru rfl rfl (lt_b rfl) (ru_le (b := (decide (((rdN most (rdAt most S k).o x) : Int) ≤ 0))) rfl rfl rfl rfl) ?_
      refine SL.nil ?_
      refine SI.of_SE ?_
      refine SI.norm [(2, pt b1 0), (5, pt b3 0), (6, pt b4 0), (7, Value.pointer (some ⟨rowB q1, k * 5, none⟩)), (8, cutV qy (seeF (rdAt most S k).L x.buf).1.data.length cy x.skip.toNat), (9, iw (rdN most (rdAt most S k).o x)), (24, bo (decide (((rdN most (rdAt most S k).o x) : Int) ≤ 0)))] [rBlk b5 [pt d 0] 29, rLoop Lk { r with state := .busy }, rBlk d [pt p 0, Value.slice q1 S.l.length c1, Value.slice q2 S.late.length c2, iw S.nxt, iw S.hv, iw S.last, bo S.gone] 52, rRowN (.slice q1 S.l.length c1) (pRows (rdRows most S k)) 61 5, rPool p ab (rdAt most S k).L, rMine (.slice qy (seeF (rdAt most S k).L x.buf).1.data.length cy) (seeF (rdAt most S k).L x.buf).1.data 5, rRowN (.slice q2 S.late.length c2) (pRows S.late) 61 5, rBlk b3 [Value.slice qz ((rdAt most S k).o.length) cz] 22, rMine (.slice qz ((rdAt most S k).o.length) cz) ((rdAt most S k).o) 5, rBlk b4 [iw ((rdAt most S k).dn : Int)] 3, rBlk b2 [iw most] 3, rBlk b1 [pt d 0] 29, rDef D] ⟨rfl, rfl, rfl, rfl, rfl, rfl, rfl, trivial⟩ rfl ?_
      refine SI.both (decide (((rdN most (rdAt most S k).o x) : Int) ≤ 0)) rfl (fun h6 => ?_) (fun h6 => ?_)
      · skip
        refine SI.exit ?_
        refine SF.passe ?_
        refine SF.blko (by decide) ?_
        refine SF.rexit (j := 1) rfl (.inl (.inr hL)) fun w2 hI9 => ?_
        refine ⟨((qz, cz), false), rfl, ?_, (fun _ => ⟨x, hxl, of_decide_eq_true h6⟩), hg⟩
        exact (hW.up (hI9.reo [0, 1, 2, 3, 4, 6, 7, 8, 9, 10, 11, 12] (by decide)) (fun b hb => .inl hb)).pack (l1 := [_, _, _, _, _])
      · skip
        have hnp := of_decide_eq_false h6
        refine SI.skip ?_
        refine SI.of_SE ?_
        refine SI.norm [(2, pt b1 0), (5, pt b3 0), (6, pt b4 0), (7, Value.pointer (some ⟨rowB q1, k * 5, none⟩)), (8, cutV qy (seeF (rdAt most S k).L x.buf).1.data.length cy x.skip.toNat), (9, iw (rdN most (rdAt most S k).o x))] [rBlk b5 [pt d 0] 29, rLoop Lk { r with state := .busy }, rBlk d [pt p 0, Value.slice q1 S.l.length c1, Value.slice q2 S.late.length c2, iw S.nxt, iw S.hv, iw S.last, bo S.gone] 52, rRowN (.slice q1 S.l.length c1) (pRows (rdRows most S k)) 61 5, rPool p ab (rdAt most S k).L, rMine (.slice qy (seeF (rdAt most S k).L x.buf).1.data.length cy) (seeF (rdAt most S k).L x.buf).1.data 5, rRowN (.slice q2 S.late.length c2) (pRows S.late) 61 5, rBlk b3 [Value.slice qz ((rdAt most S k).o.length) cz] 22, rMine (.slice qz ((rdAt most S k).o.length) cz) ((rdAt most S k).o) 5, rBlk b4 [iw ((rdAt most S k).dn : Int)] 3, rBlk b2 [iw most] 3, rBlk b1 [pt d 0] 29, rDef D] ⟨rfl, rfl, rfl, rfl, rfl, rfl, trivial⟩ rfl ?_
        refine SI.seq ?_
        refine SI.of_SG (by exact fun _ _ h => h) (by kernel_rfl) (SG.region_tail 4 (by kernel_rfl) (by kernel_rfl) ?_)
        refine SQ.ru rfl rfl (lt_b rfl) (ru_load (i := 7) ts22 rfl rfl rfl rfl) ?_
        refine SQ.ru rfl rfl (lt_b rfl) (ru_move rfl rfl) ?_
        refine SQ.ru rfl rfl (lt_b rfl) (ru_move rfl rfl) ?_
        refine SQ.ru rfl rfl (lt_b rfl) (ru_sliceV (size := 1) (l0 := 0) (h0 := (rdN most (rdAt most S k).o x).toNat) (m0 := cy - x.skip.toNat) (v := cut2V qy (seeF (rdAt most S k).L x.buf).1.data.length cy x.skip.toNat (rdN most (rdAt most S k).o x).toNat) rfl si22 rfl rfl rfl (show some (iw (rdN most (rdAt most S k).o x)) = some (iw (((rdN most (rdAt most S k).o x).toNat : Nat) : Int)) by rw [Int.toNat_of_nonneg (by omega)]) rfl (by simp) (Nat.le_refl _) (by omega) (by omega)) ?_
        refine SQ.nilL ?_
        refine SL.append_mineB (ri := 8) (h := rdB (rdAt most S k).L x (rdN most (rdAt most S k).o x)) rfl rfl (lt_b rfl) rfl Try.underlying22 (by kernel_rfl) rfl rfl rfl (fun w hI => cut2_bytes (hI.1.get (i := 5) rfl) (by omega) (by omega)) (by have := rdB_len (rdAt most S k).L x (rdN most (rdAt most S k).o x); omega) (fun b hb => .inl (.inr (hg b hb))) fun q7 c8 hq9 => ?_
        refine SL.store (i := 7) (c' := [Value.slice q7 (((rdAt most S k).o ++ rdB (rdAt most S k).L x (rdN most (rdAt most S k).o x)).length) c8]) rfl rfl ts22 rfl rfl rfl rfl rfl (lt_b rfl) (.inl (.inr hb3)) rfl ?_
        refine SL.nil ?_
        refine SI.of_SE ?_
        refine SI.norm [(2, pt b1 0), (6, pt b4 0), (7, Value.pointer (some ⟨rowB q1, k * 5, none⟩)), (9, iw (rdN most (rdAt most S k).o x))] [rBlk b5 [pt d 0] 29, rLoop Lk { r with state := .busy }, rBlk d [pt p 0, Value.slice q1 S.l.length c1, Value.slice q2 S.late.length c2, iw S.nxt, iw S.hv, iw S.last, bo S.gone] 52, rRowN (.slice q1 S.l.length c1) (pRows (rdRows most S k)) 61 5, rPool p ab (rdAt most S k).L, rMine (.slice qy (seeF (rdAt most S k).L x.buf).1.data.length cy) (seeF (rdAt most S k).L x.buf).1.data 5, rRowN (.slice q2 S.late.length c2) (pRows S.late) 61 5, rBlk b3 [Value.slice q7 (((rdAt most S k).o ++ rdB (rdAt most S k).L x (rdN most (rdAt most S k).o x)).length) c8] 22, rMine (.slice q7 (((rdAt most S k).o ++ rdB (rdAt most S k).L x (rdN most (rdAt most S k).o x)).length) c8) ((rdAt most S k).o ++ rdB (rdAt most S k).L x (rdN most (rdAt most S k).o x)) 5, rBlk b4 [iw ((rdAt most S k).dn : Int)] 3, rBlk b2 [iw most] 3, rBlk b1 [pt d 0] 29, rDef D] ⟨rfl, rfl, rfl, rfl, trivial⟩ rfl ?_
        refine SI.seq ?_
        have hxr : (pRows (rdRows most S k))[k]? = some x.row := by show ((rdRows most S k).map Pc.row)[k]? = _; rw [List.getElem?_map, hx]; rfl
        refine SI.norm [(2, pt b1 0), (6, pt b4 0), (7, Value.pointer (some ⟨rowB q1, k * 5, none⟩)), (9, iw (rdN most (rdAt most S k).o x))] [rBlk b5 [pt d 0] 29, rLoop Lk { r with state := .busy }, rBlk d [pt p 0, Value.slice q1 S.l.length c1, Value.slice q2 S.late.length c2, iw S.nxt, iw S.hv, iw S.last, bo S.gone] 52, rRowN (.slice q1 S.l.length c1) ((pRows (rdRows most S k)).set k [iw x.off, iw x.buf, iw x.skip, iw x.size, bo x.fin]) 61 5, rPool p ab (rdAt most S k).L, rMine (.slice qy (seeF (rdAt most S k).L x.buf).1.data.length cy) (seeF (rdAt most S k).L x.buf).1.data 5, rRowN (.slice q2 S.late.length c2) (pRows S.late) 61 5, rBlk b3 [Value.slice q7 (((rdAt most S k).o ++ rdB (rdAt most S k).L x (rdN most (rdAt most S k).o x)).length) c8] 22, rMine (.slice q7 (((rdAt most S k).o ++ rdB (rdAt most S k).L x (rdN most (rdAt most S k).o x)).length) c8) ((rdAt most S k).o ++ rdB (rdAt most S k).L x (rdN most (rdAt most S k).o x)) 5, rBlk b4 [iw ((rdAt most S k).dn : Int)] 3, rBlk b2 [iw most] 3, rBlk b1 [pt d 0] 29, rDef D] ⟨rfl, rfl, rfl, rfl, trivial⟩ (by rw [show (pRows (rdRows most S k)).set k [iw x.off, iw x.buf, iw x.skip, iw x.size, bo x.fin] = pRows (rdRows most S k) from row_self hxr]) ?_
        refine SI.of_SG (by exact fun _ _ h => h) (by kernel_rfl) (SG.region_spW [16, 19] [(5, [16, 19]), (11, [16, 19])] (fun Dx => [rBlk b5 [pt d 0] 29, rLoop Lk { r with state := .busy }, rBlk d [pt p 0, Value.slice q1 S.l.length c1, Value.slice q2 S.late.length c2, iw S.nxt, iw S.hv, iw S.last, bo S.gone] 52, rRowN (.slice q1 S.l.length c1) ((pRows (rdRows most S k)).set k [iw x.off, iw x.buf, if Dx 16 then iw (x.skip + rdN most (rdAt most S k).o x) else iw x.skip, if Dx 19 then iw (x.size - rdN most (rdAt most S k).o x) else iw x.size, bo x.fin]) 61 5, rPool p ab (rdAt most S k).L, rMine (.slice qy (seeF (rdAt most S k).L x.buf).1.data.length cy) (seeF (rdAt most S k).L x.buf).1.data 5, rRowN (.slice q2 S.late.length c2) (pRows S.late) 61 5, rBlk b3 [Value.slice q7 (((rdAt most S k).o ++ rdB (rdAt most S k).L x (rdN most (rdAt most S k).o x)).length) c8] 22, rMine (.slice q7 (((rdAt most S k).o ++ rdB (rdAt most S k).L x (rdN most (rdAt most S k).o x)).length) c8) ((rdAt most S k).o ++ rdB (rdAt most S k).L x (rdN most (rdAt most S k).o x)) 5, rBlk b4 [iw ((rdAt most S k).dn : Int)] 3, rBlk b2 [iw most] 3, rBlk b1 [pt d 0] 29, rDef D]) (by kernel_rfl) (by kernel_rfl) (by kernel_rfl) rfl (by kernel_rfl) rfl ?_)
        refine SSW.ru [] none_inv rfl rfl rfl (lt_b rfl) (ru_move rfl rfl) ?_
        refine SSW.ru [] none_inv rfl rfl rfl (lt_b rfl) (ru_move rfl rfl) ?_
        refine SSW.ru [] none_inv rfl rfl rfl (lt_b rfl) (ru_move rfl rfl) ?_
        refine SSW.ru [] none_inv rfl rfl rfl (lt_b rfl) (ru_nilCheck rfl rfl) ?_
        refine SSW.ru [] none_inv rfl rfl rfl (lt_b rfl) (ru_fieldAddr (o2 := k * 5 + 2) fd61_2 rfl rfl rfl) ?_
        refine SSW.ru [rBlk b5 [pt d 0] 29, rLoop Lk { r with state := .busy }, rBlk d [pt p 0, Value.slice q1 S.l.length c1, Value.slice q2 S.late.length c2, iw S.nxt, iw S.hv, iw S.last, bo S.gone] 52, rRowN (.slice q1 S.l.length c1) ((pRows (rdRows most S k)).set k [iw x.off, iw x.buf, iw x.skip, iw x.size, bo x.fin]) 61 5, rPool p ab (rdAt most S k).L, rMine (.slice qy (seeF (rdAt most S k).L x.buf).1.data.length cy) (seeF (rdAt most S k).L x.buf).1.data 5, rRowN (.slice q2 S.late.length c2) (pRows S.late) 61 5, rBlk b3 [Value.slice q7 (((rdAt most S k).o ++ rdB (rdAt most S k).L x (rdN most (rdAt most S k).o x)).length) c8] 22, rMine (.slice q7 (((rdAt most S k).o ++ rdB (rdAt most S k).L x (rdN most (rdAt most S k).o x)).length) c8) ((rdAt most S k).o ++ rdB (rdAt most S k).L x (rdN most (rdAt most S k).o x)) 5, rBlk b4 [iw ((rdAt most S k).dn : Int)] 3, rBlk b2 [iw most] 3, rBlk b1 [pt d 0] 29, rDef D] (fun D w hC hw => by have h1 := hw 16 (by decide); have h2 := hw 19 (by decide); simp only [h1, h2] at hC; exact hC) rfl rfl rfl (lt_b rfl) (ru_load_rowN (ri := 3) (i := k) (k := 2) (r := [iw x.off, iw x.buf, iw x.skip, iw x.size, bo x.fin]) ts3 rfl rfl rfl (by rw [List.getElem?_set_self (by rw [pr_len, rows_len]; exact hk)]) (by decide) rfl) ?_
        refine SSW.ru [] none_inv rfl rfl rfl (lt_b rfl) (ru_move rfl rfl) ?_
        refine SSW.ru [] none_inv rfl rfl rfl (lt_b rfl) (ru_add (r := (x.skip + rdN most (rdAt most S k).o x)) rfl rfl rfl ((by rw [IntKind.wrap_i64]; omega))) ?_
        refine SSW.ru [] none_inv rfl rfl rfl (lt_b rfl) (ru_move rfl rfl) ?_
        refine SSW.ru [] none_inv rfl rfl rfl (lt_b rfl) (ru_nilCheck rfl rfl) ?_
        refine SSW.ru [] none_inv rfl rfl rfl (lt_b rfl) (ru_fieldAddr (o2 := k * 5 + 3) fd61_3 rfl rfl rfl) ?_
        refine SSW.ru [rBlk b5 [pt d 0] 29, rLoop Lk { r with state := .busy }, rBlk d [pt p 0, Value.slice q1 S.l.length c1, Value.slice q2 S.late.length c2, iw S.nxt, iw S.hv, iw S.last, bo S.gone] 52, rRowN (.slice q1 S.l.length c1) ((pRows (rdRows most S k)).set k [iw x.off, iw x.buf, iw x.skip, iw x.size, bo x.fin]) 61 5, rPool p ab (rdAt most S k).L, rMine (.slice qy (seeF (rdAt most S k).L x.buf).1.data.length cy) (seeF (rdAt most S k).L x.buf).1.data 5, rRowN (.slice q2 S.late.length c2) (pRows S.late) 61 5, rBlk b3 [Value.slice q7 (((rdAt most S k).o ++ rdB (rdAt most S k).L x (rdN most (rdAt most S k).o x)).length) c8] 22, rMine (.slice q7 (((rdAt most S k).o ++ rdB (rdAt most S k).L x (rdN most (rdAt most S k).o x)).length) c8) ((rdAt most S k).o ++ rdB (rdAt most S k).L x (rdN most (rdAt most S k).o x)) 5, rBlk b4 [iw ((rdAt most S k).dn : Int)] 3, rBlk b2 [iw most] 3, rBlk b1 [pt d 0] 29, rDef D] (fun D w hC hw => by have h1 := hw 16 (by decide); have h2 := hw 19 (by decide); simp only [h1, h2] at hC; exact hC) rfl rfl rfl (lt_b rfl) (ru_load_rowN (ri := 3) (i := k) (k := 3) (r := [iw x.off, iw x.buf, iw x.skip, iw x.size, bo x.fin]) ts3 rfl rfl rfl (by rw [List.getElem?_set_self (by rw [pr_len, rows_len]; exact hk)]) (by decide) rfl) ?_
        refine SSW.ru [] none_inv rfl rfl rfl (lt_b rfl) (ru_move rfl rfl) ?_
        refine SSW.ru [] none_inv rfl rfl rfl (lt_b rfl) (ru_sub (r := (x.size - rdN most (rdAt most S k).o x)) rfl rfl rfl ((by rw [IntKind.wrap_i64]; omega))) ?_
        refine SSW.ru [] none_inv rfl rfl rfl (lt_b rfl) (ru_nilCheck rfl rfl) ?_
        refine SSW.ru [] none_inv rfl rfl rfl (lt_b rfl) (ru_fieldAddr (o2 := k * 5 + 2) fd61_2 rfl rfl rfl) ?_
        refine SSW.store_rowN (i := 3) (j := k) (k' := 2) (fun Dx => (pRows (rdRows most S k)).set k [iw x.off, iw x.buf, if Dx 16 then iw (x.skip + rdN most (rdAt most S k).o x) else iw x.skip, if Dx 19 then iw (x.size - rdN most (rdAt most S k).o x) else iw x.size, bo x.fin]) (fun Dx => [iw x.off, iw x.buf, if Dx 16 then iw (x.skip + rdN most (rdAt most S k).o x) else iw x.skip, if Dx 19 then iw (x.size - rdN most (rdAt most S k).o x) else iw x.size, bo x.fin]) rfl rfl rfl ts3 rfl rfl rfl rfl (fun D hD => rfl) (fun D hD => List.getElem?_set_self (by rw [pr_len, rows_len]; exact hk)) (by decide) (fun b hb => .inl (.inl (.inr (.inr (.inr hb))))) (fun D hD => by simp only [List.set_set]; simp [hD]) ?_
        refine SSW.ru [] none_inv rfl rfl rfl (lt_b rfl) (ru_nilCheck rfl rfl) ?_
        refine SSW.ru [] none_inv rfl rfl rfl (lt_b rfl) (ru_fieldAddr (o2 := k * 5 + 3) fd61_3 rfl rfl rfl) ?_
        refine SSW.store_rowN (i := 3) (j := k) (k' := 3) (fun Dx => (pRows (rdRows most S k)).set k [iw x.off, iw x.buf, if Dx 16 then iw (x.skip + rdN most (rdAt most S k).o x) else iw x.skip, if Dx 19 then iw (x.size - rdN most (rdAt most S k).o x) else iw x.size, bo x.fin]) (fun Dx => [iw x.off, iw x.buf, if Dx 16 then iw (x.skip + rdN most (rdAt most S k).o x) else iw x.skip, if Dx 19 then iw (x.size - rdN most (rdAt most S k).o x) else iw x.size, bo x.fin]) rfl rfl rfl ts3 rfl rfl rfl rfl (fun D hD => rfl) (fun D hD => List.getElem?_set_self (by rw [pr_len, rows_len]; exact hk)) (by decide) (fun b hb => .inl (.inl (.inr (.inr (.inr hb))))) (fun D hD => by simp only [List.set_set]; simp [hD]) ?_
        refine SSW.nilD (l' := [rBlk b5 [pt d 0] 29, rLoop Lk { r with state := .busy }, rBlk d [pt p 0, Value.slice q1 S.l.length c1, Value.slice q2 S.late.length c2, iw S.nxt, iw S.hv, iw S.last, bo S.gone] 52, rRowN (.slice q1 S.l.length c1) ((pRows (rdRows most S k)).set k [iw x.off, iw x.buf, iw (x.skip + rdN most (rdAt most S k).o x), iw (x.size - rdN most (rdAt most S k).o x), bo x.fin]) 61 5, rPool p ab (rdAt most S k).L, rMine (.slice qy (seeF (rdAt most S k).L x.buf).1.data.length cy) (seeF (rdAt most S k).L x.buf).1.data 5, rRowN (.slice q2 S.late.length c2) (pRows S.late) 61 5, rBlk b3 [Value.slice q7 (((rdAt most S k).o ++ rdB (rdAt most S k).L x (rdN most (rdAt most S k).o x)).length) c8] 22, rMine (.slice q7 (((rdAt most S k).o ++ rdB (rdAt most S k).L x (rdN most (rdAt most S k).o x)).length) c8) ((rdAt most S k).o ++ rdB (rdAt most S k).L x (rdN most (rdAt most S k).o x)) 5, rBlk b4 [iw ((rdAt most S k).dn : Int)] 3, rBlk b2 [iw most] 3, rBlk b1 [pt d 0] 29, rDef D]) (fun D hD => by simp only [hD 16 (by simp), if_true, hD 19 (by simp), if_true]) ?_
        refine SI.of_SE ?_
        refine SI.norm [(2, pt b1 0), (6, pt b4 0), (7, Value.pointer (some ⟨rowB q1, k * 5, none⟩))] [rBlk b5 [pt d 0] 29, rLoop Lk { r with state := .busy }, rBlk d [pt p 0, Value.slice q1 S.l.length c1, Value.slice q2 S.late.length c2, iw S.nxt, iw S.hv, iw S.last, bo S.gone] 52, rRowN (.slice q1 S.l.length c1) ((pRows (rdRows most S k)).set k [iw x.off, iw x.buf, iw (x.skip + rdN most (rdAt most S k).o x), iw (x.size - rdN most (rdAt most S k).o x), bo x.fin]) 61 5, rPool p ab (rdAt most S k).L, rMine (.slice qy (seeF (rdAt most S k).L x.buf).1.data.length cy) (seeF (rdAt most S k).L x.buf).1.data 5, rRowN (.slice q2 S.late.length c2) (pRows S.late) 61 5, rBlk b3 [Value.slice q7 (((rdAt most S k).o ++ rdB (rdAt most S k).L x (rdN most (rdAt most S k).o x)).length) c8] 22, rMine (.slice q7 (((rdAt most S k).o ++ rdB (rdAt most S k).L x (rdN most (rdAt most S k).o x)).length) c8) ((rdAt most S k).o ++ rdB (rdAt most S k).L x (rdN most (rdAt most S k).o x)) 5, rBlk b4 [iw ((rdAt most S k).dn : Int)] 3, rBlk b2 [iw most] 3, rBlk b1 [pt d 0] 29, rDef D] ⟨rfl, rfl, rfl, trivial⟩ rfl ?_
        refine SI.seq ?_
        refine SI.of_SG (by exact fun _ _ h => h) (by kernel_rfl) (SG.region ?_)
        refine SL.ru rfl rfl (lt_b rfl) (ru_move rfl rfl) ?_
        refine SL.ru rfl rfl (lt_b rfl) (ru_nilCheck rfl rfl) ?_
        refine SL.ru rfl rfl (lt_b rfl) (ru_fieldAddr (o2 := k * 5 + 3) fd61_3 rfl rfl rfl) ?_
        refine SL.ru rfl rfl (lt_b rfl) (ru_load_rowN (ri := 3) (i := k) (k := 3) (r := [iw x.off, iw x.buf, iw (x.skip + rdN most (rdAt most S k).o x), iw (x.size - rdN most (rdAt most S k).o x), bo x.fin]) ts3 rfl rfl rfl (by rw [List.getElem?_set_self (by rw [pr_len, rows_len]; exact hk)]) (by decide) rfl) ?_
        refine SL.ru rfl rfl (lt_b rfl) (ru_eq (b := (((x.size - rdN most (rdAt most S k).o x) : Int) == 0)) rfl rfl rfl rfl) ?_
        refine SL.nil ?_
        refine SI.of_SE ?_
        refine SI.norm [(2, pt b1 0), (6, pt b4 0), (7, Value.pointer (some ⟨rowB q1, k * 5, none⟩)), (52, bo (((x.size - rdN most (rdAt most S k).o x) : Int) == 0))] [rBlk b5 [pt d 0] 29, rLoop Lk { r with state := .busy }, rBlk d [pt p 0, Value.slice q1 S.l.length c1, Value.slice q2 S.late.length c2, iw S.nxt, iw S.hv, iw S.last, bo S.gone] 52, rRowN (.slice q1 S.l.length c1) ((pRows (rdRows most S k)).set k [iw x.off, iw x.buf, iw (x.skip + rdN most (rdAt most S k).o x), iw (x.size - rdN most (rdAt most S k).o x), bo x.fin]) 61 5, rPool p ab (rdAt most S k).L, rMine (.slice qy (seeF (rdAt most S k).L x.buf).1.data.length cy) (seeF (rdAt most S k).L x.buf).1.data 5, rRowN (.slice q2 S.late.length c2) (pRows S.late) 61 5, rBlk b3 [Value.slice q7 (((rdAt most S k).o ++ rdB (rdAt most S k).L x (rdN most (rdAt most S k).o x)).length) c8] 22, rMine (.slice q7 (((rdAt most S k).o ++ rdB (rdAt most S k).L x (rdN most (rdAt most S k).o x)).length) c8) ((rdAt most S k).o ++ rdB (rdAt most S k).L x (rdN most (rdAt most S k).o x)) 5, rBlk b4 [iw ((rdAt most S k).dn : Int)] 3, rBlk b2 [iw most] 3, rBlk b1 [pt d 0] 29, rDef D] ⟨rfl, rfl, rfl, rfl, trivial⟩ rfl ?_
        refine SI.both (((x.size - rdN most (rdAt most S k).o x) : Int) == 0) rfl (fun h10 => ?_) (fun h10 => ?_)
        · skip
          refine SI.seq ?_
          refine SI.of_SG (by exact fun _ _ h => h) (by kernel_rfl) (SG.region_tail 8 (by kernel_rfl) (by kernel_rfl) ?_)
          refine SQ.ru rfl rfl (lt_b rfl) (ru_load (i := 11) ts29 rfl rfl rfl rfl) ?_
          refine SQ.ru rfl rfl (lt_b rfl) (ru_nilCheck rfl rfl) ?_
          refine SQ.ru rfl rfl (lt_b rfl) (ru_fieldAddr (o2 := 0) fd52_0 rfl rfl rfl) ?_
          refine SQ.ru rfl rfl (lt_b rfl) (ru_load (i := 2) ts25 rfl rfl rfl rfl) ?_
          refine SQ.ru rfl rfl (lt_b rfl) (ru_move rfl rfl) ?_
          refine SQ.ru rfl rfl (lt_b rfl) (ru_nilCheck rfl rfl) ?_
          refine SQ.ru rfl rfl (lt_b rfl) (ru_fieldAddr (o2 := k * 5 + 1) fd61_1 rfl rfl rfl) ?_
          refine SQ.ru rfl rfl (lt_b rfl) (ru_load_rowN (ri := 3) (i := k) (k := 1) (r := [iw x.off, iw x.buf, iw (x.skip + rdN most (rdAt most S k).o x), iw (x.size - rdN most (rdAt most S k).o x), bo x.fin]) ts3 rfl rfl rfl (by rw [List.getElem?_set_self (by rw [pr_len, rows_len]; exact hk)]) (by decide) rfl) ?_
          refine SQ.nilL ?_
          refine SL.call (ζ := Unit) (fun _z => iw ((freeF ((rdAt most S k).L) x.buf).1)) (fun _z => [rBlk b5 [pt d 0] 29, rLoop Lk { r with state := .busy }, rBlk d [pt p 0, Value.slice q1 S.l.length c1, Value.slice q2 S.late.length c2, iw S.nxt, iw S.hv, iw S.last, bo S.gone] 52, rRowN (.slice q1 S.l.length c1) ((pRows (rdRows most S k)).set k [iw x.off, iw x.buf, iw (x.skip + rdN most (rdAt most S k).o x), iw (x.size - rdN most (rdAt most S k).o x), bo x.fin]) 61 5, rPool p ab ((freeF ((rdAt most S k).L) x.buf).2), rMine (.slice qy (seeF (rdAt most S k).L x.buf).1.data.length cy) (seeF (rdAt most S k).L x.buf).1.data 5, rRowN (.slice q2 S.late.length c2) (pRows S.late) 61 5, rBlk b3 [Value.slice q7 (((rdAt most S k).o ++ rdB (rdAt most S k).L x (rdN most (rdAt most S k).o x)).length) c8] 22, rMine (.slice q7 (((rdAt most S k).o ++ rdB (rdAt most S k).L x (rdN most (rdAt most S k).o x)).length) c8) ((rdAt most S k).o ++ rdB (rdAt most S k).L x (rdN most (rdAt most S k).o x)) 5, rBlk b4 [iw ((rdAt most S k).dn : Int)] 3, rBlk b2 [iw most] 3, rBlk b1 [pt d 0] 29, rDef D]) (fun _z => True) rfl rfl co21 rfl rfl rfl (lt_b rfl) (fun w hI => (free_any (pool_at hI (i := 4) rfl) x.buf (hl.rd most k).few).mono fun e w2 ⟨h1, h2⟩ => ⟨(), h1, hI.poolTo (i := 4) rfl (fun b hb => .inl (.inl (.inr (hb.elim .inl (fun h => .inr (.inl h)))))) h2, trivial⟩) ?_
          rintro ⟨⟩ _
          refine SL.nil ?_
          refine SI.of_SE ?_
          refine SI.norm [(6, pt b4 0)] [rBlk b5 [pt d 0] 29, rLoop Lk { r with state := .busy }, rBlk d [pt p 0, Value.slice q1 S.l.length c1, Value.slice q2 S.late.length c2, iw S.nxt, iw S.hv, iw S.last, bo S.gone] 52, rRowN (.slice q1 S.l.length c1) ((pRows (rdRows most S k)).set k [iw x.off, iw x.buf, iw (x.skip + rdN most (rdAt most S k).o x), iw (x.size - rdN most (rdAt most S k).o x), bo x.fin]) 61 5, rPool p ab ((freeF ((rdAt most S k).L) x.buf).2), rMine (.slice qy (seeF (rdAt most S k).L x.buf).1.data.length cy) (seeF (rdAt most S k).L x.buf).1.data 5, rRowN (.slice q2 S.late.length c2) (pRows S.late) 61 5, rBlk b3 [Value.slice q7 (((rdAt most S k).o ++ rdB (rdAt most S k).L x (rdN most (rdAt most S k).o x)).length) c8] 22, rMine (.slice q7 (((rdAt most S k).o ++ rdB (rdAt most S k).L x (rdN most (rdAt most S k).o x)).length) c8) ((rdAt most S k).o ++ rdB (rdAt most S k).L x (rdN most (rdAt most S k).o x)) 5, rBlk b4 [iw ((rdAt most S k).dn : Int)] 3, rBlk b2 [iw most] 3, rBlk b1 [pt d 0] 29, rDef D] ⟨rfl, trivial⟩ rfl ?_
          refine SI.of_SG (by exact fun _ _ h => h) (by kernel_rfl) (SG.region ?_)
          refine SL.ru rfl rfl (lt_b rfl) (ru_load (i := 9) ts3 rfl rfl rfl rfl) ?_
          refine SL.ru rfl rfl (lt_b rfl) (ru_add (r := (((rdAt most S k).dn + 1 : Nat) : Int)) rfl rfl rfl ((by rw [IntKind.wrap_i64]; omega))) ?_
          refine SL.store (i := 9) (c' := [iw (((rdAt most S k).dn + 1 : Nat) : Int)]) rfl rfl ts3 rfl rfl rfl rfl rfl (lt_b rfl) (.inl (.inr hb4)) rfl ?_
          refine SL.nil ?_
          refine SF.blkn ?_
          refine SF.rend (j := 1) rfl (.inl (.inr hL)) fun w2 hI9 => ?_
          rw [show ({ ({ r with state := .busy } : Loop) with state := .ready, pending := none } : Loop) = r from loop_eta hrs hrj] at hI9
          obtain ⟨e1, e2, e3, e4⟩ := rd_full hxl (by have := of_decide_eq_false h6; omega) h10
          refine ⟨((q7, c8), true), rfl, ?_, (fun h => by cases h), by show ∀ b, (Value.slice q7 (rdAt most S (k + 1)).o.length c8).ownBlock = some b → _; rw [e2]; exact fun b hb => (hq9 b hb).elim (hg b) (fun h => Nat.le_trans hWw h)⟩
          show Inv _ w2 (waitR b5 Lk d p ab S.l.length c1 q1 (.slice q2 S.late.length c2) S.nxt S.hv S.last S.gone (rdRows most S (k + 1)) (rdAt most S (k + 1)).L [rRowN (.slice q2 S.late.length c2) (pRows S.late) 61 5, rBlk b3 [Value.slice q7 ((rdAt most S (k + 1)).o.length) c8] 22, rMine (.slice q7 ((rdAt most S (k + 1)).o.length) c8) ((rdAt most S (k + 1)).o) 5, rBlk b4 [iw ((rdAt most S (k + 1)).dn : Int)] 3, rBlk b2 [iw most] 3, rBlk b1 [pt d 0] 29, rDef D] r)
          unfold waitR; rw [e1, e2, e3, e4]
          exact (hW.up (hI9.reo [0, 1, 2, 3, 4, 6, 7, 8, 9, 10, 11, 12] (by decide)) (fun b hb => .inl hb)).pack (l1 := [_, _, _, _, _])
        · skip
          refine SI.seq ?_
          refine SI.of_SG (by exact fun _ _ h => h) (by kernel_rfl) (SG.region_tail 12 (by kernel_rfl) (by kernel_rfl) ?_)
          refine SQ.ru rfl rfl (lt_b rfl) (ru_load (i := 11) ts29 rfl rfl rfl rfl) ?_
          refine SQ.ru rfl rfl (lt_b rfl) (ru_nilCheck rfl rfl) ?_
          refine SQ.ru rfl rfl (lt_b rfl) (ru_fieldAddr (o2 := 0) fd52_0 rfl rfl rfl) ?_
          refine SQ.ru rfl rfl (lt_b rfl) (ru_load (i := 2) ts25 rfl rfl rfl rfl) ?_
          refine SQ.ru rfl rfl (lt_b rfl) (ru_move rfl rfl) ?_
          refine SQ.ru rfl rfl (lt_b rfl) (ru_nilCheck rfl rfl) ?_
          refine SQ.ru rfl rfl (lt_b rfl) (ru_fieldAddr (o2 := k * 5 + 1) fd61_1 rfl rfl rfl) ?_
          refine SQ.ru rfl rfl (lt_b rfl) (ru_load_rowN (ri := 3) (i := k) (k := 1) (r := [iw x.off, iw x.buf, iw (x.skip + rdN most (rdAt most S k).o x), iw (x.size - rdN most (rdAt most S k).o x), bo x.fin]) ts3 rfl rfl rfl (by rw [List.getElem?_set_self (by rw [pr_len, rows_len]; exact hk)]) (by decide) rfl) ?_
          refine SQ.ru rfl rfl (lt_b rfl) (ru_move rfl rfl) ?_
          refine SQ.ru rfl rfl (lt_b rfl) (ru_nilCheck rfl rfl) ?_
          refine SQ.ru rfl rfl (lt_b rfl) (ru_fieldAddr (o2 := k * 5 + 2) fd61_2 rfl rfl rfl) ?_
          refine SQ.ru rfl rfl (lt_b rfl) (ru_load_rowN (ri := 3) (i := k) (k := 2) (r := [iw x.off, iw x.buf, iw (x.skip + rdN most (rdAt most S k).o x), iw (x.size - rdN most (rdAt most S k).o x), bo x.fin]) ts3 rfl rfl rfl (by rw [List.getElem?_set_self (by rw [pr_len, rows_len]; exact hk)]) (by decide) rfl) ?_
          refine SQ.nilL ?_
          refine SL.call (ζ := Unit) (fun _z => iw ((ownF ((rdAt most S k).L) x.buf (trimF (x.skip + rdN most (rdAt most S k).o x) 0)).1)) (fun _z => [rBlk b5 [pt d 0] 29, rLoop Lk { r with state := .busy }, rBlk d [pt p 0, Value.slice q1 S.l.length c1, Value.slice q2 S.late.length c2, iw S.nxt, iw S.hv, iw S.last, bo S.gone] 52, rRowN (.slice q1 S.l.length c1) ((pRows (rdRows most S k)).set k [iw x.off, iw x.buf, iw (x.skip + rdN most (rdAt most S k).o x), iw (x.size - rdN most (rdAt most S k).o x), bo x.fin]) 61 5, rPool p ab ((ownF ((rdAt most S k).L) x.buf (trimF (x.skip + rdN most (rdAt most S k).o x) 0)).2), rMine (.slice qy (seeF (rdAt most S k).L x.buf).1.data.length cy) (seeF (rdAt most S k).L x.buf).1.data 5, rRowN (.slice q2 S.late.length c2) (pRows S.late) 61 5, rBlk b3 [Value.slice q7 (((rdAt most S k).o ++ rdB (rdAt most S k).L x (rdN most (rdAt most S k).o x)).length) c8] 22, rMine (.slice q7 (((rdAt most S k).o ++ rdB (rdAt most S k).L x (rdN most (rdAt most S k).o x)).length) c8) ((rdAt most S k).o ++ rdB (rdAt most S k).L x (rdN most (rdAt most S k).o x)) 5, rBlk b4 [iw ((rdAt most S k).dn : Int)] 3, rBlk b2 [iw most] 3, rBlk b1 [pt d 0] 29, rDef D]) (fun _z => True) rfl rfl co23 rfl rfl rfl (lt_b rfl) (fun w hI => (trim_any (pool_at hI (i := 4) rfl) x.buf (x.skip + rdN most (rdAt most S k).o x) 0).mono fun e w2 ⟨h1, h2⟩ => ⟨(), h1, hI.poolTo (i := 4) rfl (fun b hb => .inl (.inl (.inr (hb.elim .inl (fun h => .inr (.inl h)))))) h2, trivial⟩) ?_
          rintro ⟨⟩ _
          refine SL.nil ?_
          refine SI.of_SE ?_
          refine SI.norm [(7, Value.pointer (some ⟨rowB q1, k * 5, none⟩))] [rBlk b5 [pt d 0] 29, rLoop Lk { r with state := .busy }, rBlk d [pt p 0, Value.slice q1 S.l.length c1, Value.slice q2 S.late.length c2, iw S.nxt, iw S.hv, iw S.last, bo S.gone] 52, rRowN (.slice q1 S.l.length c1) ((pRows (rdRows most S k)).set k [iw x.off, iw x.buf, iw (x.skip + rdN most (rdAt most S k).o x), iw (x.size - rdN most (rdAt most S k).o x), bo x.fin]) 61 5, rPool p ab ((ownF ((rdAt most S k).L) x.buf (trimF (x.skip + rdN most (rdAt most S k).o x) 0)).2), rMine (.slice qy (seeF (rdAt most S k).L x.buf).1.data.length cy) (seeF (rdAt most S k).L x.buf).1.data 5, rRowN (.slice q2 S.late.length c2) (pRows S.late) 61 5, rBlk b3 [Value.slice q7 (((rdAt most S k).o ++ rdB (rdAt most S k).L x (rdN most (rdAt most S k).o x)).length) c8] 22, rMine (.slice q7 (((rdAt most S k).o ++ rdB (rdAt most S k).L x (rdN most (rdAt most S k).o x)).length) c8) ((rdAt most S k).o ++ rdB (rdAt most S k).L x (rdN most (rdAt most S k).o x)) 5, rBlk b4 [iw ((rdAt most S k).dn : Int)] 3, rBlk b2 [iw most] 3, rBlk b1 [pt d 0] 29, rDef D] ⟨rfl, trivial⟩ rfl ?_
          refine SI.of_SG (by exact fun _ _ h => h) (by kernel_rfl) (SG.region ?_)
          refine SL.ru rfl rfl (lt_b rfl) (ru_move rfl rfl) ?_
          refine SL.ru rfl rfl (lt_b rfl) (ru_nilCheck rfl rfl) ?_
          refine SL.ru rfl rfl (lt_b rfl) (ru_fieldAddr (o2 := k * 5 + 2) fd61_2 rfl rfl rfl) ?_
          refine SL.store_rowN (ri := 3) (i := k) (k := 2) (r := [iw x.off, iw x.buf, iw (x.skip + rdN most (rdAt most S k).o x), iw (x.size - rdN most (rdAt most S k).o x), bo x.fin]) rfl rfl ts3 rfl rfl rfl rfl rfl (List.getElem?_set_self (by rw [pr_len, rows_len]; exact hk)) (by decide) (fun b hb => .inl (.inl (.inr (.inr (.inr hb))))) ?_
          refine SL.nil ?_
          refine SF.blkn ?_
          refine SF.rend (j := 1) rfl (.inl (.inr hL)) fun w2 hI9 => ?_
          rw [show ({ ({ r with state := .busy } : Loop) with state := .ready, pending := none } : Loop) = r from loop_eta hrs hrj] at hI9
          obtain ⟨e1, e2, e3, e4⟩ := rd_part hxl (by have := of_decide_eq_false h6; omega) h10
          refine ⟨((q7, c8), true), rfl, ?_, (fun h => by cases h), by show ∀ b, (Value.slice q7 (rdAt most S (k + 1)).o.length c8).ownBlock = some b → _; rw [e2]; exact fun b hb => (hq9 b hb).elim (hg b) (fun h => Nat.le_trans hWw h)⟩
          show Inv _ w2 (waitR b5 Lk d p ab S.l.length c1 q1 (.slice q2 S.late.length c2) S.nxt S.hv S.last S.gone (rdRows most S (k + 1)) (rdAt most S (k + 1)).L [rRowN (.slice q2 S.late.length c2) (pRows S.late) 61 5, rBlk b3 [Value.slice q7 ((rdAt most S (k + 1)).o.length) c8] 22, rMine (.slice q7 ((rdAt most S (k + 1)).o.length) c8) ((rdAt most S (k + 1)).o) 5, rBlk b4 [iw ((rdAt most S (k + 1)).dn : Int)] 3, rBlk b2 [iw most] 3, rBlk b1 [pt d 0] 29, rDef D] r)
          unfold waitR; rw [e1, e2, e3, e4]
          exact (hW.up (hI9.reo [0, 1, 2, 3, 4, 6, 7, 8, 9, 10, 11, 12] (by decide)) (fun b hb => .inl hb)).pack (l1 := [_, _, _, _, _])
    · rintro e w2 ⟨hv, k, ⟨qz, cz⟩, b, hb, hkn, ⟨hb2, hq⟩, hI9⟩
      have hfin : (rdAt most S S.l.length).L = (rdAt most S k).L ∧ (rdAt most S S.l.length).o = (rdAt most S k).o ∧ (rdAt most S S.l.length).dn = (rdAt most S k).dn ∧ rdRows most S S.l.length = rdRows most S k := by
        cases b with
        | true => rw [hb rfl]; exact ⟨rfl, rfl, rfl, rfl⟩
        | false => obtain ⟨x, hx, hx2⟩ := hb2 rfl; exact stop_end hpos hx hx2
      obtain ⟨e1, e2, e3, e4⟩ := hfin
      have hI8 := Inv.reo [2, 4, 3, 5, 6, 7, 8, 9, 10, 11, 1] (Inv.unpack (l1 := [_, _, _, _, _]) hI9) (by decide)
      refine ⟨hv, (qz, cz), cond b .ready .done, cond b none (some (.exit 0)), by cases b <;> simp, ⟨by cases b <;> simp, by rw [e2]; exact hq⟩, ?_⟩
      rw [e1, e2, e3, e4, show ({ r with state := cond b .ready .done, pending := cond b none (some (.exit 0)) } : Loop) = cond b r (stopL r) from by cases b; rfl; exact loop_eta hrs hrj]
      exact hI.up hI8 (fun b hb => hb)
  · rintro D ⟨qz, cz⟩ j hD ⟨hj, hq9⟩
    refine JP.brk (id := 0) hj ?_
    refine SF.norm [(2, pt b1 0), (3, pt b2 0), (4, Value.slice none 0 0), (5, pt b3 0), (6, pt b4 0), (11, Value.func (.func 32) #[] #[pt b5 0])] [rBlk d [pt p 0, Value.slice q1 S.l.length c1, Value.slice q2 S.late.length c2, iw S.nxt, iw S.hv, iw S.last, bo S.gone] 52, rPool p ab (rdAt most S S.l.length).L, rRowN (.slice q1 S.l.length c1) (pRows (rdRows most S S.l.length)) 61 5, rRowN (.slice q2 S.late.length c2) (pRows S.late) 61 5, rBlk b3 [Value.slice qz ((rdAt most S S.l.length).o.length) cz] 22, rMine (.slice qz ((rdAt most S S.l.length).o.length) cz) ((rdAt most S S.l.length).o) 5, rBlk b4 [iw ((rdAt most S S.l.length).dn : Int)] 3, rBlk b2 [iw most] 3, rBlk b1 [pt d 0] 29, rDef D] ⟨rfl, rfl, rfl, rfl, rfl, rfl, trivial⟩ rfl ?_
    refine SI.of_SE ?_
    refine SI.norm [(2, pt b1 0), (4, Value.slice none 0 0), (5, pt b3 0), (6, pt b4 0)] [rBlk d [pt p 0, Value.slice q1 S.l.length c1, Value.slice q2 S.late.length c2, iw S.nxt, iw S.hv, iw S.last, bo S.gone] 52, rPool p ab (rdAt most S S.l.length).L, rRowN (.slice q1 S.l.length c1) (pRows (rdRows most S S.l.length)) 61 5, rRowN (.slice q2 S.late.length c2) (pRows S.late) 61 5, rBlk b3 [Value.slice qz ((rdAt most S S.l.length).o.length) cz] 22, rMine (.slice qz ((rdAt most S S.l.length).o.length) cz) ((rdAt most S S.l.length).o) 5, rBlk b4 [iw ((rdAt most S S.l.length).dn : Int)] 3, rBlk b2 [iw most] 3, rBlk b1 [pt d 0] 29, rDef D] ⟨rfl, rfl, rfl, rfl, trivial⟩ rfl ?_
    refine SI.seq ?_
    refine SI.of_SG (by exact fun a w h => ho a w h) (by kernel_rfl) (SG.region_spW [6, 9] [(4, [6, 9]), (5, [6, 9]), (6, [9])] (fun Dx => [rBlk d [pt p 0, if Dx 9 then Value.slice q1 (S.l.length - (rdAt most S S.l.length).dn) c1 else Value.slice q1 S.l.length c1, Value.slice q2 S.late.length c2, iw S.nxt, iw S.hv, iw S.last, bo S.gone] 52, rPool p ab (rdAt most S S.l.length).L, cond (Dx 6) (rRowN (.slice q1 (S.l.length - (rdAt most S S.l.length).dn) c1) (pRows ((rdRows most S S.l.length).drop (rdAt most S S.l.length).dn)) 61 5) (rRowN (.slice q1 S.l.length c1) (pRows (rdRows most S S.l.length)) 61 5), rRowN (.slice q2 S.late.length c2) (pRows S.late) 61 5, rBlk b3 [Value.slice qz ((rdAt most S S.l.length).o.length) cz] 22, rMine (.slice qz ((rdAt most S S.l.length).o.length) cz) ((rdAt most S S.l.length).o) 5, rBlk b4 [iw ((rdAt most S S.l.length).dn : Int)] 3, rBlk b2 [iw most] 3, rBlk b1 [pt d 0] 29, rDef D]) (by kernel_rfl) (by kernel_rfl) (by kernel_rfl) rfl (by kernel_rfl) rfl ?_)
    refine SSW.ru [rBlk b1 [pt d 0] 29] (fun D w hC _ => hC.reo [8] (by decide)) rfl rfl rfl (lt_b rfl) (ru_load (i := 0) ts29 rfl rfl rfl rfl) ?_
    refine SSW.ru [rBlk b1 [pt d 0] 29] (fun D w hC _ => hC.reo [8] (by decide)) rfl rfl rfl (lt_b rfl) (ru_load (i := 0) ts29 rfl rfl rfl rfl) ?_
    refine SSW.ru [] none_inv rfl rfl rfl (lt_b rfl) (ru_nilCheck rfl rfl) ?_
    refine SSW.ru [] none_inv rfl rfl rfl (lt_b rfl) (ru_fieldAddr (o2 := 1) fd52_1 rfl rfl rfl) ?_
    refine SSW.ru [rBlk d [pt p 0, Value.slice q1 S.l.length c1, Value.slice q2 S.late.length c2, iw S.nxt, iw S.hv, iw S.last, bo S.gone] 52, rPool p ab (rdAt most S S.l.length).L, rRowN (.slice q1 S.l.length c1) (pRows (rdRows most S S.l.length)) 61 5, rRowN (.slice q2 S.late.length c2) (pRows S.late) 61 5, rBlk b3 [Value.slice qz ((rdAt most S S.l.length).o.length) cz] 22, rMine (.slice qz ((rdAt most S S.l.length).o.length) cz) ((rdAt most S S.l.length).o) 5, rBlk b4 [iw ((rdAt most S S.l.length).dn : Int)] 3, rBlk b2 [iw most] 3, rBlk b1 [pt d 0] 29, rDef D] (fun D w hC hw => by have h1 := hw 6 (by decide); have h2 := hw 9 (by decide); simp only [h1, h2] at hC; exact hC) rfl rfl rfl (lt_b rfl) (ru_load (i := 0) ts50 rfl rfl rfl rfl) ?_
    refine SSW.ru [rBlk d [pt p 0, Value.slice q1 S.l.length c1, Value.slice q2 S.late.length c2, iw S.nxt, iw S.hv, iw S.last, bo S.gone] 52, rPool p ab (rdAt most S S.l.length).L, rRowN (.slice q1 S.l.length c1) (pRows (rdRows most S S.l.length)) 61 5, rRowN (.slice q2 S.late.length c2) (pRows S.late) 61 5, rBlk b3 [Value.slice qz ((rdAt most S S.l.length).o.length) cz] 22, rMine (.slice qz ((rdAt most S S.l.length).o.length) cz) ((rdAt most S S.l.length).o) 5, rBlk b4 [iw ((rdAt most S S.l.length).dn : Int)] 3, rBlk b2 [iw most] 3, rBlk b1 [pt d 0] 29, rDef D] (fun D w hC hw => by have h1 := hw 6 (by decide); have h2 := hw 9 (by decide); simp only [h1, h2] at hC; exact hC) rfl rfl rfl (lt_b rfl) (ru_load (i := 6) ts3 rfl rfl rfl rfl) ?_
    refine SSW.turn (Value.slice q1 (S.l.length - (rdAt most S S.l.length).dn) c1) rfl rfl rfl co24 rfl rfl rfl (lt_b rfl) (fun D w hI h6 hw => ?_) ?_
    · have h9 := hw 9 (by decide)
      simp only [h6, cond_false] at hI
      refine (del0_any (hI.1.get (i := 2) rfl) (rd_dn most S S.l.length).2).mono fun e w2 ⟨h1, h2, h3⟩ => ⟨h1, ?_⟩
      have hI2 := hI.upd (i := 2) (r' := rRowN (.slice q1 (S.l.length - (rdAt most S S.l.length).dn) c1) (pRows ((rdRows most S S.l.length).drop (rdAt most S S.l.length).dn)) 61 5) rfl h3 (fun b hb => .inl (.inr (.inr (.inr hb)))) h2 (fun b hb => .inl (by cases q1 <;> exact hb))
      simp only [if_true, cond_true, show ¬ (9 = 6) by decide, if_false]
      exact hI2
    refine SSW.ru [] none_inv rfl rfl rfl (lt_b rfl) (ru_nilCheck rfl rfl) ?_
    refine SSW.ru [] none_inv rfl rfl rfl (lt_b rfl) (ru_fieldAddr (o2 := 1) fd52_1 rfl rfl rfl) ?_
    refine SSW.storeB (i := 0) (fun Dx => [pt p 0, if Dx 9 then Value.slice q1 (S.l.length - (rdAt most S S.l.length).dn) c1 else Value.slice q1 S.l.length c1, Value.slice q2 S.late.length c2, iw S.nxt, iw S.hv, iw S.last, bo S.gone]) rfl rfl rfl ts50 rfl rfl rfl rfl (fun D hD => rfl) (fun D => (lt_b rfl)) (.inl (.inl rfl)) (fun D hD => by simp [hD]) ?_
    refine SSW.nilD (l' := [rBlk d [pt p 0, Value.slice q1 (S.l.length - (rdAt most S S.l.length).dn) c1, Value.slice q2 S.late.length c2, iw S.nxt, iw S.hv, iw S.last, bo S.gone] 52, rPool p ab (rdAt most S S.l.length).L, (rRowN (.slice q1 (S.l.length - (rdAt most S S.l.length).dn) c1) (pRows ((rdRows most S S.l.length).drop (rdAt most S S.l.length).dn)) 61 5), rRowN (.slice q2 S.late.length c2) (pRows S.late) 61 5, rBlk b3 [Value.slice qz ((rdAt most S S.l.length).o.length) cz] 22, rMine (.slice qz ((rdAt most S S.l.length).o.length) cz) ((rdAt most S S.l.length).o) 5, rBlk b4 [iw ((rdAt most S S.l.length).dn : Int)] 3, rBlk b2 [iw most] 3, rBlk b1 [pt d 0] 29, rDef D]) (fun D hD => by simp only [hD 6 (by simp), hD 9 (by simp), if_true, cond_true]) ?_
    refine SI.of_SE ?_
    refine SI.norm [(2, pt b1 0), (4, Value.slice none 0 0), (5, pt b3 0)] [rBlk d [pt p 0, Value.slice q1 (S.l.length - (rdAt most S S.l.length).dn) c1, Value.slice q2 S.late.length c2, iw S.nxt, iw S.hv, iw S.last, bo S.gone] 52, rPool p ab (rdAt most S S.l.length).L, (rRowN (.slice q1 (S.l.length - (rdAt most S S.l.length).dn) c1) (pRows ((rdRows most S S.l.length).drop (rdAt most S S.l.length).dn)) 61 5), rRowN (.slice q2 S.late.length c2) (pRows S.late) 61 5, rBlk b3 [Value.slice qz ((rdAt most S S.l.length).o.length) cz] 22, rMine (.slice qz ((rdAt most S S.l.length).o.length) cz) ((rdAt most S S.l.length).o) 5, rBlk b4 [iw ((rdAt most S S.l.length).dn : Int)] 3, rBlk b2 [iw most] 3, rBlk b1 [pt d 0] 29, rDef D] ⟨rfl, rfl, rfl, trivial⟩ rfl ?_
    refine SI.seq ?_
    refine SI.of_SG (by exact fun a w h => ho a w h) (by kernel_rfl) (SG.region_tail 9 (by kernel_rfl) (by kernel_rfl) ?_)
    refine SQ.ru rfl rfl (lt_b rfl) (ru_load (i := 8) ts29 rfl rfl rfl rfl) ?_
    refine SQ.ru rfl rfl (lt_b rfl) (ru_nilCheck rfl rfl) ?_
    refine SQ.ru rfl rfl (lt_b rfl) (ru_fieldAddr (o2 := 4) fd52_4 rfl rfl rfl) ?_
    refine SQ.ru rfl rfl (lt_b rfl) (ru_load (i := 0) ts3 rfl rfl rfl rfl) ?_
    refine SQ.ru rfl rfl (lt_b rfl) (ru_load (i := 4) ts22 rfl rfl rfl rfl) ?_
    refine SQ.ru rfl rfl (lt_b rfl) (ru_len Try.underlying22 rfl rfl) ?_
    refine SQ.ru rfl rfl (lt_b rfl) (ru_sub (r := (IntKind.i64.wrap (S.hv - ((rdAt most S S.l.length).o.length : Int)))) rfl rfl rfl rfl) ?_
    refine SQ.ru rfl rfl (lt_b rfl) (ru_nilCheck rfl rfl) ?_
    refine SQ.ru rfl rfl (lt_b rfl) (ru_fieldAddr (o2 := 4) fd52_4 rfl rfl rfl) ?_
    refine SQ.nilL ?_
    refine SL.store (i := 0) (c' := [pt p 0, Value.slice q1 (S.l.length - (rdAt most S S.l.length).dn) c1, Value.slice q2 S.late.length c2, iw S.nxt, iw (IntKind.i64.wrap (S.hv - ((rdAt most S S.l.length).o.length : Int))), iw S.last, bo S.gone]) rfl rfl ts3 rfl rfl rfl rfl rfl (lt_b rfl) (.inl (.inl rfl)) rfl ?_
    refine SL.nil ?_
    refine SI.of_SE ?_
    refine SI.norm [(4, Value.slice none 0 0), (5, pt b3 0)] [rBlk d [pt p 0, Value.slice q1 (S.l.length - (rdAt most S S.l.length).dn) c1, Value.slice q2 S.late.length c2, iw S.nxt, iw (IntKind.i64.wrap (S.hv - ((rdAt most S S.l.length).o.length : Int))), iw S.last, bo S.gone] 52, rPool p ab (rdAt most S S.l.length).L, (rRowN (.slice q1 (S.l.length - (rdAt most S S.l.length).dn) c1) (pRows ((rdRows most S S.l.length).drop (rdAt most S S.l.length).dn)) 61 5), rRowN (.slice q2 S.late.length c2) (pRows S.late) 61 5, rBlk b3 [Value.slice qz ((rdAt most S S.l.length).o.length) cz] 22, rMine (.slice qz ((rdAt most S S.l.length).o.length) cz) ((rdAt most S S.l.length).o) 5, rBlk b4 [iw ((rdAt most S S.l.length).dn : Int)] 3, rBlk b2 [iw most] 3, rBlk b1 [pt d 0] 29, rDef D] ⟨rfl, rfl, trivial⟩ rfl ?_
    refine SI.seq ?_
    refine SI.of_SG (by exact fun a w h => ho a w h) (by kernel_rfl) (SG.region ?_)
    refine SL.ru rfl rfl (lt_b rfl) (ru_load (i := 4) ts22 rfl rfl rfl rfl) ?_
    refine SL.ru rfl rfl (lt_b rfl) (ru_assign rfl rfl) ?_
    refine SL.nil ?_
    refine SI.of_SE ?_
    refine SI.norm [(4, Value.slice qz ((rdAt most S S.l.length).o.length) cz)] [rBlk d [pt p 0, Value.slice q1 (S.l.length - (rdAt most S S.l.length).dn) c1, Value.slice q2 S.late.length c2, iw S.nxt, iw (IntKind.i64.wrap (S.hv - ((rdAt most S S.l.length).o.length : Int))), iw S.last, bo S.gone] 52, rPool p ab (rdAt most S S.l.length).L, (rRowN (.slice q1 (S.l.length - (rdAt most S S.l.length).dn) c1) (pRows ((rdRows most S S.l.length).drop (rdAt most S S.l.length).dn)) 61 5), rRowN (.slice q2 S.late.length c2) (pRows S.late) 61 5, rBlk b3 [Value.slice qz ((rdAt most S S.l.length).o.length) cz] 22, rMine (.slice qz ((rdAt most S S.l.length).o.length) cz) ((rdAt most S S.l.length).o) 5, rBlk b4 [iw ((rdAt most S S.l.length).dn : Int)] 3, rBlk b2 [iw most] 3, rBlk b1 [pt d 0] 29, rDef D] ⟨rfl, trivial⟩ rfl ?_
    refine SI.ret ?_
    refine SF.resD (j := 9) rfl (.inl rfl) rfl hD (res1 Try.results11 rfl) fun w3 hI => ⟨qz, cz, rfl, ?_, hq9, hI.2⟩
    have e9 : (rdRows most S S.l.length).drop (rdAt most S S.l.length).dn = (readS most S).l := by unfold readS rdRows; rw [List.drop_length, List.append_nil]
    have e8 : S.l.length - (rdAt most S S.l.length).dn = (readS most S).l.length := by rw [← e9, List.length_drop, rows_len]
    rw [e9, e8] at hI
    exact (hI.reo [0, 1, 2, 3, 5] (by decide)).1

end Go.Proofs.Ytpgnklmmjdkhiaa

/-
  Joining a piece.
-/
namespace Go.Proofs.Ytpgnklmmjdkhiaa
open Go.RowKit
set_option maxRecDepth 100000
set_option maxHeartbeats 4000000
theorem SF.fact {X : Cx} {Q : Exit → Act → World → Prop} {e : Exit} {m : List (Nat × Value)} {l : List Res} {p : Prop} (hf : ∀ w, Inv X w l → p) (h : p → SE X Q e m l) : SE X Q e m l := fun a w h1 h2 => h (hf w h2) a w h1 h2
theorem jb_bytes {w : World} {v : Value} {S : Rq} {x : Pc} {h0 l0 : Nat} (h : BytesAt w v (((seeF S.L x.buf).1.data.drop l0).take (h0 - l0))) (e : l0 = (x.skip + (S.nxt - x.off)).toNat ∧ h0 - l0 = (x.size - (S.nxt - x.off)).toNat) : BytesAt w v (jB S x) := by
  unfold jB; rw [← e.1, ← e.2]; exact h
theorem join_any {w : World} {d p ab : Nat} {q1 q2 : Option Addr} {c1 c2 : Nat} {S : Rq} {x : Pc} (ok : JnOk S x) (h : Sep w (QR d p ab q1 c1 q2 c2 S)) : Calls Try.prog 31 #[pt d 0, .agg x.row.toArray] w fun e w' => e = .returned (.tuple #[]) ∧ QTo w d p ab (QG d p ab q1 c1 q2 c2 S) (joinF S x) w' := by
  obtain ⟨old0, nx0, nx1, of0, sk0, sz0, fit, hv0, hv1, zs, few, lone⟩ := ok
  have hD := (see_len S.L x.buf (show PoolAt w p ab S.L from h.get (i := 1) rfl)).2
  refine calls_sc (l0 := (QR d p ab q1 c1 q2 c2 S)) (args := [pt d 0, .agg x.row.toArray]) (QG d p ab q1 c1 q2 c2 S) Try.func31 rfl 161 Try.ntmps31 (le_b rfl) ⟨h, Only.refl _ _⟩ ?_
  show SC _ _ _ _ [(0, pt d 0), (1, Value.agg #[iw x.off, iw x.buf, iw x.skip, iw x.size, bo x.fin])] (QR d p ab q1 c1 q2 c2 S)
  refine SC.seq ?_
  refine SC.region ?_
  refine SL.box (c := [iw x.off, iw x.buf, iw x.skip, iw x.size, bo x.fin]) rfl rfl (lt_b rfl) rfl rfl rfl fun b1 hb1 => ?_
  refine SL.nil ?_
  refine SC.of_SE ?_
  refine SC.norm [(0, pt d 0), (3, pt b1 0)] [rBlk d [pt p 0, Value.slice q1 S.l.length c1, Value.slice q2 S.late.length c2, iw S.nxt, iw S.hv, iw S.last, bo S.gone] 52, rPool p ab S.L, rRowN (.slice q1 S.l.length c1) (pRows S.l) 61 5, rRowN (.slice q2 S.late.length c2) (pRows S.late) 61 5, rBlk b1 [iw x.off, iw x.buf, iw x.skip, iw x.size, bo x.fin] 61] ⟨rfl, rfl, trivial⟩ rfl ?_
  refine SC.seq ?_
  refine SC.region_quiet (by kernel_rfl) (by kernel_rfl) ?_
  refine SQ.ru rfl rfl (lt_b rfl) (ru_move rfl rfl) ?_
  refine SQ.ru rfl rfl (lt_b rfl) (ru_nilCheck rfl rfl) ?_
  refine SQ.ru rfl rfl (lt_b rfl) (ru_fieldAddr (o2 := 3) fd52_3 rfl rfl rfl) ?_
  refine SQ.ru rfl rfl (lt_b rfl) (ru_load (i := 0) ts3 rfl rfl rfl rfl) ?_
  refine SQ.ru rfl rfl (lt_b rfl) (ru_fieldAddr (o2 := 0) fd61_0 rfl rfl rfl) ?_
  refine SQ.ru rfl rfl (lt_b rfl) (ru_load (i := 4) ts3 rfl rfl rfl rfl) ?_
  refine SQ.ru rfl rfl (lt_b rfl) (ru_sub (r := (S.nxt - x.off)) rfl rfl rfl ((by rw [IntKind.wrap_i64]; omega))) ?_
  refine SQ.ru rfl rfl (lt_b rfl) (ru_assign rfl rfl) ?_
  refine SQ.nilE ?_
  refine SC.of_SE ?_
  refine SC.norm [(0, pt d 0), (3, pt b1 0), (4, iw (S.nxt - x.off))] [rBlk d [pt p 0, Value.slice q1 S.l.length c1, Value.slice q2 S.late.length c2, iw S.nxt, iw S.hv, iw S.last, bo S.gone] 52, rPool p ab S.L, rRowN (.slice q1 S.l.length c1) (pRows S.l) 61 5, rRowN (.slice q2 S.late.length c2) (pRows S.late) 61 5, rBlk b1 [iw x.off, iw x.buf, iw x.skip, iw x.size, bo x.fin] 61] ⟨rfl, rfl, rfl, trivial⟩ rfl ?_
  refine SC.seq ?_
  refine SC.seq ?_
  refine SC.region ?_
  refine SL.ru rfl rfl (lt_b rfl) (ru_fieldAddr (o2 := 4) fd61_4 rfl rfl rfl) ?_
  refine SL.ru rfl rfl (lt_b rfl) (ru_load (i := 4) ts4 rfl rfl rfl rfl) ?_
  refine SL.nil ?_
  refine SC.of_SE ?_
  refine SC.norm [(0, pt d 0), (3, pt b1 0), (4, iw (S.nxt - x.off)), (17, bo x.fin)] [rBlk d [pt p 0, Value.slice q1 S.l.length c1, Value.slice q2 S.late.length c2, iw S.nxt, iw S.hv, iw S.last, bo S.gone] 52, rPool p ab S.L, rRowN (.slice q1 S.l.length c1) (pRows S.l) 61 5, rRowN (.slice q2 S.late.length c2) (pRows S.late) 61 5, rBlk b1 [iw x.off, iw x.buf, iw x.skip, iw x.size, bo x.fin] 61] ⟨rfl, rfl, rfl, rfl, trivial⟩ rfl ?_
  refine SC.both x.fin rfl (fun h2 => ?_) (fun h2 => ?_)
  · skip
    refine SC.region_tail 10 (by kernel_rfl) (by kernel_rfl) ?_
    refine SQ.ru rfl rfl (lt_b rfl) (ru_move rfl rfl) ?_
    refine SQ.ru rfl rfl (lt_b rfl) (ru_move rfl rfl) ?_
    refine SQ.ru rfl rfl (lt_b rfl) (ru_nilCheck rfl rfl) ?_
    refine SQ.ru rfl rfl (lt_b rfl) (ru_fieldAddr (o2 := 3) fd52_3 rfl rfl rfl) ?_
    refine SQ.ru rfl rfl (lt_b rfl) (ru_load (i := 0) ts3 rfl rfl rfl rfl) ?_
    refine SQ.ru rfl rfl (lt_b rfl) (ru_loada (i := 4) (vs := [iw x.off, iw x.buf, iw x.skip, iw x.size, bo x.fin]) ta61 rfl rfl rfl rfl (le_b rfl)) ?_
    refine SQ.call (iw x.fin') rfl rfl co27 rfl rfl rfl (lt_b rfl) (fun w hI => H_only hI (end_any _ x)) ?_
    refine SQ.ru rfl rfl (lt_b rfl) (ru_max (r := max S.nxt x.fin') rfl rfl rfl rfl) ?_
    refine SQ.ru rfl rfl (lt_b rfl) (ru_nilCheck rfl rfl) ?_
    refine SQ.ru rfl rfl (lt_b rfl) (ru_fieldAddr (o2 := 5) fd52_5 rfl rfl rfl) ?_
    refine SQ.nilL ?_
    refine SL.store (i := 0) (c' := [pt p 0, Value.slice q1 S.l.length c1, Value.slice q2 S.late.length c2, iw S.nxt, iw S.hv, iw (max S.nxt x.fin'), bo S.gone]) rfl rfl ts3 rfl rfl rfl rfl rfl (lt_b rfl) (.inl (.inl rfl)) rfl ?_
    refine SL.nil ?_
    refine SC.of_SE ?_
    refine SC.norm [(0, pt d 0), (3, pt b1 0), (4, iw (S.nxt - x.off))] [rBlk d [pt p 0, Value.slice q1 S.l.length c1, Value.slice q2 S.late.length c2, iw S.nxt, iw S.hv, iw (max S.nxt x.fin'), bo S.gone] 52, rPool p ab S.L, rRowN (.slice q1 S.l.length c1) (pRows S.l) 61 5, rRowN (.slice q2 S.late.length c2) (pRows S.late) 61 5, rBlk b1 [iw x.off, iw x.buf, iw x.skip, iw x.size, bo x.fin] 61] ⟨rfl, rfl, rfl, trivial⟩ rfl ?_
    refine SC.seq ?_
    refine SC.seq ?_
    refine SC.region ?_
    refine SL.ru rfl rfl (lt_b rfl) (ru_move rfl rfl) ?_
    refine SL.ru rfl rfl (lt_b rfl) (ru_fieldAddr (o2 := 3) fd61_3 rfl rfl rfl) ?_
    refine SL.ru rfl rfl (lt_b rfl) (ru_load (i := 4) ts3 rfl rfl rfl rfl) ?_
    refine SL.ru rfl rfl (lt_b rfl) (ru_ge (b := (decide ((x.size : Int) ≤ (S.nxt - x.off)))) rfl rfl rfl rfl) ?_
    refine SL.nil ?_
    refine SC.of_SE ?_
    refine SC.norm [(0, pt d 0), (3, pt b1 0), (4, iw (S.nxt - x.off)), (31, bo (decide ((x.size : Int) ≤ (S.nxt - x.off))))] [rBlk d [pt p 0, Value.slice q1 S.l.length c1, Value.slice q2 S.late.length c2, iw S.nxt, iw S.hv, iw (max S.nxt x.fin'), bo S.gone] 52, rPool p ab S.L, rRowN (.slice q1 S.l.length c1) (pRows S.l) 61 5, rRowN (.slice q2 S.late.length c2) (pRows S.late) 61 5, rBlk b1 [iw x.off, iw x.buf, iw x.skip, iw x.size, bo x.fin] 61] ⟨rfl, rfl, rfl, rfl, trivial⟩ rfl ?_
    refine SC.both (decide ((x.size : Int) ≤ (S.nxt - x.off))) rfl (fun h3 => ?_) (fun h3 => ?_)
    · skip
      have h3d := of_decide_eq_true h3
      refine SC.seq ?_
      refine SC.region_tail 6 (by kernel_rfl) (by kernel_rfl) ?_
      refine SQ.ru rfl rfl (lt_b rfl) (ru_move rfl rfl) ?_
      refine SQ.ru rfl rfl (lt_b rfl) (ru_nilCheck rfl rfl) ?_
      refine SQ.ru rfl rfl (lt_b rfl) (ru_fieldAddr (o2 := 0) fd52_0 rfl rfl rfl) ?_
      refine SQ.ru rfl rfl (lt_b rfl) (ru_load (i := 0) ts25 rfl rfl rfl rfl) ?_
      refine SQ.ru rfl rfl (lt_b rfl) (ru_fieldAddr (o2 := 1) fd61_1 rfl rfl rfl) ?_
      refine SQ.ru rfl rfl (lt_b rfl) (ru_load (i := 4) ts3 rfl rfl rfl rfl) ?_
      refine SQ.nilL ?_
      refine SL.call (ζ := Unit) (fun _z => iw ((freeF S.L x.buf).1)) (fun _z => [rBlk d [pt p 0, Value.slice q1 S.l.length c1, Value.slice q2 S.late.length c2, iw S.nxt, iw S.hv, iw (max S.nxt x.fin'), bo S.gone] 52, rPool p ab ((freeF S.L x.buf).2), rRowN (.slice q1 S.l.length c1) (pRows S.l) 61 5, rRowN (.slice q2 S.late.length c2) (pRows S.late) 61 5, rBlk b1 [iw x.off, iw x.buf, iw x.skip, iw x.size, bo x.fin] 61]) (fun _z => True) rfl rfl co21 rfl rfl rfl (lt_b rfl) (fun w hI => (free_any (pool_at hI (i := 1) rfl) x.buf (lone.few)).mono fun e w2 ⟨h1, h2⟩ => ⟨(), h1, hI.poolTo (i := 1) rfl (fun b hb => .inl (hb.elim (fun h => .inr (.inl h)) (fun h => .inr (.inr (.inl h))))) h2, trivial⟩) ?_
      rintro ⟨⟩ _
      refine SL.nil ?_
      refine SC.of_SE ?_
      refine SC.norm [(0, pt d 0), (3, pt b1 0), (4, iw (S.nxt - x.off))] [rBlk d [pt p 0, Value.slice q1 S.l.length c1, Value.slice q2 S.late.length c2, iw S.nxt, iw S.hv, iw (max S.nxt x.fin'), bo S.gone] 52, rPool p ab ((freeF S.L x.buf).2), rRowN (.slice q1 S.l.length c1) (pRows S.l) 61 5, rRowN (.slice q2 S.late.length c2) (pRows S.late) 61 5, rBlk b1 [iw x.off, iw x.buf, iw x.skip, iw x.size, bo x.fin] 61] ⟨rfl, rfl, rfl, trivial⟩ rfl ?_
      refine SC.ret ?_
      refine SE.passr ?_
      refine SE.res (.inl rfl) (res0 Try.results31) fun w1 hI => ⟨rfl, ?_⟩
      have ej : jLast S x = max S.nxt x.fin' := by unfold jLast; rw [if_pos h2]
      unfold joinF
      rw [if_pos h3]
      refine ⟨q1, c1, q2, c2, ?_, (fun b hb => .inl (.inr (.inr (.inr (.inl hb))))), fun b hb => .inl (.inr (.inr (.inr (.inr hb)))), hI.2⟩
      rw [ej]; exact hI.four
    · skip
      have h3d := of_decide_eq_false h3
      refine SC.skip ?_
      refine SC.of_SE ?_
      refine SC.norm [(0, pt d 0), (3, pt b1 0), (4, iw (S.nxt - x.off))] [rBlk d [pt p 0, Value.slice q1 S.l.length c1, Value.slice q2 S.late.length c2, iw S.nxt, iw S.hv, iw (max S.nxt x.fin'), bo S.gone] 52, rPool p ab S.L, rRowN (.slice q1 S.l.length c1) (pRows S.l) 61 5, rRowN (.slice q2 S.late.length c2) (pRows S.late) 61 5, rBlk b1 [iw x.off, iw x.buf, iw x.skip, iw x.size, bo x.fin] 61] ⟨rfl, rfl, rfl, trivial⟩ rfl ?_
      refine SC.seq ?_
      refine SC.region ?_
      refine SL.ru rfl rfl (lt_b rfl) (ru_fieldAddr (o2 := 0) fd61_0 rfl rfl rfl) ?_
      refine SL.ru rfl rfl (lt_b rfl) (ru_load (i := 4) ts3 rfl rfl rfl rfl) ?_
      refine SL.ru rfl rfl (lt_b rfl) (ru_move rfl rfl) ?_
      refine SL.ru rfl rfl (lt_b rfl) (ru_add (r := (x.off + (S.nxt - x.off))) rfl rfl rfl ((by rw [IntKind.wrap_i64]; omega))) ?_
      refine SL.ru rfl rfl (lt_b rfl) (ru_fieldAddr (o2 := 2) fd61_2 rfl rfl rfl) ?_
      refine SL.ru rfl rfl (lt_b rfl) (ru_load (i := 4) ts3 rfl rfl rfl rfl) ?_
      refine SL.ru rfl rfl (lt_b rfl) (ru_move rfl rfl) ?_
      refine SL.ru rfl rfl (lt_b rfl) (ru_add (r := (x.skip + (S.nxt - x.off))) rfl rfl rfl ((by rw [IntKind.wrap_i64]; omega))) ?_
      refine SL.ru rfl rfl (lt_b rfl) (ru_fieldAddr (o2 := 3) fd61_3 rfl rfl rfl) ?_
      refine SL.ru rfl rfl (lt_b rfl) (ru_load (i := 4) ts3 rfl rfl rfl rfl) ?_
      refine SL.ru rfl rfl (lt_b rfl) (ru_move rfl rfl) ?_
      refine SL.ru rfl rfl (lt_b rfl) (ru_sub (r := (x.size - (S.nxt - x.off))) rfl rfl rfl ((by rw [IntKind.wrap_i64]; omega))) ?_
      refine SL.ru rfl rfl (lt_b rfl) (ru_fieldAddr (o2 := 0) fd61_0 rfl rfl rfl) ?_
      refine SL.store (i := 4) (c' := [iw (x.off + (S.nxt - x.off)), iw x.buf, iw x.skip, iw x.size, bo x.fin]) rfl rfl ts3 rfl rfl rfl rfl rfl (lt_b rfl) (.inr hb1) rfl ?_
      refine SL.ru rfl rfl (lt_b rfl) (ru_fieldAddr (o2 := 2) fd61_2 rfl rfl rfl) ?_
      refine SL.store (i := 4) (c' := [iw (x.off + (S.nxt - x.off)), iw x.buf, iw (x.skip + (S.nxt - x.off)), iw x.size, bo x.fin]) rfl rfl ts3 rfl rfl rfl rfl rfl (lt_b rfl) (.inr hb1) rfl ?_
      refine SL.ru rfl rfl (lt_b rfl) (ru_fieldAddr (o2 := 3) fd61_3 rfl rfl rfl) ?_
      refine SL.store (i := 4) (c' := [iw (x.off + (S.nxt - x.off)), iw x.buf, iw (x.skip + (S.nxt - x.off)), iw (x.size - (S.nxt - x.off)), bo x.fin]) rfl rfl ts3 rfl rfl rfl rfl rfl (lt_b rfl) (.inr hb1) rfl ?_
      refine SL.nil ?_
      refine SC.of_SE ?_
      refine SC.norm [(0, pt d 0), (3, pt b1 0)] [rBlk d [pt p 0, Value.slice q1 S.l.length c1, Value.slice q2 S.late.length c2, iw S.nxt, iw S.hv, iw (max S.nxt x.fin'), bo S.gone] 52, rPool p ab S.L, rRowN (.slice q1 S.l.length c1) (pRows S.l) 61 5, rRowN (.slice q2 S.late.length c2) (pRows S.late) 61 5, rBlk b1 [iw (x.off + (S.nxt - x.off)), iw x.buf, iw (x.skip + (S.nxt - x.off)), iw (x.size - (S.nxt - x.off)), bo x.fin] 61] ⟨rfl, rfl, trivial⟩ rfl ?_
      refine SC.seq ?_
      refine SC.region_tail 9 (by kernel_rfl) (by kernel_rfl) ?_
      refine SQ.ru rfl rfl (lt_b rfl) (ru_move rfl rfl) ?_
      refine SQ.ru rfl rfl (lt_b rfl) (ru_nilCheck rfl rfl) ?_
      refine SQ.ru rfl rfl (lt_b rfl) (ru_fieldAddr (o2 := 3) fd52_3 rfl rfl rfl) ?_
      refine SQ.ru rfl rfl (lt_b rfl) (ru_load (i := 0) ts3 rfl rfl rfl rfl) ?_
      refine SQ.ru rfl rfl (lt_b rfl) (ru_fieldAddr (o2 := 3) fd61_3 rfl rfl rfl) ?_
      refine SQ.ru rfl rfl (lt_b rfl) (ru_load (i := 4) ts3 rfl rfl rfl rfl) ?_
      refine SQ.ru rfl rfl (lt_b rfl) (ru_add (r := (S.nxt + (x.size - (S.nxt - x.off)))) rfl rfl rfl ((by rw [IntKind.wrap_i64]; omega))) ?_
      refine SQ.ru rfl rfl (lt_b rfl) (ru_nilCheck rfl rfl) ?_
      refine SQ.ru rfl rfl (lt_b rfl) (ru_fieldAddr (o2 := 3) fd52_3 rfl rfl rfl) ?_
      refine SQ.nilL ?_
      refine SL.store (i := 0) (c' := [pt p 0, Value.slice q1 S.l.length c1, Value.slice q2 S.late.length c2, iw (S.nxt + (x.size - (S.nxt - x.off))), iw S.hv, iw (max S.nxt x.fin'), bo S.gone]) rfl rfl ts3 rfl rfl rfl rfl rfl (lt_b rfl) (.inl (.inl rfl)) rfl ?_
      refine SL.nil ?_
      refine SC.of_SE ?_
      refine SC.norm [(0, pt d 0), (3, pt b1 0)] [rBlk d [pt p 0, Value.slice q1 S.l.length c1, Value.slice q2 S.late.length c2, iw (S.nxt + (x.size - (S.nxt - x.off))), iw S.hv, iw (max S.nxt x.fin'), bo S.gone] 52, rPool p ab S.L, rRowN (.slice q1 S.l.length c1) (pRows S.l) 61 5, rRowN (.slice q2 S.late.length c2) (pRows S.late) 61 5, rBlk b1 [iw (x.off + (S.nxt - x.off)), iw x.buf, iw (x.skip + (S.nxt - x.off)), iw (x.size - (S.nxt - x.off)), bo x.fin] 61] ⟨rfl, rfl, trivial⟩ rfl ?_
      refine SC.seq ?_
      refine SC.region_tail 9 (by kernel_rfl) (by kernel_rfl) ?_
      refine SQ.ru rfl rfl (lt_b rfl) (ru_move rfl rfl) ?_
      refine SQ.ru rfl rfl (lt_b rfl) (ru_nilCheck rfl rfl) ?_
      refine SQ.ru rfl rfl (lt_b rfl) (ru_fieldAddr (o2 := 4) fd52_4 rfl rfl rfl) ?_
      refine SQ.ru rfl rfl (lt_b rfl) (ru_load (i := 0) ts3 rfl rfl rfl rfl) ?_
      refine SQ.ru rfl rfl (lt_b rfl) (ru_fieldAddr (o2 := 3) fd61_3 rfl rfl rfl) ?_
      refine SQ.ru rfl rfl (lt_b rfl) (ru_load (i := 4) ts3 rfl rfl rfl rfl) ?_
      refine SQ.ru rfl rfl (lt_b rfl) (ru_add (r := (S.hv + (x.size - (S.nxt - x.off)))) rfl rfl rfl ((by rw [IntKind.wrap_i64]; omega))) ?_
      refine SQ.ru rfl rfl (lt_b rfl) (ru_nilCheck rfl rfl) ?_
      refine SQ.ru rfl rfl (lt_b rfl) (ru_fieldAddr (o2 := 4) fd52_4 rfl rfl rfl) ?_
      refine SQ.nilL ?_
      refine SL.store (i := 0) (c' := [pt p 0, Value.slice q1 S.l.length c1, Value.slice q2 S.late.length c2, iw (S.nxt + (x.size - (S.nxt - x.off))), iw (S.hv + (x.size - (S.nxt - x.off))), iw (max S.nxt x.fin'), bo S.gone]) rfl rfl ts3 rfl rfl rfl rfl rfl (lt_b rfl) (.inl (.inl rfl)) rfl ?_
      refine SL.nil ?_
      refine SC.of_SE ?_
      refine SC.norm [(0, pt d 0), (3, pt b1 0)] [rBlk d [pt p 0, Value.slice q1 S.l.length c1, Value.slice q2 S.late.length c2, iw (S.nxt + (x.size - (S.nxt - x.off))), iw (S.hv + (x.size - (S.nxt - x.off))), iw (max S.nxt x.fin'), bo S.gone] 52, rPool p ab S.L, rRowN (.slice q1 S.l.length c1) (pRows S.l) 61 5, rRowN (.slice q2 S.late.length c2) (pRows S.late) 61 5, rBlk b1 [iw (x.off + (S.nxt - x.off)), iw x.buf, iw (x.skip + (S.nxt - x.off)), iw (x.size - (S.nxt - x.off)), bo x.fin] 61] ⟨rfl, rfl, trivial⟩ rfl ?_
      refine SC.seq ?_
      refine SC.region_mk_tailE [(11, 9)] 11 [(6, Mk.see ⟨161, w, QG d p ab q1 c1 q2 c2 S⟩ (seeF S.L x.buf).1.refs (seeF S.L x.buf).1.head (seeF S.L x.buf).1.data (seeF S.L x.buf).2 5), (10, Mk.blk ⟨161, w, QG d p ab q1 c1 q2 c2 S⟩ [iw 0, Value.slice none 0 0, Value.slice none 0 0] 75)] [(7, [6]), (8, [6]), (9, [6])] rfl rfl (by kernel_rfl) (by kernel_rfl) (by kernel_rfl) (by kernel_rfl) ?_
      refine SM.ru rfl rfl rfl (w_all rfl) rfl (lt_b rfl) (ru_move rfl rfl) ?_
      refine SM.ru rfl rfl rfl (w_all rfl) rfl (lt_b rfl) (ru_nilCheck rfl rfl) ?_
      refine SM.ru rfl rfl rfl (w_all rfl) rfl (lt_b rfl) (ru_fieldAddr (o2 := 0) fd52_0 rfl rfl rfl) ?_
      refine SM.ru rfl rfl rfl (w_all rfl) rfl (lt_b rfl) (ru_load (i := 0) ts25 rfl rfl rfl rfl) ?_
      refine SM.ru rfl rfl rfl (w_all rfl) rfl (lt_b rfl) (ru_fieldAddr (o2 := 1) fd61_1 rfl rfl rfl) ?_
      refine SM.ru rfl rfl rfl (w_all rfl) rfl (lt_b rfl) (ru_load (i := 4) ts3 rfl rfl rfl rfl) ?_
      refine SM.mkcall (s := Mk.see ⟨161, w, QG d p ab q1 c1 q2 c2 S⟩ (seeF S.L x.buf).1.refs (seeF S.L x.buf).1.head (seeF S.L x.buf).1.data (seeF S.L x.buf).2 5) rfl rfl rfl rfl (w_all rfl) rfl (lt_b rfl) rfl rfl rfl co29 rfl rfl (fun l' w hI => (see_any (hI.1.get (i := 1) rfl) x.buf).mono fun e w2 ⟨qh, ch, qd, cd, h1, h2, h3, h4, h5, h6, h7⟩ => ⟨_, h1, ⟨qh, ch, qd, cd, fun b hb => Nat.le_trans hI.2.size (h4 b hb), fun b hb => Nat.le_trans hI.2.size (h5 b hb), rfl⟩, hI.saw2 h2 h3 h4 h5 h6 h7⟩) ?_
      rintro _ ⟨qh4, ch5, qd6, cd7, hqh4, hqd6, rfl⟩
      refine SM.ru rfl rfl rfl (w_all rfl) rfl (lt_b rfl) (ru_move rfl rfl) ?_
      refine SM.ru rfl rfl rfl (w_all rfl) rfl (lt_b rfl) (ru_extract rfl rfl rfl) ?_
      refine SM.ru rfl rfl rfl (w_all rfl) rfl (lt_b rfl) (ru_extract rfl rfl rfl) ?_
      refine SM.alloca rfl rfl rfl rfl (w_all rfl) rfl (lt_b rfl) rfl ta75 rfl fun b8 hb8 => ?_
      refine SM.nilL (l' := [rBlk d [pt p 0, Value.slice q1 S.l.length c1, Value.slice q2 S.late.length c2, iw (S.nxt + (x.size - (S.nxt - x.off))), iw (S.hv + (x.size - (S.nxt - x.off))), iw (max S.nxt x.fin'), bo S.gone] 52, rPool p ab S.L, rRowN (.slice q1 S.l.length c1) (pRows S.l) 61 5, rRowN (.slice q2 S.late.length c2) (pRows S.late) 61 5, rBlk b1 [iw (x.off + (S.nxt - x.off)), iw x.buf, iw (x.skip + (S.nxt - x.off)), iw (x.size - (S.nxt - x.off)), bo x.fin] 61, rMine (.slice qh4 ((seeF S.L x.buf).1.head.length) ch5) ((seeF S.L x.buf).1.head) 5, rMine (.slice qd6 ((seeF S.L x.buf).1.data.length) cd7) ((seeF S.L x.buf).1.data) 5, rBlk b8 [iw 0, Value.slice none 0 0, Value.slice none 0 0] 75]) rfl ?_
      refine SL.storea (i := 7) (vs := [iw ((seeF S.L x.buf).1.refs : Int), Value.slice qh4 ((seeF S.L x.buf).1.head.length) ch5, Value.slice qd6 ((seeF S.L x.buf).1.data.length) cd7]) (c' := [iw ((seeF S.L x.buf).1.refs : Int), Value.slice qh4 ((seeF S.L x.buf).1.head.length) ch5, Value.slice qd6 ((seeF S.L x.buf).1.data.length) cd7]) rfl rfl ta75 rfl rfl rfl rfl rfl rfl (le_b rfl) (.inr hb8) rfl ?_
      refine SL.ru rfl rfl (lt_b rfl) (ru_assign rfl rfl) ?_
      refine SL.nil ?_
      refine SE.onlyN ?_
      refine SF.fact (fun w hI => own_le (hI.1.get (i := 6) rfl)) fun hcd => ?_
      refine SC.of_SE ?_
      refine SC.norm [(0, pt d 0), (3, pt b1 0), (5, pt b8 0)] [rBlk d [pt p 0, Value.slice q1 S.l.length c1, Value.slice q2 S.late.length c2, iw (S.nxt + (x.size - (S.nxt - x.off))), iw (S.hv + (x.size - (S.nxt - x.off))), iw (max S.nxt x.fin'), bo S.gone] 52, rPool p ab S.L, rRowN (.slice q1 S.l.length c1) (pRows S.l) 61 5, rRowN (.slice q2 S.late.length c2) (pRows S.late) 61 5, rBlk b1 [iw (x.off + (S.nxt - x.off)), iw x.buf, iw (x.skip + (S.nxt - x.off)), iw (x.size - (S.nxt - x.off)), bo x.fin] 61, rMine (.slice qh4 ((seeF S.L x.buf).1.head.length) ch5) ((seeF S.L x.buf).1.head) 5, rMine (.slice qd6 ((seeF S.L x.buf).1.data.length) cd7) ((seeF S.L x.buf).1.data) 5, rBlk b8 [iw ((seeF S.L x.buf).1.refs : Int), Value.slice qh4 ((seeF S.L x.buf).1.head.length) ch5, Value.slice qd6 ((seeF S.L x.buf).1.data.length) cd7] 75] ⟨rfl, rfl, rfl, trivial⟩ rfl ?_
      refine SC.seq ?_
      refine SC.seq ?_
      refine SC.region ?_
      refine SL.ru rfl rfl (lt_b rfl) (ru_move rfl rfl) ?_
      refine SL.ru rfl rfl (lt_b rfl) (ru_nilCheck rfl rfl) ?_
      refine SL.ru rfl rfl (lt_b rfl) (ru_fieldAddr (o2 := 1) fd52_1 rfl rfl rfl) ?_
      refine SL.ru rfl rfl (lt_b rfl) (ru_load (i := 0) ts50 rfl rfl rfl rfl) ?_
      refine SL.ru rfl rfl (lt_b rfl) (ru_len Try.underlying50 rfl rfl) ?_
      refine SL.ru rfl rfl (lt_b rfl) (ru_assign rfl rfl) ?_
      refine SL.nil ?_
      refine SC.of_SE ?_
      refine SC.norm [(0, pt d 0), (3, pt b1 0), (5, pt b8 0), (7, iw (S.l.length : Int))] [rBlk d [pt p 0, Value.slice q1 S.l.length c1, Value.slice q2 S.late.length c2, iw (S.nxt + (x.size - (S.nxt - x.off))), iw (S.hv + (x.size - (S.nxt - x.off))), iw (max S.nxt x.fin'), bo S.gone] 52, rPool p ab S.L, rRowN (.slice q1 S.l.length c1) (pRows S.l) 61 5, rRowN (.slice q2 S.late.length c2) (pRows S.late) 61 5, rBlk b1 [iw (x.off + (S.nxt - x.off)), iw x.buf, iw (x.skip + (S.nxt - x.off)), iw (x.size - (S.nxt - x.off)), bo x.fin] 61, rMine (.slice qh4 ((seeF S.L x.buf).1.head.length) ch5) ((seeF S.L x.buf).1.head) 5, rMine (.slice qd6 ((seeF S.L x.buf).1.data.length) cd7) ((seeF S.L x.buf).1.data) 5, rBlk b8 [iw ((seeF S.L x.buf).1.refs : Int), Value.slice qh4 ((seeF S.L x.buf).1.head.length) ch5, Value.slice qd6 ((seeF S.L x.buf).1.data.length) cd7] 75] ⟨rfl, rfl, rfl, rfl, trivial⟩ rfl ?_
      refine SC.seq ?_
      refine SC.region ?_
      refine SL.ru rfl rfl (lt_b rfl) (ru_move rfl rfl) ?_
      refine SL.ru rfl rfl (lt_b rfl) (ru_gt (b := (decide ((0 : Int) < (S.l.length : Int)))) rfl rfl rfl rfl) ?_
      refine SL.nil ?_
      refine SC.of_SE ?_
      refine SC.norm [(0, pt d 0), (3, pt b1 0), (5, pt b8 0), (7, iw (S.l.length : Int)), (88, bo (decide ((0 : Int) < (S.l.length : Int))))] [rBlk d [pt p 0, Value.slice q1 S.l.length c1, Value.slice q2 S.late.length c2, iw (S.nxt + (x.size - (S.nxt - x.off))), iw (S.hv + (x.size - (S.nxt - x.off))), iw (max S.nxt x.fin'), bo S.gone] 52, rPool p ab S.L, rRowN (.slice q1 S.l.length c1) (pRows S.l) 61 5, rRowN (.slice q2 S.late.length c2) (pRows S.late) 61 5, rBlk b1 [iw (x.off + (S.nxt - x.off)), iw x.buf, iw (x.skip + (S.nxt - x.off)), iw (x.size - (S.nxt - x.off)), bo x.fin] 61, rMine (.slice qh4 ((seeF S.L x.buf).1.head.length) ch5) ((seeF S.L x.buf).1.head) 5, rMine (.slice qd6 ((seeF S.L x.buf).1.data.length) cd7) ((seeF S.L x.buf).1.data) 5, rBlk b8 [iw ((seeF S.L x.buf).1.refs : Int), Value.slice qh4 ((seeF S.L x.buf).1.head.length) ch5, Value.slice qd6 ((seeF S.L x.buf).1.data.length) cd7] 75] ⟨rfl, rfl, rfl, rfl, rfl, trivial⟩ rfl ?_
      refine SC.both (decide ((0 : Int) < (S.l.length : Int))) rfl (fun h9 => ?_) (fun h9 => ?_)
      · skip
        have h9d := of_decide_eq_true h9
        have hzz := zs _ (List.mem_of_getElem? (jZ_at (S := S) (by omega)))
        refine SC.seq ?_
        refine SC.region ?_
        refine SL.ru rfl rfl (lt_b rfl) (ru_move rfl rfl) ?_
        refine SL.ru rfl rfl (lt_b rfl) (ru_nilCheck rfl rfl) ?_
        refine SL.ru rfl rfl (lt_b rfl) (ru_fieldAddr (o2 := 1) fd52_1 rfl rfl rfl) ?_
        refine SL.ru rfl rfl (lt_b rfl) (ru_load (i := 0) ts50 rfl rfl rfl rfl) ?_
        refine SL.ru rfl rfl (lt_b rfl) (ru_move rfl rfl) ?_
        refine SL.ru rfl rfl (lt_b rfl) (ru_sub (r := ((S.l.length : Int) - 1)) rfl rfl rfl ((by rw [IntKind.wrap_i64]; omega))) ?_
        refine SL.ru rfl rfl (lt_b rfl) (ru_index_rowN (ri := 2) si50 rfl rfl rfl rfl (by omega) (by omega)) ?_
        refine SL.ru rfl rfl (lt_b rfl) (ru_assign rfl rfl) ?_
        refine SL.nil ?_
        refine SC.of_SE ?_
        refine SC.norm [(0, pt d 0), (3, pt b1 0), (5, pt b8 0), (8, Value.pointer (some ⟨rowB q1, ((S.l.length : Int) - 1).toNat * 5, none⟩))] [rBlk d [pt p 0, Value.slice q1 S.l.length c1, Value.slice q2 S.late.length c2, iw (S.nxt + (x.size - (S.nxt - x.off))), iw (S.hv + (x.size - (S.nxt - x.off))), iw (max S.nxt x.fin'), bo S.gone] 52, rPool p ab S.L, rRowN (.slice q1 S.l.length c1) (pRows S.l) 61 5, rRowN (.slice q2 S.late.length c2) (pRows S.late) 61 5, rBlk b1 [iw (x.off + (S.nxt - x.off)), iw x.buf, iw (x.skip + (S.nxt - x.off)), iw (x.size - (S.nxt - x.off)), bo x.fin] 61, rMine (.slice qh4 ((seeF S.L x.buf).1.head.length) ch5) ((seeF S.L x.buf).1.head) 5, rMine (.slice qd6 ((seeF S.L x.buf).1.data.length) cd7) ((seeF S.L x.buf).1.data) 5, rBlk b8 [iw ((seeF S.L x.buf).1.refs : Int), Value.slice qh4 ((seeF S.L x.buf).1.head.length) ch5, Value.slice qd6 ((seeF S.L x.buf).1.data.length) cd7] 75] ⟨rfl, rfl, rfl, rfl, trivial⟩ rfl ?_
        refine SC.seq ?_
        refine SC.region_tail 18 (by kernel_rfl) (by kernel_rfl) ?_
        refine SQ.ru rfl rfl (lt_b rfl) (ru_move rfl rfl) ?_
        refine SQ.ru rfl rfl (lt_b rfl) (ru_nilCheck rfl rfl) ?_
        refine SQ.ru rfl rfl (lt_b rfl) (ru_fieldAddr (o2 := 0) fd52_0 rfl rfl rfl) ?_
        refine SQ.ru rfl rfl (lt_b rfl) (ru_load (i := 0) ts25 rfl rfl rfl rfl) ?_
        refine SQ.ru rfl rfl (lt_b rfl) (ru_move rfl rfl) ?_
        refine SQ.ru rfl rfl (lt_b rfl) (ru_nilCheck rfl rfl) ?_
        refine SQ.ru rfl rfl (lt_b rfl) (ru_fieldAddr (o2 := ((S.l.length : Int) - 1).toNat * 5 + 1) fd61_1 rfl rfl rfl) ?_
        refine SQ.ru rfl rfl (lt_b rfl) (ru_load_rowN (ri := 2) (i := ((S.l.length : Int) - 1).toNat) (k := 1) (r := [iw ((jZ S).off), iw ((jZ S).buf), iw ((jZ S).skip), iw ((jZ S).size), bo ((jZ S).fin)]) ts3 rfl rfl rfl (by show (S.l.map Pc.row)[_]? = _; rw [List.getElem?_map, show ((S.l.length : Int) - 1).toNat = S.l.length - 1 by omega, jZ_at (by omega)]; rfl) (by decide) rfl) ?_
        refine SQ.ru rfl rfl (lt_b rfl) (ru_fieldAddr (o2 := 2) fd75_2 rfl rfl rfl) ?_
        refine SQ.ru rfl rfl (lt_b rfl) (ru_load (i := 7) ts22 rfl rfl rfl rfl) ?_
        refine SQ.ru rfl rfl (lt_b rfl) (ru_fieldAddr (o2 := 2) fd61_2 rfl rfl rfl) ?_
        refine SQ.ru rfl rfl (lt_b rfl) (ru_load (i := 4) ts3 rfl rfl rfl rfl) ?_
        refine SQ.ru rfl rfl (lt_b rfl) (ru_fieldAddr (o2 := 2) fd61_2 rfl rfl rfl) ?_
        refine SQ.ru rfl rfl (lt_b rfl) (ru_load (i := 4) ts3 rfl rfl rfl rfl) ?_
        refine SQ.ru rfl rfl (lt_b rfl) (ru_fieldAddr (o2 := 3) fd61_3 rfl rfl rfl) ?_
        refine SQ.ru rfl rfl (lt_b rfl) (ru_load (i := 4) ts3 rfl rfl rfl rfl) ?_
        refine SQ.ru rfl rfl (lt_b rfl) (ru_add (r := ((x.skip + (S.nxt - x.off)) + (x.size - (S.nxt - x.off)))) rfl rfl rfl ((by rw [IntKind.wrap_i64]; omega))) ?_
        refine SQ.ru rfl rfl (lt_b rfl) (ru_sliceV (size := 1) (l0 := (x.skip + (S.nxt - x.off)).toNat) (h0 := (x.skip + (S.nxt - x.off) + (x.size - (S.nxt - x.off))).toNat) (m0 := cd7) (v := Value.slice (if cd7 = (x.skip + (S.nxt - x.off)).toNat then qd6 else qd6.map (·.add ((x.skip + (S.nxt - x.off)).toNat * 1))) ((x.skip + (S.nxt - x.off) + (x.size - (S.nxt - x.off))).toNat - (x.skip + (S.nxt - x.off)).toNat) (cd7 - (x.skip + (S.nxt - x.off)).toNat)) rfl si22 rfl rfl rfl (show some (iw (x.skip + (S.nxt - x.off) + (x.size - (S.nxt - x.off)))) = some (iw (((x.skip + (S.nxt - x.off) + (x.size - (S.nxt - x.off))).toNat : Nat) : Int)) by rw [Int.toNat_of_nonneg (by omega)]) (show some (iw (x.skip + (S.nxt - x.off))) = some (iw (((x.skip + (S.nxt - x.off)).toNat : Nat) : Int)) by rw [Int.toNat_of_nonneg (by omega)]) (by simp) (Nat.le_refl _) (by omega) (by omega)) ?_
        refine SQ.nilL ?_
        refine SL.call (ζ := Unit) (fun _z => iw ((ownF S.L ((jZ S).buf) (appF (jB S x))).1)) (fun _z => [rBlk d [pt p 0, Value.slice q1 S.l.length c1, Value.slice q2 S.late.length c2, iw (S.nxt + (x.size - (S.nxt - x.off))), iw (S.hv + (x.size - (S.nxt - x.off))), iw (max S.nxt x.fin'), bo S.gone] 52, rPool p ab ((ownF S.L ((jZ S).buf) (appF (jB S x))).2), rRowN (.slice q1 S.l.length c1) (pRows S.l) 61 5, rRowN (.slice q2 S.late.length c2) (pRows S.late) 61 5, rBlk b1 [iw (x.off + (S.nxt - x.off)), iw x.buf, iw (x.skip + (S.nxt - x.off)), iw (x.size - (S.nxt - x.off)), bo x.fin] 61, rMine (.slice qh4 ((seeF S.L x.buf).1.head.length) ch5) ((seeF S.L x.buf).1.head) 5, rMine (.slice qd6 ((seeF S.L x.buf).1.data.length) cd7) ((seeF S.L x.buf).1.data) 5, rBlk b8 [iw ((seeF S.L x.buf).1.refs : Int), Value.slice qh4 ((seeF S.L x.buf).1.head.length) ch5, Value.slice qd6 ((seeF S.L x.buf).1.data.length) cd7] 75]) (fun _z => True) rfl rfl co34 rfl rfl rfl (lt_b rfl) (fun w hI => (app_any (pool_at hI (i := 1) rfl) ((jZ S).buf) (jb_bytes (bytes_cut (x.skip + (S.nxt - x.off)).toNat (x.skip + (S.nxt - x.off) + (x.size - (S.nxt - x.off))).toNat (hI.1.get (i := 6) rfl) (by omega) (by omega) (by omega)) (by omega)) (cutIn hI (j := 6) (i := 1) rfl rfl (by decide))).mono fun e w2 ⟨h1, h2⟩ => ⟨(), h1, hI.poolTo (i := 1) rfl (fun b hb => .inl (hb.elim (fun h => .inr (.inl h)) (fun h => .inr (.inr (.inl h))))) h2, trivial⟩) ?_
        rintro ⟨⟩ _
        refine SL.ru rfl rfl (lt_b rfl) (ru_eq (b := ((((ownF S.L ((jZ S).buf) (appF (jB S x))).1) : Int) == 0)) rfl rfl rfl rfl) ?_
        refine SL.nil ?_
        refine SC.of_SE ?_
        refine SC.norm [(0, pt d 0), (3, pt b1 0), (5, pt b8 0), (8, Value.pointer (some ⟨rowB q1, ((S.l.length : Int) - 1).toNat * 5, none⟩)), (115, bo ((((ownF S.L ((jZ S).buf) (appF (jB S x))).1) : Int) == 0))] [rBlk d [pt p 0, Value.slice q1 S.l.length c1, Value.slice q2 S.late.length c2, iw (S.nxt + (x.size - (S.nxt - x.off))), iw (S.hv + (x.size - (S.nxt - x.off))), iw (max S.nxt x.fin'), bo S.gone] 52, rPool p ab ((ownF S.L ((jZ S).buf) (appF (jB S x))).2), rRowN (.slice q1 S.l.length c1) (pRows S.l) 61 5, rRowN (.slice q2 S.late.length c2) (pRows S.late) 61 5, rBlk b1 [iw (x.off + (S.nxt - x.off)), iw x.buf, iw (x.skip + (S.nxt - x.off)), iw (x.size - (S.nxt - x.off)), bo x.fin] 61, rMine (.slice qh4 ((seeF S.L x.buf).1.head.length) ch5) ((seeF S.L x.buf).1.head) 5, rMine (.slice qd6 ((seeF S.L x.buf).1.data.length) cd7) ((seeF S.L x.buf).1.data) 5, rBlk b8 [iw ((seeF S.L x.buf).1.refs : Int), Value.slice qh4 ((seeF S.L x.buf).1.head.length) ch5, Value.slice qd6 ((seeF S.L x.buf).1.data.length) cd7] 75] ⟨rfl, rfl, rfl, rfl, rfl, trivial⟩ rfl ?_
        refine SC.both ((((ownF S.L ((jZ S).buf) (appF (jB S x))).1) : Int) == 0) rfl (fun h10 => ?_) (fun h10 => ?_)
        · skip
          refine SC.seq ?_
          refine SC.region_tail 9 (by kernel_rfl) (by kernel_rfl) ?_
          refine SQ.ru rfl rfl (lt_b rfl) (ru_move rfl rfl) ?_
          refine SQ.ru rfl rfl (lt_b rfl) (ru_nilCheck rfl rfl) ?_
          refine SQ.ru rfl rfl (lt_b rfl) (ru_fieldAddr (o2 := ((S.l.length : Int) - 1).toNat * 5 + 3) fd61_3 rfl rfl rfl) ?_
          refine SQ.ru rfl rfl (lt_b rfl) (ru_load_rowN (ri := 2) (i := ((S.l.length : Int) - 1).toNat) (k := 3) (r := [iw ((jZ S).off), iw ((jZ S).buf), iw ((jZ S).skip), iw ((jZ S).size), bo ((jZ S).fin)]) ts3 rfl rfl rfl (by show (S.l.map Pc.row)[_]? = _; rw [List.getElem?_map, show ((S.l.length : Int) - 1).toNat = S.l.length - 1 by omega, jZ_at (by omega)]; rfl) (by decide) rfl) ?_
          refine SQ.ru rfl rfl (lt_b rfl) (ru_fieldAddr (o2 := 3) fd61_3 rfl rfl rfl) ?_
          refine SQ.ru rfl rfl (lt_b rfl) (ru_load (i := 4) ts3 rfl rfl rfl rfl) ?_
          refine SQ.ru rfl rfl (lt_b rfl) (ru_add (r := (((jZ S).size) + (x.size - (S.nxt - x.off)))) rfl rfl rfl ((by rw [IntKind.wrap_i64]; omega))) ?_
          refine SQ.ru rfl rfl (lt_b rfl) (ru_nilCheck rfl rfl) ?_
          refine SQ.ru rfl rfl (lt_b rfl) (ru_fieldAddr (o2 := ((S.l.length : Int) - 1).toNat * 5 + 3) fd61_3 rfl rfl rfl) ?_
          refine SQ.nilL ?_
          refine SL.store_rowN (ri := 2) (i := ((S.l.length : Int) - 1).toNat) (k := 3) (r := [iw ((jZ S).off), iw ((jZ S).buf), iw ((jZ S).skip), iw ((jZ S).size), bo ((jZ S).fin)]) rfl rfl ts3 rfl rfl rfl rfl rfl (by show (S.l.map Pc.row)[_]? = _; rw [List.getElem?_map, show ((S.l.length : Int) - 1).toNat = S.l.length - 1 by omega, jZ_at (by omega)]; rfl) (by decide) (fun b hb => .inl (.inr (.inr (.inr (.inl hb))))) ?_
          refine SL.nil ?_
          refine SC.of_SE ?_
          refine SC.norm [(0, pt d 0), (3, pt b1 0), (5, pt b8 0)] [rBlk d [pt p 0, Value.slice q1 S.l.length c1, Value.slice q2 S.late.length c2, iw (S.nxt + (x.size - (S.nxt - x.off))), iw (S.hv + (x.size - (S.nxt - x.off))), iw (max S.nxt x.fin'), bo S.gone] 52, rPool p ab ((ownF S.L ((jZ S).buf) (appF (jB S x))).2), rRowN (.slice q1 S.l.length c1) ((pRows S.l).set (((S.l.length : Int) - 1).toNat) ([iw ((jZ S).off), iw ((jZ S).buf), iw ((jZ S).skip), iw ((jZ S).size), bo ((jZ S).fin)].set 3 (iw (((jZ S).size) + (x.size - (S.nxt - x.off)))))) 61 5, rRowN (.slice q2 S.late.length c2) (pRows S.late) 61 5, rBlk b1 [iw (x.off + (S.nxt - x.off)), iw x.buf, iw (x.skip + (S.nxt - x.off)), iw (x.size - (S.nxt - x.off)), bo x.fin] 61, rMine (.slice qh4 ((seeF S.L x.buf).1.head.length) ch5) ((seeF S.L x.buf).1.head) 5, rMine (.slice qd6 ((seeF S.L x.buf).1.data.length) cd7) ((seeF S.L x.buf).1.data) 5, rBlk b8 [iw ((seeF S.L x.buf).1.refs : Int), Value.slice qh4 ((seeF S.L x.buf).1.head.length) ch5, Value.slice qd6 ((seeF S.L x.buf).1.data.length) cd7] 75] ⟨rfl, rfl, rfl, trivial⟩ rfl ?_
          refine SC.seq ?_
          refine SC.region_tail 6 (by kernel_rfl) (by kernel_rfl) ?_
          refine SQ.ru rfl rfl (lt_b rfl) (ru_move rfl rfl) ?_
          refine SQ.ru rfl rfl (lt_b rfl) (ru_nilCheck rfl rfl) ?_
          refine SQ.ru rfl rfl (lt_b rfl) (ru_fieldAddr (o2 := 0) fd52_0 rfl rfl rfl) ?_
          refine SQ.ru rfl rfl (lt_b rfl) (ru_load (i := 0) ts25 rfl rfl rfl rfl) ?_
          refine SQ.ru rfl rfl (lt_b rfl) (ru_fieldAddr (o2 := 1) fd61_1 rfl rfl rfl) ?_
          refine SQ.ru rfl rfl (lt_b rfl) (ru_load (i := 4) ts3 rfl rfl rfl rfl) ?_
          refine SQ.nilL ?_
          refine SL.call (ζ := Unit) (fun _z => iw ((freeF ((ownF S.L ((jZ S).buf) (appF (jB S x))).2) x.buf).1)) (fun _z => [rBlk d [pt p 0, Value.slice q1 S.l.length c1, Value.slice q2 S.late.length c2, iw (S.nxt + (x.size - (S.nxt - x.off))), iw (S.hv + (x.size - (S.nxt - x.off))), iw (max S.nxt x.fin'), bo S.gone] 52, rPool p ab ((freeF ((ownF S.L ((jZ S).buf) (appF (jB S x))).2) x.buf).2), rRowN (.slice q1 S.l.length c1) ((pRows S.l).set (((S.l.length : Int) - 1).toNat) ([iw ((jZ S).off), iw ((jZ S).buf), iw ((jZ S).skip), iw ((jZ S).size), bo ((jZ S).fin)].set 3 (iw (((jZ S).size) + (x.size - (S.nxt - x.off)))))) 61 5, rRowN (.slice q2 S.late.length c2) (pRows S.late) 61 5, rBlk b1 [iw (x.off + (S.nxt - x.off)), iw x.buf, iw (x.skip + (S.nxt - x.off)), iw (x.size - (S.nxt - x.off)), bo x.fin] 61, rMine (.slice qh4 ((seeF S.L x.buf).1.head.length) ch5) ((seeF S.L x.buf).1.head) 5, rMine (.slice qd6 ((seeF S.L x.buf).1.data.length) cd7) ((seeF S.L x.buf).1.data) 5, rBlk b8 [iw ((seeF S.L x.buf).1.refs : Int), Value.slice qh4 ((seeF S.L x.buf).1.head.length) ch5, Value.slice qd6 ((seeF S.L x.buf).1.data.length) cd7] 75]) (fun _z => True) rfl rfl co21 rfl rfl rfl (lt_b rfl) (fun w hI => (free_any (pool_at hI (i := 1) rfl) x.buf ((lone.own _ (app_one _)).few)).mono fun e w2 ⟨h1, h2⟩ => ⟨(), h1, hI.poolTo (i := 1) rfl (fun b hb => .inl (hb.elim (fun h => .inr (.inl h)) (fun h => .inr (.inr (.inl h))))) h2, trivial⟩) ?_
          rintro ⟨⟩ _
          refine SL.nil ?_
          refine SC.of_SE ?_
          refine SC.norm [(0, pt d 0), (3, pt b1 0), (5, pt b8 0)] [rBlk d [pt p 0, Value.slice q1 S.l.length c1, Value.slice q2 S.late.length c2, iw (S.nxt + (x.size - (S.nxt - x.off))), iw (S.hv + (x.size - (S.nxt - x.off))), iw (max S.nxt x.fin'), bo S.gone] 52, rPool p ab ((freeF ((ownF S.L ((jZ S).buf) (appF (jB S x))).2) x.buf).2), rRowN (.slice q1 S.l.length c1) ((pRows S.l).set (((S.l.length : Int) - 1).toNat) ([iw ((jZ S).off), iw ((jZ S).buf), iw ((jZ S).skip), iw ((jZ S).size), bo ((jZ S).fin)].set 3 (iw (((jZ S).size) + (x.size - (S.nxt - x.off)))))) 61 5, rRowN (.slice q2 S.late.length c2) (pRows S.late) 61 5, rBlk b1 [iw (x.off + (S.nxt - x.off)), iw x.buf, iw (x.skip + (S.nxt - x.off)), iw (x.size - (S.nxt - x.off)), bo x.fin] 61, rMine (.slice qh4 ((seeF S.L x.buf).1.head.length) ch5) ((seeF S.L x.buf).1.head) 5, rMine (.slice qd6 ((seeF S.L x.buf).1.data.length) cd7) ((seeF S.L x.buf).1.data) 5, rBlk b8 [iw ((seeF S.L x.buf).1.refs : Int), Value.slice qh4 ((seeF S.L x.buf).1.head.length) ch5, Value.slice qd6 ((seeF S.L x.buf).1.data.length) cd7] 75] ⟨rfl, rfl, rfl, trivial⟩ rfl ?_
          refine SC.ret ?_
          refine SE.passr ?_
          refine SE.res (.inl rfl) (res0 Try.results31) fun w1 hI => ⟨rfl, ?_⟩
          have ej : jLast S x = max S.nxt x.fin' := by unfold jLast; rw [if_pos h2]
          unfold joinF
          unfold jA
          rw [if_neg (not_t h3), if_pos h9, if_pos h10]
          refine ⟨q1, c1, q2, c2, ?_, (fun b hb => .inl (.inr (.inr (.inr (.inl (by rw [List.length_set] at hb; exact hb)))))), fun b hb => .inl (.inr (.inr (.inr (.inr hb)))), hI.2⟩
          have h4 := hI.four
          rw [show ((S.l.length : Int) - 1).toNat = S.l.length - 1 by omega] at h4
          simp only [QR, rQ, ej, List.length_set, pRows_set]; exact h4
        · skip
          refine SC.skip ?_
          refine SC.of_SE ?_
          refine SC.norm [(0, pt d 0), (3, pt b1 0), (5, pt b8 0)] [rBlk d [pt p 0, Value.slice q1 S.l.length c1, Value.slice q2 S.late.length c2, iw (S.nxt + (x.size - (S.nxt - x.off))), iw (S.hv + (x.size - (S.nxt - x.off))), iw (max S.nxt x.fin'), bo S.gone] 52, rPool p ab ((ownF S.L ((jZ S).buf) (appF (jB S x))).2), rRowN (.slice q1 S.l.length c1) (pRows S.l) 61 5, rRowN (.slice q2 S.late.length c2) (pRows S.late) 61 5, rBlk b1 [iw (x.off + (S.nxt - x.off)), iw x.buf, iw (x.skip + (S.nxt - x.off)), iw (x.size - (S.nxt - x.off)), bo x.fin] 61, rMine (.slice qh4 ((seeF S.L x.buf).1.head.length) ch5) ((seeF S.L x.buf).1.head) 5, rMine (.slice qd6 ((seeF S.L x.buf).1.data.length) cd7) ((seeF S.L x.buf).1.data) 5, rBlk b8 [iw ((seeF S.L x.buf).1.refs : Int), Value.slice qh4 ((seeF S.L x.buf).1.head.length) ch5, Value.slice qd6 ((seeF S.L x.buf).1.data.length) cd7] 75] ⟨rfl, rfl, rfl, trivial⟩ rfl ?_
          refine SC.seq ?_
          refine SC.region_tail 17 (by kernel_rfl) (by kernel_rfl) ?_
          refine SQ.ru rfl rfl (lt_b rfl) (ru_move rfl rfl) ?_
          refine SQ.ru rfl rfl (lt_b rfl) (ru_nilCheck rfl rfl) ?_
          refine SQ.ru rfl rfl (lt_b rfl) (ru_fieldAddr (o2 := 0) fd52_0 rfl rfl rfl) ?_
          refine SQ.ru rfl rfl (lt_b rfl) (ru_load (i := 0) ts25 rfl rfl rfl rfl) ?_
          refine SQ.ru rfl rfl (lt_b rfl) (ru_fieldAddr (o2 := 1) fd61_1 rfl rfl rfl) ?_
          refine SQ.ru rfl rfl (lt_b rfl) (ru_load (i := 4) ts3 rfl rfl rfl rfl) ?_
          refine SQ.ru rfl rfl (lt_b rfl) (ru_fieldAddr (o2 := 2) fd61_2 rfl rfl rfl) ?_
          refine SQ.ru rfl rfl (lt_b rfl) (ru_load (i := 4) ts3 rfl rfl rfl rfl) ?_
          refine SQ.ru rfl rfl (lt_b rfl) (ru_fieldAddr (o2 := 2) fd75_2 rfl rfl rfl) ?_
          refine SQ.ru rfl rfl (lt_b rfl) (ru_load (i := 7) ts22 rfl rfl rfl rfl) ?_
          refine SQ.ru rfl rfl (lt_b rfl) (ru_len Try.underlying22 rfl rfl) ?_
          refine SQ.ru rfl rfl (lt_b rfl) (ru_fieldAddr (o2 := 2) fd61_2 rfl rfl rfl) ?_
          refine SQ.ru rfl rfl (lt_b rfl) (ru_load (i := 4) ts3 rfl rfl rfl rfl) ?_
          refine SQ.ru rfl rfl (lt_b rfl) (ru_sub (r := (((seeF S.L x.buf).1.data.length : Int) - (x.skip + (S.nxt - x.off)))) rfl rfl rfl ((by rw [IntKind.wrap_i64]; omega))) ?_
          refine SQ.ru rfl rfl (lt_b rfl) (ru_fieldAddr (o2 := 3) fd61_3 rfl rfl rfl) ?_
          refine SQ.ru rfl rfl (lt_b rfl) (ru_load (i := 4) ts3 rfl rfl rfl rfl) ?_
          refine SQ.ru rfl rfl (lt_b rfl) (ru_sub (r := ((((seeF S.L x.buf).1.data.length : Int) - (x.skip + (S.nxt - x.off))) - (x.size - (S.nxt - x.off)))) rfl rfl rfl ((by rw [IntKind.wrap_i64]; omega))) ?_
          refine SQ.nilL ?_
          refine SL.call (ζ := Unit) (fun _z => iw ((ownF ((ownF S.L ((jZ S).buf) (appF (jB S x))).2) x.buf (trimF (x.skip + (S.nxt - x.off)) ((((seeF S.L x.buf).1.data.length : Int) - (x.skip + (S.nxt - x.off))) - (x.size - (S.nxt - x.off))))).1)) (fun _z => [rBlk d [pt p 0, Value.slice q1 S.l.length c1, Value.slice q2 S.late.length c2, iw (S.nxt + (x.size - (S.nxt - x.off))), iw (S.hv + (x.size - (S.nxt - x.off))), iw (max S.nxt x.fin'), bo S.gone] 52, rPool p ab ((ownF ((ownF S.L ((jZ S).buf) (appF (jB S x))).2) x.buf (trimF (x.skip + (S.nxt - x.off)) ((((seeF S.L x.buf).1.data.length : Int) - (x.skip + (S.nxt - x.off))) - (x.size - (S.nxt - x.off))))).2), rRowN (.slice q1 S.l.length c1) (pRows S.l) 61 5, rRowN (.slice q2 S.late.length c2) (pRows S.late) 61 5, rBlk b1 [iw (x.off + (S.nxt - x.off)), iw x.buf, iw (x.skip + (S.nxt - x.off)), iw (x.size - (S.nxt - x.off)), bo x.fin] 61, rMine (.slice qh4 ((seeF S.L x.buf).1.head.length) ch5) ((seeF S.L x.buf).1.head) 5, rMine (.slice qd6 ((seeF S.L x.buf).1.data.length) cd7) ((seeF S.L x.buf).1.data) 5, rBlk b8 [iw ((seeF S.L x.buf).1.refs : Int), Value.slice qh4 ((seeF S.L x.buf).1.head.length) ch5, Value.slice qd6 ((seeF S.L x.buf).1.data.length) cd7] 75]) (fun _z => True) rfl rfl co23 rfl rfl rfl (lt_b rfl) (fun w hI => (trim_any (pool_at hI (i := 1) rfl) x.buf (x.skip + (S.nxt - x.off)) ((((seeF S.L x.buf).1.data.length : Int) - (x.skip + (S.nxt - x.off))) - (x.size - (S.nxt - x.off)))).mono fun e w2 ⟨h1, h2⟩ => ⟨(), h1, hI.poolTo (i := 1) rfl (fun b hb => .inl (hb.elim (fun h => .inr (.inl h)) (fun h => .inr (.inr (.inl h))))) h2, trivial⟩) ?_
          rintro ⟨⟩ _
          refine SL.nil ?_
          refine SC.of_SE ?_
          refine SC.norm [(0, pt d 0), (3, pt b1 0)] [rBlk d [pt p 0, Value.slice q1 S.l.length c1, Value.slice q2 S.late.length c2, iw (S.nxt + (x.size - (S.nxt - x.off))), iw (S.hv + (x.size - (S.nxt - x.off))), iw (max S.nxt x.fin'), bo S.gone] 52, rPool p ab ((ownF ((ownF S.L ((jZ S).buf) (appF (jB S x))).2) x.buf (trimF (x.skip + (S.nxt - x.off)) ((((seeF S.L x.buf).1.data.length : Int) - (x.skip + (S.nxt - x.off))) - (x.size - (S.nxt - x.off))))).2), rRowN (.slice q1 S.l.length c1) (pRows S.l) 61 5, rRowN (.slice q2 S.late.length c2) (pRows S.late) 61 5, rBlk b1 [iw (x.off + (S.nxt - x.off)), iw x.buf, iw (x.skip + (S.nxt - x.off)), iw (x.size - (S.nxt - x.off)), bo x.fin] 61, rMine (.slice qh4 ((seeF S.L x.buf).1.head.length) ch5) ((seeF S.L x.buf).1.head) 5, rMine (.slice qd6 ((seeF S.L x.buf).1.data.length) cd7) ((seeF S.L x.buf).1.data) 5, rBlk b8 [iw ((seeF S.L x.buf).1.refs : Int), Value.slice qh4 ((seeF S.L x.buf).1.head.length) ch5, Value.slice qd6 ((seeF S.L x.buf).1.data.length) cd7] 75] ⟨rfl, rfl, trivial⟩ rfl ?_
          refine SC.seq ?_
          refine SC.region ?_
          refine SL.ru rfl rfl (lt_b rfl) (ru_fieldAddr (o2 := 2) fd61_2 rfl rfl rfl) ?_
          refine SL.store (i := 4) (c' := [iw (x.off + (S.nxt - x.off)), iw x.buf, iw 0, iw (x.size - (S.nxt - x.off)), bo x.fin]) rfl rfl ts3 rfl rfl rfl rfl rfl (lt_b rfl) (.inr hb1) rfl ?_
          refine SL.nil ?_
          refine SC.of_SE ?_
          refine SC.norm [(0, pt d 0), (3, pt b1 0)] [rBlk d [pt p 0, Value.slice q1 S.l.length c1, Value.slice q2 S.late.length c2, iw (S.nxt + (x.size - (S.nxt - x.off))), iw (S.hv + (x.size - (S.nxt - x.off))), iw (max S.nxt x.fin'), bo S.gone] 52, rPool p ab ((ownF ((ownF S.L ((jZ S).buf) (appF (jB S x))).2) x.buf (trimF (x.skip + (S.nxt - x.off)) ((((seeF S.L x.buf).1.data.length : Int) - (x.skip + (S.nxt - x.off))) - (x.size - (S.nxt - x.off))))).2), rRowN (.slice q1 S.l.length c1) (pRows S.l) 61 5, rRowN (.slice q2 S.late.length c2) (pRows S.late) 61 5, rBlk b1 [iw (x.off + (S.nxt - x.off)), iw x.buf, iw 0, iw (x.size - (S.nxt - x.off)), bo x.fin] 61, rMine (.slice qh4 ((seeF S.L x.buf).1.head.length) ch5) ((seeF S.L x.buf).1.head) 5, rMine (.slice qd6 ((seeF S.L x.buf).1.data.length) cd7) ((seeF S.L x.buf).1.data) 5, rBlk b8 [iw ((seeF S.L x.buf).1.refs : Int), Value.slice qh4 ((seeF S.L x.buf).1.head.length) ch5, Value.slice qd6 ((seeF S.L x.buf).1.data.length) cd7] 75] ⟨rfl, rfl, trivial⟩ rfl ?_
          refine SC.region_mk_tailE [(1, 0)] 7 [(6, Mk.row ⟨161, w, QG d p ab q1 c1 q2 c2 S⟩ 1 1 [] (fun _ => [iw (x.off + (S.nxt - x.off)), iw x.buf, iw 0, iw (x.size - (S.nxt - x.off)), bo x.fin]) 61)] [] rfl rfl (by kernel_rfl) (by kernel_rfl) (by kernel_rfl) (by kernel_rfl) ?_
          refine SM.ru rfl rfl rfl (w_all rfl) rfl (lt_b rfl) (ru_move rfl rfl) ?_
          refine SM.ru rfl rfl rfl (w_all rfl) rfl (lt_b rfl) (ru_move rfl rfl) ?_
          refine SM.ru rfl rfl rfl (w_all rfl) rfl (lt_b rfl) (ru_nilCheck rfl rfl) ?_
          refine SM.ru rfl rfl rfl (w_all rfl) rfl (lt_b rfl) (ru_fieldAddr (o2 := 1) fd52_1 rfl rfl rfl) ?_
          refine SM.ru rfl rfl rfl (w_all rfl) rfl (lt_b rfl) (ru_load (i := 0) ts50 rfl rfl rfl rfl) ?_
          refine SM.ru rfl rfl rfl (w_all rfl) rfl (lt_b rfl) (ru_loada (i := 4) (vs := [iw (x.off + (S.nxt - x.off)), iw x.buf, iw 0, iw (x.size - (S.nxt - x.off)), bo x.fin]) ta61 rfl rfl rfl rfl (le_b rfl)) ?_
          refine SM.buildSlice (size := 5) (vals := [(0, Value.agg #[iw (x.off + (S.nxt - x.off)), iw x.buf, iw 0, iw (x.size - (S.nxt - x.off)), bo x.fin])]) (z := [iw 0, iw 0, iw 0, iw 0, bo false]) (cs := [iw (x.off + (S.nxt - x.off)), iw x.buf, iw 0, iw (x.size - (S.nxt - x.off)), bo x.fin]) (dp := []) (csf := fun _ => [iw (x.off + (S.nxt - x.off)), iw x.buf, iw 0, iw (x.size - (S.nxt - x.off)), bo x.fin]) rfl rfl rfl rfl (w_all rfl) rfl (lt_b rfl) rfl rfl rfl rfl Try.underlying50 (by kernel_rfl) rfl rfl (by kernel_rfl) fun b11 hb11 => ?_
          refine SM.nilL (l' := [rBlk d [pt p 0, Value.slice q1 S.l.length c1, Value.slice q2 S.late.length c2, iw (S.nxt + (x.size - (S.nxt - x.off))), iw (S.hv + (x.size - (S.nxt - x.off))), iw (max S.nxt x.fin'), bo S.gone] 52, rPool p ab ((ownF ((ownF S.L ((jZ S).buf) (appF (jB S x))).2) x.buf (trimF (x.skip + (S.nxt - x.off)) ((((seeF S.L x.buf).1.data.length : Int) - (x.skip + (S.nxt - x.off))) - (x.size - (S.nxt - x.off))))).2), rRowN (.slice q1 S.l.length c1) (pRows S.l) 61 5, rRowN (.slice q2 S.late.length c2) (pRows S.late) 61 5, rBlk b1 [iw (x.off + (S.nxt - x.off)), iw x.buf, iw 0, iw (x.size - (S.nxt - x.off)), bo x.fin] 61, rMine (.slice qh4 ((seeF S.L x.buf).1.head.length) ch5) ((seeF S.L x.buf).1.head) 5, rMine (.slice qd6 ((seeF S.L x.buf).1.data.length) cd7) ((seeF S.L x.buf).1.data) 5, rBlk b8 [iw ((seeF S.L x.buf).1.refs : Int), Value.slice qh4 ((seeF S.L x.buf).1.head.length) ch5, Value.slice qd6 ((seeF S.L x.buf).1.data.length) cd7] 75, rBlk b11 [iw (x.off + (S.nxt - x.off)), iw x.buf, iw 0, iw (x.size - (S.nxt - x.off)), bo x.fin] 61]) rfl ?_
          refine SL.append_rowN (ri := 2) (rj := 8) (size := 5) (r := [iw (x.off + (S.nxt - x.off)), iw x.buf, iw 0, iw (x.size - (S.nxt - x.off)), bo x.fin]) (z := Value.agg #[iw 0, iw 0, iw 0, iw 0, bo false]) (bytes := 40) rfl rfl (lt_b rfl) rfl (by decide) Try.underlying50 (by kernel_rfl) rfl rfl rfl rfl rfl rfl rfl (by rw [pr_len]; omega) (by unfold maxLen; rw [pr_len]; omega) (fun b hb => .inl (.inr (.inr (.inr (.inl hb))))) fun q12 c13 hq14 => ?_
          refine SL.ru rfl rfl (lt_b rfl) (ru_nilCheck rfl rfl) ?_
          refine SL.ru rfl rfl (lt_b rfl) (ru_fieldAddr (o2 := 1) fd52_1 rfl rfl rfl) ?_
          refine SL.store (i := 0) (c' := [pt p 0, Value.slice q12 (S.l.length + 1) c13, Value.slice q2 S.late.length c2, iw (S.nxt + (x.size - (S.nxt - x.off))), iw (S.hv + (x.size - (S.nxt - x.off))), iw (max S.nxt x.fin'), bo S.gone]) rfl rfl ts50 rfl rfl rfl rfl rfl (lt_b rfl) (.inl (.inl rfl)) rfl ?_
          refine SL.nil ?_
          refine SE.onlyN ?_
          refine SE.res (.inr rfl) (res0 Try.results31) fun w1 hI => ⟨rfl, ?_⟩
          have ej : jLast S x = max S.nxt x.fin' := by unfold jLast; rw [if_pos h2]
          unfold joinF
          unfold jA
          rw [if_neg (not_t h3), if_pos h9, if_neg (not_t h10)]
          refine ⟨q12, c13, q2, c2, ?_, (fun b hb => hq14 b (by simp only [joinN, List.length_append, List.length_cons, List.length_nil] at hb; exact hb)), fun b hb => .inl (.inr (.inr (.inr (.inr hb)))), hI.2⟩
          have h4 := hI.four
          unfold joinN
          simp only [QR, rQ, ej, List.length_append, List.length_cons, List.length_nil, pRows, List.map_append, List.map_cons, List.map_nil, Nat.zero_add]; exact h4
      · skip
        have h9d := of_decide_eq_false h9
        refine SC.skip ?_
        refine SC.of_SE ?_
        refine SC.norm [(0, pt d 0), (3, pt b1 0), (5, pt b8 0)] [rBlk d [pt p 0, Value.slice q1 S.l.length c1, Value.slice q2 S.late.length c2, iw (S.nxt + (x.size - (S.nxt - x.off))), iw (S.hv + (x.size - (S.nxt - x.off))), iw (max S.nxt x.fin'), bo S.gone] 52, rPool p ab S.L, rRowN (.slice q1 S.l.length c1) (pRows S.l) 61 5, rRowN (.slice q2 S.late.length c2) (pRows S.late) 61 5, rBlk b1 [iw (x.off + (S.nxt - x.off)), iw x.buf, iw (x.skip + (S.nxt - x.off)), iw (x.size - (S.nxt - x.off)), bo x.fin] 61, rMine (.slice qh4 ((seeF S.L x.buf).1.head.length) ch5) ((seeF S.L x.buf).1.head) 5, rMine (.slice qd6 ((seeF S.L x.buf).1.data.length) cd7) ((seeF S.L x.buf).1.data) 5, rBlk b8 [iw ((seeF S.L x.buf).1.refs : Int), Value.slice qh4 ((seeF S.L x.buf).1.head.length) ch5, Value.slice qd6 ((seeF S.L x.buf).1.data.length) cd7] 75] ⟨rfl, rfl, rfl, trivial⟩ rfl ?_
        refine SC.seq ?_
        refine SC.region_tail 17 (by kernel_rfl) (by kernel_rfl) ?_
        refine SQ.ru rfl rfl (lt_b rfl) (ru_move rfl rfl) ?_
        refine SQ.ru rfl rfl (lt_b rfl) (ru_nilCheck rfl rfl) ?_
        refine SQ.ru rfl rfl (lt_b rfl) (ru_fieldAddr (o2 := 0) fd52_0 rfl rfl rfl) ?_
        refine SQ.ru rfl rfl (lt_b rfl) (ru_load (i := 0) ts25 rfl rfl rfl rfl) ?_
        refine SQ.ru rfl rfl (lt_b rfl) (ru_fieldAddr (o2 := 1) fd61_1 rfl rfl rfl) ?_
        refine SQ.ru rfl rfl (lt_b rfl) (ru_load (i := 4) ts3 rfl rfl rfl rfl) ?_
        refine SQ.ru rfl rfl (lt_b rfl) (ru_fieldAddr (o2 := 2) fd61_2 rfl rfl rfl) ?_
        refine SQ.ru rfl rfl (lt_b rfl) (ru_load (i := 4) ts3 rfl rfl rfl rfl) ?_
        refine SQ.ru rfl rfl (lt_b rfl) (ru_fieldAddr (o2 := 2) fd75_2 rfl rfl rfl) ?_
        refine SQ.ru rfl rfl (lt_b rfl) (ru_load (i := 7) ts22 rfl rfl rfl rfl) ?_
        refine SQ.ru rfl rfl (lt_b rfl) (ru_len Try.underlying22 rfl rfl) ?_
        refine SQ.ru rfl rfl (lt_b rfl) (ru_fieldAddr (o2 := 2) fd61_2 rfl rfl rfl) ?_
        refine SQ.ru rfl rfl (lt_b rfl) (ru_load (i := 4) ts3 rfl rfl rfl rfl) ?_
        refine SQ.ru rfl rfl (lt_b rfl) (ru_sub (r := (((seeF S.L x.buf).1.data.length : Int) - (x.skip + (S.nxt - x.off)))) rfl rfl rfl ((by rw [IntKind.wrap_i64]; omega))) ?_
        refine SQ.ru rfl rfl (lt_b rfl) (ru_fieldAddr (o2 := 3) fd61_3 rfl rfl rfl) ?_
        refine SQ.ru rfl rfl (lt_b rfl) (ru_load (i := 4) ts3 rfl rfl rfl rfl) ?_
        refine SQ.ru rfl rfl (lt_b rfl) (ru_sub (r := ((((seeF S.L x.buf).1.data.length : Int) - (x.skip + (S.nxt - x.off))) - (x.size - (S.nxt - x.off)))) rfl rfl rfl ((by rw [IntKind.wrap_i64]; omega))) ?_
        refine SQ.nilL ?_
        refine SL.call (ζ := Unit) (fun _z => iw ((ownF S.L x.buf (trimF (x.skip + (S.nxt - x.off)) ((((seeF S.L x.buf).1.data.length : Int) - (x.skip + (S.nxt - x.off))) - (x.size - (S.nxt - x.off))))).1)) (fun _z => [rBlk d [pt p 0, Value.slice q1 S.l.length c1, Value.slice q2 S.late.length c2, iw (S.nxt + (x.size - (S.nxt - x.off))), iw (S.hv + (x.size - (S.nxt - x.off))), iw (max S.nxt x.fin'), bo S.gone] 52, rPool p ab ((ownF S.L x.buf (trimF (x.skip + (S.nxt - x.off)) ((((seeF S.L x.buf).1.data.length : Int) - (x.skip + (S.nxt - x.off))) - (x.size - (S.nxt - x.off))))).2), rRowN (.slice q1 S.l.length c1) (pRows S.l) 61 5, rRowN (.slice q2 S.late.length c2) (pRows S.late) 61 5, rBlk b1 [iw (x.off + (S.nxt - x.off)), iw x.buf, iw (x.skip + (S.nxt - x.off)), iw (x.size - (S.nxt - x.off)), bo x.fin] 61, rMine (.slice qh4 ((seeF S.L x.buf).1.head.length) ch5) ((seeF S.L x.buf).1.head) 5, rMine (.slice qd6 ((seeF S.L x.buf).1.data.length) cd7) ((seeF S.L x.buf).1.data) 5, rBlk b8 [iw ((seeF S.L x.buf).1.refs : Int), Value.slice qh4 ((seeF S.L x.buf).1.head.length) ch5, Value.slice qd6 ((seeF S.L x.buf).1.data.length) cd7] 75]) (fun _z => True) rfl rfl co23 rfl rfl rfl (lt_b rfl) (fun w hI => (trim_any (pool_at hI (i := 1) rfl) x.buf (x.skip + (S.nxt - x.off)) ((((seeF S.L x.buf).1.data.length : Int) - (x.skip + (S.nxt - x.off))) - (x.size - (S.nxt - x.off)))).mono fun e w2 ⟨h1, h2⟩ => ⟨(), h1, hI.poolTo (i := 1) rfl (fun b hb => .inl (hb.elim (fun h => .inr (.inl h)) (fun h => .inr (.inr (.inl h))))) h2, trivial⟩) ?_
        rintro ⟨⟩ _
        refine SL.nil ?_
        refine SC.of_SE ?_
        refine SC.norm [(0, pt d 0), (3, pt b1 0)] [rBlk d [pt p 0, Value.slice q1 S.l.length c1, Value.slice q2 S.late.length c2, iw (S.nxt + (x.size - (S.nxt - x.off))), iw (S.hv + (x.size - (S.nxt - x.off))), iw (max S.nxt x.fin'), bo S.gone] 52, rPool p ab ((ownF S.L x.buf (trimF (x.skip + (S.nxt - x.off)) ((((seeF S.L x.buf).1.data.length : Int) - (x.skip + (S.nxt - x.off))) - (x.size - (S.nxt - x.off))))).2), rRowN (.slice q1 S.l.length c1) (pRows S.l) 61 5, rRowN (.slice q2 S.late.length c2) (pRows S.late) 61 5, rBlk b1 [iw (x.off + (S.nxt - x.off)), iw x.buf, iw (x.skip + (S.nxt - x.off)), iw (x.size - (S.nxt - x.off)), bo x.fin] 61, rMine (.slice qh4 ((seeF S.L x.buf).1.head.length) ch5) ((seeF S.L x.buf).1.head) 5, rMine (.slice qd6 ((seeF S.L x.buf).1.data.length) cd7) ((seeF S.L x.buf).1.data) 5, rBlk b8 [iw ((seeF S.L x.buf).1.refs : Int), Value.slice qh4 ((seeF S.L x.buf).1.head.length) ch5, Value.slice qd6 ((seeF S.L x.buf).1.data.length) cd7] 75] ⟨rfl, rfl, trivial⟩ rfl ?_
        refine SC.seq ?_
        refine SC.region ?_
        refine SL.ru rfl rfl (lt_b rfl) (ru_fieldAddr (o2 := 2) fd61_2 rfl rfl rfl) ?_
        refine SL.store (i := 4) (c' := [iw (x.off + (S.nxt - x.off)), iw x.buf, iw 0, iw (x.size - (S.nxt - x.off)), bo x.fin]) rfl rfl ts3 rfl rfl rfl rfl rfl (lt_b rfl) (.inr hb1) rfl ?_
        refine SL.nil ?_
        refine SC.of_SE ?_
        refine SC.norm [(0, pt d 0), (3, pt b1 0)] [rBlk d [pt p 0, Value.slice q1 S.l.length c1, Value.slice q2 S.late.length c2, iw (S.nxt + (x.size - (S.nxt - x.off))), iw (S.hv + (x.size - (S.nxt - x.off))), iw (max S.nxt x.fin'), bo S.gone] 52, rPool p ab ((ownF S.L x.buf (trimF (x.skip + (S.nxt - x.off)) ((((seeF S.L x.buf).1.data.length : Int) - (x.skip + (S.nxt - x.off))) - (x.size - (S.nxt - x.off))))).2), rRowN (.slice q1 S.l.length c1) (pRows S.l) 61 5, rRowN (.slice q2 S.late.length c2) (pRows S.late) 61 5, rBlk b1 [iw (x.off + (S.nxt - x.off)), iw x.buf, iw 0, iw (x.size - (S.nxt - x.off)), bo x.fin] 61, rMine (.slice qh4 ((seeF S.L x.buf).1.head.length) ch5) ((seeF S.L x.buf).1.head) 5, rMine (.slice qd6 ((seeF S.L x.buf).1.data.length) cd7) ((seeF S.L x.buf).1.data) 5, rBlk b8 [iw ((seeF S.L x.buf).1.refs : Int), Value.slice qh4 ((seeF S.L x.buf).1.head.length) ch5, Value.slice qd6 ((seeF S.L x.buf).1.data.length) cd7] 75] ⟨rfl, rfl, trivial⟩ rfl ?_
        refine SC.region_mk_tailE [(1, 0)] 7 [(6, Mk.row ⟨161, w, QG d p ab q1 c1 q2 c2 S⟩ 1 1 [] (fun _ => [iw (x.off + (S.nxt - x.off)), iw x.buf, iw 0, iw (x.size - (S.nxt - x.off)), bo x.fin]) 61)] [] rfl rfl (by kernel_rfl) (by kernel_rfl) (by kernel_rfl) (by kernel_rfl) ?_
        refine SM.ru rfl rfl rfl (w_all rfl) rfl (lt_b rfl) (ru_move rfl rfl) ?_
        refine SM.ru rfl rfl rfl (w_all rfl) rfl (lt_b rfl) (ru_move rfl rfl) ?_
        refine SM.ru rfl rfl rfl (w_all rfl) rfl (lt_b rfl) (ru_nilCheck rfl rfl) ?_
        refine SM.ru rfl rfl rfl (w_all rfl) rfl (lt_b rfl) (ru_fieldAddr (o2 := 1) fd52_1 rfl rfl rfl) ?_
        refine SM.ru rfl rfl rfl (w_all rfl) rfl (lt_b rfl) (ru_load (i := 0) ts50 rfl rfl rfl rfl) ?_
        refine SM.ru rfl rfl rfl (w_all rfl) rfl (lt_b rfl) (ru_loada (i := 4) (vs := [iw (x.off + (S.nxt - x.off)), iw x.buf, iw 0, iw (x.size - (S.nxt - x.off)), bo x.fin]) ta61 rfl rfl rfl rfl (le_b rfl)) ?_
        refine SM.buildSlice (size := 5) (vals := [(0, Value.agg #[iw (x.off + (S.nxt - x.off)), iw x.buf, iw 0, iw (x.size - (S.nxt - x.off)), bo x.fin])]) (z := [iw 0, iw 0, iw 0, iw 0, bo false]) (cs := [iw (x.off + (S.nxt - x.off)), iw x.buf, iw 0, iw (x.size - (S.nxt - x.off)), bo x.fin]) (dp := []) (csf := fun _ => [iw (x.off + (S.nxt - x.off)), iw x.buf, iw 0, iw (x.size - (S.nxt - x.off)), bo x.fin]) rfl rfl rfl rfl (w_all rfl) rfl (lt_b rfl) rfl rfl rfl rfl Try.underlying50 (by kernel_rfl) rfl rfl (by kernel_rfl) fun b15 hb15 => ?_
        refine SM.nilL (l' := [rBlk d [pt p 0, Value.slice q1 S.l.length c1, Value.slice q2 S.late.length c2, iw (S.nxt + (x.size - (S.nxt - x.off))), iw (S.hv + (x.size - (S.nxt - x.off))), iw (max S.nxt x.fin'), bo S.gone] 52, rPool p ab ((ownF S.L x.buf (trimF (x.skip + (S.nxt - x.off)) ((((seeF S.L x.buf).1.data.length : Int) - (x.skip + (S.nxt - x.off))) - (x.size - (S.nxt - x.off))))).2), rRowN (.slice q1 S.l.length c1) (pRows S.l) 61 5, rRowN (.slice q2 S.late.length c2) (pRows S.late) 61 5, rBlk b1 [iw (x.off + (S.nxt - x.off)), iw x.buf, iw 0, iw (x.size - (S.nxt - x.off)), bo x.fin] 61, rMine (.slice qh4 ((seeF S.L x.buf).1.head.length) ch5) ((seeF S.L x.buf).1.head) 5, rMine (.slice qd6 ((seeF S.L x.buf).1.data.length) cd7) ((seeF S.L x.buf).1.data) 5, rBlk b8 [iw ((seeF S.L x.buf).1.refs : Int), Value.slice qh4 ((seeF S.L x.buf).1.head.length) ch5, Value.slice qd6 ((seeF S.L x.buf).1.data.length) cd7] 75, rBlk b15 [iw (x.off + (S.nxt - x.off)), iw x.buf, iw 0, iw (x.size - (S.nxt - x.off)), bo x.fin] 61]) rfl ?_
        refine SL.append_rowN (ri := 2) (rj := 8) (size := 5) (r := [iw (x.off + (S.nxt - x.off)), iw x.buf, iw 0, iw (x.size - (S.nxt - x.off)), bo x.fin]) (z := Value.agg #[iw 0, iw 0, iw 0, iw 0, bo false]) (bytes := 40) rfl rfl (lt_b rfl) rfl (by decide) Try.underlying50 (by kernel_rfl) rfl rfl rfl rfl rfl rfl rfl (by rw [pr_len]; omega) (by unfold maxLen; rw [pr_len]; omega) (fun b hb => .inl (.inr (.inr (.inr (.inl hb))))) fun q16 c17 hq18 => ?_
        refine SL.ru rfl rfl (lt_b rfl) (ru_nilCheck rfl rfl) ?_
        refine SL.ru rfl rfl (lt_b rfl) (ru_fieldAddr (o2 := 1) fd52_1 rfl rfl rfl) ?_
        refine SL.store (i := 0) (c' := [pt p 0, Value.slice q16 (S.l.length + 1) c17, Value.slice q2 S.late.length c2, iw (S.nxt + (x.size - (S.nxt - x.off))), iw (S.hv + (x.size - (S.nxt - x.off))), iw (max S.nxt x.fin'), bo S.gone]) rfl rfl ts50 rfl rfl rfl rfl rfl (lt_b rfl) (.inl (.inl rfl)) rfl ?_
        refine SL.nil ?_
        refine SE.onlyN ?_
        refine SE.res (.inr rfl) (res0 Try.results31) fun w1 hI => ⟨rfl, ?_⟩
        have ej : jLast S x = max S.nxt x.fin' := by unfold jLast; rw [if_pos h2]
        unfold joinF
        rw [if_neg (not_t h3), if_neg (not_t h9)]
        refine ⟨q16, c17, q2, c2, ?_, (fun b hb => hq18 b (by simp only [joinN, List.length_append, List.length_cons, List.length_nil] at hb; exact hb)), fun b hb => .inl (.inr (.inr (.inr (.inr hb)))), hI.2⟩
        have h4 := hI.four
        unfold joinN
        simp only [QR, rQ, ej, List.length_append, List.length_cons, List.length_nil, pRows, List.map_append, List.map_cons, List.map_nil, Nat.zero_add]; exact h4
  · skip
    refine SC.skip ?_
    refine SC.of_SE ?_
    refine SC.norm [(0, pt d 0), (3, pt b1 0), (4, iw (S.nxt - x.off))] [rBlk d [pt p 0, Value.slice q1 S.l.length c1, Value.slice q2 S.late.length c2, iw S.nxt, iw S.hv, iw S.last, bo S.gone] 52, rPool p ab S.L, rRowN (.slice q1 S.l.length c1) (pRows S.l) 61 5, rRowN (.slice q2 S.late.length c2) (pRows S.late) 61 5, rBlk b1 [iw x.off, iw x.buf, iw x.skip, iw x.size, bo x.fin] 61] ⟨rfl, rfl, rfl, trivial⟩ rfl ?_
    refine SC.seq ?_
    refine SC.seq ?_
    refine SC.region ?_
    refine SL.ru rfl rfl (lt_b rfl) (ru_move rfl rfl) ?_
    refine SL.ru rfl rfl (lt_b rfl) (ru_fieldAddr (o2 := 3) fd61_3 rfl rfl rfl) ?_
    refine SL.ru rfl rfl (lt_b rfl) (ru_load (i := 4) ts3 rfl rfl rfl rfl) ?_
    refine SL.ru rfl rfl (lt_b rfl) (ru_ge (b := (decide ((x.size : Int) ≤ (S.nxt - x.off)))) rfl rfl rfl rfl) ?_
    refine SL.nil ?_
    refine SC.of_SE ?_
    refine SC.norm [(0, pt d 0), (3, pt b1 0), (4, iw (S.nxt - x.off)), (31, bo (decide ((x.size : Int) ≤ (S.nxt - x.off))))] [rBlk d [pt p 0, Value.slice q1 S.l.length c1, Value.slice q2 S.late.length c2, iw S.nxt, iw S.hv, iw S.last, bo S.gone] 52, rPool p ab S.L, rRowN (.slice q1 S.l.length c1) (pRows S.l) 61 5, rRowN (.slice q2 S.late.length c2) (pRows S.late) 61 5, rBlk b1 [iw x.off, iw x.buf, iw x.skip, iw x.size, bo x.fin] 61] ⟨rfl, rfl, rfl, rfl, trivial⟩ rfl ?_
    refine SC.both (decide ((x.size : Int) ≤ (S.nxt - x.off))) rfl (fun h19 => ?_) (fun h19 => ?_)
    · skip
      have h19d := of_decide_eq_true h19
      refine SC.seq ?_
      refine SC.region_tail 6 (by kernel_rfl) (by kernel_rfl) ?_
      refine SQ.ru rfl rfl (lt_b rfl) (ru_move rfl rfl) ?_
      refine SQ.ru rfl rfl (lt_b rfl) (ru_nilCheck rfl rfl) ?_
      refine SQ.ru rfl rfl (lt_b rfl) (ru_fieldAddr (o2 := 0) fd52_0 rfl rfl rfl) ?_
      refine SQ.ru rfl rfl (lt_b rfl) (ru_load (i := 0) ts25 rfl rfl rfl rfl) ?_
      refine SQ.ru rfl rfl (lt_b rfl) (ru_fieldAddr (o2 := 1) fd61_1 rfl rfl rfl) ?_
      refine SQ.ru rfl rfl (lt_b rfl) (ru_load (i := 4) ts3 rfl rfl rfl rfl) ?_
      refine SQ.nilL ?_
      refine SL.call (ζ := Unit) (fun _z => iw ((freeF S.L x.buf).1)) (fun _z => [rBlk d [pt p 0, Value.slice q1 S.l.length c1, Value.slice q2 S.late.length c2, iw S.nxt, iw S.hv, iw S.last, bo S.gone] 52, rPool p ab ((freeF S.L x.buf).2), rRowN (.slice q1 S.l.length c1) (pRows S.l) 61 5, rRowN (.slice q2 S.late.length c2) (pRows S.late) 61 5, rBlk b1 [iw x.off, iw x.buf, iw x.skip, iw x.size, bo x.fin] 61]) (fun _z => True) rfl rfl co21 rfl rfl rfl (lt_b rfl) (fun w hI => (free_any (pool_at hI (i := 1) rfl) x.buf (lone.few)).mono fun e w2 ⟨h1, h2⟩ => ⟨(), h1, hI.poolTo (i := 1) rfl (fun b hb => .inl (hb.elim (fun h => .inr (.inl h)) (fun h => .inr (.inr (.inl h))))) h2, trivial⟩) ?_
      rintro ⟨⟩ _
      refine SL.nil ?_
      refine SC.of_SE ?_
      refine SC.norm [(0, pt d 0), (3, pt b1 0), (4, iw (S.nxt - x.off))] [rBlk d [pt p 0, Value.slice q1 S.l.length c1, Value.slice q2 S.late.length c2, iw S.nxt, iw S.hv, iw S.last, bo S.gone] 52, rPool p ab ((freeF S.L x.buf).2), rRowN (.slice q1 S.l.length c1) (pRows S.l) 61 5, rRowN (.slice q2 S.late.length c2) (pRows S.late) 61 5, rBlk b1 [iw x.off, iw x.buf, iw x.skip, iw x.size, bo x.fin] 61] ⟨rfl, rfl, rfl, trivial⟩ rfl ?_
      refine SC.ret ?_
      refine SE.passr ?_
      refine SE.res (.inl rfl) (res0 Try.results31) fun w1 hI => ⟨rfl, ?_⟩
      have ej : jLast S x = S.last := by unfold jLast; rw [if_neg (not_t h2)]
      unfold joinF
      rw [if_pos h19]
      refine ⟨q1, c1, q2, c2, ?_, (fun b hb => .inl (.inr (.inr (.inr (.inl hb))))), fun b hb => .inl (.inr (.inr (.inr (.inr hb)))), hI.2⟩
      rw [ej]; exact hI.four
    · skip
      have h19d := of_decide_eq_false h19
      refine SC.skip ?_
      refine SC.of_SE ?_
      refine SC.norm [(0, pt d 0), (3, pt b1 0), (4, iw (S.nxt - x.off))] [rBlk d [pt p 0, Value.slice q1 S.l.length c1, Value.slice q2 S.late.length c2, iw S.nxt, iw S.hv, iw S.last, bo S.gone] 52, rPool p ab S.L, rRowN (.slice q1 S.l.length c1) (pRows S.l) 61 5, rRowN (.slice q2 S.late.length c2) (pRows S.late) 61 5, rBlk b1 [iw x.off, iw x.buf, iw x.skip, iw x.size, bo x.fin] 61] ⟨rfl, rfl, rfl, trivial⟩ rfl ?_
      refine SC.seq ?_
      refine SC.region ?_
      refine SL.ru rfl rfl (lt_b rfl) (ru_fieldAddr (o2 := 0) fd61_0 rfl rfl rfl) ?_
      refine SL.ru rfl rfl (lt_b rfl) (ru_load (i := 4) ts3 rfl rfl rfl rfl) ?_
      refine SL.ru rfl rfl (lt_b rfl) (ru_move rfl rfl) ?_
      refine SL.ru rfl rfl (lt_b rfl) (ru_add (r := (x.off + (S.nxt - x.off))) rfl rfl rfl ((by rw [IntKind.wrap_i64]; omega))) ?_
      refine SL.ru rfl rfl (lt_b rfl) (ru_fieldAddr (o2 := 2) fd61_2 rfl rfl rfl) ?_
      refine SL.ru rfl rfl (lt_b rfl) (ru_load (i := 4) ts3 rfl rfl rfl rfl) ?_
      refine SL.ru rfl rfl (lt_b rfl) (ru_move rfl rfl) ?_
      refine SL.ru rfl rfl (lt_b rfl) (ru_add (r := (x.skip + (S.nxt - x.off))) rfl rfl rfl ((by rw [IntKind.wrap_i64]; omega))) ?_
      refine SL.ru rfl rfl (lt_b rfl) (ru_fieldAddr (o2 := 3) fd61_3 rfl rfl rfl) ?_
      refine SL.ru rfl rfl (lt_b rfl) (ru_load (i := 4) ts3 rfl rfl rfl rfl) ?_
      refine SL.ru rfl rfl (lt_b rfl) (ru_move rfl rfl) ?_
      refine SL.ru rfl rfl (lt_b rfl) (ru_sub (r := (x.size - (S.nxt - x.off))) rfl rfl rfl ((by rw [IntKind.wrap_i64]; omega))) ?_
      refine SL.ru rfl rfl (lt_b rfl) (ru_fieldAddr (o2 := 0) fd61_0 rfl rfl rfl) ?_
      refine SL.store (i := 4) (c' := [iw (x.off + (S.nxt - x.off)), iw x.buf, iw x.skip, iw x.size, bo x.fin]) rfl rfl ts3 rfl rfl rfl rfl rfl (lt_b rfl) (.inr hb1) rfl ?_
      refine SL.ru rfl rfl (lt_b rfl) (ru_fieldAddr (o2 := 2) fd61_2 rfl rfl rfl) ?_
      refine SL.store (i := 4) (c' := [iw (x.off + (S.nxt - x.off)), iw x.buf, iw (x.skip + (S.nxt - x.off)), iw x.size, bo x.fin]) rfl rfl ts3 rfl rfl rfl rfl rfl (lt_b rfl) (.inr hb1) rfl ?_
      refine SL.ru rfl rfl (lt_b rfl) (ru_fieldAddr (o2 := 3) fd61_3 rfl rfl rfl) ?_
      refine SL.store (i := 4) (c' := [iw (x.off + (S.nxt - x.off)), iw x.buf, iw (x.skip + (S.nxt - x.off)), iw (x.size - (S.nxt - x.off)), bo x.fin]) rfl rfl ts3 rfl rfl rfl rfl rfl (lt_b rfl) (.inr hb1) rfl ?_
      refine SL.nil ?_
      refine SC.of_SE ?_
      refine SC.norm [(0, pt d 0), (3, pt b1 0)] [rBlk d [pt p 0, Value.slice q1 S.l.length c1, Value.slice q2 S.late.length c2, iw S.nxt, iw S.hv, iw S.last, bo S.gone] 52, rPool p ab S.L, rRowN (.slice q1 S.l.length c1) (pRows S.l) 61 5, rRowN (.slice q2 S.late.length c2) (pRows S.late) 61 5, rBlk b1 [iw (x.off + (S.nxt - x.off)), iw x.buf, iw (x.skip + (S.nxt - x.off)), iw (x.size - (S.nxt - x.off)), bo x.fin] 61] ⟨rfl, rfl, trivial⟩ rfl ?_
      refine SC.seq ?_
      refine SC.region_tail 9 (by kernel_rfl) (by kernel_rfl) ?_
      refine SQ.ru rfl rfl (lt_b rfl) (ru_move rfl rfl) ?_
      refine SQ.ru rfl rfl (lt_b rfl) (ru_nilCheck rfl rfl) ?_
      refine SQ.ru rfl rfl (lt_b rfl) (ru_fieldAddr (o2 := 3) fd52_3 rfl rfl rfl) ?_
      refine SQ.ru rfl rfl (lt_b rfl) (ru_load (i := 0) ts3 rfl rfl rfl rfl) ?_
      refine SQ.ru rfl rfl (lt_b rfl) (ru_fieldAddr (o2 := 3) fd61_3 rfl rfl rfl) ?_
      refine SQ.ru rfl rfl (lt_b rfl) (ru_load (i := 4) ts3 rfl rfl rfl rfl) ?_
      refine SQ.ru rfl rfl (lt_b rfl) (ru_add (r := (S.nxt + (x.size - (S.nxt - x.off)))) rfl rfl rfl ((by rw [IntKind.wrap_i64]; omega))) ?_
      refine SQ.ru rfl rfl (lt_b rfl) (ru_nilCheck rfl rfl) ?_
      refine SQ.ru rfl rfl (lt_b rfl) (ru_fieldAddr (o2 := 3) fd52_3 rfl rfl rfl) ?_
      refine SQ.nilL ?_
      refine SL.store (i := 0) (c' := [pt p 0, Value.slice q1 S.l.length c1, Value.slice q2 S.late.length c2, iw (S.nxt + (x.size - (S.nxt - x.off))), iw S.hv, iw S.last, bo S.gone]) rfl rfl ts3 rfl rfl rfl rfl rfl (lt_b rfl) (.inl (.inl rfl)) rfl ?_
      refine SL.nil ?_
      refine SC.of_SE ?_
      refine SC.norm [(0, pt d 0), (3, pt b1 0)] [rBlk d [pt p 0, Value.slice q1 S.l.length c1, Value.slice q2 S.late.length c2, iw (S.nxt + (x.size - (S.nxt - x.off))), iw S.hv, iw S.last, bo S.gone] 52, rPool p ab S.L, rRowN (.slice q1 S.l.length c1) (pRows S.l) 61 5, rRowN (.slice q2 S.late.length c2) (pRows S.late) 61 5, rBlk b1 [iw (x.off + (S.nxt - x.off)), iw x.buf, iw (x.skip + (S.nxt - x.off)), iw (x.size - (S.nxt - x.off)), bo x.fin] 61] ⟨rfl, rfl, trivial⟩ rfl ?_
      refine SC.seq ?_
      refine SC.region_tail 9 (by kernel_rfl) (by kernel_rfl) ?_
      refine SQ.ru rfl rfl (lt_b rfl) (ru_move rfl rfl) ?_
      refine SQ.ru rfl rfl (lt_b rfl) (ru_nilCheck rfl rfl) ?_
      refine SQ.ru rfl rfl (lt_b rfl) (ru_fieldAddr (o2 := 4) fd52_4 rfl rfl rfl) ?_
      refine SQ.ru rfl rfl (lt_b rfl) (ru_load (i := 0) ts3 rfl rfl rfl rfl) ?_
      refine SQ.ru rfl rfl (lt_b rfl) (ru_fieldAddr (o2 := 3) fd61_3 rfl rfl rfl) ?_
      refine SQ.ru rfl rfl (lt_b rfl) (ru_load (i := 4) ts3 rfl rfl rfl rfl) ?_
      refine SQ.ru rfl rfl (lt_b rfl) (ru_add (r := (S.hv + (x.size - (S.nxt - x.off)))) rfl rfl rfl ((by rw [IntKind.wrap_i64]; omega))) ?_
      refine SQ.ru rfl rfl (lt_b rfl) (ru_nilCheck rfl rfl) ?_
      refine SQ.ru rfl rfl (lt_b rfl) (ru_fieldAddr (o2 := 4) fd52_4 rfl rfl rfl) ?_
      refine SQ.nilL ?_
      refine SL.store (i := 0) (c' := [pt p 0, Value.slice q1 S.l.length c1, Value.slice q2 S.late.length c2, iw (S.nxt + (x.size - (S.nxt - x.off))), iw (S.hv + (x.size - (S.nxt - x.off))), iw S.last, bo S.gone]) rfl rfl ts3 rfl rfl rfl rfl rfl (lt_b rfl) (.inl (.inl rfl)) rfl ?_
      refine SL.nil ?_
      refine SC.of_SE ?_
      refine SC.norm [(0, pt d 0), (3, pt b1 0)] [rBlk d [pt p 0, Value.slice q1 S.l.length c1, Value.slice q2 S.late.length c2, iw (S.nxt + (x.size - (S.nxt - x.off))), iw (S.hv + (x.size - (S.nxt - x.off))), iw S.last, bo S.gone] 52, rPool p ab S.L, rRowN (.slice q1 S.l.length c1) (pRows S.l) 61 5, rRowN (.slice q2 S.late.length c2) (pRows S.late) 61 5, rBlk b1 [iw (x.off + (S.nxt - x.off)), iw x.buf, iw (x.skip + (S.nxt - x.off)), iw (x.size - (S.nxt - x.off)), bo x.fin] 61] ⟨rfl, rfl, trivial⟩ rfl ?_
      refine SC.seq ?_
      refine SC.region_mk_tailE [(11, 9)] 11 [(6, Mk.see ⟨161, w, QG d p ab q1 c1 q2 c2 S⟩ (seeF S.L x.buf).1.refs (seeF S.L x.buf).1.head (seeF S.L x.buf).1.data (seeF S.L x.buf).2 5), (10, Mk.blk ⟨161, w, QG d p ab q1 c1 q2 c2 S⟩ [iw 0, Value.slice none 0 0, Value.slice none 0 0] 75)] [(7, [6]), (8, [6]), (9, [6])] rfl rfl (by kernel_rfl) (by kernel_rfl) (by kernel_rfl) (by kernel_rfl) ?_
      refine SM.ru rfl rfl rfl (w_all rfl) rfl (lt_b rfl) (ru_move rfl rfl) ?_
      refine SM.ru rfl rfl rfl (w_all rfl) rfl (lt_b rfl) (ru_nilCheck rfl rfl) ?_
      refine SM.ru rfl rfl rfl (w_all rfl) rfl (lt_b rfl) (ru_fieldAddr (o2 := 0) fd52_0 rfl rfl rfl) ?_
      refine SM.ru rfl rfl rfl (w_all rfl) rfl (lt_b rfl) (ru_load (i := 0) ts25 rfl rfl rfl rfl) ?_
      refine SM.ru rfl rfl rfl (w_all rfl) rfl (lt_b rfl) (ru_fieldAddr (o2 := 1) fd61_1 rfl rfl rfl) ?_
      refine SM.ru rfl rfl rfl (w_all rfl) rfl (lt_b rfl) (ru_load (i := 4) ts3 rfl rfl rfl rfl) ?_
      refine SM.mkcall (s := Mk.see ⟨161, w, QG d p ab q1 c1 q2 c2 S⟩ (seeF S.L x.buf).1.refs (seeF S.L x.buf).1.head (seeF S.L x.buf).1.data (seeF S.L x.buf).2 5) rfl rfl rfl rfl (w_all rfl) rfl (lt_b rfl) rfl rfl rfl co29 rfl rfl (fun l' w hI => (see_any (hI.1.get (i := 1) rfl) x.buf).mono fun e w2 ⟨qh, ch, qd, cd, h1, h2, h3, h4, h5, h6, h7⟩ => ⟨_, h1, ⟨qh, ch, qd, cd, fun b hb => Nat.le_trans hI.2.size (h4 b hb), fun b hb => Nat.le_trans hI.2.size (h5 b hb), rfl⟩, hI.saw2 h2 h3 h4 h5 h6 h7⟩) ?_
      rintro _ ⟨qh20, ch21, qd22, cd23, hqh20, hqd22, rfl⟩
      refine SM.ru rfl rfl rfl (w_all rfl) rfl (lt_b rfl) (ru_move rfl rfl) ?_
      refine SM.ru rfl rfl rfl (w_all rfl) rfl (lt_b rfl) (ru_extract rfl rfl rfl) ?_
      refine SM.ru rfl rfl rfl (w_all rfl) rfl (lt_b rfl) (ru_extract rfl rfl rfl) ?_
      refine SM.alloca rfl rfl rfl rfl (w_all rfl) rfl (lt_b rfl) rfl ta75 rfl fun b24 hb24 => ?_
      refine SM.nilL (l' := [rBlk d [pt p 0, Value.slice q1 S.l.length c1, Value.slice q2 S.late.length c2, iw (S.nxt + (x.size - (S.nxt - x.off))), iw (S.hv + (x.size - (S.nxt - x.off))), iw S.last, bo S.gone] 52, rPool p ab S.L, rRowN (.slice q1 S.l.length c1) (pRows S.l) 61 5, rRowN (.slice q2 S.late.length c2) (pRows S.late) 61 5, rBlk b1 [iw (x.off + (S.nxt - x.off)), iw x.buf, iw (x.skip + (S.nxt - x.off)), iw (x.size - (S.nxt - x.off)), bo x.fin] 61, rMine (.slice qh20 ((seeF S.L x.buf).1.head.length) ch21) ((seeF S.L x.buf).1.head) 5, rMine (.slice qd22 ((seeF S.L x.buf).1.data.length) cd23) ((seeF S.L x.buf).1.data) 5, rBlk b24 [iw 0, Value.slice none 0 0, Value.slice none 0 0] 75]) rfl ?_
      refine SL.storea (i := 7) (vs := [iw ((seeF S.L x.buf).1.refs : Int), Value.slice qh20 ((seeF S.L x.buf).1.head.length) ch21, Value.slice qd22 ((seeF S.L x.buf).1.data.length) cd23]) (c' := [iw ((seeF S.L x.buf).1.refs : Int), Value.slice qh20 ((seeF S.L x.buf).1.head.length) ch21, Value.slice qd22 ((seeF S.L x.buf).1.data.length) cd23]) rfl rfl ta75 rfl rfl rfl rfl rfl rfl (le_b rfl) (.inr hb24) rfl ?_
      refine SL.ru rfl rfl (lt_b rfl) (ru_assign rfl rfl) ?_
      refine SL.nil ?_
      refine SE.onlyN ?_
      refine SF.fact (fun w hI => own_le (hI.1.get (i := 6) rfl)) fun hcd => ?_
      refine SC.of_SE ?_
      refine SC.norm [(0, pt d 0), (3, pt b1 0), (5, pt b24 0)] [rBlk d [pt p 0, Value.slice q1 S.l.length c1, Value.slice q2 S.late.length c2, iw (S.nxt + (x.size - (S.nxt - x.off))), iw (S.hv + (x.size - (S.nxt - x.off))), iw S.last, bo S.gone] 52, rPool p ab S.L, rRowN (.slice q1 S.l.length c1) (pRows S.l) 61 5, rRowN (.slice q2 S.late.length c2) (pRows S.late) 61 5, rBlk b1 [iw (x.off + (S.nxt - x.off)), iw x.buf, iw (x.skip + (S.nxt - x.off)), iw (x.size - (S.nxt - x.off)), bo x.fin] 61, rMine (.slice qh20 ((seeF S.L x.buf).1.head.length) ch21) ((seeF S.L x.buf).1.head) 5, rMine (.slice qd22 ((seeF S.L x.buf).1.data.length) cd23) ((seeF S.L x.buf).1.data) 5, rBlk b24 [iw ((seeF S.L x.buf).1.refs : Int), Value.slice qh20 ((seeF S.L x.buf).1.head.length) ch21, Value.slice qd22 ((seeF S.L x.buf).1.data.length) cd23] 75] ⟨rfl, rfl, rfl, trivial⟩ rfl ?_
      refine SC.seq ?_
      refine SC.seq ?_
      refine SC.region ?_
      refine SL.ru rfl rfl (lt_b rfl) (ru_move rfl rfl) ?_
      refine SL.ru rfl rfl (lt_b rfl) (ru_nilCheck rfl rfl) ?_
      refine SL.ru rfl rfl (lt_b rfl) (ru_fieldAddr (o2 := 1) fd52_1 rfl rfl rfl) ?_
      refine SL.ru rfl rfl (lt_b rfl) (ru_load (i := 0) ts50 rfl rfl rfl rfl) ?_
      refine SL.ru rfl rfl (lt_b rfl) (ru_len Try.underlying50 rfl rfl) ?_
      refine SL.ru rfl rfl (lt_b rfl) (ru_assign rfl rfl) ?_
      refine SL.nil ?_
      refine SC.of_SE ?_
      refine SC.norm [(0, pt d 0), (3, pt b1 0), (5, pt b24 0), (7, iw (S.l.length : Int))] [rBlk d [pt p 0, Value.slice q1 S.l.length c1, Value.slice q2 S.late.length c2, iw (S.nxt + (x.size - (S.nxt - x.off))), iw (S.hv + (x.size - (S.nxt - x.off))), iw S.last, bo S.gone] 52, rPool p ab S.L, rRowN (.slice q1 S.l.length c1) (pRows S.l) 61 5, rRowN (.slice q2 S.late.length c2) (pRows S.late) 61 5, rBlk b1 [iw (x.off + (S.nxt - x.off)), iw x.buf, iw (x.skip + (S.nxt - x.off)), iw (x.size - (S.nxt - x.off)), bo x.fin] 61, rMine (.slice qh20 ((seeF S.L x.buf).1.head.length) ch21) ((seeF S.L x.buf).1.head) 5, rMine (.slice qd22 ((seeF S.L x.buf).1.data.length) cd23) ((seeF S.L x.buf).1.data) 5, rBlk b24 [iw ((seeF S.L x.buf).1.refs : Int), Value.slice qh20 ((seeF S.L x.buf).1.head.length) ch21, Value.slice qd22 ((seeF S.L x.buf).1.data.length) cd23] 75] ⟨rfl, rfl, rfl, rfl, trivial⟩ rfl ?_
      refine SC.seq ?_
      refine SC.region ?_
      refine SL.ru rfl rfl (lt_b rfl) (ru_move rfl rfl) ?_
      refine SL.ru rfl rfl (lt_b rfl) (ru_gt (b := (decide ((0 : Int) < (S.l.length : Int)))) rfl rfl rfl rfl) ?_
      refine SL.nil ?_
      refine SC.of_SE ?_
      refine SC.norm [(0, pt d 0), (3, pt b1 0), (5, pt b24 0), (7, iw (S.l.length : Int)), (88, bo (decide ((0 : Int) < (S.l.length : Int))))] [rBlk d [pt p 0, Value.slice q1 S.l.length c1, Value.slice q2 S.late.length c2, iw (S.nxt + (x.size - (S.nxt - x.off))), iw (S.hv + (x.size - (S.nxt - x.off))), iw S.last, bo S.gone] 52, rPool p ab S.L, rRowN (.slice q1 S.l.length c1) (pRows S.l) 61 5, rRowN (.slice q2 S.late.length c2) (pRows S.late) 61 5, rBlk b1 [iw (x.off + (S.nxt - x.off)), iw x.buf, iw (x.skip + (S.nxt - x.off)), iw (x.size - (S.nxt - x.off)), bo x.fin] 61, rMine (.slice qh20 ((seeF S.L x.buf).1.head.length) ch21) ((seeF S.L x.buf).1.head) 5, rMine (.slice qd22 ((seeF S.L x.buf).1.data.length) cd23) ((seeF S.L x.buf).1.data) 5, rBlk b24 [iw ((seeF S.L x.buf).1.refs : Int), Value.slice qh20 ((seeF S.L x.buf).1.head.length) ch21, Value.slice qd22 ((seeF S.L x.buf).1.data.length) cd23] 75] ⟨rfl, rfl, rfl, rfl, rfl, trivial⟩ rfl ?_
      refine SC.both (decide ((0 : Int) < (S.l.length : Int))) rfl (fun h25 => ?_) (fun h25 => ?_)
      · skip
        have h25d := of_decide_eq_true h25
        have hzz := zs _ (List.mem_of_getElem? (jZ_at (S := S) (by omega)))
        refine SC.seq ?_
        refine SC.region ?_
        refine SL.ru rfl rfl (lt_b rfl) (ru_move rfl rfl) ?_
        refine SL.ru rfl rfl (lt_b rfl) (ru_nilCheck rfl rfl) ?_
        refine SL.ru rfl rfl (lt_b rfl) (ru_fieldAddr (o2 := 1) fd52_1 rfl rfl rfl) ?_
        refine SL.ru rfl rfl (lt_b rfl) (ru_load (i := 0) ts50 rfl rfl rfl rfl) ?_
        refine SL.ru rfl rfl (lt_b rfl) (ru_move rfl rfl) ?_
        refine SL.ru rfl rfl (lt_b rfl) (ru_sub (r := ((S.l.length : Int) - 1)) rfl rfl rfl ((by rw [IntKind.wrap_i64]; omega))) ?_
        refine SL.ru rfl rfl (lt_b rfl) (ru_index_rowN (ri := 2) si50 rfl rfl rfl rfl (by omega) (by omega)) ?_
        refine SL.ru rfl rfl (lt_b rfl) (ru_assign rfl rfl) ?_
        refine SL.nil ?_
        refine SC.of_SE ?_
        refine SC.norm [(0, pt d 0), (3, pt b1 0), (5, pt b24 0), (8, Value.pointer (some ⟨rowB q1, ((S.l.length : Int) - 1).toNat * 5, none⟩))] [rBlk d [pt p 0, Value.slice q1 S.l.length c1, Value.slice q2 S.late.length c2, iw (S.nxt + (x.size - (S.nxt - x.off))), iw (S.hv + (x.size - (S.nxt - x.off))), iw S.last, bo S.gone] 52, rPool p ab S.L, rRowN (.slice q1 S.l.length c1) (pRows S.l) 61 5, rRowN (.slice q2 S.late.length c2) (pRows S.late) 61 5, rBlk b1 [iw (x.off + (S.nxt - x.off)), iw x.buf, iw (x.skip + (S.nxt - x.off)), iw (x.size - (S.nxt - x.off)), bo x.fin] 61, rMine (.slice qh20 ((seeF S.L x.buf).1.head.length) ch21) ((seeF S.L x.buf).1.head) 5, rMine (.slice qd22 ((seeF S.L x.buf).1.data.length) cd23) ((seeF S.L x.buf).1.data) 5, rBlk b24 [iw ((seeF S.L x.buf).1.refs : Int), Value.slice qh20 ((seeF S.L x.buf).1.head.length) ch21, Value.slice qd22 ((seeF S.L x.buf).1.data.length) cd23] 75] ⟨rfl, rfl, rfl, rfl, trivial⟩ rfl ?_
        refine SC.seq ?_
        refine SC.region_tail 18 (by kernel_rfl) (by kernel_rfl) ?_
        refine SQ.ru rfl rfl (lt_b rfl) (ru_move rfl rfl) ?_
        refine SQ.ru rfl rfl (lt_b rfl) (ru_nilCheck rfl rfl) ?_
        refine SQ.ru rfl rfl (lt_b rfl) (ru_fieldAddr (o2 := 0) fd52_0 rfl rfl rfl) ?_
        refine SQ.ru rfl rfl (lt_b rfl) (ru_load (i := 0) ts25 rfl rfl rfl rfl) ?_
        refine SQ.ru rfl rfl (lt_b rfl) (ru_move rfl rfl) ?_
        refine SQ.ru rfl rfl (lt_b rfl) (ru_nilCheck rfl rfl) ?_
        refine SQ.ru rfl rfl (lt_b rfl) (ru_fieldAddr (o2 := ((S.l.length : Int) - 1).toNat * 5 + 1) fd61_1 rfl rfl rfl) ?_
        refine SQ.ru rfl rfl (lt_b rfl) (ru_load_rowN (ri := 2) (i := ((S.l.length : Int) - 1).toNat) (k := 1) (r := [iw ((jZ S).off), iw ((jZ S).buf), iw ((jZ S).skip), iw ((jZ S).size), bo ((jZ S).fin)]) ts3 rfl rfl rfl (by show (S.l.map Pc.row)[_]? = _; rw [List.getElem?_map, show ((S.l.length : Int) - 1).toNat = S.l.length - 1 by omega, jZ_at (by omega)]; rfl) (by decide) rfl) ?_
        refine SQ.ru rfl rfl (lt_b rfl) (ru_fieldAddr (o2 := 2) fd75_2 rfl rfl rfl) ?_
        refine SQ.ru rfl rfl (lt_b rfl) (ru_load (i := 7) ts22 rfl rfl rfl rfl) ?_
        refine SQ.ru rfl rfl (lt_b rfl) (ru_fieldAddr (o2 := 2) fd61_2 rfl rfl rfl) ?_
        refine SQ.ru rfl rfl (lt_b rfl) (ru_load (i := 4) ts3 rfl rfl rfl rfl) ?_
        refine SQ.ru rfl rfl (lt_b rfl) (ru_fieldAddr (o2 := 2) fd61_2 rfl rfl rfl) ?_
        refine SQ.ru rfl rfl (lt_b rfl) (ru_load (i := 4) ts3 rfl rfl rfl rfl) ?_
        refine SQ.ru rfl rfl (lt_b rfl) (ru_fieldAddr (o2 := 3) fd61_3 rfl rfl rfl) ?_
        refine SQ.ru rfl rfl (lt_b rfl) (ru_load (i := 4) ts3 rfl rfl rfl rfl) ?_
        refine SQ.ru rfl rfl (lt_b rfl) (ru_add (r := ((x.skip + (S.nxt - x.off)) + (x.size - (S.nxt - x.off)))) rfl rfl rfl ((by rw [IntKind.wrap_i64]; omega))) ?_
        refine SQ.ru rfl rfl (lt_b rfl) (ru_sliceV (size := 1) (l0 := (x.skip + (S.nxt - x.off)).toNat) (h0 := (x.skip + (S.nxt - x.off) + (x.size - (S.nxt - x.off))).toNat) (m0 := cd23) (v := Value.slice (if cd23 = (x.skip + (S.nxt - x.off)).toNat then qd22 else qd22.map (·.add ((x.skip + (S.nxt - x.off)).toNat * 1))) ((x.skip + (S.nxt - x.off) + (x.size - (S.nxt - x.off))).toNat - (x.skip + (S.nxt - x.off)).toNat) (cd23 - (x.skip + (S.nxt - x.off)).toNat)) rfl si22 rfl rfl rfl (show some (iw (x.skip + (S.nxt - x.off) + (x.size - (S.nxt - x.off)))) = some (iw (((x.skip + (S.nxt - x.off) + (x.size - (S.nxt - x.off))).toNat : Nat) : Int)) by rw [Int.toNat_of_nonneg (by omega)]) (show some (iw (x.skip + (S.nxt - x.off))) = some (iw (((x.skip + (S.nxt - x.off)).toNat : Nat) : Int)) by rw [Int.toNat_of_nonneg (by omega)]) (by simp) (Nat.le_refl _) (by omega) (by omega)) ?_
        refine SQ.nilL ?_
        refine SL.call (ζ := Unit) (fun _z => iw ((ownF S.L ((jZ S).buf) (appF (jB S x))).1)) (fun _z => [rBlk d [pt p 0, Value.slice q1 S.l.length c1, Value.slice q2 S.late.length c2, iw (S.nxt + (x.size - (S.nxt - x.off))), iw (S.hv + (x.size - (S.nxt - x.off))), iw S.last, bo S.gone] 52, rPool p ab ((ownF S.L ((jZ S).buf) (appF (jB S x))).2), rRowN (.slice q1 S.l.length c1) (pRows S.l) 61 5, rRowN (.slice q2 S.late.length c2) (pRows S.late) 61 5, rBlk b1 [iw (x.off + (S.nxt - x.off)), iw x.buf, iw (x.skip + (S.nxt - x.off)), iw (x.size - (S.nxt - x.off)), bo x.fin] 61, rMine (.slice qh20 ((seeF S.L x.buf).1.head.length) ch21) ((seeF S.L x.buf).1.head) 5, rMine (.slice qd22 ((seeF S.L x.buf).1.data.length) cd23) ((seeF S.L x.buf).1.data) 5, rBlk b24 [iw ((seeF S.L x.buf).1.refs : Int), Value.slice qh20 ((seeF S.L x.buf).1.head.length) ch21, Value.slice qd22 ((seeF S.L x.buf).1.data.length) cd23] 75]) (fun _z => True) rfl rfl co34 rfl rfl rfl (lt_b rfl) (fun w hI => (app_any (pool_at hI (i := 1) rfl) ((jZ S).buf) (jb_bytes (bytes_cut (x.skip + (S.nxt - x.off)).toNat (x.skip + (S.nxt - x.off) + (x.size - (S.nxt - x.off))).toNat (hI.1.get (i := 6) rfl) (by omega) (by omega) (by omega)) (by omega)) (cutIn hI (j := 6) (i := 1) rfl rfl (by decide))).mono fun e w2 ⟨h1, h2⟩ => ⟨(), h1, hI.poolTo (i := 1) rfl (fun b hb => .inl (hb.elim (fun h => .inr (.inl h)) (fun h => .inr (.inr (.inl h))))) h2, trivial⟩) ?_
        rintro ⟨⟩ _
        refine SL.ru rfl rfl (lt_b rfl) (ru_eq (b := ((((ownF S.L ((jZ S).buf) (appF (jB S x))).1) : Int) == 0)) rfl rfl rfl rfl) ?_
        refine SL.nil ?_
        refine SC.of_SE ?_
        refine SC.norm [(0, pt d 0), (3, pt b1 0), (5, pt b24 0), (8, Value.pointer (some ⟨rowB q1, ((S.l.length : Int) - 1).toNat * 5, none⟩)), (115, bo ((((ownF S.L ((jZ S).buf) (appF (jB S x))).1) : Int) == 0))] [rBlk d [pt p 0, Value.slice q1 S.l.length c1, Value.slice q2 S.late.length c2, iw (S.nxt + (x.size - (S.nxt - x.off))), iw (S.hv + (x.size - (S.nxt - x.off))), iw S.last, bo S.gone] 52, rPool p ab ((ownF S.L ((jZ S).buf) (appF (jB S x))).2), rRowN (.slice q1 S.l.length c1) (pRows S.l) 61 5, rRowN (.slice q2 S.late.length c2) (pRows S.late) 61 5, rBlk b1 [iw (x.off + (S.nxt - x.off)), iw x.buf, iw (x.skip + (S.nxt - x.off)), iw (x.size - (S.nxt - x.off)), bo x.fin] 61, rMine (.slice qh20 ((seeF S.L x.buf).1.head.length) ch21) ((seeF S.L x.buf).1.head) 5, rMine (.slice qd22 ((seeF S.L x.buf).1.data.length) cd23) ((seeF S.L x.buf).1.data) 5, rBlk b24 [iw ((seeF S.L x.buf).1.refs : Int), Value.slice qh20 ((seeF S.L x.buf).1.head.length) ch21, Value.slice qd22 ((seeF S.L x.buf).1.data.length) cd23] 75] ⟨rfl, rfl, rfl, rfl, rfl, trivial⟩ rfl ?_
        refine SC.both ((((ownF S.L ((jZ S).buf) (appF (jB S x))).1) : Int) == 0) rfl (fun h26 => ?_) (fun h26 => ?_)
        · skip
          refine SC.seq ?_
          refine SC.region_tail 9 (by kernel_rfl) (by kernel_rfl) ?_
          refine SQ.ru rfl rfl (lt_b rfl) (ru_move rfl rfl) ?_
          refine SQ.ru rfl rfl (lt_b rfl) (ru_nilCheck rfl rfl) ?_
          refine SQ.ru rfl rfl (lt_b rfl) (ru_fieldAddr (o2 := ((S.l.length : Int) - 1).toNat * 5 + 3) fd61_3 rfl rfl rfl) ?_
          refine SQ.ru rfl rfl (lt_b rfl) (ru_load_rowN (ri := 2) (i := ((S.l.length : Int) - 1).toNat) (k := 3) (r := [iw ((jZ S).off), iw ((jZ S).buf), iw ((jZ S).skip), iw ((jZ S).size), bo ((jZ S).fin)]) ts3 rfl rfl rfl (by show (S.l.map Pc.row)[_]? = _; rw [List.getElem?_map, show ((S.l.length : Int) - 1).toNat = S.l.length - 1 by omega, jZ_at (by omega)]; rfl) (by decide) rfl) ?_
          refine SQ.ru rfl rfl (lt_b rfl) (ru_fieldAddr (o2 := 3) fd61_3 rfl rfl rfl) ?_
          refine SQ.ru rfl rfl (lt_b rfl) (ru_load (i := 4) ts3 rfl rfl rfl rfl) ?_
          refine SQ.ru rfl rfl (lt_b rfl) (ru_add (r := (((jZ S).size) + (x.size - (S.nxt - x.off)))) rfl rfl rfl ((by rw [IntKind.wrap_i64]; omega))) ?_
          refine SQ.ru rfl rfl (lt_b rfl) (ru_nilCheck rfl rfl) ?_
          refine SQ.ru rfl rfl (lt_b rfl) (ru_fieldAddr (o2 := ((S.l.length : Int) - 1).toNat * 5 + 3) fd61_3 rfl rfl rfl) ?_
          refine SQ.nilL ?_
          refine SL.store_rowN (ri := 2) (i := ((S.l.length : Int) - 1).toNat) (k := 3) (r := [iw ((jZ S).off), iw ((jZ S).buf), iw ((jZ S).skip), iw ((jZ S).size), bo ((jZ S).fin)]) rfl rfl ts3 rfl rfl rfl rfl rfl (by show (S.l.map Pc.row)[_]? = _; rw [List.getElem?_map, show ((S.l.length : Int) - 1).toNat = S.l.length - 1 by omega, jZ_at (by omega)]; rfl) (by decide) (fun b hb => .inl (.inr (.inr (.inr (.inl hb))))) ?_
          refine SL.nil ?_
          refine SC.of_SE ?_
          refine SC.norm [(0, pt d 0), (3, pt b1 0), (5, pt b24 0)] [rBlk d [pt p 0, Value.slice q1 S.l.length c1, Value.slice q2 S.late.length c2, iw (S.nxt + (x.size - (S.nxt - x.off))), iw (S.hv + (x.size - (S.nxt - x.off))), iw S.last, bo S.gone] 52, rPool p ab ((ownF S.L ((jZ S).buf) (appF (jB S x))).2), rRowN (.slice q1 S.l.length c1) ((pRows S.l).set (((S.l.length : Int) - 1).toNat) ([iw ((jZ S).off), iw ((jZ S).buf), iw ((jZ S).skip), iw ((jZ S).size), bo ((jZ S).fin)].set 3 (iw (((jZ S).size) + (x.size - (S.nxt - x.off)))))) 61 5, rRowN (.slice q2 S.late.length c2) (pRows S.late) 61 5, rBlk b1 [iw (x.off + (S.nxt - x.off)), iw x.buf, iw (x.skip + (S.nxt - x.off)), iw (x.size - (S.nxt - x.off)), bo x.fin] 61, rMine (.slice qh20 ((seeF S.L x.buf).1.head.length) ch21) ((seeF S.L x.buf).1.head) 5, rMine (.slice qd22 ((seeF S.L x.buf).1.data.length) cd23) ((seeF S.L x.buf).1.data) 5, rBlk b24 [iw ((seeF S.L x.buf).1.refs : Int), Value.slice qh20 ((seeF S.L x.buf).1.head.length) ch21, Value.slice qd22 ((seeF S.L x.buf).1.data.length) cd23] 75] ⟨rfl, rfl, rfl, trivial⟩ rfl ?_
          refine SC.seq ?_
          refine SC.region_tail 6 (by kernel_rfl) (by kernel_rfl) ?_
          refine SQ.ru rfl rfl (lt_b rfl) (ru_move rfl rfl) ?_
          refine SQ.ru rfl rfl (lt_b rfl) (ru_nilCheck rfl rfl) ?_
          refine SQ.ru rfl rfl (lt_b rfl) (ru_fieldAddr (o2 := 0) fd52_0 rfl rfl rfl) ?_
          refine SQ.ru rfl rfl (lt_b rfl) (ru_load (i := 0) ts25 rfl rfl rfl rfl) ?_
          refine SQ.ru rfl rfl (lt_b rfl) (ru_fieldAddr (o2 := 1) fd61_1 rfl rfl rfl) ?_
          refine SQ.ru rfl rfl (lt_b rfl) (ru_load (i := 4) ts3 rfl rfl rfl rfl) ?_
          refine SQ.nilL ?_
          refine SL.call (ζ := Unit) (fun _z => iw ((freeF ((ownF S.L ((jZ S).buf) (appF (jB S x))).2) x.buf).1)) (fun _z => [rBlk d [pt p 0, Value.slice q1 S.l.length c1, Value.slice q2 S.late.length c2, iw (S.nxt + (x.size - (S.nxt - x.off))), iw (S.hv + (x.size - (S.nxt - x.off))), iw S.last, bo S.gone] 52, rPool p ab ((freeF ((ownF S.L ((jZ S).buf) (appF (jB S x))).2) x.buf).2), rRowN (.slice q1 S.l.length c1) ((pRows S.l).set (((S.l.length : Int) - 1).toNat) ([iw ((jZ S).off), iw ((jZ S).buf), iw ((jZ S).skip), iw ((jZ S).size), bo ((jZ S).fin)].set 3 (iw (((jZ S).size) + (x.size - (S.nxt - x.off)))))) 61 5, rRowN (.slice q2 S.late.length c2) (pRows S.late) 61 5, rBlk b1 [iw (x.off + (S.nxt - x.off)), iw x.buf, iw (x.skip + (S.nxt - x.off)), iw (x.size - (S.nxt - x.off)), bo x.fin] 61, rMine (.slice qh20 ((seeF S.L x.buf).1.head.length) ch21) ((seeF S.L x.buf).1.head) 5, rMine (.slice qd22 ((seeF S.L x.buf).1.data.length) cd23) ((seeF S.L x.buf).1.data) 5, rBlk b24 [iw ((seeF S.L x.buf).1.refs : Int), Value.slice qh20 ((seeF S.L x.buf).1.head.length) ch21, Value.slice qd22 ((seeF S.L x.buf).1.data.length) cd23] 75]) (fun _z => True) rfl rfl co21 rfl rfl rfl (lt_b rfl) (fun w hI => (free_any (pool_at hI (i := 1) rfl) x.buf ((lone.own _ (app_one _)).few)).mono fun e w2 ⟨h1, h2⟩ => ⟨(), h1, hI.poolTo (i := 1) rfl (fun b hb => .inl (hb.elim (fun h => .inr (.inl h)) (fun h => .inr (.inr (.inl h))))) h2, trivial⟩) ?_
          rintro ⟨⟩ _
          refine SL.nil ?_
          refine SC.of_SE ?_
          refine SC.norm [(0, pt d 0), (3, pt b1 0), (5, pt b24 0)] [rBlk d [pt p 0, Value.slice q1 S.l.length c1, Value.slice q2 S.late.length c2, iw (S.nxt + (x.size - (S.nxt - x.off))), iw (S.hv + (x.size - (S.nxt - x.off))), iw S.last, bo S.gone] 52, rPool p ab ((freeF ((ownF S.L ((jZ S).buf) (appF (jB S x))).2) x.buf).2), rRowN (.slice q1 S.l.length c1) ((pRows S.l).set (((S.l.length : Int) - 1).toNat) ([iw ((jZ S).off), iw ((jZ S).buf), iw ((jZ S).skip), iw ((jZ S).size), bo ((jZ S).fin)].set 3 (iw (((jZ S).size) + (x.size - (S.nxt - x.off)))))) 61 5, rRowN (.slice q2 S.late.length c2) (pRows S.late) 61 5, rBlk b1 [iw (x.off + (S.nxt - x.off)), iw x.buf, iw (x.skip + (S.nxt - x.off)), iw (x.size - (S.nxt - x.off)), bo x.fin] 61, rMine (.slice qh20 ((seeF S.L x.buf).1.head.length) ch21) ((seeF S.L x.buf).1.head) 5, rMine (.slice qd22 ((seeF S.L x.buf).1.data.length) cd23) ((seeF S.L x.buf).1.data) 5, rBlk b24 [iw ((seeF S.L x.buf).1.refs : Int), Value.slice qh20 ((seeF S.L x.buf).1.head.length) ch21, Value.slice qd22 ((seeF S.L x.buf).1.data.length) cd23] 75] ⟨rfl, rfl, rfl, trivial⟩ rfl ?_
          refine SC.ret ?_
          refine SE.passr ?_
          refine SE.res (.inl rfl) (res0 Try.results31) fun w1 hI => ⟨rfl, ?_⟩
          have ej : jLast S x = S.last := by unfold jLast; rw [if_neg (not_t h2)]
          unfold joinF
          unfold jA
          rw [if_neg (not_t h19), if_pos h25, if_pos h26]
          refine ⟨q1, c1, q2, c2, ?_, (fun b hb => .inl (.inr (.inr (.inr (.inl (by rw [List.length_set] at hb; exact hb)))))), fun b hb => .inl (.inr (.inr (.inr (.inr hb)))), hI.2⟩
          have h4 := hI.four
          rw [show ((S.l.length : Int) - 1).toNat = S.l.length - 1 by omega] at h4
          simp only [QR, rQ, ej, List.length_set, pRows_set]; exact h4
        · skip
          refine SC.skip ?_
          refine SC.of_SE ?_
          refine SC.norm [(0, pt d 0), (3, pt b1 0), (5, pt b24 0)] [rBlk d [pt p 0, Value.slice q1 S.l.length c1, Value.slice q2 S.late.length c2, iw (S.nxt + (x.size - (S.nxt - x.off))), iw (S.hv + (x.size - (S.nxt - x.off))), iw S.last, bo S.gone] 52, rPool p ab ((ownF S.L ((jZ S).buf) (appF (jB S x))).2), rRowN (.slice q1 S.l.length c1) (pRows S.l) 61 5, rRowN (.slice q2 S.late.length c2) (pRows S.late) 61 5, rBlk b1 [iw (x.off + (S.nxt - x.off)), iw x.buf, iw (x.skip + (S.nxt - x.off)), iw (x.size - (S.nxt - x.off)), bo x.fin] 61, rMine (.slice qh20 ((seeF S.L x.buf).1.head.length) ch21) ((seeF S.L x.buf).1.head) 5, rMine (.slice qd22 ((seeF S.L x.buf).1.data.length) cd23) ((seeF S.L x.buf).1.data) 5, rBlk b24 [iw ((seeF S.L x.buf).1.refs : Int), Value.slice qh20 ((seeF S.L x.buf).1.head.length) ch21, Value.slice qd22 ((seeF S.L x.buf).1.data.length) cd23] 75] ⟨rfl, rfl, rfl, trivial⟩ rfl ?_
          refine SC.seq ?_
          refine SC.region_tail 17 (by kernel_rfl) (by kernel_rfl) ?_
          refine SQ.ru rfl rfl (lt_b rfl) (ru_move rfl rfl) ?_
          refine SQ.ru rfl rfl (lt_b rfl) (ru_nilCheck rfl rfl) ?_
          refine SQ.ru rfl rfl (lt_b rfl) (ru_fieldAddr (o2 := 0) fd52_0 rfl rfl rfl) ?_
          refine SQ.ru rfl rfl (lt_b rfl) (ru_load (i := 0) ts25 rfl rfl rfl rfl) ?_
          refine SQ.ru rfl rfl (lt_b rfl) (ru_fieldAddr (o2 := 1) fd61_1 rfl rfl rfl) ?_
          refine SQ.ru rfl rfl (lt_b rfl) (ru_load (i := 4) ts3 rfl rfl rfl rfl) ?_
          refine SQ.ru rfl rfl (lt_b rfl) (ru_fieldAddr (o2 := 2) fd61_2 rfl rfl rfl) ?_
          refine SQ.ru rfl rfl (lt_b rfl) (ru_load (i := 4) ts3 rfl rfl rfl rfl) ?_
          refine SQ.ru rfl rfl (lt_b rfl) (ru_fieldAddr (o2 := 2) fd75_2 rfl rfl rfl) ?_
          refine SQ.ru rfl rfl (lt_b rfl) (ru_load (i := 7) ts22 rfl rfl rfl rfl) ?_
          refine SQ.ru rfl rfl (lt_b rfl) (ru_len Try.underlying22 rfl rfl) ?_
          refine SQ.ru rfl rfl (lt_b rfl) (ru_fieldAddr (o2 := 2) fd61_2 rfl rfl rfl) ?_
          refine SQ.ru rfl rfl (lt_b rfl) (ru_load (i := 4) ts3 rfl rfl rfl rfl) ?_
          refine SQ.ru rfl rfl (lt_b rfl) (ru_sub (r := (((seeF S.L x.buf).1.data.length : Int) - (x.skip + (S.nxt - x.off)))) rfl rfl rfl ((by rw [IntKind.wrap_i64]; omega))) ?_
          refine SQ.ru rfl rfl (lt_b rfl) (ru_fieldAddr (o2 := 3) fd61_3 rfl rfl rfl) ?_
          refine SQ.ru rfl rfl (lt_b rfl) (ru_load (i := 4) ts3 rfl rfl rfl rfl) ?_
          refine SQ.ru rfl rfl (lt_b rfl) (ru_sub (r := ((((seeF S.L x.buf).1.data.length : Int) - (x.skip + (S.nxt - x.off))) - (x.size - (S.nxt - x.off)))) rfl rfl rfl ((by rw [IntKind.wrap_i64]; omega))) ?_
          refine SQ.nilL ?_
          refine SL.call (ζ := Unit) (fun _z => iw ((ownF ((ownF S.L ((jZ S).buf) (appF (jB S x))).2) x.buf (trimF (x.skip + (S.nxt - x.off)) ((((seeF S.L x.buf).1.data.length : Int) - (x.skip + (S.nxt - x.off))) - (x.size - (S.nxt - x.off))))).1)) (fun _z => [rBlk d [pt p 0, Value.slice q1 S.l.length c1, Value.slice q2 S.late.length c2, iw (S.nxt + (x.size - (S.nxt - x.off))), iw (S.hv + (x.size - (S.nxt - x.off))), iw S.last, bo S.gone] 52, rPool p ab ((ownF ((ownF S.L ((jZ S).buf) (appF (jB S x))).2) x.buf (trimF (x.skip + (S.nxt - x.off)) ((((seeF S.L x.buf).1.data.length : Int) - (x.skip + (S.nxt - x.off))) - (x.size - (S.nxt - x.off))))).2), rRowN (.slice q1 S.l.length c1) (pRows S.l) 61 5, rRowN (.slice q2 S.late.length c2) (pRows S.late) 61 5, rBlk b1 [iw (x.off + (S.nxt - x.off)), iw x.buf, iw (x.skip + (S.nxt - x.off)), iw (x.size - (S.nxt - x.off)), bo x.fin] 61, rMine (.slice qh20 ((seeF S.L x.buf).1.head.length) ch21) ((seeF S.L x.buf).1.head) 5, rMine (.slice qd22 ((seeF S.L x.buf).1.data.length) cd23) ((seeF S.L x.buf).1.data) 5, rBlk b24 [iw ((seeF S.L x.buf).1.refs : Int), Value.slice qh20 ((seeF S.L x.buf).1.head.length) ch21, Value.slice qd22 ((seeF S.L x.buf).1.data.length) cd23] 75]) (fun _z => True) rfl rfl co23 rfl rfl rfl (lt_b rfl) (fun w hI => (trim_any (pool_at hI (i := 1) rfl) x.buf (x.skip + (S.nxt - x.off)) ((((seeF S.L x.buf).1.data.length : Int) - (x.skip + (S.nxt - x.off))) - (x.size - (S.nxt - x.off)))).mono fun e w2 ⟨h1, h2⟩ => ⟨(), h1, hI.poolTo (i := 1) rfl (fun b hb => .inl (hb.elim (fun h => .inr (.inl h)) (fun h => .inr (.inr (.inl h))))) h2, trivial⟩) ?_
          rintro ⟨⟩ _
          refine SL.nil ?_
          refine SC.of_SE ?_
          refine SC.norm [(0, pt d 0), (3, pt b1 0)] [rBlk d [pt p 0, Value.slice q1 S.l.length c1, Value.slice q2 S.late.length c2, iw (S.nxt + (x.size - (S.nxt - x.off))), iw (S.hv + (x.size - (S.nxt - x.off))), iw S.last, bo S.gone] 52, rPool p ab ((ownF ((ownF S.L ((jZ S).buf) (appF (jB S x))).2) x.buf (trimF (x.skip + (S.nxt - x.off)) ((((seeF S.L x.buf).1.data.length : Int) - (x.skip + (S.nxt - x.off))) - (x.size - (S.nxt - x.off))))).2), rRowN (.slice q1 S.l.length c1) (pRows S.l) 61 5, rRowN (.slice q2 S.late.length c2) (pRows S.late) 61 5, rBlk b1 [iw (x.off + (S.nxt - x.off)), iw x.buf, iw (x.skip + (S.nxt - x.off)), iw (x.size - (S.nxt - x.off)), bo x.fin] 61, rMine (.slice qh20 ((seeF S.L x.buf).1.head.length) ch21) ((seeF S.L x.buf).1.head) 5, rMine (.slice qd22 ((seeF S.L x.buf).1.data.length) cd23) ((seeF S.L x.buf).1.data) 5, rBlk b24 [iw ((seeF S.L x.buf).1.refs : Int), Value.slice qh20 ((seeF S.L x.buf).1.head.length) ch21, Value.slice qd22 ((seeF S.L x.buf).1.data.length) cd23] 75] ⟨rfl, rfl, trivial⟩ rfl ?_
          refine SC.seq ?_
          refine SC.region ?_
          refine SL.ru rfl rfl (lt_b rfl) (ru_fieldAddr (o2 := 2) fd61_2 rfl rfl rfl) ?_
          refine SL.store (i := 4) (c' := [iw (x.off + (S.nxt - x.off)), iw x.buf, iw 0, iw (x.size - (S.nxt - x.off)), bo x.fin]) rfl rfl ts3 rfl rfl rfl rfl rfl (lt_b rfl) (.inr hb1) rfl ?_
          refine SL.nil ?_
          refine SC.of_SE ?_
          refine SC.norm [(0, pt d 0), (3, pt b1 0)] [rBlk d [pt p 0, Value.slice q1 S.l.length c1, Value.slice q2 S.late.length c2, iw (S.nxt + (x.size - (S.nxt - x.off))), iw (S.hv + (x.size - (S.nxt - x.off))), iw S.last, bo S.gone] 52, rPool p ab ((ownF ((ownF S.L ((jZ S).buf) (appF (jB S x))).2) x.buf (trimF (x.skip + (S.nxt - x.off)) ((((seeF S.L x.buf).1.data.length : Int) - (x.skip + (S.nxt - x.off))) - (x.size - (S.nxt - x.off))))).2), rRowN (.slice q1 S.l.length c1) (pRows S.l) 61 5, rRowN (.slice q2 S.late.length c2) (pRows S.late) 61 5, rBlk b1 [iw (x.off + (S.nxt - x.off)), iw x.buf, iw 0, iw (x.size - (S.nxt - x.off)), bo x.fin] 61, rMine (.slice qh20 ((seeF S.L x.buf).1.head.length) ch21) ((seeF S.L x.buf).1.head) 5, rMine (.slice qd22 ((seeF S.L x.buf).1.data.length) cd23) ((seeF S.L x.buf).1.data) 5, rBlk b24 [iw ((seeF S.L x.buf).1.refs : Int), Value.slice qh20 ((seeF S.L x.buf).1.head.length) ch21, Value.slice qd22 ((seeF S.L x.buf).1.data.length) cd23] 75] ⟨rfl, rfl, trivial⟩ rfl ?_
          refine SC.region_mk_tailE [(1, 0)] 7 [(6, Mk.row ⟨161, w, QG d p ab q1 c1 q2 c2 S⟩ 1 1 [] (fun _ => [iw (x.off + (S.nxt - x.off)), iw x.buf, iw 0, iw (x.size - (S.nxt - x.off)), bo x.fin]) 61)] [] rfl rfl (by kernel_rfl) (by kernel_rfl) (by kernel_rfl) (by kernel_rfl) ?_
          refine SM.ru rfl rfl rfl (w_all rfl) rfl (lt_b rfl) (ru_move rfl rfl) ?_
          refine SM.ru rfl rfl rfl (w_all rfl) rfl (lt_b rfl) (ru_move rfl rfl) ?_
          refine SM.ru rfl rfl rfl (w_all rfl) rfl (lt_b rfl) (ru_nilCheck rfl rfl) ?_
          refine SM.ru rfl rfl rfl (w_all rfl) rfl (lt_b rfl) (ru_fieldAddr (o2 := 1) fd52_1 rfl rfl rfl) ?_
          refine SM.ru rfl rfl rfl (w_all rfl) rfl (lt_b rfl) (ru_load (i := 0) ts50 rfl rfl rfl rfl) ?_
          refine SM.ru rfl rfl rfl (w_all rfl) rfl (lt_b rfl) (ru_loada (i := 4) (vs := [iw (x.off + (S.nxt - x.off)), iw x.buf, iw 0, iw (x.size - (S.nxt - x.off)), bo x.fin]) ta61 rfl rfl rfl rfl (le_b rfl)) ?_
          refine SM.buildSlice (size := 5) (vals := [(0, Value.agg #[iw (x.off + (S.nxt - x.off)), iw x.buf, iw 0, iw (x.size - (S.nxt - x.off)), bo x.fin])]) (z := [iw 0, iw 0, iw 0, iw 0, bo false]) (cs := [iw (x.off + (S.nxt - x.off)), iw x.buf, iw 0, iw (x.size - (S.nxt - x.off)), bo x.fin]) (dp := []) (csf := fun _ => [iw (x.off + (S.nxt - x.off)), iw x.buf, iw 0, iw (x.size - (S.nxt - x.off)), bo x.fin]) rfl rfl rfl rfl (w_all rfl) rfl (lt_b rfl) rfl rfl rfl rfl Try.underlying50 (by kernel_rfl) rfl rfl (by kernel_rfl) fun b27 hb27 => ?_
          refine SM.nilL (l' := [rBlk d [pt p 0, Value.slice q1 S.l.length c1, Value.slice q2 S.late.length c2, iw (S.nxt + (x.size - (S.nxt - x.off))), iw (S.hv + (x.size - (S.nxt - x.off))), iw S.last, bo S.gone] 52, rPool p ab ((ownF ((ownF S.L ((jZ S).buf) (appF (jB S x))).2) x.buf (trimF (x.skip + (S.nxt - x.off)) ((((seeF S.L x.buf).1.data.length : Int) - (x.skip + (S.nxt - x.off))) - (x.size - (S.nxt - x.off))))).2), rRowN (.slice q1 S.l.length c1) (pRows S.l) 61 5, rRowN (.slice q2 S.late.length c2) (pRows S.late) 61 5, rBlk b1 [iw (x.off + (S.nxt - x.off)), iw x.buf, iw 0, iw (x.size - (S.nxt - x.off)), bo x.fin] 61, rMine (.slice qh20 ((seeF S.L x.buf).1.head.length) ch21) ((seeF S.L x.buf).1.head) 5, rMine (.slice qd22 ((seeF S.L x.buf).1.data.length) cd23) ((seeF S.L x.buf).1.data) 5, rBlk b24 [iw ((seeF S.L x.buf).1.refs : Int), Value.slice qh20 ((seeF S.L x.buf).1.head.length) ch21, Value.slice qd22 ((seeF S.L x.buf).1.data.length) cd23] 75, rBlk b27 [iw (x.off + (S.nxt - x.off)), iw x.buf, iw 0, iw (x.size - (S.nxt - x.off)), bo x.fin] 61]) rfl ?_
          refine SL.append_rowN (ri := 2) (rj := 8) (size := 5) (r := [iw (x.off + (S.nxt - x.off)), iw x.buf, iw 0, iw (x.size - (S.nxt - x.off)), bo x.fin]) (z := Value.agg #[iw 0, iw 0, iw 0, iw 0, bo false]) (bytes := 40) rfl rfl (lt_b rfl) rfl (by decide) Try.underlying50 (by kernel_rfl) rfl rfl rfl rfl rfl rfl rfl (by rw [pr_len]; omega) (by unfold maxLen; rw [pr_len]; omega) (fun b hb => .inl (.inr (.inr (.inr (.inl hb))))) fun q28 c29 hq30 => ?_
          refine SL.ru rfl rfl (lt_b rfl) (ru_nilCheck rfl rfl) ?_
          refine SL.ru rfl rfl (lt_b rfl) (ru_fieldAddr (o2 := 1) fd52_1 rfl rfl rfl) ?_
          refine SL.store (i := 0) (c' := [pt p 0, Value.slice q28 (S.l.length + 1) c29, Value.slice q2 S.late.length c2, iw (S.nxt + (x.size - (S.nxt - x.off))), iw (S.hv + (x.size - (S.nxt - x.off))), iw S.last, bo S.gone]) rfl rfl ts50 rfl rfl rfl rfl rfl (lt_b rfl) (.inl (.inl rfl)) rfl ?_
          refine SL.nil ?_
          refine SE.onlyN ?_
          refine SE.res (.inr rfl) (res0 Try.results31) fun w1 hI => ⟨rfl, ?_⟩
          have ej : jLast S x = S.last := by unfold jLast; rw [if_neg (not_t h2)]
          unfold joinF
          unfold jA
          rw [if_neg (not_t h19), if_pos h25, if_neg (not_t h26)]
          refine ⟨q28, c29, q2, c2, ?_, (fun b hb => hq30 b (by simp only [joinN, List.length_append, List.length_cons, List.length_nil] at hb; exact hb)), fun b hb => .inl (.inr (.inr (.inr (.inr hb)))), hI.2⟩
          have h4 := hI.four
          unfold joinN
          simp only [QR, rQ, ej, List.length_append, List.length_cons, List.length_nil, pRows, List.map_append, List.map_cons, List.map_nil, Nat.zero_add]; exact h4
      · skip
        have h25d := of_decide_eq_false h25
        refine SC.skip ?_
        refine SC.of_SE ?_
        refine SC.norm [(0, pt d 0), (3, pt b1 0), (5, pt b24 0)] [rBlk d [pt p 0, Value.slice q1 S.l.length c1, Value.slice q2 S.late.length c2, iw (S.nxt + (x.size - (S.nxt - x.off))), iw (S.hv + (x.size - (S.nxt - x.off))), iw S.last, bo S.gone] 52, rPool p ab S.L, rRowN (.slice q1 S.l.length c1) (pRows S.l) 61 5, rRowN (.slice q2 S.late.length c2) (pRows S.late) 61 5, rBlk b1 [iw (x.off + (S.nxt - x.off)), iw x.buf, iw (x.skip + (S.nxt - x.off)), iw (x.size - (S.nxt - x.off)), bo x.fin] 61, rMine (.slice qh20 ((seeF S.L x.buf).1.head.length) ch21) ((seeF S.L x.buf).1.head) 5, rMine (.slice qd22 ((seeF S.L x.buf).1.data.length) cd23) ((seeF S.L x.buf).1.data) 5, rBlk b24 [iw ((seeF S.L x.buf).1.refs : Int), Value.slice qh20 ((seeF S.L x.buf).1.head.length) ch21, Value.slice qd22 ((seeF S.L x.buf).1.data.length) cd23] 75] ⟨rfl, rfl, rfl, trivial⟩ rfl ?_
        refine SC.seq ?_
        refine SC.region_tail 17 (by kernel_rfl) (by kernel_rfl) ?_
        refine SQ.ru rfl rfl (lt_b rfl) (ru_move rfl rfl) ?_
        refine SQ.ru rfl rfl (lt_b rfl) (ru_nilCheck rfl rfl) ?_
        refine SQ.ru rfl rfl (lt_b rfl) (ru_fieldAddr (o2 := 0) fd52_0 rfl rfl rfl) ?_
        refine SQ.ru rfl rfl (lt_b rfl) (ru_load (i := 0) ts25 rfl rfl rfl rfl) ?_
        refine SQ.ru rfl rfl (lt_b rfl) (ru_fieldAddr (o2 := 1) fd61_1 rfl rfl rfl) ?_
        refine SQ.ru rfl rfl (lt_b rfl) (ru_load (i := 4) ts3 rfl rfl rfl rfl) ?_
        refine SQ.ru rfl rfl (lt_b rfl) (ru_fieldAddr (o2 := 2) fd61_2 rfl rfl rfl) ?_
        refine SQ.ru rfl rfl (lt_b rfl) (ru_load (i := 4) ts3 rfl rfl rfl rfl) ?_
        refine SQ.ru rfl rfl (lt_b rfl) (ru_fieldAddr (o2 := 2) fd75_2 rfl rfl rfl) ?_
        refine SQ.ru rfl rfl (lt_b rfl) (ru_load (i := 7) ts22 rfl rfl rfl rfl) ?_
        refine SQ.ru rfl rfl (lt_b rfl) (ru_len Try.underlying22 rfl rfl) ?_
        refine SQ.ru rfl rfl (lt_b rfl) (ru_fieldAddr (o2 := 2) fd61_2 rfl rfl rfl) ?_
        refine SQ.ru rfl rfl (lt_b rfl) (ru_load (i := 4) ts3 rfl rfl rfl rfl) ?_
        refine SQ.ru rfl rfl (lt_b rfl) (ru_sub (r := (((seeF S.L x.buf).1.data.length : Int) - (x.skip + (S.nxt - x.off)))) rfl rfl rfl ((by rw [IntKind.wrap_i64]; omega))) ?_
        refine SQ.ru rfl rfl (lt_b rfl) (ru_fieldAddr (o2 := 3) fd61_3 rfl rfl rfl) ?_
        refine SQ.ru rfl rfl (lt_b rfl) (ru_load (i := 4) ts3 rfl rfl rfl rfl) ?_
        refine SQ.ru rfl rfl (lt_b rfl) (ru_sub (r := ((((seeF S.L x.buf).1.data.length : Int) - (x.skip + (S.nxt - x.off))) - (x.size - (S.nxt - x.off)))) rfl rfl rfl ((by rw [IntKind.wrap_i64]; omega))) ?_
        refine SQ.nilL ?_
        refine SL.call (ζ := Unit) (fun _z => iw ((ownF S.L x.buf (trimF (x.skip + (S.nxt - x.off)) ((((seeF S.L x.buf).1.data.length : Int) - (x.skip + (S.nxt - x.off))) - (x.size - (S.nxt - x.off))))).1)) (fun _z => [rBlk d [pt p 0, Value.slice q1 S.l.length c1, Value.slice q2 S.late.length c2, iw (S.nxt + (x.size - (S.nxt - x.off))), iw (S.hv + (x.size - (S.nxt - x.off))), iw S.last, bo S.gone] 52, rPool p ab ((ownF S.L x.buf (trimF (x.skip + (S.nxt - x.off)) ((((seeF S.L x.buf).1.data.length : Int) - (x.skip + (S.nxt - x.off))) - (x.size - (S.nxt - x.off))))).2), rRowN (.slice q1 S.l.length c1) (pRows S.l) 61 5, rRowN (.slice q2 S.late.length c2) (pRows S.late) 61 5, rBlk b1 [iw (x.off + (S.nxt - x.off)), iw x.buf, iw (x.skip + (S.nxt - x.off)), iw (x.size - (S.nxt - x.off)), bo x.fin] 61, rMine (.slice qh20 ((seeF S.L x.buf).1.head.length) ch21) ((seeF S.L x.buf).1.head) 5, rMine (.slice qd22 ((seeF S.L x.buf).1.data.length) cd23) ((seeF S.L x.buf).1.data) 5, rBlk b24 [iw ((seeF S.L x.buf).1.refs : Int), Value.slice qh20 ((seeF S.L x.buf).1.head.length) ch21, Value.slice qd22 ((seeF S.L x.buf).1.data.length) cd23] 75]) (fun _z => True) rfl rfl co23 rfl rfl rfl (lt_b rfl) (fun w hI => (trim_any (pool_at hI (i := 1) rfl) x.buf (x.skip + (S.nxt - x.off)) ((((seeF S.L x.buf).1.data.length : Int) - (x.skip + (S.nxt - x.off))) - (x.size - (S.nxt - x.off)))).mono fun e w2 ⟨h1, h2⟩ => ⟨(), h1, hI.poolTo (i := 1) rfl (fun b hb => .inl (hb.elim (fun h => .inr (.inl h)) (fun h => .inr (.inr (.inl h))))) h2, trivial⟩) ?_
        rintro ⟨⟩ _
        refine SL.nil ?_
        refine SC.of_SE ?_
        refine SC.norm [(0, pt d 0), (3, pt b1 0)] [rBlk d [pt p 0, Value.slice q1 S.l.length c1, Value.slice q2 S.late.length c2, iw (S.nxt + (x.size - (S.nxt - x.off))), iw (S.hv + (x.size - (S.nxt - x.off))), iw S.last, bo S.gone] 52, rPool p ab ((ownF S.L x.buf (trimF (x.skip + (S.nxt - x.off)) ((((seeF S.L x.buf).1.data.length : Int) - (x.skip + (S.nxt - x.off))) - (x.size - (S.nxt - x.off))))).2), rRowN (.slice q1 S.l.length c1) (pRows S.l) 61 5, rRowN (.slice q2 S.late.length c2) (pRows S.late) 61 5, rBlk b1 [iw (x.off + (S.nxt - x.off)), iw x.buf, iw (x.skip + (S.nxt - x.off)), iw (x.size - (S.nxt - x.off)), bo x.fin] 61, rMine (.slice qh20 ((seeF S.L x.buf).1.head.length) ch21) ((seeF S.L x.buf).1.head) 5, rMine (.slice qd22 ((seeF S.L x.buf).1.data.length) cd23) ((seeF S.L x.buf).1.data) 5, rBlk b24 [iw ((seeF S.L x.buf).1.refs : Int), Value.slice qh20 ((seeF S.L x.buf).1.head.length) ch21, Value.slice qd22 ((seeF S.L x.buf).1.data.length) cd23] 75] ⟨rfl, rfl, trivial⟩ rfl ?_
        refine SC.seq ?_
        refine SC.region ?_
        refine SL.ru rfl rfl (lt_b rfl) (ru_fieldAddr (o2 := 2) fd61_2 rfl rfl rfl) ?_
        refine SL.store (i := 4) (c' := [iw (x.off + (S.nxt - x.off)), iw x.buf, iw 0, iw (x.size - (S.nxt - x.off)), bo x.fin]) rfl rfl ts3 rfl rfl rfl rfl rfl (lt_b rfl) (.inr hb1) rfl ?_
        refine SL.nil ?_
        refine SC.of_SE ?_
        refine SC.norm [(0, pt d 0), (3, pt b1 0)] [rBlk d [pt p 0, Value.slice q1 S.l.length c1, Value.slice q2 S.late.length c2, iw (S.nxt + (x.size - (S.nxt - x.off))), iw (S.hv + (x.size - (S.nxt - x.off))), iw S.last, bo S.gone] 52, rPool p ab ((ownF S.L x.buf (trimF (x.skip + (S.nxt - x.off)) ((((seeF S.L x.buf).1.data.length : Int) - (x.skip + (S.nxt - x.off))) - (x.size - (S.nxt - x.off))))).2), rRowN (.slice q1 S.l.length c1) (pRows S.l) 61 5, rRowN (.slice q2 S.late.length c2) (pRows S.late) 61 5, rBlk b1 [iw (x.off + (S.nxt - x.off)), iw x.buf, iw 0, iw (x.size - (S.nxt - x.off)), bo x.fin] 61, rMine (.slice qh20 ((seeF S.L x.buf).1.head.length) ch21) ((seeF S.L x.buf).1.head) 5, rMine (.slice qd22 ((seeF S.L x.buf).1.data.length) cd23) ((seeF S.L x.buf).1.data) 5, rBlk b24 [iw ((seeF S.L x.buf).1.refs : Int), Value.slice qh20 ((seeF S.L x.buf).1.head.length) ch21, Value.slice qd22 ((seeF S.L x.buf).1.data.length) cd23] 75] ⟨rfl, rfl, trivial⟩ rfl ?_
        refine SC.region_mk_tailE [(1, 0)] 7 [(6, Mk.row ⟨161, w, QG d p ab q1 c1 q2 c2 S⟩ 1 1 [] (fun _ => [iw (x.off + (S.nxt - x.off)), iw x.buf, iw 0, iw (x.size - (S.nxt - x.off)), bo x.fin]) 61)] [] rfl rfl (by kernel_rfl) (by kernel_rfl) (by kernel_rfl) (by kernel_rfl) ?_
        refine SM.ru rfl rfl rfl (w_all rfl) rfl (lt_b rfl) (ru_move rfl rfl) ?_
        refine SM.ru rfl rfl rfl (w_all rfl) rfl (lt_b rfl) (ru_move rfl rfl) ?_
        refine SM.ru rfl rfl rfl (w_all rfl) rfl (lt_b rfl) (ru_nilCheck rfl rfl) ?_
        refine SM.ru rfl rfl rfl (w_all rfl) rfl (lt_b rfl) (ru_fieldAddr (o2 := 1) fd52_1 rfl rfl rfl) ?_
        refine SM.ru rfl rfl rfl (w_all rfl) rfl (lt_b rfl) (ru_load (i := 0) ts50 rfl rfl rfl rfl) ?_
        refine SM.ru rfl rfl rfl (w_all rfl) rfl (lt_b rfl) (ru_loada (i := 4) (vs := [iw (x.off + (S.nxt - x.off)), iw x.buf, iw 0, iw (x.size - (S.nxt - x.off)), bo x.fin]) ta61 rfl rfl rfl rfl (le_b rfl)) ?_
        refine SM.buildSlice (size := 5) (vals := [(0, Value.agg #[iw (x.off + (S.nxt - x.off)), iw x.buf, iw 0, iw (x.size - (S.nxt - x.off)), bo x.fin])]) (z := [iw 0, iw 0, iw 0, iw 0, bo false]) (cs := [iw (x.off + (S.nxt - x.off)), iw x.buf, iw 0, iw (x.size - (S.nxt - x.off)), bo x.fin]) (dp := []) (csf := fun _ => [iw (x.off + (S.nxt - x.off)), iw x.buf, iw 0, iw (x.size - (S.nxt - x.off)), bo x.fin]) rfl rfl rfl rfl (w_all rfl) rfl (lt_b rfl) rfl rfl rfl rfl Try.underlying50 (by kernel_rfl) rfl rfl (by kernel_rfl) fun b31 hb31 => ?_
        refine SM.nilL (l' := [rBlk d [pt p 0, Value.slice q1 S.l.length c1, Value.slice q2 S.late.length c2, iw (S.nxt + (x.size - (S.nxt - x.off))), iw (S.hv + (x.size - (S.nxt - x.off))), iw S.last, bo S.gone] 52, rPool p ab ((ownF S.L x.buf (trimF (x.skip + (S.nxt - x.off)) ((((seeF S.L x.buf).1.data.length : Int) - (x.skip + (S.nxt - x.off))) - (x.size - (S.nxt - x.off))))).2), rRowN (.slice q1 S.l.length c1) (pRows S.l) 61 5, rRowN (.slice q2 S.late.length c2) (pRows S.late) 61 5, rBlk b1 [iw (x.off + (S.nxt - x.off)), iw x.buf, iw 0, iw (x.size - (S.nxt - x.off)), bo x.fin] 61, rMine (.slice qh20 ((seeF S.L x.buf).1.head.length) ch21) ((seeF S.L x.buf).1.head) 5, rMine (.slice qd22 ((seeF S.L x.buf).1.data.length) cd23) ((seeF S.L x.buf).1.data) 5, rBlk b24 [iw ((seeF S.L x.buf).1.refs : Int), Value.slice qh20 ((seeF S.L x.buf).1.head.length) ch21, Value.slice qd22 ((seeF S.L x.buf).1.data.length) cd23] 75, rBlk b31 [iw (x.off + (S.nxt - x.off)), iw x.buf, iw 0, iw (x.size - (S.nxt - x.off)), bo x.fin] 61]) rfl ?_
        refine SL.append_rowN (ri := 2) (rj := 8) (size := 5) (r := [iw (x.off + (S.nxt - x.off)), iw x.buf, iw 0, iw (x.size - (S.nxt - x.off)), bo x.fin]) (z := Value.agg #[iw 0, iw 0, iw 0, iw 0, bo false]) (bytes := 40) rfl rfl (lt_b rfl) rfl (by decide) Try.underlying50 (by kernel_rfl) rfl rfl rfl rfl rfl rfl rfl (by rw [pr_len]; omega) (by unfold maxLen; rw [pr_len]; omega) (fun b hb => .inl (.inr (.inr (.inr (.inl hb))))) fun q32 c33 hq34 => ?_
        refine SL.ru rfl rfl (lt_b rfl) (ru_nilCheck rfl rfl) ?_
        refine SL.ru rfl rfl (lt_b rfl) (ru_fieldAddr (o2 := 1) fd52_1 rfl rfl rfl) ?_
        refine SL.store (i := 0) (c' := [pt p 0, Value.slice q32 (S.l.length + 1) c33, Value.slice q2 S.late.length c2, iw (S.nxt + (x.size - (S.nxt - x.off))), iw (S.hv + (x.size - (S.nxt - x.off))), iw S.last, bo S.gone]) rfl rfl ts50 rfl rfl rfl rfl rfl (lt_b rfl) (.inl (.inl rfl)) rfl ?_
        refine SL.nil ?_
        refine SE.onlyN ?_
        refine SE.res (.inr rfl) (res0 Try.results31) fun w1 hI => ⟨rfl, ?_⟩
        have ej : jLast S x = S.last := by unfold jLast; rw [if_neg (not_t h2)]
        unfold joinF
        rw [if_neg (not_t h19), if_neg (not_t h25)]
        refine ⟨q32, c33, q2, c2, ?_, (fun b hb => hq34 b (by simp only [joinN, List.length_append, List.length_cons, List.length_nil] at hb; exact hb)), fun b hb => .inl (.inr (.inr (.inr (.inr hb)))), hI.2⟩
        have h4 := hI.four
        unfold joinN
        simp only [QR, rQ, ej, List.length_append, List.length_cons, List.length_nil, pRows, List.map_append, List.map_cons, List.map_nil, Nat.zero_add]; exact h4

end Go.Proofs.Ytpgnklmmjdkhiaa

/-
  Ordering, waiting, putting: what they come to; a queue that was turned, among other things.
-/
namespace Go.Proofs.Ytpgnklmmjdkhiaa
open Go.RowKit
theorem own_eq (q : Option Addr) (n c m e : Nat) : (Value.slice q n c).ownBlock = (Value.slice q m e).ownBlock := by cases q <;> rfl
theorem qr_fp {d p ab : Nat} {q1 q2 : Option Addr} {c1 c2 : Nat} {S : Rq} {b : Nat} : (∃ r ∈ QR d p ab q1 c1 q2 c2 S, r.fp b) ↔ QG d p ab q1 c1 q2 c2 S b := by
  constructor
  · rintro ⟨r, hr, hb⟩
    simp only [QR, List.mem_cons, List.not_mem_nil, or_false] at hr
    rcases hr with rfl | rfl | rfl | rfl
    · exact .inl hb
    · rcases hb with hb | hb
      · exact .inr (.inl hb)
      · exact .inr (.inr (.inl hb))
    · exact .inr (.inr (.inr (.inl hb)))
    · exact .inr (.inr (.inr (.inr hb)))
  · rintro (h | h | h | h | h)
    · exact ⟨_, List.mem_cons_self, h⟩
    · exact ⟨_, List.mem_cons_of_mem _ List.mem_cons_self, .inl h⟩
    · exact ⟨_, List.mem_cons_of_mem _ List.mem_cons_self, .inr h⟩
    · exact ⟨_, List.mem_cons_of_mem _ (List.mem_cons_of_mem _ List.mem_cons_self), h⟩
    · exact ⟨_, List.mem_cons_of_mem _ (List.mem_cons_of_mem _ (List.mem_cons_of_mem _ List.mem_cons_self)), h⟩
theorem QG.of {G : Nat → Prop} {n0 d p ab : Nat} {q1 q2 : Option Addr} {c1 c2 : Nat} {S : Rq} (h0 : ∀ b, b = d ∨ b = p ∨ b = ab → G b ∨ n0 ≤ b) (h1 : ∀ b, (Value.slice q1 S.l.length c1).ownBlock = some b → G b ∨ n0 ≤ b) (h2 : ∀ b, (Value.slice q2 S.late.length c2).ownBlock = some b → G b ∨ n0 ≤ b) : ∀ b, QG d p ab q1 c1 q2 c2 S b → G b ∨ n0 ≤ b := by
  rintro b (h | h | h | h | h)
  · exact h0 b (.inl h)
  · exact h0 b (.inr (.inl h))
  · exact h0 b (.inr (.inr h))
  · exact h1 b h
  · exact h2 b h
/-- A queue that was turned, among other things. -/
theorem Inv.qto {X : Cx} {w w' : World} {l : List Res} {d p ab : Nat} {q1 q2 : Option Addr} {c1 c2 : Nat} {S S' : Rq} (h : Inv X w (QR d p ab q1 c1 q2 c2 S ++ l)) (k : QTo w d p ab (QG d p ab q1 c1 q2 c2 S) S' w') (hG : ∀ b, QG d p ab q1 c1 q2 c2 S b → X.S b ∨ X.w0.heap.size ≤ b) :
    ∃ q1' c1' q2' c2', Inv X w' (QR d p ab q1' c1' q2' c2' S' ++ l) ∧ ∀ b, QG d p ab q1' c1' q2' c2' S' b → X.S b ∨ X.w0.heap.size ≤ b := by
  obtain ⟨q1', c1', q2', c2', hs, o1, o2, hO⟩ := k
  have hp := List.pairwise_append.1 h.1.2
  have hin : ∀ b, QG d p ab q1' c1' q2' c2' S' b → QG d p ab q1 c1 q2 c2 S b ∨ w.heap.size ≤ b := QG.of (fun b hb => .inl (hb.elim .inl (fun hb => .inr (hb.elim .inl (fun hb => .inr (.inl hb)))))) o1 o2
  have hl : Sep w l := ⟨fun s hs => h.1.1 s (List.mem_append_right _ hs), hp.2.1⟩
  have hdis : ∀ s ∈ l, ∀ b, s.fp b → ¬ QG d p ab q1 c1 q2 c2 S b := fun s hs b hb hq => by
    obtain ⟨r, hr, hrb⟩ := qr_fp.2 hq
    exact hp.2.2 r hr s hs b hrb hb
  refine ⟨q1', c1', q2', c2', ⟨⟨fun s hsm => ?_, List.pairwise_append.2 ⟨hs.2, hl.2, fun r hr s hsm b hrb hsb => ?_⟩⟩, h.2.trans' hO hG⟩, fun b hb => (hin b hb).elim (hG b) (fun h1 => .inr (Nat.le_trans h.2.size h1))⟩
  · rcases List.mem_append.1 hsm with hm | hm
    · exact hs.1 s hm
    · exact s.st w w' (hl.1 s hm) (fun b hb => hO.block b (s.lt w (hl.1 s hm) b hb) (hdis s hm b hb))
  · rcases hin b (qr_fp.1 ⟨r, hr, hrb⟩) with h1 | h1
    · exact hdis s hsm b hsb h1
    · have := s.lt w (hl.1 s hsm) b hsb; omega
/-- What a walk over a queue leaves. -/
theorem QTo.of {w w' : World} {n d p ab : Nat} {q1 q2 : Option Addr} {c1 c2 : Nat} {S : Rq} {G : Nat → Prop} {l : List Res} (h : Inv ⟨n, w, G⟩ w' (QR d p ab q1 c1 q2 c2 S ++ l)) (hG : ∀ b, QG d p ab q1 c1 q2 c2 S b → G b ∨ w.heap.size ≤ b) : QTo w d p ab G S w' :=
  ⟨q1, c1, q2, c2, (h.left).1, fun b hb => hG b (.inr (.inr (.inr (.inl hb)))), fun b hb => hG b (.inr (.inr (.inr (.inr hb)))), h.2⟩
theorem QTo.same {w : World} {d p ab : Nat} {q1 q2 : Option Addr} {c1 c2 : Nat} {S : Rq} (h : Sep w (QR d p ab q1 c1 q2 c2 S)) {w' : World} (hO : Only (fun _ => False) w w') : QTo w d p ab (QG d p ab q1 c1 q2 c2 S) S w' :=
  ⟨q1, c1, q2, c2, h.same (fun b hb => hO.block b hb id), fun b hb => .inl (.inr (.inr (.inr (.inl hb)))), fun b hb => .inl (.inr (.inr (.inr (.inr hb)))), hO.mono (fun b hb => hb.elim)⟩
/-- One is taken out. -/
def dropAt (S : Rq) (i : Nat) : Rq := { S with late := S.late.take i ++ S.late.drop (i + 1) }
theorem dropAt_len {S : Rq} {i : Nat} (h : i < S.late.length) : (dropAt S i).late.length = S.late.length - 1 := by unfold dropAt; simp; omega
theorem del1_any {w : World} {q : Option Addr} {n c : Nat} {i : Int} {M : List Pc} (h : RowsN w (.slice q n c) (pRows M) 61 5) (h0 : 0 ≤ i) (h1 : i < (n : Int)) :
    Calls Try.prog 24 #[.slice q n c, iw i, iw (i + 1)] w fun e w' => e = .returned (.slice q (n - 1) c) ∧ RowsN w' (.slice q (n - 1) c) (pRows (M.take i.toNat ++ M.drop (i.toNat + 1))) 61 5 ∧ Only (fun b => (Value.slice q n c).ownBlock = some b) w w' := by
  have := del_any (i := i.toNat) (j := i.toNat + 1) h (pRows_one M) (by omega) (by omega)
  rw [show ((i.toNat + 1 : Nat) : Int) = i + 1 by omega, Int.toNat_of_nonneg h0, show i.toNat + (n - (i.toNat + 1)) = n - 1 by omega] at this
  refine this.mono ?_
  rintro e w' ⟨rfl, h1, h2⟩
  refine ⟨rfl, ?_, h2⟩
  rw [← List.map_take, ← List.map_drop, ← List.map_append] at h1
  exact h1
/-- Which late piece is no longer late. -/
def nextIx (S : Rq) : Option Nat := S.late.findIdx? (fun y => decide (y.off ≤ S.nxt))
def drainF : Nat → Rq → Rq
  | 0, S => S
  | k + 1, S => match nextIx S with
    | some i => drainF k (joinF (dropAt S i) (S.late.getD i ⟨0, 0, 0, 0, false⟩))
    | none => S
def earlyF (S : Rq) (x : Pc) : Bool := decide (x.fin' < S.nxt) || ((x.fin' == S.nxt) && !x.fin)
def orderF (S : Rq) (x : Pc) : Bool × Rq := if earlyF S x = true then (false, S) else (true, drainF S.late.length (joinF S x))
theorem join_late (S : Rq) (x : Pc) : (joinF S x).late = S.late := by unfold joinF joinN; split <;> (try split) <;> (try split) <;> rfl
theorem next_none {S : Rq} (h : ∀ j, j < S.late.length → ∀ y, S.late[j]? = some y → decide (y.off ≤ S.nxt) = false) : nextIx S = none := by
  unfold nextIx
  rw [List.findIdx?_eq_none_iff]
  intro y hy
  obtain ⟨j, hj, rfl⟩ := List.getElem_of_mem hy
  exact h j hj _ (List.getElem?_eq_getElem hj)
theorem next_some {S : Rq} {i : Nat} {y : Pc} (hy : S.late[i]? = some y) (h1 : decide (y.off ≤ S.nxt) = true) (h : ∀ j, j < i → ∀ y, S.late[j]? = some y → decide (y.off ≤ S.nxt) = false) : nextIx S = some i := by
  unfold nextIx
  rw [List.findIdx?_eq_some_iff_getElem]
  obtain ⟨hi, rfl⟩ := List.getElem?_eq_some_iff.1 hy
  exact ⟨hi, h1, fun j hj => by rw [h j hj _ (List.getElem?_eq_getElem (by omega))]; simp⟩
theorem drain_none {S : Rq} (h : nextIx S = none) : ∀ k, drainF k S = S
  | 0 => rfl
  | k + 1 => by unfold drainF; rw [h]
theorem drain_some {S : Rq} {i k : Nat} {y : Pc} (h : nextIx S = some i) (hy : S.late[i]? = some y) (hk : k = S.late.length) : drainF k S = drainF (joinF (dropAt S i) y).late.length (joinF (dropAt S i) y) := by
  have hi : i < S.late.length := (List.getElem?_eq_some_iff.1 hy).1
  obtain ⟨m, rfl⟩ : ∃ m, k = m + 1 := ⟨k - 1, by omega⟩
  unfold drainF
  rw [h]
  dsimp only
  rw [List.getD_eq_getElem?_getD, hy, Option.getD_some, join_late, dropAt_len hi, show S.late.length - 1 = m by omega]
  cases m <;> rfl
/-- Two pieces that may not both be late. -/
def clash (x y : Pc) : Bool := (x.fin && y.fin) || decide (max x.off y.off < min x.fin' y.fin')
def waitsF (S : Rq) (x : Pc) : Bool × Rq :=
  if (((S.late.length : Int) == 4) || ((x.size == 0) && !x.fin)) = true then (false, S)
  else if S.late.any (clash x) = true then (false, S)
  else (true, { S with late := S.late ++ [x], last := if x.fin = true then x.fin' else S.last })
theorem any_take {M : List Pc} {f : Pc → Bool} (h : ∀ j, j < M.length → ∀ y, M[j]? = some y → f y = false) : M.any f = false := by
  rw [List.any_eq_false]
  intro y hy
  obtain ⟨j, hj, rfl⟩ := List.getElem_of_mem hy
  rw [h j hj _ (List.getElem?_eq_getElem hj)]; simp
def qPutF (S : Rq) (x : Pc) : Bool × Rq :=
  let r := if fitsF S x = true then (if decide (x.off ≤ S.nxt) = true then orderF S x else waitsF S x) else (false, S)
  if (!r.1) = true then (r.1, { r.2 with L := (freeF r.2.L x.buf).2 }) else r
end Go.Proofs.Ytpgnklmmjdkhiaa

/-
  A receiver's queue in its bounds: the pool seen by holders and bytes; what keeps it in order.
-/
namespace Go.Proofs.Ytpgnklmmjdkhiaa
open Go.RowKit
/-- A buffer's holders, its bytes. -/
def rf (L : List Bf) (k : Int) : Nat := match bufAt L k with | some b => b.refs | none => 0
def dt (L : List Bf) (k : Int) : List UInt8 := match bufAt L k with | some b => b.data | none => []
theorem rf_some {L : List Bf} {k : Int} (h : rf L k ≠ 0) : ∃ b, bufAt L k = some b ∧ b.refs = rf L k ∧ b.data = dt L k := by
  unfold rf dt at *
  cases e : bufAt L k with
  | none => rw [e] at h; exact absurd rfl h
  | some b => exact ⟨b, rfl, rfl, rfl⟩
theorem bufAt_put {L : List Bf} {i k : Int} {b : Bf} (h : bufAt L i = some b) (c : Bf) : bufAt (putF L i c) k = if k = i then some c else bufAt L k := by
  unfold bufAt at *
  split at h
  · rename_i h0
    unfold putF
    have hl : i.toNat < L.length := (List.getElem?_eq_some_iff.1 h).1
    by_cases e : k = i
    · subst e; rw [if_pos h0, if_pos rfl, List.getElem?_set_self hl]
    · rw [if_neg e]
      by_cases hk : 0 ≤ k
      · rw [if_pos hk, if_pos hk, List.getElem?_set_ne (by omega)]
      · rw [if_neg hk, if_neg hk]
  · cases h
theorem put_rf {L : List Bf} {i k : Int} {b : Bf} (h : bufAt L i = some b) (c : Bf) : rf (putF L i c) k = if k = i then c.refs else rf L k := by
  unfold rf; rw [bufAt_put h]
  by_cases e : k = i
  · rw [if_pos e, if_pos e]
  · rw [if_neg e, if_neg e]
theorem put_dt {L : List Bf} {i k : Int} {b : Bf} (h : bufAt L i = some b) (c : Bf) : dt (putF L i c) k = if k = i then c.data else dt L k := by
  unfold dt; rw [bufAt_put h]
  by_cases e : k = i
  · rw [if_pos e, if_pos e]
  · rw [if_neg e, if_neg e]
theorem put_len (L : List Bf) (i : Int) (c : Bf) : (putF L i c).length = L.length := by unfold putF; exact List.length_set
theorem see_of {L : List Bf} {i : Int} (h : rf L i = 1) : (seeF L i).2 = 0 ∧ (seeF L i).1.data = dt L i := by
  obtain ⟨b, e, h1, h2⟩ := rf_some (by omega : rf L i ≠ 0)
  unfold seeF; rw [e]; dsimp only
  rw [if_pos (by omega)]
  exact ⟨rfl, h2⟩
theorem see_in_use {L : List Bf} {i : Int} (h : (seeF L i).2 = 0) : rf L i ≠ 0 := by
  unfold seeF at h; unfold rf
  cases e : bufAt L i with
  | none => rw [e] at h; exact absurd h (by decide)
  | some b =>
    rw [e] at h; dsimp only at h ⊢
    split at h
    · omega
    · exact absurd h (by decide)
theorem free_of {L : List Bf} {i : Int} (h : rf L i = 1) : (freeF L i).1 = 0 ∧ (freeF L i).2.length = L.length ∧ (∀ k, rf (freeF L i).2 k = if k = i then 0 else rf L k) ∧ ∀ k, dt (freeF L i).2 k = dt L k := by
  obtain ⟨b, e, h1, h2⟩ := rf_some (by omega : rf L i ≠ 0)
  have hf : freeF L i = (0, putF L i { b with refs := b.refs - 1 }) := by unfold freeF; rw [e]; dsimp only; rw [if_pos (by omega)]
  rw [hf]
  refine ⟨rfl, put_len _ _ _, fun k => ?_, fun k => ?_⟩
  · rw [put_rf e]; dsimp only; rw [show b.refs - 1 = 0 by omega]
  · rw [put_dt e]; dsimp only
    split
    · rename_i e1; rw [e1, h2]
    · rfl
theorem own_of {L : List Bf} {i : Int} (h : rf L i = 1) {f : Bf → Int × Bf} {D : List UInt8} (hf : ∀ b, b.refs = 1 → b.data = dt L i → (f b).1 = 0 ∧ (f b).2.refs = 1 ∧ (f b).2.data = D) : (ownF L i f).1 = 0 ∧ (ownF L i f).2.length = L.length ∧ (∀ k, rf (ownF L i f).2 k = rf L k) ∧ ∀ k, dt (ownF L i f).2 k = if k = i then D else dt L k := by
  obtain ⟨b, e, h1, h2⟩ := rf_some (by omega : rf L i ≠ 0)
  obtain ⟨f1, f2, f3⟩ := hf b (by omega) h2
  have ho : ownF L i f = (0, putF L i (f b).2) := by unfold ownF; rw [e]; dsimp only; rw [if_neg (by omega), if_pos (by omega), if_pos f1]
  rw [ho]
  refine ⟨rfl, put_len _ _ _, fun k => ?_, fun k => ?_⟩
  · rw [put_rf e]
    split
    · rename_i e1; rw [e1, f2, h]
    · rfl
  · rw [put_dt e, f3]
theorem own_bad {L : List Bf} {i : Int} (h : rf L i = 1) {f : Bf → Int × Bf} {n : Int} (hn : n ≠ 0) (hf : ∀ b, b.refs = 1 → b.data = dt L i → (f b).1 = n) : ownF L i f = (n, L) := by
  obtain ⟨b, e, h1, h2⟩ := rf_some (by omega : rf L i ≠ 0)
  have f1 := hf b (by omega) h2
  unfold ownF; rw [e]; dsimp only; rw [if_neg (by omega), if_pos (by omega), if_neg (by omega), f1]
theorem app_ok {L : List Bf} {i : Int} (h : rf L i = 1) {d : List UInt8} (hl : (dt L i).length + d.length ≤ 288) : (ownF L i (appF d)).1 = 0 ∧ (ownF L i (appF d)).2.length = L.length ∧ (∀ k, rf (ownF L i (appF d)).2 k = rf L k) ∧ ∀ k, dt (ownF L i (appF d)).2 k = if k = i then dt L i ++ d else dt L k := by
  refine own_of h fun b h1 h2 => ?_
  unfold appF; rw [h2, if_neg (by omega)]
  exact ⟨rfl, h1, rfl⟩
theorem app_no {L : List Bf} {i : Int} (h : rf L i = 1) {d : List UInt8} (hl : 288 < (dt L i).length + d.length) : ownF L i (appF d) = (2, L) := by
  refine own_bad h (by decide) fun b h1 h2 => ?_
  unfold appF; rw [h2, if_pos (by omega)]
theorem set_ok {L : List Bf} {i : Int} (h : rf L i = 1) {d : List UInt8} (hl : d.length ≤ 288) : (ownF L i (setF d)).1 = 0 ∧ (ownF L i (setF d)).2.length = L.length ∧ (∀ k, rf (ownF L i (setF d)).2 k = rf L k) ∧ ∀ k, dt (ownF L i (setF d)).2 k = if k = i then d else dt L k := by
  refine own_of h fun b h1 h2 => ?_
  unfold setF; rw [if_neg (by omega)]
  exact ⟨rfl, rfl, rfl⟩
theorem set_no {L : List Bf} {i : Int} (h : rf L i = 1) {d : List UInt8} (hl : 288 < d.length) : ownF L i (setF d) = (2, L) := by
  refine own_bad h (by decide) fun b h1 h2 => ?_
  unfold setF; rw [if_pos (by omega)]
theorem trim_ok {L : List Bf} {i : Int} (h : rf L i = 1) {f g : Int} (h0 : 0 ≤ f) (h1 : 0 ≤ g) (h2 : f + g ≤ ((dt L i).length : Int)) : (ownF L i (trimF f g)).1 = 0 ∧ (ownF L i (trimF f g)).2.length = L.length ∧ (∀ k, rf (ownF L i (trimF f g)).2 k = rf L k) ∧ ∀ k, dt (ownF L i (trimF f g)).2 k = if k = i then ((dt L i).drop f.toNat).take ((dt L i).length - f.toNat - g.toNat) else dt L k := by
  refine own_of h fun b h3 h4 => ?_
  unfold trimF
  rw [if_pos (by unfold MayTrim; rw [h4]; omega), h4]
  exact ⟨rfl, h3, rfl⟩
theorem get_of {L : List Bf} {k : Int} (h0 : 0 ≤ k) (h1 : k < L.length) (h2 : rf L k = 0) : ∃ j : Nat, (getF L).1 = ((j : Int), 0) ∧ j < L.length ∧ rf L j = 0 ∧ (getF L).2.length = L.length ∧ (∀ k, rf (getF L).2 k = if k = (j : Int) then 1 else rf L k) ∧ ∀ k, dt (getF L).2 k = if k = (j : Int) then [] else dt L k := by
  unfold getF
  cases e : L.findIdx? (fun b => b.refs == 0) with
  | none =>
    rw [List.findIdx?_eq_none_iff] at e
    have hk : k.toNat < L.length := by omega
    have := e _ (List.getElem_mem hk)
    have hb : bufAt L k = some L[k.toNat] := by unfold bufAt; rw [if_pos h0]; exact List.getElem?_eq_getElem hk
    unfold rf at h2; rw [hb] at h2
    rw [beq_eq_false_iff_ne] at this
    exact absurd h2 this
  | some j =>
    rw [List.findIdx?_eq_some_iff_getElem] at e
    obtain ⟨hj, e1, _⟩ := e
    have hb : bufAt L (j : Int) = some L[j] := by rw [bufAt_nat]; exact List.getElem?_eq_getElem hj
    have hp : L.set j ⟨1, [], []⟩ = putF L (j : Int) ⟨1, [], []⟩ := by unfold putF; rw [Int.toNat_natCast]
    dsimp only
    rw [hp]
    refine ⟨j, rfl, hj, ?_, put_len _ _ _, fun k => put_rf hb _, fun k => put_dt hb _⟩
    unfold rf; rw [hb]; simpa using e1
/-- Each two that are next to one another are too long for one buffer. -/
def Adj : List Int → Prop
  | a :: b :: t => 288 < a + b ∧ Adj (b :: t)
  | _ => True
theorem Adj.tail : ∀ {t : List Int}, Adj t → Adj t.tail
  | [], _ => trivial
  | [_], _ => trivial
  | _ :: _ :: _, h => h.2
theorem Adj.snoc : ∀ {t : List Int} {a b : Int}, Adj (t ++ [a]) → 288 < a + b → Adj (t ++ [a] ++ [b])
  | [], _, _, _, h => ⟨h, trivial⟩
  | [_], _, _, h0, h => ⟨h0.1, h, trivial⟩
  | _ :: c :: t, _, _, h0, h => ⟨h0.1, Adj.snoc (t := c :: t) h0.2 h⟩
theorem Adj.grow : ∀ {t : List Int} {a b : Int}, Adj (t ++ [a]) → a ≤ b → Adj (t ++ [b])
  | [], _, _, _, _ => trivial
  | [_], _, _, h0, h => ⟨by have := h0.1; omega, trivial⟩
  | _ :: c :: t, _, _, h0, h => ⟨h0.1, Adj.grow (t := c :: t) h0.2 h⟩
theorem sum_pos : ∀ {t : List Int}, (∀ a ∈ t, 0 < a) → (t.length : Int) ≤ t.sum
  | [], _ => by simp
  | a :: t, h => by
    have := sum_pos (t := t) (fun b hb => h b (List.mem_cons_of_mem _ hb))
    have := h a List.mem_cons_self
    simp only [List.length_cons, List.sum_cons]; omega
theorem Adj.sum : ∀ (t : List Int), Adj t → (∀ a ∈ t, 0 < a) → 289 * ((t.length / 2 : Nat) : Int) ≤ t.sum
  | [], _, _ => by simp
  | [a], _, h => by have := h a List.mem_cons_self; simp; omega
  | a :: b :: t, h, hp => by
    have := Adj.sum t h.2.tail (fun c hc => hp c (List.mem_cons_of_mem _ (List.mem_cons_of_mem _ hc)))
    have := h.1
    simp only [List.length_cons, List.sum_cons]; omega
theorem Adj.len {t : List Int} (h : Adj t.tail) (hp : ∀ a ∈ t, 0 < a) (hs : t.sum ≤ 1024) : t.length ≤ 9 := by
  cases t with
  | nil => simp
  | cons a t =>
    have h1 := Adj.sum t h (fun c hc => hp c (List.mem_cons_of_mem _ hc))
    have := hp a List.mem_cons_self
    simp only [List.length_cons, List.sum_cons] at hs ⊢
    omega
/-- Whose buffers are held. -/
def ids (S : Rq) (ex : List Int) : List Int := S.l.map Pc.buf ++ (S.late.map Pc.buf ++ ex)
structure LateOk (L : List Bf) (far : Int) (y : Pc) : Prop where
  off : 0 ≤ y.off
  skip : 0 ≤ y.skip
  size : 0 ≤ y.size
  fit : y.skip + y.size ≤ ((dt L y.buf).length : Int)
  far : y.off + y.size ≤ far
structure Qv (n : Nat) (S : Rq) (ex : List Int) : Prop where
  len : S.L.length = n
  rfs : ∀ k : Int, rf S.L k = if k ∈ ids S ex then 1 else 0
  nodup : (ids S ex).Nodup
  dl : ∀ k : Int, (dt S.L k).length ≤ 288
  lz : ∀ x ∈ S.l, x.skip = 0 ∧ 0 < x.size ∧ ((dt S.L x.buf).length : Int) = x.size
  adj : Adj (S.l.map Pc.size).tail
  hv : S.hv = (S.l.map Pc.size).sum
  hv1 : S.hv ≤ 1024
  late : ∀ y ∈ S.late, LateOk S.L (S.nxt + 1024 - S.hv) y
  lateN : S.late.length ≤ 4
  nx : 0 ≤ S.nxt
  nx1 : S.nxt + 1024 - S.hv ≤ 1000000000000000000
  gone : S.gone = false
/-- The bytes that wait; a piece's bytes. -/
def Wt (S : Rq) : List UInt8 := S.l.flatMap (fun x => dt S.L x.buf)
def pcB (L : List Bf) (x : Pc) : List UInt8 := ((dt L x.buf).drop x.skip.toNat).take x.size.toNat
section
variable {n : Nat} {S : Rq} {ex : List Int}
theorem Qv.used (h : Qv n S ex) {k : Int} (hk : k ∈ ids S ex) : rf S.L k = 1 := by rw [h.rfs, if_pos hk]
theorem Qv.lt (h : Qv n S ex) {k : Int} (hk : k ∈ ids S ex) : 0 ≤ k ∧ k < n := by
  obtain ⟨b, e, _, _⟩ := rf_some (show rf S.L k ≠ 0 by rw [h.used hk]; decide)
  unfold bufAt at e
  split at e
  · have := (List.getElem?_eq_some_iff.1 e).1
    rw [h.len] at this
    omega
  · cases e
theorem mem_l {x : Pc} (hx : x ∈ S.l) : x.buf ∈ ids S ex := List.mem_append_left _ (List.mem_map_of_mem hx)
theorem mem_late {y : Pc} (hy : y ∈ S.late) : y.buf ∈ ids S ex := List.mem_append_right _ (List.mem_append_left _ (List.mem_map_of_mem hy))
theorem mem_ex {k : Int} (hk : k ∈ ex) : k ∈ ids S ex := List.mem_append_right _ (List.mem_append_right _ hk)
theorem Qv.pos (h : Qv n S ex) : ∀ a ∈ S.l.map Pc.size, 0 < a := by
  intro a ha
  obtain ⟨x, hx, rfl⟩ := List.mem_map.1 ha
  exact (h.lz x hx).2.1
theorem Qv.lN (h : Qv n S ex) : S.l.length ≤ 9 := by
  have := Adj.len h.adj h.pos (by rw [← h.hv]; exact h.hv1)
  rwa [List.length_map] at this
theorem Qv.hv0 (h : Qv n S ex) : (S.l.length : Int) ≤ S.hv := by
  have := sum_pos h.pos
  rwa [List.length_map, ← h.hv] at this
theorem Qv.lone (h : Qv n S ex) : Lone S.L := by
  intro b hb
  obtain ⟨k, hk, rfl⟩ := List.getElem_of_mem hb
  have := h.rfs (k : Int)
  unfold rf at this
  rw [bufAt_nat, List.getElem?_eq_getElem hk] at this
  dsimp only at this
  rw [this]; split <;> decide
theorem Qv.wt_len (h : Qv n S ex) : ((Wt S).length : Int) = S.hv := by
  have hl := h.lz
  rw [h.hv]
  unfold Wt
  generalize S.l = l at *
  induction l with
  | nil => rfl
  | cons x l ih =>
    have := ih (fun y hy => hl y (List.mem_cons_of_mem _ hy))
    have := (hl x List.mem_cons_self).2.2
    simp only [List.flatMap_cons, List.length_append, List.map_cons, List.sum_cons]
    omega
theorem Qv.few (h : Qv n S ex) (hx : ex.length ≤ 1) (hn : 15 ≤ n) : ∃ k : Int, 0 ≤ k ∧ k < n ∧ k ∉ ids S ex := by
  apply Classical.byContradiction
  intro hc
  have hs : ((List.range n).map fun k : Nat => (k : Int)) ⊆ ids S ex := by
    intro k hk
    obtain ⟨j, hj, rfl⟩ := List.mem_map.1 hk
    have := List.mem_range.1 hj
    apply Classical.byContradiction
    intro h1
    exact hc ⟨j, by omega, by omega, h1⟩
  have hd : ((List.range n).map fun k : Nat => (k : Int)).Nodup := List.Pairwise.map _ (fun a b hab => by omega) List.nodup_range
  have := hd.length_le_of_subset hs
  have h1 := h.lN
  have h2 := h.lateN
  simp only [ids, List.length_map, List.length_range, List.length_append] at this
  omega
/-- One is taken of the pool. -/
theorem Qv.get (h : Qv n S []) (hn : ∃ k : Int, 0 ≤ k ∧ k < n ∧ k ∉ ids S []) : ∃ j : Int, (getF S.L).1 = (j, 0) ∧ Qv n { S with L := (getF S.L).2 } [j] ∧ dt (getF S.L).2 j = [] ∧ (∀ x ∈ S.l ++ S.late, dt (getF S.L).2 x.buf = dt S.L x.buf) := by
  obtain ⟨k, h0, h1, h2⟩ := hn
  obtain ⟨j, e, hj, hr, el, er, ed⟩ := get_of h0 (by rw [h.len]; omega) (by rw [h.rfs, if_neg h2])
  have hj' : (j : Int) ∉ ids S [] := by
    intro hc; rw [h.used hc] at hr; cases hr
  have hids : ids { S with L := (getF S.L).2 } [(j : Int)] = ids S [] ++ [(j : Int)] := by simp [ids]
  have hk : ∀ x ∈ S.l ++ S.late, dt (getF S.L).2 x.buf = dt S.L x.buf := by
    intro x hx
    rw [ed, if_neg]
    intro hc
    refine hj' ?_
    rw [← hc]
    rcases List.mem_append.1 hx with hx | hx
    · exact mem_l hx
    · exact mem_late hx
  refine ⟨j, e, ?_, by rw [ed, if_pos rfl], hk⟩
  refine ⟨by rw [← h.len, ← el], fun k => ?_, ?_, fun k => ?_, fun x hx => ?_, h.adj, h.hv, h.hv1, fun y hy => ?_, h.lateN, h.nx, h.nx1, h.gone⟩
  · show rf (getF S.L).2 k = _
    rw [er, hids]
    by_cases e1 : k = (j : Int)
    · rw [if_pos e1, if_pos (by rw [e1]; exact List.mem_append_right _ List.mem_cons_self)]
    · rw [if_neg e1, h.rfs]
      by_cases e2 : k ∈ ids S []
      · rw [if_pos e2, if_pos (List.mem_append_left _ e2)]
      · rw [if_neg e2, if_neg]
        intro hc
        rcases List.mem_append.1 hc with hc | hc
        · exact e2 hc
        · exact e1 (by simpa using hc)
  · rw [hids]
    refine List.nodup_append.2 ⟨h.nodup, by simp, ?_⟩
    intro a ha b hb
    have : b = (j : Int) := by simpa using hb
    rintro rfl
    exact hj' (this ▸ ha)
  · show (dt (getF S.L).2 k).length ≤ 288
    rw [ed]; split
    · simp
    · exact h.dl k
  · show x.skip = 0 ∧ 0 < x.size ∧ ((dt (getF S.L).2 x.buf).length : Int) = x.size
    rw [hk x (List.mem_append_left _ hx)]
    exact h.lz x hx
  · have := h.late y hy
    exact ⟨this.off, this.skip, this.size, by show _ ≤ ((dt (getF S.L).2 y.buf).length : Int); rw [hk y (List.mem_append_right _ hy)]; exact this.fit, this.far⟩
/-- The pool was turned, but all that is held of the others is as it was. -/
theorem Qv.turn (h : Qv n S ex) {L' : List Bf} {l' late' : List Pc} {ex' : List Int} {nxt' hv' last' : Int} (hlen : L'.length = S.L.length)
    (hr : ∀ k, rf L' k = if k ∈ ids ⟨L', l', late', nxt', hv', last', false⟩ ex' then 1 else 0) (hnd : (ids ⟨L', l', late', nxt', hv', last', false⟩ ex').Nodup) (hd : ∀ k, (dt L' k).length ≤ 288)
    (hl : ∀ x ∈ l', x.skip = 0 ∧ 0 < x.size ∧ ((dt L' x.buf).length : Int) = x.size) (ha : Adj (l'.map Pc.size).tail) (hh : hv' = (l'.map Pc.size).sum) (h1 : hv' ≤ 1024)
    (hlt : ∀ y ∈ late', LateOk L' (nxt' + 1024 - hv') y) (hn : late'.length ≤ 4) (h2 : 0 ≤ nxt') (h3 : nxt' + 1024 - hv' ≤ 1000000000000000000) : Qv n ⟨L', l', late', nxt', hv', last', S.gone⟩ ex' := by
  rw [h.gone]
  exact ⟨by rw [← h.len, ← hlen], hr, hnd, hd, hl, ha, hh, h1, hlt, hn, h2, h3, rfl⟩
/-- The one that is taken is set. -/
theorem Qv.set {j : Int} (h : Qv n S [j]) (d : List UInt8) : Qv n { S with L := (ownF S.L j (setF d)).2 } [j] ∧ (d.length ≤ 288 → (ownF S.L j (setF d)).1 = 0 ∧ dt (ownF S.L j (setF d)).2 j = d) ∧ (∀ x ∈ S.l ++ S.late, dt (ownF S.L j (setF d)).2 x.buf = dt S.L x.buf) := by
  have hj : rf S.L j = 1 := h.used (mem_ex List.mem_cons_self)
  have hne : ∀ x ∈ S.l ++ S.late, x.buf ≠ j := by
    intro x hx hc
    have := h.nodup
    unfold ids at this
    rw [← List.append_assoc, List.nodup_append] at this
    refine this.2.2 x.buf ?_ j List.mem_cons_self hc
    rw [← List.map_append]
    exact List.mem_map_of_mem hx
  by_cases hl : d.length ≤ 288
  · obtain ⟨e1, e2, e3, e4⟩ := set_ok hj hl
    have hk : ∀ x ∈ S.l ++ S.late, dt (ownF S.L j (setF d)).2 x.buf = dt S.L x.buf := fun x hx => by rw [e4, if_neg (hne x hx)]
    refine ⟨h.turn e2 (fun k => by rw [e3]; exact h.rfs k) h.nodup (fun k => ?_) (fun x hx => ?_) h.adj h.hv h.hv1 (fun y hy => ?_) h.lateN h.nx h.nx1, fun _ => ⟨e1, by rw [e4, if_pos rfl]⟩, hk⟩
    · rw [e4]; split
      · exact hl
      · exact h.dl k
    · rw [hk x (List.mem_append_left _ hx)]; exact h.lz x hx
    · have := h.late y hy
      exact ⟨this.off, this.skip, this.size, by rw [hk y (List.mem_append_right _ hy)]; exact this.fit, this.far⟩
  · rw [set_no hj (by omega)]
    exact ⟨h, fun h1 => absurd h1 hl, fun _ _ => rfl⟩
/-- The one that is taken is let go. -/
theorem Qv.free {j : Int} (h : Qv n S [j]) : Qv n { S with L := (freeF S.L j).2 } [] ∧ (∀ k, dt (freeF S.L j).2 k = dt S.L k) := by
  have hj : rf S.L j = 1 := h.used (mem_ex List.mem_cons_self)
  obtain ⟨_, e2, e3, e4⟩ := free_of hj
  have hi : ∀ T : Rq, ids T [j] = ids T [] ++ [j] := fun T => by simp [ids]
  have hnd := h.nodup
  rw [hi, List.nodup_append] at hnd
  refine ⟨h.turn e2 (fun k => ?_) hnd.1 (fun k => by rw [e4]; exact h.dl k) (fun x hx => by rw [e4]; exact h.lz x hx) h.adj h.hv h.hv1 (fun y hy => ?_) h.lateN h.nx h.nx1, e4⟩
  · rw [e3]
    show _ = if k ∈ ids S [] then 1 else 0
    by_cases e : k = j
    · rw [if_pos e, if_neg]
      intro hc; exact hnd.2.2 k hc j List.mem_cons_self e
    · rw [if_neg e, h.rfs, hi]
      by_cases e1 : k ∈ ids S []
      · rw [if_pos e1, if_pos (List.mem_append_left _ e1)]
      · rw [if_neg e1, if_neg]
        intro hc
        rcases List.mem_append.1 hc with hc | hc
        · exact e1 hc
        · exact e (by simpa using hc)
  · have := h.late y hy
    exact ⟨this.off, this.skip, this.size, by rw [e4]; exact this.fit, this.far⟩
end
end Go.Proofs.Ytpgnklmmjdkhiaa

/-
  A receiver's queue in its bounds: joining, draining, putting, reading keep it.
-/
namespace Go.Proofs.Ytpgnklmmjdkhiaa
open Go.RowKit
theorem snoc_cases {α : Type} (l : List α) : l = [] ∨ ∃ l0 z, l = l0 ++ [z] := by
  rcases List.eq_nil_or_concat l with h | ⟨l0, z, h⟩
  · exact .inl h
  · exact .inr ⟨l0, z, by rw [h, List.concat_eq_append]⟩
theorem flatMap_same {α β : Type} {f g : α → List β} : ∀ {l : List α}, (∀ x ∈ l, f x = g x) → l.flatMap f = l.flatMap g
  | [], _ => rfl
  | x :: l, h => by rw [List.flatMap_cons, List.flatMap_cons, h x List.mem_cons_self, flatMap_same (fun y hy => h y (List.mem_cons_of_mem _ hy))]
theorem Adj.tsnoc {t : List Int} {b : Int} (h : Adj t.tail) (hl : ∀ a, t.getLast? = some a → 288 < a + b) : Adj (t ++ [b]).tail := by
  cases t with
  | nil => trivial
  | cons a t =>
    show Adj (t ++ [b])
    rcases snoc_cases t with rfl | ⟨t0, z, rfl⟩
    · trivial
    · exact Adj.snoc h (hl z (by rw [← List.cons_append, List.getLast?_append]; rfl))
theorem Adj.tgrow {t : List Int} {a b : Int} (h : Adj (t ++ [a]).tail) (hl : a ≤ b) : Adj (t ++ [b]).tail := by
  cases t with
  | nil => trivial
  | cons c t => exact Adj.grow (t := t) h hl
section
variable {n : Nat} {S : Rq} {ex : List Int} {x : Pc}
theorem Qv.last (h : Qv n S ex) (v : Int) : Qv n { S with last := v } ex := ⟨h.len, h.rfs, h.nodup, h.dl, h.lz, h.adj, h.hv, h.hv1, h.late, h.lateN, h.nx, h.nx1, h.gone⟩
theorem pcB_len {L : List Bf} {x : Pc} {far : Int} (h : LateOk L far x) : ((pcB L x).length : Int) = x.size := by
  have := h.fit
  have := h.skip
  have := h.size
  unfold pcB
  rw [List.length_take, List.length_drop]
  omega
theorem jB_eq (h : Qv n S [x.buf]) (hx : LateOk S.L (S.nxt + 1024 - S.hv) x) (h0 : x.off ≤ S.nxt) : jB S x = (pcB S.L x).drop (S.nxt - x.off).toNat := by
  have := hx.skip
  unfold jB pcB
  rw [(see_of (h.used (mem_ex List.mem_cons_self))).2, List.drop_take, List.drop_drop]
  congr 1
  · omega
  · congr 1; omega
theorem Qv.jnOk (h : Qv n S [x.buf]) (hx : LateOk S.L (S.nxt + 1024 - S.hv) x) (h0 : x.off ≤ S.nxt) : JnOk S x := by
  have := h.hv0; have := h.hv1; have := h.nx; have := h.nx1; have := hx.off
  refine ⟨by omega, by omega, by omega, by omega, hx.skip, hx.size, ?_, by omega, by omega, fun z hz => ?_, ?_, h.lone⟩
  · rw [(see_of (h.used (mem_ex List.mem_cons_self))).2]; exact hx.fit
  · have h1 := h.lz z hz
    have h2 := h.dl z.buf
    omega
  · have := h.lN; omega
theorem nodup_ne (h : Qv n S [x.buf]) : ∀ y ∈ S.l ++ S.late, y.buf ≠ x.buf := by
  intro y hy hc
  have := h.nodup
  unfold ids at this
  rw [← List.append_assoc, List.nodup_append] at this
  refine this.2.2 y.buf ?_ x.buf List.mem_cons_self hc
  rw [← List.map_append]
  exact List.mem_map_of_mem hy
theorem Qv.joinN (h : Qv n S [x.buf]) (hx : LateOk S.L (S.nxt + 1024 - S.hv) x) (h0 : x.off ≤ S.nxt) (h1 : S.nxt - x.off < x.size) (hz : ∀ z, S.l.getLast? = some z → 288 < z.size + (x.size - (S.nxt - x.off))) :
    Qv n (joinN S x S.L) [] ∧ (∀ y ∈ S.l ++ S.late, dt (joinN S x S.L).L y.buf = dt S.L y.buf) ∧ Wt (joinN S x S.L) = Wt S ++ (pcB S.L x).drop (S.nxt - x.off).toNat := by
  have hxb : rf S.L x.buf = 1 := h.used (mem_ex List.mem_cons_self)
  have g1 := hx.skip; have g2 := hx.size; have g3 := hx.fit; have g4 := hx.far; have g5 := hx.off
  have k1 := h.hv0; have k2 := h.hv1; have k3 := h.nx; have k4 := h.nx1
  obtain ⟨e1, e2, e3, e4⟩ := trim_ok (f := x.skip + (S.nxt - x.off)) (g := ((dt S.L x.buf).length : Int) - (x.skip + (S.nxt - x.off)) - (x.size - (S.nxt - x.off))) hxb (by omega) (by omega) (by omega)
  have hne := nodup_ne h
  have hdt : dt (ownF S.L x.buf (trimF (x.skip + (S.nxt - x.off)) (((dt S.L x.buf).length : Int) - (x.skip + (S.nxt - x.off)) - (x.size - (S.nxt - x.off))))).2 x.buf = (pcB S.L x).drop (S.nxt - x.off).toNat := by
    rw [e4, if_pos rfl]
    unfold pcB
    rw [List.drop_take, List.drop_drop]
    congr 1
    · omega
    · congr 1; omega
  have hpl : (((pcB S.L x).drop (S.nxt - x.off).toNat).length : Int) = x.size - (S.nxt - x.off) := by
    have := pcB_len hx
    rw [List.length_drop]; omega
  have hk : ∀ y ∈ S.l ++ S.late, dt (ownF S.L x.buf (trimF (x.skip + (S.nxt - x.off)) (((dt S.L x.buf).length : Int) - (x.skip + (S.nxt - x.off)) - (x.size - (S.nxt - x.off))))).2 y.buf = dt S.L y.buf := fun y hy => by rw [e4, if_neg (hne y hy)]
  unfold Go.Proofs.Ytpgnklmmjdkhiaa.joinN
  rw [(see_of hxb).2]
  have hperm : (ids { S with last := jLast S x, nxt := S.nxt + (x.size - (S.nxt - x.off)), hv := S.hv + (x.size - (S.nxt - x.off)), L := (ownF S.L x.buf (trimF (x.skip + (S.nxt - x.off)) (((dt S.L x.buf).length : Int) - (x.skip + (S.nxt - x.off)) - (x.size - (S.nxt - x.off))))).2, l := S.l ++ [⟨x.off + (S.nxt - x.off), x.buf, 0, x.size - (S.nxt - x.off), x.fin⟩] } []).Perm (ids S [x.buf]) := by
    unfold ids
    simp only [List.map_append, List.map_cons, List.map_nil, List.append_nil, List.append_assoc]
    exact List.Perm.append_left _ List.perm_append_comm
  refine ⟨?_, hk, ?_⟩
  · refine h.turn (late' := S.late) e2 (fun k => ?_) (hperm.nodup_iff.2 h.nodup) (fun k => ?_) (fun y hy => ?_) ?_ ?_ (by omega) (fun y hy => ?_) h.lateN (by omega) (by omega)
    · rw [e3, h.rfs]
      by_cases hc : k ∈ ids S [x.buf]
      · rw [if_pos hc]; exact (if_pos (hperm.mem_iff.2 hc)).symm
      · rw [if_neg hc]; exact (if_neg (fun h => hc (hperm.mem_iff.1 h))).symm
    · rw [e4]; split
      · have := h.dl x.buf
        rw [List.length_take, List.length_drop]; omega
      · exact h.dl k
    · rcases List.mem_append.1 hy with hy | hy
      · rw [hk y (List.mem_append_left _ hy)]; exact h.lz y hy
      · obtain rfl := by simpa using hy
        dsimp only
        rw [hdt]
        exact ⟨rfl, by omega, hpl⟩
    · rw [List.map_append]
      refine Adj.tsnoc h.adj fun a ha => ?_
      rw [List.getLast?_map, Option.map_eq_some_iff] at ha
      obtain ⟨z, hz1, rfl⟩ := ha
      exact hz z hz1
    · rw [List.map_append, List.sum_append, ← h.hv]; simp
    · have := h.late y hy
      exact ⟨this.off, this.skip, this.size, by rw [hk y (List.mem_append_right _ hy)]; exact this.fit, by have := this.far; omega⟩
  · unfold Wt
    rw [List.flatMap_append]
    congr 1
    · exact flatMap_same fun y hy => hk y (List.mem_append_left _ hy)
    · simpa using hdt
/-- A piece that reaches up to what is wanted, or behind it, is joined. -/
theorem Qv.join (h : Qv n S [x.buf]) (hx : LateOk S.L (S.nxt + 1024 - S.hv) x) (h0 : x.off ≤ S.nxt) :
    JnOk S x ∧ Qv n (joinF S x) [] ∧ (∀ y ∈ S.late, dt (joinF S x).L y.buf = dt S.L y.buf) ∧ (joinF S x).nxt = max S.nxt (x.off + x.size) ∧ Wt (joinF S x) = Wt S ++ (pcB S.L x).drop (S.nxt - x.off).toNat ∧ (joinF S x).nxt - (joinF S x).hv = S.nxt - S.hv ∧ (joinF S x).last = jLast S x := by
  refine ⟨h.jnOk hx h0, ?_⟩
  have hxb : rf S.L x.buf = 1 := h.used (mem_ex List.mem_cons_self)
  have g1 := hx.skip; have g2 := hx.size; have g3 := hx.fit; have g4 := hx.far; have g5 := hx.off
  have k1 := h.hv0; have k2 := h.hv1; have k3 := h.nx; have k4 := h.nx1
  have hpl := pcB_len hx
  have hne := nodup_ne h
  by_cases c1 : x.size ≤ S.nxt - x.off
  · have e : joinF S x = { S with last := jLast S x, L := (freeF S.L x.buf).2 } := by unfold joinF; rw [if_pos (decide_eq_true c1)]
    rw [e]
    obtain ⟨q1, q2⟩ := h.free
    refine ⟨q1.last _, fun y _ => q2 _, by show S.nxt = _; omega, ?_, rfl, rfl⟩
    rw [List.drop_of_length_le (by omega), List.append_nil]
    exact flatMap_same fun y _ => q2 _
  · have hN : (∀ z, S.l.getLast? = some z → 288 < z.size + (x.size - (S.nxt - x.off))) → joinF S x = Go.Proofs.Ytpgnklmmjdkhiaa.joinN S x S.L → Qv n (joinF S x) [] ∧ (∀ y ∈ S.late, dt (joinF S x).L y.buf = dt S.L y.buf) ∧ (joinF S x).nxt = max S.nxt (x.off + x.size) ∧ Wt (joinF S x) = Wt S ++ (pcB S.L x).drop (S.nxt - x.off).toNat ∧ (joinF S x).nxt - (joinF S x).hv = S.nxt - S.hv ∧ (joinF S x).last = jLast S x := by
      intro hz e
      obtain ⟨q1, q2, q3⟩ := h.joinN hx h0 (by omega) hz
      rw [e]
      refine ⟨q1, fun y hy => q2 y (List.mem_append_right _ hy), ?_, q3, ?_, rfl⟩
      · show S.nxt + (x.size - (S.nxt - x.off)) = _; omega
      · show S.nxt + (x.size - (S.nxt - x.off)) - (S.hv + (x.size - (S.nxt - x.off))) = _; omega
    rcases snoc_cases S.l with hl | ⟨l0, z, hl⟩
    · refine hN (fun z hz => by rw [hl] at hz; cases hz) ?_
      unfold joinF
      rw [if_neg (by simpa using c1), if_neg (by rw [hl]; decide)]
    · have hjz : jZ S = z := by
        have := jZ_at (S := S) (by rw [hl]; simp)
        rw [hl] at this
        simpa using this.symm
      have hzm : z ∈ S.l := by rw [hl]; simp
      have hz1 : rf S.L z.buf = 1 := h.used (mem_l hzm)
      have hzl := h.lz z hzm
      have hjl : ((jB S x).length : Int) = x.size - (S.nxt - x.off) := by rw [jB_eq h hx h0, List.length_drop]; omega
      by_cases c2 : (dt S.L z.buf).length + (jB S x).length ≤ 288
      · obtain ⟨e1, e2, e3, e4⟩ := app_ok hz1 c2
        have hA : jA S x = ownF S.L z.buf (appF (jB S x)) := by unfold jA; rw [hjz]
        have hx1 : rf (ownF S.L z.buf (appF (jB S x))).2 x.buf = 1 := by rw [e3]; exact hxb
        obtain ⟨f1, f2, f3, f4⟩ := free_of hx1
        have e : joinF S x = { S with last := jLast S x, nxt := S.nxt + (x.size - (S.nxt - x.off)), hv := S.hv + (x.size - (S.nxt - x.off)), L := (freeF (ownF S.L z.buf (appF (jB S x))).2 x.buf).2, l := l0 ++ [⟨z.off, z.buf, z.skip, z.size + (x.size - (S.nxt - x.off)), z.fin⟩] } := by
          unfold joinF
          rw [if_neg (by simpa using c1), if_pos (by rw [hl]; simp), hA, if_pos (by rw [e1]; rfl), hjz]
          congr 1
          rw [hl]; simp
        rw [e]
        have hz2 : ∀ y ∈ S.late, y.buf ≠ z.buf := by
          intro y hy hc
          have := h.nodup
          unfold ids at this
          rw [List.nodup_append] at this
          exact this.2.2 z.buf (List.mem_map_of_mem hzm) y.buf (List.mem_append_left _ (List.mem_map_of_mem hy)) hc.symm
        have hz3 : ∀ y ∈ l0, y.buf ≠ z.buf := by
          intro y hy hc
          have := h.nodup
          unfold ids at this
          rw [hl, List.map_append, List.append_assoc, List.nodup_append] at this
          exact this.2.2 y.buf (List.mem_map_of_mem hy) z.buf (by simp) hc
        have hd : ∀ k, dt (freeF (ownF S.L z.buf (appF (jB S x))).2 x.buf).2 k = if k = z.buf then dt S.L z.buf ++ jB S x else dt S.L k := fun k => by rw [f4, e4]
        have hi : ∀ T : Rq, ids T [x.buf] = ids T [] ++ [x.buf] := fun T => by simp [ids]
        have hi2 : ids ⟨(freeF (ownF S.L z.buf (appF (jB S x))).2 x.buf).2, l0 ++ [⟨z.off, z.buf, z.skip, z.size + (x.size - (S.nxt - x.off)), z.fin⟩], S.late, S.nxt + (x.size - (S.nxt - x.off)), S.hv + (x.size - (S.nxt - x.off)), jLast S x, false⟩ [] = ids S [] := by
          unfold ids; rw [hl]; simp
        have hnd := h.nodup
        rw [hi, List.nodup_append] at hnd
        refine ⟨?_, fun y hy => ?_, ?_, ?_, ?_, rfl⟩
        · refine h.turn (late' := S.late) (f2.trans e2) (fun k => ?_) (by rw [hi2]; exact hnd.1) (fun k => ?_) (fun y hy => ?_) ?_ ?_ (by omega) (fun y hy => ?_) h.lateN (by omega) (by omega)
          · rw [f3, e3, hi2]
            by_cases e : k = x.buf
            · rw [if_pos e, if_neg]
              intro hc; exact hnd.2.2 k hc x.buf List.mem_cons_self e
            · rw [if_neg e, h.rfs, hi]
              by_cases e1 : k ∈ ids S []
              · rw [if_pos e1, if_pos (List.mem_append_left _ e1)]
              · rw [if_neg e1, if_neg]
                intro hc
                rcases List.mem_append.1 hc with hc | hc
                · exact e1 hc
                · exact e (by simpa using hc)
          · rw [hd]; split
            · rw [List.length_append]; exact c2
            · exact h.dl k
          · rcases List.mem_append.1 hy with hy | hy
            · rw [hd, if_neg (hz3 y hy)]; exact h.lz y (by rw [hl]; exact List.mem_append_left _ hy)
            · obtain rfl := by simpa using hy
              dsimp only
              rw [hd, if_pos rfl, List.length_append]
              exact ⟨hzl.1, by omega, by omega⟩
          · have := h.adj
            rw [hl, List.map_append] at this
            rw [List.map_append]
            exact Adj.tgrow this (by dsimp only; omega)
          · have := h.hv
            rw [hl, List.map_append, List.sum_append] at this
            rw [List.map_append, List.sum_append, this]
            simp; omega
          · have := h.late y hy
            exact ⟨this.off, this.skip, this.size, by rw [hd, if_neg (hz2 y hy)]; exact this.fit, by have := this.far; omega⟩
        · show dt (freeF (ownF S.L z.buf (appF (jB S x))).2 x.buf).2 y.buf = _
          rw [hd, if_neg (hz2 y hy)]
        · show S.nxt + (x.size - (S.nxt - x.off)) = _; omega
        · unfold Wt
          dsimp only
          rw [List.flatMap_append, hl, List.flatMap_append, List.append_assoc]
          congr 1
          · exact flatMap_same fun y hy => by rw [hd, if_neg (hz3 y hy)]
          · simp only [List.flatMap_cons, List.flatMap_nil, List.append_nil]
            rw [hd, if_pos rfl, jB_eq h hx h0]
        · show S.nxt + (x.size - (S.nxt - x.off)) - (S.hv + (x.size - (S.nxt - x.off))) = _; omega
      · refine hN (fun z' hz' => ?_) ?_
        · rw [hl, List.getLast?_append] at hz'
          obtain rfl : z = z' := by simpa using hz'
          omega
        · unfold joinF jA
          rw [if_neg (by simpa using c1), if_pos (by rw [hl]; simp), hjz, app_no hz1 (by omega)]
          rfl
end
end Go.Proofs.Ytpgnklmmjdkhiaa

/-
  A receiver's queue in its bounds: draining, putting, reading keep it.
-/
namespace Go.Proofs.Ytpgnklmmjdkhiaa
open Go.RowKit
section
variable {n : Nat} {S : Rq} {ex : List Int} {x : Pc}
theorem split_at {M : List Pc} {i : Nat} {y : Pc} (h : M[i]? = some y) : M = M.take i ++ y :: M.drop (i + 1) := by
  obtain ⟨hi, rfl⟩ := List.getElem?_eq_some_iff.1 h
  rw [← List.drop_eq_getElem_cons hi, List.take_append_drop]
theorem Qv.out (h : Qv n S []) {i : Nat} {y : Pc} (hy : S.late[i]? = some y) : Qv n (dropAt S i) [y.buf] ∧ LateOk (dropAt S i).L ((dropAt S i).nxt + 1024 - (dropAt S i).hv) y := by
  have hm : y ∈ S.late := List.mem_of_getElem? hy
  have hs := split_at hy
  have hperm : (ids (dropAt S i) [y.buf]).Perm (ids S []) := by
    unfold ids dropAt
    dsimp only
    refine List.Perm.append_left _ ?_
    conv => rhs; rw [hs]
    simp only [List.map_append, List.map_cons, List.append_nil, List.append_assoc]
    refine List.Perm.append_left _ ?_
    rw [List.singleton_append.symm] 
    exact List.perm_append_comm
  have hsub : ∀ z ∈ (dropAt S i).late, z ∈ S.late := by
    intro z hz
    rw [hs]
    rcases List.mem_append.1 hz with hz | hz
    · exact List.mem_append_left _ hz
    · exact List.mem_append_right _ (List.mem_cons_of_mem _ hz)
  refine ⟨⟨h.len, fun k => ?_, hperm.nodup_iff.2 h.nodup, h.dl, h.lz, h.adj, h.hv, h.hv1, fun z hz => h.late z (hsub z hz), ?_, h.nx, h.nx1, h.gone⟩, h.late y hm⟩
  · show rf S.L k = _
    rw [h.rfs]
    by_cases hc : k ∈ ids S []
    · rw [if_pos hc, if_pos (hperm.mem_iff.2 hc)]
    · rw [if_neg hc, if_neg (fun h => hc (hperm.mem_iff.1 h))]
  · have := h.lateN
    rw [dropAt_len (List.getElem?_eq_some_iff.1 hy).1]; omega
theorem Qv.step (h : Qv n S []) {i : Nat} {y : Pc} (hy : S.late[i]? = some y) (h0 : y.off ≤ S.nxt) : JnOk (dropAt S i) y ∧ Qv n (joinF (dropAt S i) y) [] :=
  have k := (h.out hy).1.join (h.out hy).2 h0
  ⟨k.1, k.2.1⟩
theorem drain_keep (J : Rq → Prop) (hJ : ∀ T i y, J T → T.late[i]? = some y → y.off ≤ T.nxt → J (joinF (dropAt T i) y)) : ∀ k S, J S → S.late.length ≤ k → J (drainF k S) ∧ nextIx (drainF k S) = none
  | 0, S, h, hk => ⟨h, by
      have : S.late = [] := List.length_eq_zero_iff.1 (by omega)
      show nextIx S = none
      unfold nextIx; rw [this]; rfl⟩
  | k + 1, S, h, hk => by
    unfold drainF
    cases e : nextIx S with
    | none => exact ⟨h, e⟩
    | some i =>
      have e' := e
      unfold nextIx at e'
      rw [List.findIdx?_eq_some_iff_getElem] at e'
      obtain ⟨hi, e1, _⟩ := e'
      have hy : S.late[i]? = some S.late[i] := List.getElem?_eq_getElem hi
      dsimp only
      rw [List.getD_eq_getElem?_getD, hy, Option.getD_some]
      refine drain_keep J hJ k _ (hJ S i _ h hy (by simpa using e1)) ?_
      rw [join_late, dropAt_len hi]; omega
theorem next_late (h : nextIx S = none) : ∀ y ∈ S.late, S.nxt < y.off := by
  intro y hy
  unfold nextIx at h
  rw [List.findIdx?_eq_none_iff] at h
  have := h y hy
  simp at this; exact this
/-- What putting comes to. -/
theorem put_cases (S : Rq) (x : Pc) : qPutF S x = (false, { S with L := (freeF S.L x.buf).2 }) ∨ (fitsF S x = true ∧ x.off ≤ S.nxt ∧ earlyF S x = false ∧ qPutF S x = (true, drainF S.late.length (joinF S x))) ∨
    (fitsF S x = true ∧ S.nxt < x.off ∧ S.late.length ≠ 4 ∧ qPutF S x = (true, { S with late := S.late ++ [x], last := if x.fin = true then x.fin' else S.last })) := by
  unfold qPutF
  by_cases hf : fitsF S x = true
  · simp only [if_pos hf]
    by_cases ho : x.off ≤ S.nxt
    · simp only [if_pos (decide_eq_true ho)]
      unfold orderF
      by_cases he : earlyF S x = true
      · simp only [if_pos he]; exact .inl rfl
      · simp only [if_neg he]
        exact .inr (.inl ⟨hf, ho, by simpa using he, rfl⟩)
    · simp only [if_neg (show ¬ decide (x.off ≤ S.nxt) = true by simpa using ho)]
      unfold waitsF
      by_cases h1 : (((S.late.length : Int) == 4) || ((x.size == 0) && !x.fin)) = true
      · simp only [if_pos h1]; exact .inl rfl
      · simp only [if_neg h1]
        by_cases h2 : S.late.any (clash x) = true
        · simp only [if_pos h2]; exact .inl rfl
        · simp only [if_neg h2]
          refine .inr (.inr ⟨hf, by omega, ?_, rfl⟩)
          intro hc
          rw [hc] at h1; exact h1 rfl
  · simp only [if_neg hf]; exact .inl rfl
theorem Qv.room (h : Qv n S ex) : roomF S = 1024 - S.hv := by
  have := h.hv0; have := h.hv1
  unfold roomF; rw [IntKind.wrap_i64]; omega
theorem fits_of (h : Qv n S ex) (hf : fitsF S x = true) : LateOk S.L (S.nxt + 1024 - S.hv) x ∧ x.fin' = x.off + x.size ∧ (endedF S = false) := by
  have k1 := h.hv0; have k2 := h.hv1; have k3 := h.nx; have k4 := h.nx1
  unfold fitsF at hf
  split at hf
  · cases hf
  · rename_i c1
    split at hf
    · cases hf
    · rename_i c2
      simp only [Bool.or_eq_true, decide_eq_true_eq, not_or, bne_iff_ne, ne_eq, Decidable.not_not] at c1 c2
      obtain ⟨⟨⟨⟨⟨s0, a1⟩, a2⟩, a3⟩, a4⟩, a5⟩ := c1
      obtain ⟨⟨⟨b1, b2⟩, b3⟩, b4⟩ := c2
      have hu := see_in_use s0
      have hr : rf S.L x.buf = 1 := by
        have := h.rfs x.buf
        split at this
        · exact this
        · exact absurd this hu
      rw [(see_of hr).2] at a4 a5
      have hd := h.dl x.buf
      rw [IntKind.wrap_i64] at a5
      rw [h.room] at b3 b4
      rw [IntKind.wrap_i64] at b3
      unfold Pc.fin' at b4 ⊢
      rw [IntKind.wrap_i64, IntKind.wrap_i64] at b4
      have hs : x.size ≤ 288 := by omega
      refine ⟨⟨by omega, by omega, by omega, by omega, by omega⟩, ?_, by simpa using b2⟩
      rw [IntKind.wrap_i64]; omega
theorem far_le {B : Int} : ∀ {M : List Pc} {nxt : Int}, nxt ≤ B → (∀ y ∈ M, y.fin' ≤ B) → farF nxt M ≤ B
  | [], _, h, _ => h
  | y :: M, nxt, h, hM => by
    unfold farF
    rw [List.foldl_cons]
    refine far_le (M := M) ?_ (fun z hz => hM z (List.mem_cons_of_mem _ hz))
    have := hM y List.mem_cons_self
    unfold Pc.fin' at this
    split <;> omega
theorem fits_mk (h : Qv n S ex) (hu : rf S.L x.buf = 1) (hx : LateOk S.L (S.nxt + 1024 - S.hv) x) (he : endedF S = false) (hl : 0 ≤ S.last → x.off + x.size ≤ S.last ∧ (x.fin = true → x.off + x.size = S.last)) (hf : x.fin = true → farF S.nxt S.late ≤ x.off + x.size) : fitsF S x = true := by
  have k1 := h.hv0; have k2 := h.hv1; have k3 := h.nx; have k4 := h.nx1
  have g1 := hx.off; have g2 := hx.skip; have g3 := hx.size; have g4 := hx.fit; have g5 := hx.far
  have hd := h.dl x.buf
  have hfn : x.fin' = x.off + x.size := fin_is (by omega) (by omega) (by omega) (by omega)
  unfold fitsF
  rw [if_neg, if_neg, if_neg]
  · rw [hfn]
    cases e : x.fin with
    | false => rfl
    | true => simpa using hf e
  · simp only [Bool.and_eq_true, Bool.or_eq_true, decide_eq_true_eq, bne_iff_ne, ne_eq, not_and, not_or, Decidable.not_not, hfn]
    intro h0
    have := hl h0
    exact ⟨by omega, fun e => this.2 e⟩
  · simp only [Bool.or_eq_true, decide_eq_true_eq, not_or, hfn, h.gone, he, h.room]
    rw [IntKind.wrap_i64]
    exact ⟨⟨⟨by simp, by simp⟩, by omega⟩, by omega⟩
  · simp only [Bool.or_eq_true, decide_eq_true_eq, not_or, bne_iff_ne, ne_eq, Decidable.not_not, (see_of hu).2, (see_of hu).1]
    rw [IntKind.wrap_i64]
    exact ⟨⟨⟨⟨⟨trivial, by omega⟩, by omega⟩, by omega⟩, by omega⟩, by omega⟩
/-- Putting keeps all in its bounds. -/
theorem Qv.put (h : Qv n S [x.buf]) (hE : ∀ y ∈ S.late, S.nxt < y.off) : Qv n (qPutF S x).2 [] ∧ (∀ y ∈ (qPutF S x).2.late, (qPutF S x).2.nxt < y.off) ∧ (qPutF S x).2.nxt - (qPutF S x).2.hv = S.nxt - S.hv := by
  rcases put_cases S x with e | ⟨hf, ho, he, e⟩ | ⟨hf, ho, h4, e⟩
  · rw [e]; exact ⟨h.free.1, hE, rfl⟩
  · rw [e]
    obtain ⟨hx, _, _⟩ := fits_of h hf
    obtain ⟨_, j2, _, _, _, j6, _⟩ := h.join hx ho
    obtain ⟨d1, d2⟩ := drain_keep (fun T => Qv n T [] ∧ T.nxt - T.hv = S.nxt - S.hv) (fun T i y hT hy h0 => by
      obtain ⟨_, k2, _, _, _, k6, _⟩ := (hT.1.out hy).1.join (hT.1.out hy).2 h0
      exact ⟨k2, k6.trans hT.2⟩) S.late.length (joinF S x) ⟨j2, j6⟩ (by rw [join_late]; exact Nat.le_refl _)
    exact ⟨d1.1, next_late d2, d1.2⟩
  · rw [e]
    obtain ⟨hx, _, _⟩ := fits_of h hf
    have hi : ids { S with late := S.late ++ [x], last := if x.fin = true then x.fin' else S.last } [] = ids S [x.buf] := by unfold ids; simp
    refine ⟨⟨h.len, fun k => by rw [hi]; exact h.rfs k, by rw [hi]; exact h.nodup, h.dl, h.lz, h.adj, h.hv, h.hv1, fun y hy => ?_, ?_, h.nx, h.nx1, h.gone⟩, fun y hy => ?_, rfl⟩
    · rcases List.mem_append.1 hy with hy | hy
      · exact h.late y hy
      · obtain rfl := by simpa using hy
        exact hx
    · have := h.lateN
      rw [List.length_append]
      show S.late.length + 1 ≤ 4
      omega
    · rcases List.mem_append.1 hy with hy | hy
      · exact hE y hy
      · obtain rfl := by simpa using hy
        exact ho
theorem Qv.put_h1 (h : Qv n S [x.buf]) : fitsF S x = true → x.off ≤ S.nxt → earlyF S x = false → JnOk S x ∧ Qv n (joinF S x) [] := fun hf ho _ =>
  have k := h.join (fits_of h hf).1 ho
  ⟨k.1, k.2.1⟩
/-- The first is let go. -/
theorem Qv.pop {t : List Pc} (h : Qv n S []) (hl : S.l = x :: t) (hN : S.nxt + 1024 ≤ 1000000000000000000) : Qv n ⟨(freeF S.L x.buf).2, t, S.late, S.nxt, S.hv - x.size, S.last, S.gone⟩ [] ∧ (∀ k, dt (freeF S.L x.buf).2 k = dt S.L k) ∧ Wt S = dt S.L x.buf ++ Wt ⟨(freeF S.L x.buf).2, t, S.late, S.nxt, S.hv - x.size, S.last, S.gone⟩ := by
  have hxm : x ∈ S.l := by rw [hl]; exact List.mem_cons_self
  have hxb : rf S.L x.buf = 1 := h.used (mem_l hxm)
  obtain ⟨_, e2, e3, e4⟩ := free_of hxb
  have hz := h.lz x hxm
  have k1 := h.hv0; have k2 := h.hv1; have k3 := h.nx
  have hs : S.hv = x.size + (t.map Pc.size).sum := by rw [h.hv, hl]; simp
  have hnd := h.nodup
  have hi : ids S [] = x.buf :: ids ⟨(freeF S.L x.buf).2, t, S.late, S.nxt, S.hv - x.size, S.last, false⟩ [] := by unfold ids; rw [hl]; rfl
  rw [hi, List.nodup_cons] at hnd
  have hp : 0 ≤ (t.map Pc.size).sum := by
    have := sum_pos (t := t.map Pc.size) (fun a ha => h.pos a (by rw [hl]; exact List.mem_cons_of_mem _ ha))
    omega
  refine ⟨h.turn e2 (fun k => ?_) hnd.2 (fun k => by rw [e4]; exact h.dl k) (fun y hy => by rw [e4]; exact h.lz y (by rw [hl]; exact List.mem_cons_of_mem _ hy)) ?_ (by omega) (by omega) (fun y hy => ?_) h.lateN h.nx (by omega), e4, ?_⟩
  · rw [e3]
    by_cases e : k = x.buf
    · rw [if_pos e, if_neg]; rw [e]; exact hnd.1
    · rw [if_neg e, h.rfs, hi]
      by_cases e1 : k ∈ ids ⟨(freeF S.L x.buf).2, t, S.late, S.nxt, S.hv - x.size, S.last, false⟩ []
      · rw [if_pos e1, if_pos (List.mem_cons_of_mem _ e1)]
      · rw [if_neg e1, if_neg]
        intro hc
        rcases List.mem_cons.1 hc with hc | hc
        · exact e hc
        · exact e1 hc
  · have := h.adj
    rw [hl] at this
    exact Adj.tail this
  · have := h.late y hy
    exact ⟨this.off, this.skip, this.size, by rw [e4]; exact this.fit, by have := this.far; omega⟩
  · unfold Wt
    rw [hl, List.flatMap_cons]
    congr 1
    exact flatMap_same fun y _ => (e4 _).symm
/-- Of the first one some bytes are taken. -/
theorem Qv.cut {t : List Pc} {m : Int} (h : Qv n S []) (hl : S.l = x :: t) (hN : S.nxt + 1024 ≤ 1000000000000000000) (h0 : 0 < m) (h1 : m < x.size) :
    Qv n ⟨(ownF S.L x.buf (trimF (x.skip + m) 0)).2, ⟨x.off, x.buf, 0, x.size - m, x.fin⟩ :: t, S.late, S.nxt, S.hv - m, S.last, S.gone⟩ [] ∧ (∀ y ∈ S.late, dt (ownF S.L x.buf (trimF (x.skip + m) 0)).2 y.buf = dt S.L y.buf) ∧
      Wt S = (dt S.L x.buf).take m.toNat ++ Wt ⟨(ownF S.L x.buf (trimF (x.skip + m) 0)).2, ⟨x.off, x.buf, 0, x.size - m, x.fin⟩ :: t, S.late, S.nxt, S.hv - m, S.last, S.gone⟩ := by
  have hxm : x ∈ S.l := by rw [hl]; exact List.mem_cons_self
  have hxb : rf S.L x.buf = 1 := h.used (mem_l hxm)
  have hz := h.lz x hxm
  obtain ⟨_, e2, e3, e4⟩ := trim_ok (f := x.skip + m) (g := 0) hxb (by omega) (by omega) (by omega)
  have k1 := h.hv0; have k2 := h.hv1; have k3 := h.nx
  have hs : S.hv = x.size + (t.map Pc.size).sum := by rw [h.hv, hl]; simp
  have hp : 0 ≤ (t.map Pc.size).sum := by
    have := sum_pos (t := t.map Pc.size) (fun a ha => h.pos a (by rw [hl]; exact List.mem_cons_of_mem _ ha))
    omega
  have hi : ids S [] = ids ⟨(ownF S.L x.buf (trimF (x.skip + m) 0)).2, ⟨x.off, x.buf, 0, x.size - m, x.fin⟩ :: t, S.late, S.nxt, S.hv - m, S.last, false⟩ [] := by unfold ids; rw [hl]; rfl
  have hnd := h.nodup
  have hnd' := hnd
  unfold ids at hnd'
  rw [hl, List.map_cons, List.cons_append, List.nodup_cons] at hnd'
  have ht : ∀ y ∈ t, y.buf ≠ x.buf := fun y hy hc => hnd'.1 (by rw [← hc]; exact List.mem_append_left _ (List.mem_map_of_mem hy))
  have hlt : ∀ y ∈ S.late, y.buf ≠ x.buf := fun y hy hc => hnd'.1 (by rw [← hc]; exact List.mem_append_right _ (List.mem_append_left _ (List.mem_map_of_mem hy)))
  have hd : dt (ownF S.L x.buf (trimF (x.skip + m) 0)).2 x.buf = (dt S.L x.buf).drop m.toNat := by
    rw [e4, if_pos rfl, hz.1, Int.zero_add]
    exact List.take_of_length_le (by rw [List.length_drop]; simp)
  refine ⟨h.turn e2 (fun k => by rw [e3, h.rfs, hi]) (by rw [← hi]; exact hnd) (fun k => ?_) (fun y hy => ?_) ?_ (by simp; omega) (by omega) (fun y hy => ?_) h.lateN h.nx (by omega), fun y hy => by rw [e4, if_neg (hlt y hy)], ?_⟩
  · rw [e4]; split
    · have := h.dl x.buf
      rw [List.length_take, List.length_drop]; omega
    · exact h.dl k
  · rcases List.mem_cons.1 hy with rfl | hy
    · dsimp only
      rw [hd, List.length_drop]
      exact ⟨rfl, by omega, by omega⟩
    · rw [e4, if_neg (ht y hy)]; exact h.lz y (by rw [hl]; exact List.mem_cons_of_mem _ hy)
  · have := h.adj
    rw [hl] at this
    exact this
  · have := h.late y hy
    exact ⟨this.off, this.skip, this.size, by rw [e4, if_neg (hlt y hy)]; exact this.fit, by have := this.far; omega⟩
  · unfold Wt
    rw [hl, List.flatMap_cons]
    dsimp only
    rw [List.flatMap_cons]
    dsimp only
    rw [hd, ← List.append_assoc, List.take_append_drop]
    congr 1
    exact flatMap_same fun y hy => by rw [e4, if_neg (ht y hy)]
end
end Go.Proofs.Ytpgnklmmjdkhiaa

/-
  A receiver's queue in its bounds: reading; a queue that holds pieces of one text.
-/
namespace Go.Proofs.Ytpgnklmmjdkhiaa
open Go.RowKit
section
variable {n : Nat} {S : Rq} {ex : List Int} {x : Pc}
/-- What is there when k pieces are gone over. -/
def rdMid (most : Int) (S : Rq) (k : Nat) : Rq := ⟨(rdAt most S k).L, (rdRows most S k).drop (rdAt most S k).dn, S.late, S.nxt, S.hv - ((rdAt most S k).o.length : Int), S.last, S.gone⟩
structure RdIn (n : Nat) (most : Int) (S : Rq) (k : Nat) : Prop where
  qv : Qv n (rdMid most S k) []
  wt : Wt S = (rdAt most S k).o ++ Wt (rdMid most S k)
  thr : (rdAt most S k).dn = k ∨ most ≤ ((rdAt most S k).o.length : Int)
  len : ((rdAt most S k).o.length : Int) ≤ max most 0
  late : ∀ y ∈ S.late, dt (rdAt most S k).L y.buf = dt S.L y.buf
theorem drop_len {α : Type} {a b : List α} {k : Nat} (h : a.length = k) : (a ++ b).drop k = b := by subst h; exact List.drop_left
theorem rd_in (h : Qv n S []) (most : Int) (hN : S.nxt + 1024 ≤ 1000000000000000000) : ∀ k, k ≤ S.l.length → RdIn n most S k
  | 0, _ => ⟨by
      have e : rdMid most S 0 = S := by
        unfold rdMid rdRows rdAt
        simp
      rw [e]; exact h, rfl, .inl rfl, by show (0 : Int) ≤ _; omega, fun _ _ => rfl⟩
  | k + 1, hk => by
    have ih := rd_in h most hN k (by omega)
    have hx : S.l[k]? = some S.l[k] := List.getElem?_eq_getElem (by omega)
    have hxp : 0 < S.l[k].size := (h.lz _ (List.getElem_mem _)).2.1
    have hxs : S.l[k].skip = 0 := (h.lz _ (List.getElem_mem _)).1
    have hpl := rd_len most S k (by omega)
    by_cases c0 : rdN most (rdAt most S k).o S.l[k] ≤ 0
    · have hst : rdStep most (rdAt most S k) S.l[k] = { rdAt most S k with pre := (rdAt most S k).pre ++ [S.l[k]] } := by unfold rdStep; rw [if_pos c0]
      have hr : rdRows most S (k + 1) = rdRows most S k := by
        rw [rows_next hx (y := S.l[k]) (by rw [hst])]
        exact row_self (by rw [rows_at (most := most) (show k < S.l.length by omega)]; exact hx)
      have e : rdMid most S (k + 1) = rdMid most S k := by
        unfold rdMid
        rw [hr, rd_next hx, hst]
      refine ⟨by rw [e]; exact ih.qv, ?_, .inr ?_, ?_, ?_⟩
      · rw [e, rd_next hx, hst]; exact ih.wt
      · rw [rd_next hx, hst]
        dsimp only
        unfold rdN at c0; omega
      · rw [rd_next hx, hst]; exact ih.len
      · rw [rd_next hx, hst]; exact ih.late
    · have hdn : (rdAt most S k).dn = k := by
        rcases ih.thr with e | e
        · exact e
        · unfold rdN at c0; omega
      have hml : (rdMid most S k).l = S.l[k] :: S.l.drop (k + 1) := by
        unfold rdMid rdRows
        dsimp only
        rw [hdn, drop_len hpl, List.drop_eq_getElem_cons]
      have hmL : (rdMid most S k).L = (rdAt most S k).L := rfl
      have hN' : (rdMid most S k).nxt + 1024 ≤ 1000000000000000000 := hN
      have hm1 : S.l[k] ∈ (rdMid most S k).l := by rw [hml]; exact List.mem_cons_self
      have hr1 : rf (rdAt most S k).L S.l[k].buf = 1 := ih.qv.used (mem_l hm1)
      have hz := ih.qv.lz _ hm1
      rw [hmL] at hz
      by_cases c1 : S.l[k].size - rdN most (rdAt most S k).o S.l[k] = 0
      · have hst : rdStep most (rdAt most S k) S.l[k] = ⟨(rdAt most S k).pre ++ [⟨S.l[k].off, S.l[k].buf, S.l[k].skip + rdN most (rdAt most S k).o S.l[k], S.l[k].size - rdN most (rdAt most S k).o S.l[k], S.l[k].fin⟩], (freeF (rdAt most S k).L S.l[k].buf).2, (rdAt most S k).o ++ rdB (rdAt most S k).L S.l[k] (rdN most (rdAt most S k).o S.l[k]), (rdAt most S k).dn + 1⟩ := by unfold rdStep; rw [if_neg c0, if_pos c1]
        have hB : rdB (rdAt most S k).L S.l[k] (rdN most (rdAt most S k).o S.l[k]) = dt (rdAt most S k).L S.l[k].buf := by
          unfold rdB
          rw [(see_of hr1).2, hxs]
          exact List.take_of_length_le (by simp; omega)
        obtain ⟨p1, p2, p3⟩ := ih.qv.pop hml hN'
        have e : rdMid most S (k + 1) = ⟨(freeF (rdMid most S k).L S.l[k].buf).2, S.l.drop (k + 1), (rdMid most S k).late, (rdMid most S k).nxt, (rdMid most S k).hv - S.l[k].size, (rdMid most S k).last, (rdMid most S k).gone⟩ := by
          unfold rdMid rdRows
          rw [rd_next hx, hst]
          dsimp only
          rw [hB, hdn]
          congr 1
          · rw [List.drop_append_of_le_length (by simp; omega), List.drop_of_length_le (by simp; omega)]; rfl
          · rw [List.length_append]; omega
        refine ⟨by rw [e]; exact p1, ?_, .inl ?_, ?_, ?_⟩
        · rw [e, ih.wt, p3, rd_next hx, hst, hB, List.append_assoc]; rfl
        · rw [rd_next hx, hst]; dsimp only; omega
        · rw [rd_next hx, hst]; dsimp only
          rw [hB, List.length_append]
          unfold rdN at c0 c1; omega
        · rw [rd_next hx, hst]
          intro y hy
          exact (p2 _).trans (ih.late y hy)
      · have hst : rdStep most (rdAt most S k) S.l[k] = ⟨(rdAt most S k).pre ++ [⟨S.l[k].off, S.l[k].buf, 0, S.l[k].size - rdN most (rdAt most S k).o S.l[k], S.l[k].fin⟩], (ownF (rdAt most S k).L S.l[k].buf (trimF (S.l[k].skip + rdN most (rdAt most S k).o S.l[k]) 0)).2, (rdAt most S k).o ++ rdB (rdAt most S k).L S.l[k] (rdN most (rdAt most S k).o S.l[k]), (rdAt most S k).dn⟩ := by unfold rdStep; rw [if_neg c0, if_neg c1]
        have hlt : rdN most (rdAt most S k).o S.l[k] < S.l[k].size := by unfold rdN at c1 ⊢; omega
        have hB : rdB (rdAt most S k).L S.l[k] (rdN most (rdAt most S k).o S.l[k]) = (dt (rdAt most S k).L S.l[k].buf).take (rdN most (rdAt most S k).o S.l[k]).toNat := by
          unfold rdB
          rw [(see_of hr1).2, hxs]
          rfl
        have hBl : (((dt (rdAt most S k).L S.l[k].buf).take (rdN most (rdAt most S k).o S.l[k]).toNat).length : Int) = rdN most (rdAt most S k).o S.l[k] := by
          rw [List.length_take]; omega
        obtain ⟨p1, p2, p3⟩ := ih.qv.cut (m := rdN most (rdAt most S k).o S.l[k]) hml hN' (by omega) hlt
        have e : rdMid most S (k + 1) = ⟨(ownF (rdMid most S k).L S.l[k].buf (trimF (S.l[k].skip + rdN most (rdAt most S k).o S.l[k]) 0)).2, ⟨S.l[k].off, S.l[k].buf, 0, S.l[k].size - rdN most (rdAt most S k).o S.l[k], S.l[k].fin⟩ :: S.l.drop (k + 1), (rdMid most S k).late, (rdMid most S k).nxt, (rdMid most S k).hv - rdN most (rdAt most S k).o S.l[k], (rdMid most S k).last, (rdMid most S k).gone⟩ := by
          unfold rdMid rdRows
          rw [rd_next hx, hst]
          dsimp only
          rw [hB, hdn]
          congr 1
          · rw [List.append_assoc, drop_len hpl]; rfl
          · rw [List.length_append]; omega
        refine ⟨by rw [e]; exact p1, ?_, .inr ?_, ?_, ?_⟩
        · rw [e, ih.wt, p3, rd_next hx, hst, hB, List.append_assoc]; rfl
        · rw [rd_next hx, hst]; dsimp only
          rw [hB, List.length_append]
          have hrd : rdN most (rdAt most S k).o S.l[k] = min (most - ((rdAt most S k).o.length : Int)) S.l[k].size := rfl
          omega
        · rw [rd_next hx, hst]; dsimp only
          rw [hB, List.length_append]
          have hrd : rdN most (rdAt most S k).o S.l[k] = min (most - ((rdAt most S k).o.length : Int)) S.l[k].size := rfl
          omega
        · rw [rd_next hx, hst]
          intro y hy
          exact (p2 y hy).trans (ih.late y hy)
theorem Qv.read (h : Qv n S []) (most : Int) (hN : S.nxt + 1024 ≤ 1000000000000000000) (hI : IntKind.i64.wrap most = most) : (∀ k x, S.l[k]? = some x → RdOk most (rdAt most S k) x) ∧ Qv n (readS most S) [] ∧ Wt S = readO most S ++ Wt (readS most S) ∧ ((readO most S).length : Int) ≤ max most 0 ∧
    ((readS most S).l = [] ∨ most ≤ ((readO most S).length : Int)) ∧ (∀ y ∈ S.late, dt (readS most S).L y.buf = dt S.L y.buf) ∧ (readS most S).hv = S.hv - ((readO most S).length : Int) := by
  have hlen := h.wt_len
  have k1 := h.hv0; have k2 := h.hv1
  refine ⟨fun k x hx => ?_, ?_⟩
  · obtain ⟨hk, rfl⟩ := List.getElem?_eq_some_iff.1 hx
    have ih := rd_in h most hN k (by omega)
    have hxs := (h.lz _ (List.getElem_mem hk)).1
    have hm1 : S.l[k] ∈ (rdMid most S k).l := by
      have h1 := rows_at (most := most) hk
      rw [hx] at h1
      have h2 := (rd_dn most S k).1
      unfold rdMid
      dsimp only
      refine List.mem_of_getElem? (i := k - (rdAt most S k).dn) ?_
      rw [List.getElem?_drop, show (rdAt most S k).dn + (k - (rdAt most S k).dn) = k by omega]
      exact h1
    have hr1 : rf (rdAt most S k).L S.l[k].buf = 1 := ih.qv.used (mem_l hm1)
    have hz := ih.qv.lz _ hm1
    have ho : (rdAt most S k).o.length ≤ 1024 := by
      have := congrArg List.length ih.wt
      rw [List.length_append] at this
      omega
    refine ⟨by omega, ?_, by omega, ?_⟩
    · rw [(see_of hr1).2, hxs]
      have : ((dt (rdAt most S k).L S.l[k].buf).length : Int) = S.l[k].size := hz.2.2
      omega
    · have := ih.len
      rw [IntKind.wrap_i64] at hI ⊢
      omega
  · have ih := rd_in h most hN S.l.length (Nat.le_refl _)
    have hpl := rd_len most S S.l.length (Nat.le_refl _)
    have ho : (rdAt most S S.l.length).o.length ≤ S.hv := by
      have := congrArg List.length ih.wt
      rw [List.length_append] at this
      omega
    have hw : IntKind.i64.wrap (S.hv - ((rdAt most S S.l.length).o.length : Int)) = S.hv - ((rdAt most S S.l.length).o.length : Int) := by rw [IntKind.wrap_i64]; omega
    have e : readS most S = rdMid most S S.l.length := by
      unfold readS rdMid rdRows
      rw [hw, List.drop_of_length_le (Nat.le_refl S.l.length), List.append_nil]
    refine ⟨by rw [e]; exact ih.qv, by rw [e]; exact ih.wt, ih.len, ?_, ih.late, by rw [e]; rfl⟩
    rcases ih.thr with h1 | h1
    · refine .inl ?_
      unfold readS
      dsimp only
      rw [h1]
      exact List.drop_of_length_le (by omega)
    · exact .inr h1
/-- All that there is, is of one text. -/
structure Tx (text : List UInt8) (S : Rq) : Prop where
  wt : Wt S = (text.take S.nxt.toNat).drop (S.nxt - S.hv).toNat
  nx : S.nxt ≤ (text.length : Int)
  late : ∀ y ∈ S.late, pcB S.L y = (text.drop y.off.toNat).take y.size.toNat ∧ y.off + y.size ≤ (text.length : Int) ∧ (y.fin = true → y.off + y.size = (text.length : Int))
  last : S.last = -1 ∨ S.last = (text.length : Int)
/-- A piece of it. -/
structure TxP (text : List UInt8) (L : List Bf) (x : Pc) : Prop where
  b : pcB L x = (text.drop x.off.toNat).take x.size.toNat
  upto : x.off + x.size ≤ (text.length : Int)
  fin : x.fin = true → x.off + x.size = (text.length : Int)
theorem take_cut {α : Type} (t : List α) {a b : Nat} (h : a ≤ b) : t.take b = t.take a ++ (t.drop a).take (b - a) := by
  obtain ⟨c, rfl⟩ := Nat.exists_eq_add_of_le h
  rw [List.take_add, Nat.add_sub_cancel_left]
theorem Tx.join {text : List UInt8} (ht : Tx text S) (h : Qv n S [x.buf]) (hx : LateOk S.L (S.nxt + 1024 - S.hv) x) (h0 : x.off ≤ S.nxt) (hp : TxP text S.L x) (hl : text.length ≤ 1000) : Tx text (joinF S x) := by
  obtain ⟨_, j1, j2, j3, j4, j5, j6⟩ := h.join hx h0
  have g1 := hx.off; have g2 := hx.size
  have k3 := h.nx; have k1 := h.hv0
  have hnx := ht.nx
  have hto := hp.upto
  have hfn : x.fin' = x.off + x.size := by unfold Pc.fin'; rw [IntKind.wrap_i64]; omega
  have hr : 0 ≤ S.nxt - S.hv := by
    have h1 := h.wt_len
    have h2 := congrArg List.length ht.wt
    rw [List.length_drop, List.length_take] at h2
    omega
  refine ⟨?_, by omega, ?_, ?_⟩
  · rw [j4, j5, ht.wt, hp.b, j3]
    have hd : ((text.drop x.off.toNat).take x.size.toNat).drop (S.nxt - x.off).toNat = (text.drop S.nxt.toNat).take (x.size - (S.nxt - x.off)).toNat := by
      rw [List.drop_take, List.drop_drop]
      congr 1
      · omega
      · congr 1; omega
    rw [hd]
    by_cases c : x.off + x.size ≤ S.nxt
    · rw [show max S.nxt (x.off + x.size) = S.nxt by omega, show (x.size - (S.nxt - x.off)).toNat = 0 by omega, List.take_zero, List.append_nil]
    · rw [show max S.nxt (x.off + x.size) = x.off + x.size by omega, take_cut text (show S.nxt.toNat ≤ (x.off + x.size).toNat by omega), List.drop_append_of_le_length (by rw [List.length_take]; omega), show (x.off + x.size).toNat - S.nxt.toNat = (x.size - (S.nxt - x.off)).toNat by omega]
  · rw [join_late]
    intro y hy
    have := ht.late y hy
    refine ⟨?_, this.2⟩
    rw [← this.1]
    unfold pcB
    rw [j2 y hy]
  · rw [j6]
    unfold jLast
    split
    · rename_i e
      have := hp.fin e
      exact .inr (by omega)
    · exact ht.last
end
end Go.Proofs.Ytpgnklmmjdkhiaa
