/-
  The light machine: rows of one's own, of elements of one cell, that grow. No program is named here.
-/
import Derived.Test.YtloejpkefoagfaaSyApp
namespace Go.Proofs.Ytloejpkefoagfaa
open Go.RowKit

def rRow (v : Value) (xs : List Value) (e : TypeId) : Res where
  ok w := w.ownsRow 0 e 1 v xs.length xs
  fp j := v.ownBlock = some j
  lt w h b hb := (World.ownsRow.lt h b hb).2
  st w w' h hw := by
    refine ⟨h.1, ?_⟩
    rcases h.2 with ⟨h1, h2⟩ | ⟨g, cap, cur, rfl, h1, h2, h3⟩
    · exact .inl ⟨h1, h2⟩
    · exact .inr ⟨g, cap, cur, rfl, h1, by rw [hw g rfl]; exact h2, h3⟩
theorem row_nil (w : World) (e : TypeId) : w.ownsRow 0 e 1 (.slice none 0 0) ([] : List Value).length [] := World.ownsRow_nil w 0 e 1
def rowAddr (q : Option Addr) (i : Nat) : Addr := ⟨(q.getD ⟨0, 0, none⟩).block, (q.getD ⟨0, 0, none⟩).off + i, none⟩
section
variable {P : Program} {X : Cx} {ops : Array Oper} {Q : Exit → Act → World → Prop} {rest : List Oper} {o : Oper} {m : List (Nat × Value)} {l : List Res} {v : Value} {d k : Nat} {x y : Operand} {t t' : TypeId}
/-- An empty row, laid as one. -/
theorem SC.rows {c : Code} (r : Res) (hf : ∀ b, ¬ r.fp b) (hr : ∀ w, r.ok w) (h : SC P X c Q m (l ++ [r])) : SC P X c Q m l := fun a w hfr hI => h a w hfr (hI.add (Only.refl _ _) (hr w) (fun b hb => (hf b hb).elim))
theorem row_form {w : World} {q : Option Addr} {n c : Nat} {xs : List Value} {e : TypeId} (h : w.ownsRow 0 e 1 (.slice q n c) xs.length xs) : n = xs.length ∧ (0 < n → ∃ g cur, q = some ⟨g, 0, none⟩ ∧ w.heap[g]? = some (.cells cur e (0, 0)) ∧ cur.toList.take n = xs) := by
  rcases h.2 with ⟨h1, h2⟩ | ⟨g, cap, cur, h1, _, h2, h3, h4, h5, h6⟩
  · simp only [Value.slice.injEq] at h1
    exact ⟨by omega, fun h => by omega⟩
  · simp only [Value.slice.injEq] at h1
    obtain ⟨rfl, rfl, rfl⟩ := h1
    exact ⟨rfl, fun _ => ⟨g, cur, rfl, h2, by simpa using h6⟩⟩
theorem ru_index_row {e ri : Nat} {ix : Operand} {q : Option Addr} {n c : Nat} {xs : List Value} {i : Int} {kk : IntKind} (hs : SliIs P t e 1) (ho : o.op = .indexAddr t x ix) (hx : evM m x = some (.slice q n c)) (hix : evM m ix = some (.int kk i)) (hi : l[ri]? = some (rRow (.slice q n c) xs e))
    (h0 : 0 ≤ i) (hn : i < n) : Ru P X o m l (.pointer (some (rowAddr q i.toNat))) := fun a w hf hI => by
  obtain ⟨rfl, h2⟩ := row_form (show w.ownsRow 0 e 1 (.slice q n c) xs.length xs from hI.1.get hi)
  obtain ⟨g, cur, rfl, _⟩ := h2 (by omega)
  exact ru_indexS (P := P) (X := X) (m := m) (l := l) hs ho hx hix h0 hn (by rw [Nat.mul_one]; rfl) a w hf hI
theorem ru_load_row {e ri : Nat} {q : Option Addr} {n c i : Nat} {xs : List Value} {z u : Value} (ht : TySc P t z) (ho : o.op = .load t x) (hx : evM m x = some (.pointer (some (rowAddr q i)))) (hi : l[ri]? = some (rRow (.slice q n c) xs e)) (hu : xs[i]? = some u) : Ru P X o m l u := fun a w hf hI => by
  obtain ⟨rfl, h2⟩ := row_form (show w.ownsRow 0 e 1 (.slice q n c) xs.length xs from hI.1.get hi)
  have hil : i < xs.length := (List.getElem?_eq_some_iff.1 hu).1
  obtain ⟨g, cur, rfl, h3, h4⟩ := h2 (by omega)
  have hc : w.cell? ⟨g, 0 + i, none⟩ = some u := by
    rw [cell_of_row _ _ _ _ _ _ h3]
    have : (cur.toList.take xs.length)[i]? = some u := by rw [h4]; exact hu
    rw [List.getElem?_take, if_pos hil] at this
    simpa using this
  unfold execOp; rw [ho]
  simp only [hf.ev hx, Instr.loadAt, Instr.sureAddr, Sem.run_bind, Sem.run_pure, Result.andThen_ok, loadVar, (ht.run w).1]
  have h5 : w.cell? (rowAddr (some ⟨g, 0, none⟩) i) = some u := hc
  simp [h5]
theorem run_row1 {w : World} {e ty : TypeId} {v u z : Value} {xs : List Value} {g2 : Nat} {bytes : Nat} (ht : P.underlying t = some (.slice e)) (hz : (P.info? e).map (fun i => (i.zero, i.size, i.bytes)) = some (some z, 1, bytes)) (hzs : z.cells.size = 1) (hu : u.oneCell' = true)
    (hv : w.ownsRow 0 e 1 v xs.length xs) (hx : Blk w g2 [u] e) (hb : (xs.length + 1) * bytes ≤ 140737488355328) (hn : xs.length + 1 ≤ maxLen) :
    ∃ v' w', (Builtin.append_ #[t, t] ty #[v, sl g2 0 1 1]).run P w = .ok v' w' ∧ w'.ownsRow 0 e 1 v' (xs ++ [u]).length (xs ++ [u]) ∧ Only (fun k => v.ownBlock = some k) w w' ∧ (∀ b, v'.ownBlock = some b → v.ownBlock = some b ∨ w.heap.size ≤ b) := by
  obtain ⟨i, hi, h3⟩ := map_some hz
  simp only [Prod.mk.injEq] at h3
  obtain ⟨z0, z1, z2⟩ := h3
  have hnews : ∀ j q, ([u] : List Value)[j]? = some q → w.cell? ((⟨g2, 0, none⟩ : Addr).add j) = some q := by
    intro j q hj
    rw [add_at, hx.cell]
    simpa using hj
  obtain ⟨v', w', hr, hO, hG, _⟩ := run_append_own (P := P) w 0 t ty e i z 1 bytes ht hi z0 z1 z2 hzs (by decide) v xs.length xs hv ⟨g2, 0, none⟩ 1 1 [u] (by simp) hnews (fun q hq => by simp at hq; subst hq; exact hu) hn hb (Nat.zero_le _)
  refine ⟨v', w', hr, by simpa using hO, grown_only hG _ (fun k h => h), ?_⟩
  rcases hv.2 with ⟨rfl, h0⟩ | ⟨g, cap, cur, rfl, _, hg, hnc, hcm, hcs, htake⟩
  · have hxs : xs = [] := List.eq_nil_of_length_eq_zero h0
    subst hxs
    have h2 := run_append_nil (P := P) w t ty e i z ht hi z0 ⟨g2, 0, none⟩ 1 1 [u] (by simp [z1]) hnews (by omega) (by omega) (by rw [z2]; simp at hb; omega)
    rw [hr] at h2
    injection h2 with e1
    subst e1
    exact fun b hb => .inr (by simp [Value.ownBlock] at hb; omega)
  · by_cases hroom : xs.length + 1 ≤ cap
    · have h2 := run_append_room (P := P) w t ty e i ht hi g xs.length cap cur hg ⟨g2, 0, none⟩ 1 1 [u] (by simp [z1]) hnews (fun q hq => by simp at hq; subst hq; exact hu) hroom (by rw [z1]; simp; omega)
      rw [hr] at h2
      injection h2 with e1
      subst e1
      exact fun b hb => .inl (by simpa [Value.ownBlock] using hb)
    · have holds : ∀ j q, xs[j]? = some q → w.cell? ((⟨g, 0, none⟩ : Addr).add j) = some q := World.ownsRow.cells hv (g := g) rfl
      have h2 := run_append_grow (P := P) w t ty e i z ht hi z0 ⟨g, 0, none⟩ xs.length cap xs (by simp [z1]) holds ⟨g2, 0, none⟩ 1 1 [u] (by simp [z1]) hnews (by omega) (by unfold maxLen at hn; omega) (growslice_fits (by omega) (by rw [z2]; exact hb))
      rw [hr] at h2
      injection h2 with e1
      subst e1
      exact fun b hb => .inr (by simp [Value.ownBlock] at hb; omega)
/-- 'all = append(all, u)'. -/
theorem SL.append_row {e ri rj : Nat} {a1 a2 : Operand} {u z : Value} {xs : List Value} {g2 bytes : Nat} {q : Option Addr} {n c : Nat} (hg : o.guard = none) (hd : o.dst = some d) (hn : d < X.n) (ho : o.op = .call { callee := .builtin .append, args := #[a1, a2], argTypes := #[t, t] })
    (ht : P.underlying t = some (.slice e)) (hz : (P.info? e).map (fun i => (i.zero, i.size, i.bytes)) = some (some z, 1, bytes)) (hzs : z.cells.size = 1) (hu : u.oneCell' = true) (h1 : evM m a1 = some (.slice q n c)) (h2 : evM m a2 = some (sl g2 0 1 1)) (hi : l[ri]? = some (rRow (.slice q n c) xs e)) (hj : l[rj]? = some (rBlk g2 [u] e))
    (hb : (xs.length + 1) * bytes ≤ 140737488355328) (hl : xs.length + 1 ≤ maxLen) (hS : ∀ b, (Value.slice q n c).ownBlock = some b → X.S b ∨ X.w0.heap.size ≤ b)
    (k : ∀ (q' : Option Addr) (c' : Nat), (∀ b, (Value.slice q' (n + 1) c').ownBlock = some b → X.S b ∨ X.w0.heap.size ≤ b) → SL P X ops Q rest ((d, .slice q' (n + 1) c') :: m) (l.set ri (rRow (.slice q' (n + 1) c') (xs ++ [u]) e))) : SL P X ops Q (o :: rest) m l := fun a w hf hI =>
  wpList_plain hg fun K' hK => by
    obtain ⟨en, _⟩ := row_form (show w.ownsRow 0 e 1 (.slice q n c) xs.length xs from hI.1.get hi)
    obtain ⟨v', w', hr, hO, hU, hN⟩ := run_row1 (P := P) (ty := o.type) ht hz hzs hu (hI.1.get hi) (hI.1.get hj) hb hl
    unfold Oper.wp
    rw [run_call_app ho (hf.ev h1) (hf.ev h2) hr]
    simp only [Oper.upon_value, hd]
    obtain ⟨q', c', rfl⟩ : ∃ q' c', v' = .slice q' (n + 1) c' := by
      rcases hO.2 with ⟨_, h0⟩ | ⟨g, cap, cur, rfl, _⟩
      · simp at h0
      · exact ⟨some ⟨g, 0, none⟩, cap, by rw [en]; simp⟩
    refine hK _ _ (k q' c' (fun b hb => ?_) _ _ (hf.put hn _) (hI.upd hi hU hS hO (fun b hb => hN b hb)))
    rcases hN b hb with h | h
    · exact hS b h
    · exact .inr (Nat.le_trans hI.2.size h)
theorem SE.keep {e : Exit} (j : Nat) (h : SE X Q e m (l.take j)) : SE X Q e m l := fun a w hf hI => h a w hf (hI.keep j)
theorem ru_strne {f h : List UInt8} (hu : P.underlying t = some .string) (ho : o.op = .binOp .neq t x y t') (hx : evM m x = some (.string ⟨f.toArray⟩)) (hy : evM m y = some (.string ⟨h.toArray⟩)) {b : Bool} (hv : (!decide (f = h)) = b) : Ru P X o m l (.bool b) :=
  ru_binv ho hx hy (fun w => rfl) fun w _ => by
    subst hv
    simp [binOp, Op.stringOp]
    rw [Bool.eq_iff_iff]; simp
theorem ru_load_old {u z : Value} {b o' : Nat} (hS : ∀ b, ¬ X.S b) (ht : TySc P t z) (ho : o.op = .load t x) (hx : evM m x = some (.pointer (some ⟨b, o', none⟩))) (hc : X.w0.cell? ⟨b, o', none⟩ = some u) : Ru P X o m l u := fun a w hf hI => by
  unfold execOp; rw [ho]
  simp only [hf.ev hx, Instr.loadAt, Instr.sureAddr, Sem.run_bind, Sem.run_pure, Result.andThen_ok, loadVar, (ht.run w).1]
  have h1 : w.cell? ⟨b, o', none⟩ = some u := by rw [← hc]; exact hI.2.cell (a := ⟨b, o', none⟩) (block_lt_of_cell hc) (hS b)
  simp [h1]
end
end Go.Proofs.Ytloejpkefoagfaa
