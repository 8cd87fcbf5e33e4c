/-
  What the law's own loops ask for: the arguments, the two new pools.
-/
import Derived.Test.YthofjobcjkeomaaPoolDoesW
import Derived.Test.YthofjobcjkeomaaPoolArgs
import Derived.Test.YthofjobcjkeomaaPoolAwake
namespace Go.Proofs.Ythofjobcjkeomaa
open Go.RowKit
theorem ops_form {w : World} {v : Value} {l : List OpR} (h : OpsAt w v l) : ∃ a c, v = .slice a l.length c ∧ l.length ≤ 140737488351232 ∧ ∀ i (hi : i < l.length), ∃ b o, a = some ⟨b, o, none⟩ ∧
    ∃ ov, (∀ j u, [iw l[i].kind, iw l[i].id, iw l[i].a, iw l[i].b, ov][j]? = some u → w.cell? ⟨b, o + i * 5 + j, none⟩ = some u) ∧ BytesAt w ov l[i].d ∧ sliceIn ov (fun b => b < w.heap.size) := by
  rcases h with ⟨a, c, rfl, rfl⟩ | ⟨bl, o, cap, rfl, _, h2, h3⟩
  · exact ⟨a, c, rfl, by simp, fun i hi => by simp at hi⟩
  · refine ⟨_, _, rfl, by omega, fun i hi => ⟨bl, o, rfl, ?_⟩⟩
    obtain ⟨c0, c1, c2, c3, ⟨a, n, c, c4, k1, k2⟩, _⟩ := h3 i hi
    refine ⟨.slice a n c, fun j u hj => ?_, k1, k2⟩
    match j, hj with
    | 0, hj => simp at hj; subst hj; exact c0
    | 1, hj => simp at hj; subst hj; exact c1
    | 2, hj => simp at hj; subst hj; exact c2
    | 3, hj => simp at hj; subst hj; exact c3
    | 4, hj => simp at hj; subst hj; exact c4
    | j + 5, hj => simp at hj
def rPool (p ab : Nat) (L : List Bf) : Res where
  ok w := PoolAt w p ab L
  fp b := b = p ∨ b = ab
  lt w h b hb := by rcases hb with rfl | rfl; exact h.lt.1; exact h.lt.2
  st w w' h hw := h.agree hw
section
variable {P : Program} {X : Cx} {ops : Array Oper} {Q : Exit → Act → World → Prop} {rest : List Oper} {o : Oper} {m : List (Nat × Value)} {l : List Res} {v : Value}
theorem Inv.newQ {w w' : World} {p ab r rb : Nat} {L : List Bf} (h : Inv X w [rPool p ab L]) (h1 : RefAt w' r rb (fun b => w'.heap.size ≤ b) L) (h2 : w.heap.size ≤ r) (h3 : w.heap.size ≤ rb) (hO : Only (fun _ => False) w w') : Inv X w' [rTwo p ab r rb (fun _ => False) L L] := by
  have hP : PoolAt w p ab L := h.1.get (i := 0) rfl
  have hl := hP.lt
  have hb := h1
  obtain ⟨hr, e0, e1, e2, e3, e4, e5, c, hc, _⟩ := hb
  have g1 := hr.lt
  have g2 := hc.lt
  refine ⟨⟨fun q hq => ?_, List.pairwise_singleton _ _⟩, h.2.trans' hO (fun _ h => h.elim)⟩
  simp at hq
  subst hq
  refine ⟨hP.agree (fun b hb => hO.block b (by rcases hb with rfl | rfl; exact hl.1; exact hl.2) id), h1.rebase (fun b hb _ => .inr hb) ?_ ?_ (fun b hb => .inr hb), fun b hb => hb.elim, by omega, by omega, by omega, by omega, id, id⟩
  · rintro (h | h)
    · exact h
    · omega
  · rintro (h | h)
    · exact h
    · omega
theorem ru_load_old {t : TypeId} {z u : Value} {x : Operand} {b o' : Nat} (hS : ∀ b, ¬ X.S b) (ht : TySc P t z) (ho : o.op = .load t x) (hx : evM m x = some (.pointer (some ⟨b, o', none⟩))) (hc : X.w0.cell? ⟨b, o', none⟩ = some u) : Ru P X o m l u := fun a w hf hI => by
  unfold execOp; rw [ho]
  simp only [hf.ev hx, Instr.loadAt, Instr.sureAddr, Sem.run_bind, Sem.run_pure, Result.andThen_ok, loadVar, (ht.run w).1]
  have h1 : w.cell? ⟨b, o', none⟩ = some u := by rw [← hc]; exact hI.2.cell (a := ⟨b, o', none⟩) (block_lt_of_cell hc) (hS b)
  simp [h1]
theorem ru_loada_old {t : TypeId} {z : List Value} {x : Operand} {b o' : Nat} {vs : List Value} (hS : ∀ b, ¬ X.S b) (ht : TyAg P t z) (ho : o.op = .load t x) (hx : evM m x = some (.pointer (some ⟨b, o', none⟩))) (hv : vs.length = z.length)
    (hc : ∀ j u, vs[j]? = some u → X.w0.cell? ⟨b, o' + j, none⟩ = some u) : Ru P X o m l (.agg vs.toArray) := fun a w hf hI => by
  obtain ⟨⟨d, hd, hdb⟩, hsz, _⟩ := ht
  obtain ⟨inf, hinf, hz⟩ := map_some hsz
  simp only [Prod.mk.injEq] at hz
  have hcell : ∀ j (hj : j < vs.length), w.cell? ⟨b, o' + j, none⟩ = some vs[j] := fun j hj => by
    have h1 := hc j vs[j] (List.getElem?_eq_getElem hj)
    rw [← h1]
    exact hI.2.cell (a := ⟨b, o' + j, none⟩) (block_lt_of_cell h1) (hS b)
  unfold execOp; rw [ho]
  simp only [hf.ev hx, Instr.loadAt, Instr.sureAddr, Sem.run_bind, Sem.run_pure, Result.andThen_ok]
  have := run_loadVar_at (P := P) w b o' t vs d (fun j hj => by rw [hcell j hj, List.getElem?_eq_getElem hj]) hd (by cases d <;> simp_all [isAggD]) (by rw [hinf]; simp [hz.1, hv])
  rw [this]; rfl
end
theorem ne_f {a b : Int} (h : a = b) : (a != b) = false := by simp [h]
end Go.Proofs.Ythofjobcjkeomaa
