/-
  The light machine: regions that draw their order and make memory. No program is named here.
-/
import Derived.Test.YtloejpkefoagfaaSyMem
import Derived.Test.YtloejpkefoagfaaSpread
namespace Go.Proofs.Ytloejpkefoagfaa
open Go.RowKit
section
variable (P : Program) (X : Cx)
def SS (ops : Array Oper) (sp : List Nat) (C : (Nat → Bool) → World → Prop) (K : Act → Prop) (k : Nat) (rest : List Oper) (m : List (Nat × Value)) : Prop := ∀ a, Fr X.n a m → wpSpread P ops sp C K k rest a
end
section
variable {P : Program} {X : Cx} {ops : Array Oper} {Q : Exit → Act → World → Prop} {rest : List Oper} {o : Oper} {m : List (Nat × Value)} {l : List Res} {v : Value} {d k : Nat} {sp : List Nat} {C : (Nat → Bool) → World → Prop} {K : Act → Prop}

theorem done_same (hk : sp.contains k = false) (D : Nat → Bool) : doneSet sp k D = D := by
  unfold doneSet; rw [if_neg (by simpa using hk)]
theorem SS.norm (m' : List (Nat × Value)) (hm : Subs m m') (h : SS P X ops sp C K k rest m') : SS P X ops sp C K k rest m := fun a hf => h a (hf.sub hm)
theorem SS.ru (l : List Res) (hC : ∀ D w, C D w → Inv X w l) (hk : sp.contains k = false) (hg : o.guard = none) (hd : o.dst = some d) (hn : d < X.n) (hr : Ru P X o m l v) (h : SS P X ops sp C K (k + 1) rest ((d, v) :: m)) : SS P X ops sp C K k (o :: rest) m := fun a hf => by
  unfold wpSpread
  rw [if_pos (by simp [Region.wanted, hg])]
  refine ⟨v, fun D w hD _ => ?_, ?_⟩
  · rw [hr a w hf (hC D w hD), done_same hk]; exact ⟨rfl, hD⟩
  · rw [hd]; exact h _ (hf.put hn v)
theorem SS.rug (l : List Res) (hC : ∀ D w, C D w → Inv X w l) (hk : sp.contains k = false) {j : Nat} {want : Bool} {dj : Nat} (hg : o.guard = some (j, want)) (hj : (ops[j]?).bind (·.dst) = some dj) (hb : look m dj = some (.bool want)) (hd : o.dst = some d) (hn : d < X.n) (hr : Ru P X o m l v)
    (h : SS P X ops sp C K (k + 1) rest ((d, v) :: m)) : SS P X ops sp C K k (o :: rest) m := fun a hf => by
  unfold wpSpread
  rw [if_pos (by rw [guard_is hf hg hj hb]; simp)]
  refine ⟨v, fun D w hD _ => ?_, ?_⟩
  · rw [hr a w hf (hC D w hD), done_same hk]; exact ⟨rfl, hD⟩
  · rw [hd]; exact h _ (hf.put hn v)
theorem SS.off {j : Nat} {want b : Bool} {dj : Nat} (hg : o.guard = some (j, want)) (hj : (ops[j]?).bind (·.dst) = some dj) (hb : look m dj = some (.bool b)) (hw : (b == want) = false) (hd : o.dst = some d) (hn : d < X.n)
    (h : SS P X ops sp C K (k + 1) rest ((d, undef) :: m)) : SS P X ops sp C K k (o :: rest) m := fun a hf => by
  unfold wpSpread
  rw [if_neg (by rw [guard_is hf hg hj hb]; simp [hw]), hd]
  exact h _ (hf.put hn _)
theorem SS.offu {j : Nat} {want : Bool} {dj : Nat} (hg : o.guard = some (j, want)) (hj : (ops[j]?).bind (·.dst) = some dj) (hb : look m dj = some undef) (hd : o.dst = some d) (hn : d < X.n)
    (h : SS P X ops sp C K (k + 1) rest ((d, undef) :: m)) : SS P X ops sp C K k (o :: rest) m := fun a hf => by
  unfold wpSpread
  rw [if_neg (by rw [guard_un hf hg hj hb]; simp), hd]
  exact h _ (hf.put hn _)
theorem SS.append {L2 : List Oper} : ∀ (L1 : List Oper) (k : Nat) (a : Act), wpSpread P ops sp C (fun a => wpSpread P ops sp C K (k + L1.length) L2 a) k L1 a → wpSpread P ops sp C K k (L1 ++ L2) a
  | [], k, a, h => by simpa [wpSpread] using h
  | o :: r, k, a, h => by
    rw [List.cons_append]
    unfold wpSpread at h ⊢
    have e : k + (o :: r).length = k + 1 + r.length := by simp; omega
    rw [e] at h
    split
    · rename_i hw
      rw [if_pos hw] at h
      obtain ⟨v, h1, h2⟩ := h
      exact ⟨v, h1, SS.append r (k + 1) _ h2⟩
    · rename_i hw
      rw [if_neg hw] at h
      exact SS.append r (k + 1) _ h
theorem SS.join (n : Nat) (m' : List (Nat × Value)) (hl : (rest.take n).length = n) (hk : SS P X ops sp C K (k + n) (rest.drop n) m')
    (h : ∀ K' : Act → Prop, (∀ a, Fr X.n a m' → K' a) → SS P X ops sp C K' k (rest.take n) m) : SS P X ops sp C K k rest m := fun a hf => by
  have := h (fun a => wpSpread P ops sp C K (k + (rest.take n).length) (rest.drop n) a) (fun a hf => by rw [hl]; exact hk a hf) a hf
  have := SS.append (K := K) (L2 := rest.drop n) _ _ _ this
  rwa [List.take_append_drop] at this
theorem SS.joined {m' : List (Nat × Value)} (hK : ∀ a, Fr X.n a m' → K a) (hm : Subs m m') : SS P X ops sp C K k [] m := fun a hf => by unfold wpSpread; exact hK a (hf.sub hm)
/-- A quiet call. -/
theorem SS.call {f : FuncId} {fs cs vals : List Value} {c : Operand} {args : List Operand} {aT : Array TypeId} (v : Value) (hk : sp.contains k = false) (hg : o.guard = none)
    (ho : o.op = .call { callee := .value c, args := args.toArray, argTypes := aT }) (hok : CallOk P f) (hc : evM m c = some (.func (.func f) fs.toArray cs.toArray)) (ha : evL m args = some vals) (hd : o.dst = some d) (hn : d < X.n)
    (H : ∀ D w, C D w → Calls P f (fs ++ vals ++ cs).toArray w fun e w' => e = .returned v ∧ C D w')
    (h : SS P X ops sp C K (k + 1) rest ((d, v) :: m)) : SS P X ops sp C K k (o :: rest) m := fun a hf => by
  unfold wpSpread
  rw [if_pos (by simp [Region.wanted, hg])]
  refine ⟨v, fun D w hD _ => ?_, ?_⟩
  · rw [call_enter ho hok hc ha hf w, done_same hk]; exact H D w hD
  · rw [hd]; exact h _ (hf.put hn v)
/-- A call that turns memory, in its turn. -/
theorem SS.turn {f : FuncId} {fs cs vals : List Value} {c : Operand} {args : List Operand} {aT : Array TypeId} (v : Value) (hk : sp.contains k = true) (hg : o.guard = none)
    (ho : o.op = .call { callee := .value c, args := args.toArray, argTypes := aT }) (hok : CallOk P f) (hc : evM m c = some (.func (.func f) fs.toArray cs.toArray)) (ha : evL m args = some vals) (hd : o.dst = some d) (hn : d < X.n)
    (H : ∀ D w, C D w → D k = false → Calls P f (fs ++ vals ++ cs).toArray w fun e w' => e = .returned v ∧ C (fun j => if j = k then true else D j) w')
    (h : SS P X ops sp C K (k + 1) rest ((d, v) :: m)) : SS P X ops sp C K k (o :: rest) m := fun a hf => by
  have hs : k ∈ sp := by simpa using hk
  unfold wpSpread
  rw [if_pos (by simp [Region.wanted, hg])]
  refine ⟨v, fun D w hD hf' => ?_, ?_⟩
  · rw [call_enter ho hok hc ha hf w]
    unfold doneSet; rw [if_pos hs]
    exact H D w hD (hf' hs)
  · rw [hd]; exact h _ (hf.put hn v)

/-! One place made, whenever. -/
def CA (X : Cx) (l : List Res) (k b : Nat) (r : Res) : (Nat → Bool) → World → Prop := fun D w => if D k then Inv X w (l ++ [r]) else Inv X w l ∧ w.heap.size = b
theorem CA.base {r : Res} {b : Nat} : ∀ D w, CA X l k b r D w → Inv X w l := fun D w h => by
  unfold CA at h
  split at h
  · refine ⟨⟨fun s hs => h.1.1 s (by simp [hs]), ?_⟩, h.2⟩
    have := h.1.2
    rw [List.pairwise_append] at this
    exact this.1
  · exact h.1
theorem SC.region_alloc {id : Nat} {L : List Oper} (n k : Nat) (r : Nat → Res) (hm : P.follows .mixedOrders = true) (hB : Region.lexTailB .any L.toArray n = true)
    (hg : ([k].all fun i => decide (i < n) && ((L[i]?).map (fun o => o.guard.isNone)).getD false) = true)
    (h : ∀ b, X.w0.heap.size ≤ b → SS P X L.toArray [k] (CA X l k b (r b)) (fun a' => ∀ D w', (∀ i ∈ [k], D i = true) → CA X l k b (r b) D w' → wpList P L.toArray Q (L.drop n) a' w') 0 (L.take n) m) : SC P X (.region id L.toArray true) Q m l :=
  fun a w hf hi => wp_region_spread_tail n [k] (CA X l k w.heap.size (r w.heap.size)) hm hB hg (by unfold CA; exact ⟨hi.draw1, rfl⟩) (h _ hi.2.size a hf)
theorem SC.region_alloc0 {id : Nat} {L : List Oper} (k : Nat) (r : Nat → Res) (hm : P.follows .mixedOrders = true) (hB : Region.lexB .any L.toArray = true) (hb : backB L.toArray = true)
    (hg : ([k].all fun i => ((L[i]?).map (fun o => o.guard.isNone)).getD false) = true)
    (h : ∀ b, X.w0.heap.size ≤ b → SS P X L.toArray [k] (CA X l k b (r b)) (fun a' => ∀ D w', (∀ i ∈ [k], D i = true) → CA X l k b (r b) D w' → Q .normal a' w') 0 L m) : SC P X (.region id L.toArray true) Q m l :=
  fun a w hf hi => wp_region_spread [k] (CA X l k w.heap.size (r w.heap.size)) hm hB hb hg (by unfold CA; exact ⟨hi.draw1, rfl⟩) (h _ hi.2.size a hf)
theorem SS.nilA {r : Res} {b k : Nat} {L : List Oper} {j : Nat} (h : SL P X ops Q L m (l ++ [r])) : SS P X ops sp C (fun a' => ∀ D w', (∀ i ∈ [k], D i = true) → CA X l k b r D w' → wpList P ops Q L a' w') j [] m := fun a hf => by
  unfold wpSpread
  intro D w' hD hC
  unfold CA at hC
  rw [if_pos (hD k (by simp))] at hC
  exact h a w' hf hC
theorem SS.nilE {r : Res} {b k : Nat} {j : Nat} (h : SE X Q .normal m (l ++ [r])) : SS P X ops sp C (fun a' => ∀ D w', (∀ i ∈ [k], D i = true) → CA X l k b r D w' → Q .normal a' w') j [] m := fun a hf => by
  unfold wpSpread
  intro D w' hD hC
  unfold CA at hC
  rw [if_pos (hD k (by simp))] at hC
  exact h a w' hf hC
theorem SS.alloca {t : TypeId} {z : List Value} {b : Nat} (hg : o.guard = none) (hd : o.dst = some d) (hn : d < X.n) (ht : TyAg P t z) (ho : o.op = .alloc t)
    (h : SS P X ops [k] (CA X l k b (rBlk b z t)) K (k + 1) rest ((d, .pointer (some ⟨b, 0, none⟩)) :: m)) : SS P X ops [k] (CA X l k b (rBlk b z t)) K k (o :: rest) m := fun a hf => by
  unfold wpSpread
  rw [if_pos (by simp [Region.wanted, hg])]
  refine ⟨.pointer (some ⟨b, 0, none⟩), fun D w hD hf' => ?_, ?_⟩
  · have hk := hf' (by simp)
    unfold CA at hD
    rw [if_neg (by simp [hk])] at hD
    obtain ⟨hI, hb⟩ := hD
    have hrun : (Instr.alloc t true (.tuple #[])).run P w = .ok (.pointer (some ⟨w.heap.size, 0, none⟩)) (w.alloc (.cells z.toArray t)) := by
      unfold Instr.alloc
      rw [Sem.run_bind, (ht.run w).2.2]
      simp [newVar, newRow, newObj, Value.cells]; rfl
    unfold execOp; rw [ho]
    simp only [Sem.run_bind, hrun, Result.andThen_ok, Sem.run_pure]
    refine ⟨by rw [hb], ?_⟩
    unfold doneSet CA
    rw [if_pos (by simp)]
    subst hb
    have := new_blk hI z.toArray t
    simpa using this
  · rw [hd]; exact h _ (hf.put hn _)
theorem SS.alloc {t : TypeId} {z : Value} {b : Nat} (hg : o.guard = none) (hd : o.dst = some d) (hn : d < X.n) (ht : TySc P t z) (ho : o.op = .alloc t)
    (h : SS P X ops [k] (CA X l k b (rBlk b [z] t)) K (k + 1) rest ((d, .pointer (some ⟨b, 0, none⟩)) :: m)) : SS P X ops [k] (CA X l k b (rBlk b [z] t)) K k (o :: rest) m := fun a hf => by
  unfold wpSpread
  rw [if_pos (by simp [Region.wanted, hg])]
  refine ⟨.pointer (some ⟨b, 0, none⟩), fun D w hD hf' => ?_, ?_⟩
  · have hk := hf' (by simp)
    unfold CA at hD
    rw [if_neg (by simp [hk])] at hD
    obtain ⟨hI, hb⟩ := hD
    have hvc : z.cells = #[z] := by have := ht.one; cases z <;> first | rfl | simp [Value.oneCell'] at this
    have hrun : (Instr.alloc t true (.tuple #[])).run P w = .ok (.pointer (some ⟨w.heap.size, 0, none⟩)) (w.alloc (.cells #[z] t)) := by
      unfold Instr.alloc
      rw [Sem.run_bind, (ht.run w).2.2]
      simp [newVar, newRow, newObj, hvc]; rfl
    unfold execOp; rw [ho]
    simp only [Sem.run_bind, hrun, Result.andThen_ok, Sem.run_pure]
    refine ⟨by rw [hb], ?_⟩
    unfold doneSet CA
    rw [if_pos (by simp)]
    subst hb
    have := new_blk hI #[z] t
    simpa using this
  · rw [hd]; exact h _ (hf.put hn _)
theorem SS.box {t : TypeId} {x : Operand} {c : List Value} {b : Nat} (hg : o.guard = none) (hd : o.dst = some d) (hn : d < X.n) (ho : o.op = .box t x) (hx : evM m x = some v) (hc : v.cells = c.toArray)
    (h : SS P X ops [k] (CA X l k b (rBlk b c t)) K (k + 1) rest ((d, .pointer (some ⟨b, 0, none⟩)) :: m)) : SS P X ops [k] (CA X l k b (rBlk b c t)) K k (o :: rest) m := fun a hf => by
  unfold wpSpread
  rw [if_pos (by simp [Region.wanted, hg])]
  refine ⟨.pointer (some ⟨b, 0, none⟩), fun D w hD hf' => ?_, ?_⟩
  · have hk := hf' (by simp)
    unfold CA at hD
    rw [if_neg (by simp [hk])] at hD
    obtain ⟨hI, hb⟩ := hD
    have hrun : (Instr.box t v).run P w = .ok (.pointer (some ⟨w.heap.size, 0, none⟩)) (w.alloc (.cells c.toArray t)) := by
      unfold Instr.box
      simp [newVar, newRow, newObj, hc]; rfl
    unfold execOp; rw [ho]
    simp only [hf.ev hx, Sem.run_bind, hrun, Result.andThen_ok, Sem.run_pure]
    refine ⟨by rw [hb], ?_⟩
    unfold doneSet CA
    rw [if_pos (by simp)]
    subst hb
    have := new_blk hI c.toArray t
    simpa using this
  · rw [hd]; exact h _ (hf.put hn _)

/-! Stores that may come early or late. -/
theorem rAny_of {b : Nat} {c : List Value} {T : TypeId} {w : World} (h : (rBlk b c T).ok w) : (rAny b).ok w := Blk.lt h
theorem Inv.any {w : World} {i b : Nat} {c : List Value} {T : TypeId} (h : Inv X w l) (hi : l[i]? = some (rBlk b c T)) : Inv X w (l.set i (rAny b)) :=
  ⟨h.1.upd hi (fun _ _ _ => rfl) (rAny_of (h.1.get hi)) (fun b' hb' => .inl hb'), h.2⟩
theorem SC.region_sp {id : Nat} {L : List Oper} (sp : List Nat) (lD : (Nat → Bool) → List Res) (hm : P.follows .mixedOrders = true) (hB : Region.lexB .any L.toArray = true) (hb : backB L.toArray = true)
    (hg : (sp.all fun i => ((L[i]?).map (fun o => o.guard.isNone)).getD false) = true) (h0 : l = lD (fun _ => false))
    (h : SS P X L.toArray sp (fun D w => Inv X w (lD D)) (fun a' => ∀ D w', (∀ i ∈ sp, D i = true) → Inv X w' (lD D) → Q .normal a' w') 0 L m) : SC P X (.region id L.toArray true) Q m l :=
  fun a w hf hi => wp_region_spread sp (fun D w => Inv X w (lD D)) hm hB hb hg (by have := hi.draw1; rw [h0] at this; exact this) (h a hf)
theorem SS.nilD {lD : (Nat → Bool) → List Res} {l' : List Res} {j : Nat} (hl : ∀ D : Nat → Bool, (∀ i ∈ sp, D i = true) → lD D = l') (h : SE X Q .normal m l') : SS P X ops sp C (fun a' => ∀ D w', (∀ i ∈ sp, D i = true) → Inv X w' (lD D) → Q .normal a' w') j [] m := fun a hf => by
  unfold wpSpread
  intro D w' hD hC
  rw [hl D hD] at hC
  exact h a w' hf hC
theorem SS.storea {lD : (Nat → Bool) → List Res} {t : TypeId} {x y : Operand} {i b : Nat} {c vs z : List Value} {T : TypeId} (hk : sp.contains k = true) (hg : o.guard = none) (hd : o.dst = none) (ht : TyAg P t z) (ho : o.op = .store t x y) (hx : evM m x = some (.pointer (some ⟨b, 0, none⟩)))
    (hy : evM m y = some (.agg vs.toArray)) (hv : vs.all (·.oneCell') = true) (hvl : vs.length = z.length) (hcl : c.length = vs.length) (hi : ∀ D, D k = false → (lD D)[i]? = some (rBlk b c T)) (hS : X.S b ∨ X.w0.heap.size ≤ b)
    (hl : ∀ D : Nat → Bool, D k = false → (lD D).set i (rBlk b vs T) = lD (fun j => if j = k then true else D j)) (h : SS P X ops sp (fun D w => Inv X w (lD D)) K (k + 1) rest m) : SS P X ops sp (fun D w => Inv X w (lD D)) K k (o :: rest) m := fun a hf => by
  have hs : k ∈ sp := by simpa using hk
  unfold wpSpread
  rw [if_pos (by simp [Region.wanted, hg])]
  refine ⟨undef, fun D w hI hf' => ?_, ?_⟩
  · have hDk := hf' hs
    have hb : Blk w b c T := hI.1.get (hi D hDk)
    have hst : (storeVar t ⟨b, 0, none⟩ (.agg vs.toArray)).run P w = .ok () (w.setRow b vs.toArray) := by
      have := run_storeCells_at (P := P) b 0 T vs 0 c.toArray w hb (by simp; omega) (fun u hu => List.all_eq_true.1 hv u hu)
      unfold storeVar
      rw [show Value.cells (.agg vs.toArray) = vs.toArray from rfl, Sem.run_bind, (ht.run w).2.1]
      simp only [Result.andThen_ok, List.size_toArray, hvl, ne_eq, not_true, if_false]
      rw [← hvl] at *
      have e : List.take (0 + 0) c.toArray.toList ++ vs ++ List.drop (0 + 0 + vs.length) c.toArray.toList = vs := by simp; omega
      rw [e] at this
      exact this
    unfold execOp; rw [ho]
    simp only [hf.ev hx, hf.ev hy, Instr.storeAt, Instr.sureAddr, Sem.run_bind, Sem.run_pure, Result.andThen_ok, hst]
    refine ⟨rfl, ?_⟩
    unfold doneSet
    rw [if_pos hs, ← hl D hDk]
    exact hI.upd (hi D hDk) ⟨rfl, rfl, rfl, by simp [World.setRow], fun k' _ hk' => setRow_other w b k' _ hk'⟩ (fun b' hb' => by cases hb'; exact hS) (setRow_heap w b c.toArray vs.toArray T (0, 0) hb) (fun b' hb' => .inl hb')
  · rw [hd]; exact h a hf
theorem SS.store {lD : (Nat → Bool) → List Res} {t : TypeId} {x y : Operand} {i b o' : Nat} {z : Value} {T : TypeId} (cD : (Nat → Bool) → List Value) (hk : sp.contains k = true) (hg : o.guard = none) (hd : o.dst = none) (ht : TySc P t z) (ho : o.op = .store t x y) (hx : evM m x = some (.pointer (some ⟨b, o', none⟩)))
    (hy : evM m y = some v) (hv : v.oneCell' = true) (hi : ∀ D, D k = false → (lD D)[i]? = some (rBlk b (cD D) T)) (hlen : ∀ D, o' < (cD D).length) (hS : X.S b ∨ X.w0.heap.size ≤ b)
    (hl : ∀ D : Nat → Bool, D k = false → (lD D).set i (rBlk b ((cD D).set o' v) T) = lD (fun j => if j = k then true else D j)) (h : SS P X ops sp (fun D w => Inv X w (lD D)) K (k + 1) rest m) : SS P X ops sp (fun D w => Inv X w (lD D)) K k (o :: rest) m := fun a hf => by
  have hs : k ∈ sp := by simpa using hk
  unfold wpSpread
  rw [if_pos (by simp [Region.wanted, hg])]
  refine ⟨undef, fun D w hI hf' => ?_, ?_⟩
  · have hDk := hf' hs
    have hb : Blk w b (cD D) T := hI.1.get (hi D hDk)
    have hcell : w.cell? ⟨b, o', none⟩ = some ((cD D)[o']'(hlen D)) := by rw [hb.cell]; exact List.getElem?_eq_getElem (hlen D)
    have hvc : v.cells = #[v] := by cases v <;> first | rfl | simp [Value.oneCell'] at hv
    have hst : (storeVar t ⟨b, o', none⟩ v).run P w = .ok () (w.setCell ⟨b, o', none⟩ v) := by
      unfold storeVar
      rw [hvc, Sem.run_bind, (ht.run w).2.1]
      simp only [Result.andThen_ok, List.size_toArray, List.length_cons, List.length_nil, Nat.zero_add, ne_eq, not_true, if_false, storeCells]
      have ha : (⟨b, o', none⟩ : Addr).add 0 = ⟨b, o', none⟩ := rfl
      rw [Sem.run_bind, ha, run_store P w _ v _ hv, hcell]
      simp [hb.fz, Result.andThen]
    unfold execOp; rw [ho]
    simp only [hf.ev hx, hf.ev hy, Instr.storeAt, Instr.sureAddr, Sem.run_bind, Sem.run_pure, Result.andThen_ok, hst]
    refine ⟨rfl, ?_⟩
    unfold doneSet
    rw [if_pos hs, ← hl D hDk]
    exact hI.upd (hi D hDk) (Only.st (S := fun k => k = b) (Only.refl _ _) rfl _ _) (fun b' hb' => by cases hb'; exact hS) (hb.set o' v) (fun b' hb' => .inl hb')
  · rw [hd]; exact h a hf

/-! Loops; labels. -/
theorem SE.scopen (h : SE X Q .normal m l) : SE X (Exit.noGoto Q) .normal m l := h
theorem SE.scoper (h : SE X Q .ret m l) : SE X (Exit.noGoto Q) .ret m l := h
theorem SE.scopee {id : Nat} (h : SE X Q (.exit id) m l) : SE X (Exit.noGoto Q) (.exit id) m l := h
/-- A loop: n rounds at most are still to come; g is what the proof knows besides. -/
theorem SC.loop {c : Code} {γ : Type} (M : Nat → γ → List (Nat × Value)) (R : Nat → γ → List Res) (p : Nat → γ → Prop) (n0 : Nat) (g0 : γ) (hp : p n0 g0) (h0 : Subs m (M n0 g0)) (hl : l = R n0 g0)
    (round : ∀ n g, p n g → SC P X c (Exit.then (fun a w => ∃ n', n' < n ∧ ∃ g', p n' g' ∧ Fr X.n a (M n' g') ∧ Inv X w (R n' g')) Q) (M n g) (R n g)) : SC P X (.loop c) Q m l := fun a w hf hi =>
  wp_loop_ghost (fun n a w => ∃ g, p n g ∧ Fr X.n a (M n g) ∧ Inv X w (R n g)) n0 ⟨g0, hp, hf.sub h0, hl ▸ hi⟩ fun n a w ⟨g, h1, h2, h3⟩ => round n g h1 a w h2 h3
theorem SE.again {γ : Type} {M : Nat → γ → List (Nat × Value)} {R : Nat → γ → List Res} {p : Nat → γ → Prop} {n : Nat} (n' : Nat) (g' : γ) (hn : n' < n) (hp : p n' g') (hm : Subs m (M n' g')) (hl : l = R n' g') :
    SE X (Exit.then (fun a w => ∃ n', n' < n ∧ ∃ g', p n' g' ∧ Fr X.n a (M n' g') ∧ Inv X w (R n' g')) Q) .normal m l := fun a w hf hi => ⟨n', hn, g', hp, hf.sub hm, hl ▸ hi⟩
/-- A call that makes one place, whenever. -/
theorem SS.newcall {f : FuncId} {fs cs vals : List Value} {c : Operand} {args : List Operand} {aT : Array TypeId} {b : Nat} {r : Res} (v : Value) (hg : o.guard = none)
    (ho : o.op = .call { callee := .value c, args := args.toArray, argTypes := aT }) (hok : CallOk P f) (hc : evM m c = some (.func (.func f) fs.toArray cs.toArray)) (ha : evL m args = some vals) (hd : o.dst = some d) (hn : d < X.n)
    (H : ∀ w, Inv X w l → w.heap.size = b → Calls P f (fs ++ vals ++ cs).toArray w fun e w' => e = .returned v ∧ Inv X w' (l ++ [r]))
    (h : SS P X ops [k] (CA X l k b r) K (k + 1) rest ((d, v) :: m)) : SS P X ops [k] (CA X l k b r) K k (o :: rest) m :=
  SS.turn v (by simp) hg ho hok hc ha hd hn (fun D w hC hD => by
    unfold CA at hC
    rw [if_neg (by simp [hD])] at hC
    refine (H w hC.1 hC.2).mono fun e w' ⟨h1, h2⟩ => ⟨h1, ?_⟩
    unfold CA
    rw [if_pos (by simp)]
    exact h2) h
/-- A quiet call beside. -/
theorem CA.keep {b : Nat} {r : Res} {f : FuncId} {vs : Array Value} (h : ∀ w, Inv X w l → Calls P f vs w fun e w' => e = .returned v ∧ w = w') : ∀ D w, CA X l k b r D w → Calls P f vs w fun e w' => e = .returned v ∧ CA X l k b r D w' := fun D w hC => (h w (CA.base D w hC)).mono fun e w' ⟨h1, h2⟩ => ⟨h1, h2 ▸ hC⟩
end
end Go.Proofs.Ytloejpkefoagfaa
