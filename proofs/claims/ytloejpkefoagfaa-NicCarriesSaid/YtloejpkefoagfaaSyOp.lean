/-
  The light machine's laws: what each operation comes to. No program is named here.
-/
import Derived.Test.YtloejpkefoagfaaSy
import Derived.Laws.CopyRow
namespace Go.Proofs.Ytloejpkefoagfaa
open Go.RowKit

def isAggD : TypeDesc → Bool
  | .struct _ | .array _ _ => true
  | _ => false
/-- A type of one cell. -/
structure TySc (P : Program) (t : TypeId) (z : Value) : Prop where
  d : ∃ d, P.underlying t = some d ∧ isAggD d = false
  i : (P.info? t).map (fun i => (i.size, i.zero)) = some (1, some z)
  one : z.oneCell' = true
/-- A struct's or an array's type. -/
structure TyAg (P : Program) (t : TypeId) (z : List Value) : Prop where
  d : ∃ d, P.underlying t = some d ∧ isAggD d = true
  i : (P.info? t).map (fun i => (i.size, i.zero)) = some (z.length, some (.agg z.toArray))
  one : z.all (·.oneCell') = true
def FldIs (P : Program) (s : TypeId) (k off : Nat) : Prop := ∃ fs f, P.underlying s = some (.struct fs) ∧ fs[k]? = some f ∧ f.offset = off ∧ (P.info? f.type).map (fun i => i.size == 0) = some false
def ArrIs (P : Program) (t : TypeId) (n elem size : Nat) : Prop := P.underlying t = some (.array n elem) ∧ (P.info? elem).map (·.size) = some size
def SliIs (P : Program) (t : TypeId) (elem size : Nat) : Prop := P.underlying t = some (.slice elem) ∧ (P.info? elem).map (·.size) = some size
def CallOk (P : Program) (f : FuncId) : Prop := ∃ fn, P.funcs[f]? = some fn ∧ fn.body.isNone = false ∧ (fn.name == "runtime.NumGoroutine") = false

section
variable {P : Program} {X : Cx} {ops : Array Oper} {Q : Exit → Act → World → Prop} {rest : List Oper} {o : Oper} {m : List (Nat × Value)} {l : List Res} {v : Value} {d : Nat}

theorem map_some {α β : Type} {x : Option α} {f : α → β} {y : β} (h : x.map f = some y) : ∃ a, x = some a ∧ f a = y := by
  cases x with
  | none => simp at h
  | some a => exact ⟨a, rfl, by simpa using h⟩
theorem TySc.run {t : TypeId} {z : Value} (h : TySc P t z) (w : World) : (isAgg t).run P w = .ok false w ∧ (sizeOf t).run P w = .ok 1 w ∧ (zeroValue t).run P w = .ok z w := by
  obtain ⟨⟨d, hd, hb⟩, hi, _⟩ := h
  obtain ⟨i, hi, hz⟩ := map_some hi
  simp only [Prod.mk.injEq] at hz
  refine ⟨?_, ?_, ?_⟩
  · unfold isAgg; rw [Sem.run_bind, run_underlying hd w]; cases d <;> simp_all [isAggD]
  · simp [sizeOf, typeInfo, hi, hz.1]
  · simp [zeroValue, typeInfo, hi, hz.2]
theorem TyAg.run {t : TypeId} {z : List Value} (h : TyAg P t z) (w : World) : (isAgg t).run P w = .ok true w ∧ (sizeOf t).run P w = .ok z.length w ∧ (zeroValue t).run P w = .ok (.agg z.toArray) w := by
  obtain ⟨⟨d, hd, hb⟩, hi, _⟩ := h
  obtain ⟨i, hi, hz⟩ := map_some hi
  simp only [Prod.mk.injEq] at hz
  refine ⟨?_, ?_, ?_⟩
  · unfold isAgg; rw [Sem.run_bind, run_underlying hd w]; cases d <;> simp_all [isAggD]
  · simp [sizeOf, typeInfo, hi, hz.1]
  · simp [zeroValue, typeInfo, hi, hz.2]
theorem size_run {t n : Nat} (h : (P.info? t).map (·.size) = some n) (w : World) : (sizeOf t).run P w = .ok n w := by
  obtain ⟨i, hi, hz⟩ := map_some h
  simp [sizeOf, typeInfo, hi, hz]

theorem ru_load {t : TypeId} {z : Value} {x : Operand} {i b o' : Nat} {c : List Value} {T : TypeId} (ht : TySc P t z) (ho : o.op = .load t x) (hx : evM m x = some (.pointer (some ⟨b, o', none⟩)))
    (hi : l[i]? = some (rBlk b c T)) (hc : c[o']? = some v) : Ru P X o m l v := fun a w hf hI => by
  have hb : Blk w b c T := hI.1.get hi
  unfold execOp; rw [ho]
  simp only [hf.ev hx, Instr.loadAt, Instr.sureAddr, Sem.run_bind, Sem.run_pure, Result.andThen_ok, loadVar, (ht.run w).1]
  have h1 : w.cell? ⟨b, o', none⟩ = some v := by rw [hb.cell]; exact hc
  simp [h1]
theorem ru_loada {t : TypeId} {z : List Value} {x : Operand} {i b o' : Nat} {c vs : List Value} {T : TypeId} (ht : TyAg P t z) (ho : o.op = .load t x) (hx : evM m x = some (.pointer (some ⟨b, o', none⟩)))
    (hi : l[i]? = some (rBlk b c T)) (hv : (c.drop o').take z.length = vs) (hlen : o' + z.length ≤ c.length) : Ru P X o m l (.agg vs.toArray) := fun a w hf hI => by
  have hb : Blk w b c T := hI.1.get hi
  have hl : vs.length = z.length := by rw [← hv]; simp; omega
  obtain ⟨⟨d, hd, hdb⟩, hsz, _⟩ := ht
  obtain ⟨inf, hinf, hz⟩ := map_some hsz
  simp only [Prod.mk.injEq] at hz
  unfold execOp; rw [ho]
  have hrun := run_loadVar_at (P := P) w b o' t vs d (fun j hj => by
    rw [hb.cell, ← hv, List.getElem?_take, if_pos (by omega), List.getElem?_drop]) hd (by cases d <;> simp_all [isAggD]) (by rw [hinf]; simp [hz.1, hl])
  simp only [hf.ev hx, Instr.loadAt, Instr.sureAddr, Sem.run_bind, Sem.run_pure, Result.andThen_ok, hrun]
theorem ru_fieldAddr {s : TypeId} {x : Operand} {k off b o' o2 : Nat} (hs : FldIs P s k off) (ho : o.op = .fieldAddr s x k) (hx : evM m x = some (.pointer (some ⟨b, o', none⟩))) (h2 : o' + off = o2) :
    Ru P X o m l (.pointer (some ⟨b, o2, none⟩)) := fun a w hf hI => by
  obtain ⟨fs, f, hu, hk, hoff, hsz⟩ := hs
  obtain ⟨inf, hinf, hz⟩ := map_some hsz
  unfold execOp; rw [ho]
  have hp : (fieldPlace ⟨b, o', none⟩ f).run P w = .ok ⟨b, o2, none⟩ w := by
    have h0 : (sizeOf f.type).run P w = .ok inf.size w := by simp [sizeOf, typeInfo, hinf]
    have hne : ¬ inf.size = 0 := by simpa using hz
    unfold fieldPlace
    rw [Sem.run_bind, h0, Result.andThen_ok, if_neg hne, hoff, add_at, h2]
    rfl
  simp only [hf.ev hx, Instr.fieldAt, Sem.run_bind, run_underlying hu w, Result.andThen_ok, hk, Instr.sureAddr, Sem.run_pure, hp]
theorem ru_indexA {t : TypeId} {x ix : Operand} {n e size b o' o2 : Nat} {i : Int} {k : IntKind} (hs : ArrIs P t n e size) (ho : o.op = .indexAddr t x ix) (hx : evM m x = some (.pointer (some ⟨b, o', none⟩))) (hix : evM m ix = some (.int k i))
    (h0 : 0 ≤ i) (hn : i < n) (h2 : o' + i.toNat * size = o2) : Ru P X o m l (.pointer (some ⟨b, o2, none⟩)) := fun a w hf hI => by
  obtain ⟨hu, hsz⟩ := hs
  unfold execOp; rw [ho]
  simp only [hf.ev hx, hf.ev hix, Instr.indexAt, asIntOf, Sem.run_bind, Sem.run_pure, run_underlying hu w, Result.andThen_ok, Instr.sureAddr]
  rw [if_pos ⟨h0, hn⟩]
  simp only [Sem.run_bind, size_run hsz w, Result.andThen_ok, add_at, h2, Sem.run_pure]
theorem ru_indexS {t : TypeId} {x ix : Operand} {e size b o' o2 n cp : Nat} {i : Int} {k : IntKind} (hs : SliIs P t e size) (ho : o.op = .indexAddr t x ix) (hx : evM m x = some (.slice (some ⟨b, o', none⟩) n cp)) (hix : evM m ix = some (.int k i))
    (h0 : 0 ≤ i) (hn : i < n) (h2 : o' + i.toNat * size = o2) : Ru P X o m l (.pointer (some ⟨b, o2, none⟩)) := fun a w hf hI => by
  obtain ⟨hu, hsz⟩ := hs
  unfold execOp; rw [ho]
  simp only [hf.ev hx, hf.ev hix, Instr.indexAt, asIntOf, Sem.run_bind, Sem.run_pure, run_underlying hu w, Result.andThen_ok]
  rw [if_pos ⟨h0, hn⟩]
  simp only [Sem.run_bind, size_run hsz w, Result.andThen_ok, add_at, h2, Sem.run_pure]
theorem ru_build {t : TypeId} {parts : List (Nat × Operand)} {vals : List (Nat × Value)} {cells : List Value} (ho : o.op = .build t parts.toArray)
    (hp : parts.mapM (fun x => (evM m x.2).map (x.1, ·)) = some vals) (hb : P.built t vals = some cells.toArray) : Ru P X o m l (.agg cells.toArray) := fun a w hf hI => by
  unfold execOp; rw [ho]
  have hv : (parts.toArray.map fun (i, x) => (i, a.eval x)) = vals.toArray := by
    have : parts.map (fun (x : Nat × Operand) => (x.1, a.eval x.2)) = vals := by
      clear ho hb
      induction parts generalizing vals with
      | nil => simp at hp; simpa using hp.symm
      | cons y r ih =>
        simp only [List.mapM_cons, Option.bind_eq_bind, Option.bind_eq_some_iff, Option.map_eq_some_iff] at hp
        obtain ⟨u, ⟨u', hu, rfl⟩, us, hus, h⟩ := hp
        cases h
        rw [List.map_cons, ih hus, hf.ev hu]
    rw [← this]; simp
  simp only [hv, Sem.run_bind, run_build w t vals.toArray cells.toArray (by simpa using hb), Result.andThen_ok]
  rfl

/-! Operations that turn memory. -/
theorem SL.store {t : TypeId} {x y : Operand} {i b o' : Nat} {c c' : List Value} {T : TypeId} {z : Value} (hg : o.guard = none) (hd : o.dst = none) (ht : TySc P t z) (ho : o.op = .store t x y) (hx : evM m x = some (.pointer (some ⟨b, o', none⟩)))
    (hy : evM m y = some v) (hv : v.oneCell' = true) (hi : l[i]? = some (rBlk b c T)) (hlen : o' < c.length) (hS : X.S b ∨ X.w0.heap.size ≤ b) (hc : c.set o' v = c')
    (k : SL P X ops Q rest m (l.set i (rBlk b c' T))) : SL P X ops Q (o :: rest) m l := fun a w hf hI =>
  wpList_plain hg fun K hK => by
    have hb : Blk w b c T := hI.1.get hi
    unfold Oper.wp execOp
    rw [ho]
    have hcell : w.cell? ⟨b, o', none⟩ = some (c[o']'hlen) := by rw [hb.cell]; exact List.getElem?_eq_getElem hlen
    have hvc : v.cells = #[v] := by cases v <;> first | rfl | simp [Value.oneCell'] at hv
    have hst : (storeVar t ⟨b, o', none⟩ v).run P w = .ok () (w.setCell ⟨b, o', none⟩ v) := by
      unfold storeVar
      rw [hvc, Sem.run_bind, (ht.run w).2.1]
      simp only [Result.andThen_ok, List.size_toArray, List.length_cons, List.length_nil, Nat.zero_add, ne_eq, not_true, if_false, storeCells]
      have ha : (⟨b, o', none⟩ : Addr).add 0 = ⟨b, o', none⟩ := rfl
      rw [Sem.run_bind, ha, run_store P w _ v _ hv, hcell]
      simp [hb.fz, Result.andThen]
    simp only [hf.ev hx, hf.ev hy, Instr.storeAt, Instr.sureAddr, Sem.run_bind, Sem.run_pure, Result.andThen_ok, hst, Oper.upon_skip, hd, Act.put]
    refine hK _ _ (k a _ hf ?_)
    subst hc
    exact hI.upd hi (Only.st (S := fun k => k = b) (Only.refl _ _) rfl _ _) (fun b' hb' => by cases hb'; exact hS) (hb.set o' v) (fun b' hb' => .inl hb')
theorem SL.storea {t : TypeId} {x y : Operand} {i b o' : Nat} {c c' vs z : List Value} {T : TypeId} (hg : o.guard = none) (hd : o.dst = none) (ht : TyAg P t z) (ho : o.op = .store t x y) (hx : evM m x = some (.pointer (some ⟨b, o', none⟩)))
    (hy : evM m y = some (.agg vs.toArray)) (hv : vs.all (·.oneCell') = true) (hvl : vs.length = z.length) (hi : l[i]? = some (rBlk b c T)) (hlen : o' + vs.length ≤ c.length) (hS : X.S b ∨ X.w0.heap.size ≤ b)
    (hc : c.take o' ++ vs ++ c.drop (o' + vs.length) = c') (k : SL P X ops Q rest m (l.set i (rBlk b c' T))) : SL P X ops Q (o :: rest) m l := fun a w hf hI =>
  wpList_plain hg fun K hK => by
    have hb : Blk w b c T := hI.1.get hi
    unfold Oper.wp execOp
    rw [ho]
    have hst : (storeVar t ⟨b, o', none⟩ (.agg vs.toArray)).run P w = .ok () (w.setRow b c'.toArray) := by
      have := run_storeCells_at (P := P) b o' T vs 0 c.toArray w hb (by simpa using hlen) (fun u hu => List.all_eq_true.1 hv u hu)
      unfold storeVar
      rw [show Value.cells (.agg vs.toArray) = vs.toArray from rfl, Sem.run_bind, (ht.run w).2.1]
      simp only [Result.andThen_ok, List.size_toArray, hvl, ne_eq, not_true, if_false]
      rw [← hvl] at *
      simpa [hc] using this
    simp only [hf.ev hx, hf.ev hy, Instr.storeAt, Instr.sureAddr, Sem.run_bind, Sem.run_pure, Result.andThen_ok, hst, Oper.upon_skip, hd, Act.put]
    refine hK _ _ (k a _ hf ?_)
    refine hI.upd hi ⟨rfl, rfl, rfl, by simp [World.setRow], fun k' _ hk' => setRow_other w b k' _ hk'⟩ (fun b' hb' => by cases hb'; exact hS) ?_ (fun b' hb' => .inl hb')
    exact setRow_heap w b c.toArray c'.toArray T (0, 0) hb
theorem new_blk {w : World} (hI : Inv X w l) (c : Array Value) (T : TypeId) : Inv X (w.alloc (.cells c T)) (l ++ [rBlk w.heap.size c.toList T]) :=
  hI.add ((Only.refl _ _).alloc _) (Blk.new' w c T) (fun b hb => by cases hb; exact Nat.le_refl _)
theorem SL.alloc {t : TypeId} {z : Value} (hg : o.guard = none) (hd : o.dst = some d) (hn : d < X.n) (ht : TySc P t z) (ho : o.op = .alloc t)
    (k : ∀ b, X.w0.heap.size ≤ b → SL P X ops Q rest ((d, .pointer (some ⟨b, 0, none⟩)) :: m) (l ++ [rBlk b [z] t])) : SL P X ops Q (o :: rest) m l := fun a w hf hI =>
  wpList_plain hg fun K hK => by
    unfold Oper.wp execOp
    rw [ho]
    have hvc : z.cells = #[z] := by have := ht.one; cases z <;> first | rfl | simp [Value.oneCell'] at this
    have hrun : (Instr.alloc t true (.tuple #[])).run P w = .ok (.pointer (some ⟨w.heap.size, 0, none⟩)) (w.alloc (.cells #[z] t)) := by
      unfold Instr.alloc
      rw [Sem.run_bind, (ht.run w).2.2]
      simp [newVar, newRow, newObj, hvc]; rfl
    simp only [Sem.run_bind, hrun, Result.andThen_ok, Sem.run_pure, Oper.upon_value, hd]
    exact hK _ _ (k _ hI.2.size _ _ (hf.put hn _) (new_blk hI _ _))
theorem SL.alloca {t : TypeId} {z : List Value} (hg : o.guard = none) (hd : o.dst = some d) (hn : d < X.n) (ht : TyAg P t z) (ho : o.op = .alloc t)
    (k : ∀ b, X.w0.heap.size ≤ b → SL P X ops Q rest ((d, .pointer (some ⟨b, 0, none⟩)) :: m) (l ++ [rBlk b z t])) : SL P X ops Q (o :: rest) m l := fun a w hf hI =>
  wpList_plain hg fun K hK => by
    unfold Oper.wp execOp
    rw [ho]
    have hrun : (Instr.alloc t true (.tuple #[])).run P w = .ok (.pointer (some ⟨w.heap.size, 0, none⟩)) (w.alloc (.cells z.toArray t)) := by
      unfold Instr.alloc
      rw [Sem.run_bind, (ht.run w).2.2]
      simp [newVar, newRow, newObj, Value.cells]; rfl
    simp only [Sem.run_bind, hrun, Result.andThen_ok, Sem.run_pure, Oper.upon_value, hd]
    exact hK _ _ (k _ hI.2.size _ _ (hf.put hn _) (new_blk hI _ _))
theorem SL.box {t : TypeId} {x : Operand} {c : List Value} (hg : o.guard = none) (hd : o.dst = some d) (hn : d < X.n) (ho : o.op = .box t x) (hx : evM m x = some v) (hc : v.cells = c.toArray)
    (k : ∀ b, X.w0.heap.size ≤ b → SL P X ops Q rest ((d, .pointer (some ⟨b, 0, none⟩)) :: m) (l ++ [rBlk b c t])) : SL P X ops Q (o :: rest) m l := fun a w hf hI =>
  wpList_plain hg fun K hK => by
    unfold Oper.wp execOp
    rw [ho]
    have hrun : (Instr.box t v).run P w = .ok (.pointer (some ⟨w.heap.size, 0, none⟩)) (w.alloc (.cells c.toArray t)) := by
      unfold Instr.box
      simp [newVar, newRow, newObj, hc]; rfl
    simp only [hf.ev hx, Sem.run_bind, hrun, Result.andThen_ok, Sem.run_pure, Oper.upon_value, hd]
    exact hK _ _ (k _ hI.2.size _ _ (hf.put hn _) (new_blk hI _ _))

/-! Calls. -/
def evL (m : List (Nat × Value)) : List Operand → Option (List Value)
  | [] => some []
  | x :: r => match evM m x, evL m r with
    | some v, some vs => some (v :: vs)
    | _, _ => none
theorem Fr.evL {n : Nat} {a : Act} {m : List (Nat × Value)} (h : Fr n a m) : ∀ {xs : List Operand} {vs : List Value}, Proofs.Ytloejpkefoagfaa.evL m xs = some vs → xs.map a.eval = vs
  | [], vs, hv => by simpa [Proofs.Ytloejpkefoagfaa.evL] using hv
  | x :: r, vs, hv => by
    simp only [Proofs.Ytloejpkefoagfaa.evL] at hv
    split at hv
    · rename_i v us h1 h2
      cases hv
      rw [List.map_cons, h.ev h1, Fr.evL h h2]
    · cases hv
theorem call_enter {f : FuncId} {fs cs vals : List Value} {c : Operand} {args : List Operand} {aT : Array TypeId} (ho : o.op = .call { callee := .value c, args := args.toArray, argTypes := aT }) (hok : CallOk P f)
    (hc : evM m c = some (.func (.func f) fs.toArray cs.toArray)) (ha : evL m args = some vals) {a : Act} {n : Nat} (hf : Fr n a m) (w : World) : (execOp a.eval o).run P w = .ok (.enter f (fs ++ vals ++ cs).toArray) w := by
  obtain ⟨fn, h1, h2, h3⟩ := hok
  unfold execOp; rw [ho]
  have he : args.toArray.map a.eval = vals.toArray := by rw [← hf.evL ha]; simp
  have h2' : ¬ fn.body = none := by cases hfb : fn.body <;> simp_all
  have h3' : ¬ fn.name = "runtime.NumGoroutine" := by simpa using h3
  simp [resolve, hf.ev hc, Deferred.ofValue, he, invoke, callFunc, h1, h2', h3', Sem.run_bind, Result.andThen]
/-- A call whose answer and whose memory hang on what it draws (z). -/
theorem SL.call {ζ : Type} (val : ζ → Value) (l' : ζ → List Res) (p : ζ → Prop) {f : FuncId} {fs cs vals : List Value} {c : Operand} {args : List Operand} {aT : Array TypeId} (hg : o.guard = none)
    (ho : o.op = .call { callee := .value c, args := args.toArray, argTypes := aT }) (hok : CallOk P f) (hc : evM m c = some (.func (.func f) fs.toArray cs.toArray)) (ha : evL m args = some vals) (hd : o.dst = some d) (hn : d < X.n)
    (H : ∀ w, Inv X w l → Calls P f (fs ++ vals ++ cs).toArray w fun e w' => ∃ z, e = .returned (val z) ∧ Inv X w' (l' z) ∧ p z)
    (k : ∀ z, p z → SL P X ops Q rest ((d, val z) :: m) (l' z)) : SL P X ops Q (o :: rest) m l := fun a w hf hI =>
  wpList_plain hg fun K hK => by
    unfold Oper.wp
    rw [call_enter ho hok hc ha hf w, Oper.upon_enter]
    refine (H w hI).mono fun e w' ⟨z, he, hI', hp⟩ => ?_
    subst he
    rw [hd]
    exact hK _ _ (k z hp _ _ (hf.put hn _) hI')
theorem SL.callg {ζ : Type} (val : ζ → Value) (l' : ζ → List Res) (p : ζ → Prop) {j : Nat} {want : Bool} {dj : Nat} (hg : o.guard = some (j, want)) (hj : (ops[j]?).bind (·.dst) = some dj) (hb : look m dj = some (.bool want)) {f : FuncId} {fs cs vals : List Value} {c : Operand} {args : List Operand} {aT : Array TypeId}
    (ho : o.op = .call { callee := .value c, args := args.toArray, argTypes := aT }) (hok : CallOk P f) (hc : evM m c = some (.func (.func f) fs.toArray cs.toArray)) (ha : evL m args = some vals) (hd : o.dst = some d) (hn : d < X.n)
    (H : ∀ w, Inv X w l → Calls P f (fs ++ vals ++ cs).toArray w fun e w' => ∃ z, e = .returned (val z) ∧ Inv X w' (l' z) ∧ p z)
    (k : ∀ z, p z → SL P X ops Q rest ((d, val z) :: m) (l' z)) : SL P X ops Q (o :: rest) m l := fun a w hf hI =>
  wpList_step fun K hK => by
    rw [if_pos (by rw [guard_is hf hg hj hb]; simp)]
    unfold Oper.wp
    rw [call_enter ho hok hc ha hf w, Oper.upon_enter]
    refine (H w hI).mono fun e w' ⟨z, he, hI', hp⟩ => ?_
    subst he
    rw [hd]
    exact hK _ _ (k z hp _ _ (hf.put hn _) hI')
/-- A call in a quiet region: one value, nothing old turned. -/
theorem SQ.call {K : Act → Prop} {f : FuncId} {fs cs vals : List Value} {c : Operand} {args : List Operand} {aT : Array TypeId} (v : Value) (hg : o.guard = none)
    (ho : o.op = .call { callee := .value c, args := args.toArray, argTypes := aT }) (hok : CallOk P f) (hc : evM m c = some (.func (.func f) fs.toArray cs.toArray)) (ha : evL m args = some vals) (hd : o.dst = some d) (hn : d < X.n)
    (H : ∀ w, Inv X w l → Calls P f (fs ++ vals ++ cs).toArray w fun e w' => e = .returned v ∧ Inv X w' l)
    (k : SQ P X ops K rest ((d, v) :: m) l) : SQ P X ops K (o :: rest) m l := fun a hf => by
  unfold wpQuiet
  rw [if_pos (by simp [Region.wanted, hg])]
  refine ⟨v, fun w hi => ?_, ?_⟩
  · unfold Oper.quietAt; rw [call_enter ho hok hc ha hf w]; exact ⟨rfl, H w hi⟩
  · rw [hd]; exact k _ (hf.put hn v)
theorem SQ.callg {K : Act → Prop} {j : Nat} {want : Bool} {dj : Nat} {f : FuncId} {fs cs vals : List Value} {c : Operand} {args : List Operand} {aT : Array TypeId} (v : Value) (hg : o.guard = some (j, want)) (hj : (ops[j]?).bind (·.dst) = some dj) (hb : look m dj = some (.bool want))
    (ho : o.op = .call { callee := .value c, args := args.toArray, argTypes := aT }) (hok : CallOk P f) (hc : evM m c = some (.func (.func f) fs.toArray cs.toArray)) (ha : evL m args = some vals) (hd : o.dst = some d) (hn : d < X.n)
    (H : ∀ w, Inv X w l → Calls P f (fs ++ vals ++ cs).toArray w fun e w' => e = .returned v ∧ Inv X w' l)
    (k : SQ P X ops K rest ((d, v) :: m) l) : SQ P X ops K (o :: rest) m l := fun a hf => by
  unfold wpQuiet
  rw [if_pos (by rw [guard_is hf hg hj hb]; simp)]
  refine ⟨v, fun w hi => ?_, ?_⟩
  · unfold Oper.quietAt; rw [call_enter ho hok hc ha hf w]; exact ⟨rfl, H w hi⟩
  · rw [hd]; exact k _ (hf.put hn v)

/-! A function's end and beginning. -/
theorem SE.res {fn : Func} {R : Ending → World → Prop} {e : Exit} (he : e = .ret ∨ e = .normal) (hr : ∀ a w, Fr X.n a m → Inv X w l → (results fn a.tmps).run P w = .ok v w) (hR : ∀ w, Inv X w l → R (.returned v) w) : SE X (bodyPost P fn R) e m l := fun a w hf hI => by
  rcases he with rfl | rfl <;> exact ⟨hf.1, v, hr a w hf hI, hR w hI⟩
theorem look_tmps {n : Nat} {a : Act} {t : Nat} (hf : Fr n a m) (h : look m t = some v) : a.tmps.getD t undef = v := by simp [hf.2.2 t v h]
theorem res1 {fn : Func} {t : Nat} (h : fn.results = #[.tmp t]) (ht : look m t = some v) : ∀ a w, Fr X.n a m → Inv X w l → (results fn a.tmps).run P w = .ok v w := fun a w hf _ => by
  rw [results_tmp h, look_tmps hf ht]
theorem res2 {fn : Func} {t u : Nat} {v1 v2 : Value} (h : fn.results = #[.tmp t, .tmp u]) (ht : look m t = some v1) (hu : look m u = some v2) : ∀ a w, Fr X.n a m → Inv X w l → (results fn a.tmps).run P w = .ok (.tuple #[v1, v2]) w := fun a w hf _ => by
  rw [results_tmp2 h, look_tmps hf ht, look_tmps hf hu]
theorem res0 {fn : Func} (h : fn.results = #[]) : ∀ a w, Fr X.n a m → Inv X w l → (results fn a.tmps).run P w = .ok (.tuple #[]) w := fun a w _ _ => results_none h _ _ _
theorem calls_sc {f : FuncId} {fn : Func} {c : Code} {args : List Value} {w : World} {R : Ending → World → Prop} {l0 : List Res} (S : Nat → Prop) (hfn : P.funcs[f]? = some fn) (hb : fn.body = some c) (n : Nat) (hn : fn.ntmps = n) (hargs : args.length ≤ n)
    (hI : Inv ⟨n, w, S⟩ w l0) (h : SC P ⟨n, w, S⟩ c (bodyPost P fn R) (args.zipIdx.map fun x => (x.2, x.1)) l0) : Calls P f args.toArray w R := by
  refine calls_of_wp hfn hb (h _ w ⟨rfl, ?_, ?_⟩ hI)
  · simp; omega
  · intro t v hv
    have key : ∀ (xs : List Value) (k : Nat), look ((xs.zipIdx k).map fun x => (x.2, x.1)) t = some v → k ≤ t ∧ xs[t - k]? = some v := by
      intro xs
      induction xs with
      | nil => intro k h; simp [look] at h
      | cons x r ih =>
        intro k h
        simp only [List.zipIdx_cons, List.map_cons, look] at h
        cases hb : Nat.beq k t
        · rw [hb] at h
          have hne : k ≠ t := fun e => by subst e; simp at hb
          obtain ⟨h1, h2⟩ := ih (k + 1) (by simpa using h)
          refine ⟨by omega, ?_⟩
          rw [show t - k = (t - (k + 1)) + 1 by omega]; simpa using h2
        · rw [hb] at h
          have e : k = t := Nat.eq_of_beq_eq_true hb
          subst e
          simp at h; subst h
          exact ⟨Nat.le_refl _, by simp⟩
    have := (key args 0 hv).2
    simp only [Nat.sub_zero] at this
    have hlt : t < args.length := (List.getElem?_eq_some_iff.1 this).1
    rw [Array.getElem?_append_left (by simpa using hlt)]
    simpa using this
end
end Go.Proofs.Ytloejpkefoagfaa
