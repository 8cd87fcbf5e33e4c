/-
  The light machine's laws: numbers, tests, small builtins; and a walk parted and joined again. No program is named here.
-/
import Derived.Test.YtloejpkefoagfaaSyOp
namespace Go.Proofs.Ytloejpkefoagfaa
open Go.RowKit

abbrev iw (x : Int) : Value := .int .i64 x
abbrev uw (x : Int) : Value := .int .u32 x
abbrev bo (b : Bool) : Value := .bool b
abbrev pt (b o : Nat) : Value := .pointer (some ⟨b, o, none⟩)
abbrev sl (b o n c : Nat) : Value := .slice (some ⟨b, o, none⟩) n c

theorem lt_b {a b : Nat} (h : Nat.blt a b = true) : a < b := by simpa [Nat.blt_eq] using h
theorem le_b {a b : Nat} (h : Nat.ble a b = true) : a ≤ b := Nat.le_of_ble_eq_true h

section
variable {P : Program} {X : Cx} {ops : Array Oper} {Q : Exit → Act → World → Prop} {rest : List Oper} {o : Oper} {m : List (Nat × Value)} {l : List Res} {v : Value} {d : Nat}
variable {t t' : TypeId} {x y : Operand} {k : IntKind} {p q r : Int} {b : Bool}

theorem ru_add (ho : o.op = .binOp .add t x y t') (hx : evM m x = some (.int k p)) (hy : evM m y = some (.int k q)) (hv : k.wrap (p + q) = r) : Ru P X o m l (.int k r) := ru_bin ho hx hy fun w => by subst hv; simp [binOp, Op.intArith]
theorem ru_sub (ho : o.op = .binOp .sub t x y t') (hx : evM m x = some (.int k p)) (hy : evM m y = some (.int k q)) (hv : k.wrap (p - q) = r) : Ru P X o m l (.int k r) := ru_bin ho hx hy fun w => by subst hv; simp [binOp, Op.intArith]
theorem ru_mul (ho : o.op = .binOp .mul t x y t') (hx : evM m x = some (.int k p)) (hy : evM m y = some (.int k q)) (hv : k.wrap (p * q) = r) : Ru P X o m l (.int k r) := ru_bin ho hx hy fun w => by subst hv; simp [binOp, Op.intArith]
theorem ru_quo (ho : o.op = .binOp .quo t x y t') (hx : evM m x = some (.int k p)) (hy : evM m y = some (.int k q)) (h0 : ¬ q = 0) (hv : k.wrap (p.tdiv q) = r) : Ru P X o m l (.int k r) := ru_bin ho hx hy fun w => by subst hv; simp [binOp, Op.intDiv, h0]
theorem ru_rem (ho : o.op = .binOp .rem t x y t') (hx : evM m x = some (.int k p)) (hy : evM m y = some (.int k q)) (h0 : ¬ q = 0) (hv : p.tmod q = r) : Ru P X o m l (.int k r) := ru_bin ho hx hy fun w => by subst hv; simp [binOp, Op.intDiv, h0]
theorem ru_eq (ho : o.op = .binOp .eql t x y t') (hx : evM m x = some (.int k p)) (hy : evM m y = some (.int k q)) (hv : (p == q) = b) : Ru P X o m l (.bool b) := ru_bin ho hx hy fun w => by subst hv; simp [binOp, Op.intCmp]
theorem ru_ne (ho : o.op = .binOp .neq t x y t') (hx : evM m x = some (.int k p)) (hy : evM m y = some (.int k q)) (hv : (p != q) = b) : Ru P X o m l (.bool b) := ru_bin ho hx hy fun w => by subst hv; simp [binOp, Op.intCmp]
theorem ru_lt (ho : o.op = .binOp .lss t x y t') (hx : evM m x = some (.int k p)) (hy : evM m y = some (.int k q)) (hv : decide (p < q) = b) : Ru P X o m l (.bool b) := ru_bin ho hx hy fun w => by subst hv; simp [binOp, Op.intCmp]
theorem ru_le (ho : o.op = .binOp .leq t x y t') (hx : evM m x = some (.int k p)) (hy : evM m y = some (.int k q)) (hv : decide (p ≤ q) = b) : Ru P X o m l (.bool b) := ru_bin ho hx hy fun w => by subst hv; simp [binOp, Op.intCmp]
theorem ru_gt (ho : o.op = .binOp .gtr t x y t') (hx : evM m x = some (.int k p)) (hy : evM m y = some (.int k q)) (hv : decide (q < p) = b) : Ru P X o m l (.bool b) := ru_bin ho hx hy fun w => by subst hv; simp [binOp, Op.intCmp]
theorem ru_ge (ho : o.op = .binOp .geq t x y t') (hx : evM m x = some (.int k p)) (hy : evM m y = some (.int k q)) (hv : decide (q ≤ p) = b) : Ru P X o m l (.bool b) := ru_bin ho hx hy fun w => by subst hv; simp [binOp, Op.intCmp]
theorem ru_or (ho : o.op = .binOp .or t x y t') (hx : evM m x = some (.int k p)) (hy : evM m y = some (.int k q)) (hv : bits .or k p q = r) : Ru P X o m l (.int k r) := ru_bin ho hx hy fun w => by subst hv; simp [binOp, Op.intBits, bits]
theorem ru_and (ho : o.op = .binOp .and t x y t') (hx : evM m x = some (.int k p)) (hy : evM m y = some (.int k q)) (hv : bits .and k p q = r) : Ru P X o m l (.int k r) := ru_bin ho hx hy fun w => by subst hv; simp [binOp, Op.intBits, bits]
theorem ru_not (ho : o.op = .unOp .not t x) (hx : evM m x = some (.bool b)) {c : Bool} (hv : (!b) = c) : Ru P X o m l (.bool c) := fun a w hf _ => by
  subst hv; unfold execOp; rw [ho]; simp only [hf.ev hx, Op.unary]; rfl
/-- A binary operation by its run. -/
theorem ru_binv {op : BinOp} {u1 u2 : Value} (ho : o.op = .binOp op t x y t') (hx : evM m x = some u1) (hy : evM m y = some u2) (hg : ∀ w, (eqGuard op t x y u1 u2).run P w = .ok () w)
    (hr : ∀ w, Inv X w l → (binOp op t u1 u2).run P w = .ok v w) : Ru P X o m l v := fun a w hf hI => by
  unfold execOp; rw [ho]; simp only [hf.ev hx, hf.ev hy]
  rw [Sem.run_bind, Sem.run_bind, hg w]
  simp only [Result.andThen_ok, hr w hI]
  rfl
theorem ru_eqb {p q : Bool} (hu : P.underlying t = some .bool) (ho : o.op = .binOp .eql t x y t') (hx : evM m x = some (.bool p)) (hy : evM m y = some (.bool q)) (hv : (p == q) = b) : Ru P X o m l (.bool b) :=
  ru_binv ho hx hy (fun w => rfl) fun w _ => by subst hv; obtain ⟨n, hn⟩ : ∃ n, Op.maxDepth = n + 1 := ⟨9999, rfl⟩; simp only [binOp, Op.equal, hn, Op.equalIn, Sem.run_bind, run_underlying hu w, Result.andThen_ok]; rfl
theorem ru_neb {p q : Bool} (hu : P.underlying t = some .bool) (ho : o.op = .binOp .neq t x y t') (hx : evM m x = some (.bool p)) (hy : evM m y = some (.bool q)) (hv : (!(p == q)) = b) : Ru P X o m l (.bool b) :=
  ru_binv ho hx hy (fun w => rfl) fun w _ => by subst hv; obtain ⟨n, hn⟩ : ∃ n, Op.maxDepth = n + 1 := ⟨9999, rfl⟩; simp only [binOp, Op.equal, hn, Op.equalIn, Sem.run_bind, run_underlying hu w, Result.andThen_ok]; rfl
theorem ru_eqnil {e : TypeId} {a : Option Addr} (hu : P.underlying t = some (.pointer e)) (ho : o.op = .binOp .eql t x y t') (hx : evM m x = some (.pointer a)) (hy : evM m y = some (.pointer none)) (hv : a.isNone = b) : Ru P X o m l (.bool b) :=
  ru_binv ho hx hy (fun w => rfl) fun w _ => by subst hv; obtain ⟨n, hn⟩ : ∃ n, Op.maxDepth = n + 1 := ⟨9999, rfl⟩; cases a <;> (simp only [binOp, Op.equal, hn, Op.equalIn, Sem.run_bind, run_underlying hu w, Result.andThen_ok]; rfl)
theorem ru_nenil {e : TypeId} {a : Option Addr} (hu : P.underlying t = some (.pointer e)) (ho : o.op = .binOp .neq t x y t') (hx : evM m x = some (.pointer a)) (hy : evM m y = some (.pointer none)) (hv : a.isSome = b) : Ru P X o m l (.bool b) :=
  ru_binv ho hx hy (fun w => rfl) fun w _ => by subst hv; obtain ⟨n, hn⟩ : ∃ n, Op.maxDepth = n + 1 := ⟨9999, rfl⟩; cases a <;> (simp only [binOp, Op.equal, hn, Op.equalIn, Sem.run_bind, run_underlying hu w, Result.andThen_ok]; rfl)
theorem ru_conv {k' : IntKind} (hs : ∃ d, P.underlying t = some d) (hd : P.underlying t' = some (.int k')) (ho : o.op = .convert t t' x) (hx : evM m x = some (.int k p)) (hv : k'.wrap p = r) : Ru P X o m l (.int k' r) := fun a w hf _ => by
  obtain ⟨d, hs⟩ := hs
  subst hv; unfold execOp; rw [ho]; simp only [hf.ev hx, Go.convert, Sem.run_bind, run_underlying hs w, run_underlying hd w, Result.andThen_ok, Conv.intToInt]
  rfl
theorem ru_len {e : TypeId} {a : Option Addr} {n c : Nat} (hu : P.underlying t = some (.slice e)) (ho : o.op = .call { callee := .builtin .len, args := #[x], argTypes := #[t] }) (hx : evM m x = some (.slice a n c)) : Ru P X o m l (.int .i64 n) := fun a w hf _ => by
  unfold execOp; rw [ho]
  simp [resolve, hf.ev hx, invoke, builtin, Builtin.len_, run_underlying hu w, goInt]
theorem ru_makeFunc {fn : Fn} {fs cs : List Operand} {v1 v2 : List Value} (ho : o.op = .makeFunc fn fs.toArray cs.toArray) (h1 : evL m fs = some v1) (h2 : evL m cs = some v2) : Ru P X o m l (.func fn v1.toArray v2.toArray) := fun a w hf _ => by
  have e1 : fs.toArray.map a.eval = v1.toArray := by rw [← hf.evL h1]; simp
  have e2 : cs.toArray.map a.eval = v2.toArray := by rw [← hf.evL h2]; simp
  unfold execOp; rw [ho]; simp only [e1, e2, Instr.makeFunc]; rfl

/-- The guard's own operation was left out. -/
theorem guard_un {j : Nat} {want : Bool} {dj : Nat} {a : Act} (hf : Fr X.n a m) (hg : o.guard = some (j, want)) (hj : (ops[j]?).bind (·.dst) = some dj) (hb : look m dj = some undef) : Region.wanted o (yielded ops a.tmps) = false := by
  have h1 : yielded ops a.tmps j = none := by
    unfold yielded
    rw [hj]
    simp [hf.2.2 dj _ hb, undef]
  unfold Region.wanted
  rw [hg]
  simp [h1]
theorem SL.offu {j : Nat} {want : Bool} {dj : Nat} (hg : o.guard = some (j, want)) (hj : (ops[j]?).bind (·.dst) = some dj) (hb : look m dj = some undef) (hd : o.dst = some d) (hn : d < X.n)
    (k : SL P X ops Q rest ((d, undef) :: m) l) : SL P X ops Q (o :: rest) m l := fun a w hf hi =>
  wpList_step fun K hK => by
    rw [if_neg (by rw [guard_un hf hg hj hb]; simp), hd]
    exact hK _ _ (k _ w (hf.put hn _) hi)
theorem SQ.offu {K : Act → Prop} {j : Nat} {want : Bool} {dj : Nat} (hg : o.guard = some (j, want)) (hj : (ops[j]?).bind (·.dst) = some dj) (hb : look m dj = some undef) (hd : o.dst = some d) (hn : d < X.n)
    (k : SQ P X ops K rest ((d, undef) :: m) l) : SQ P X ops K (o :: rest) m l := fun a hf => by
  unfold wpQuiet
  rw [if_neg (by rw [guard_un hf hg hj hb]; simp), hd]
  exact k _ (hf.put hn _)

/-! A walk parted and joined again. -/
theorem wpList_append {L2 : List Oper} : ∀ (L1 : List Oper) (a : Act) (w : World), wpList P ops (Exit.then (fun a w => wpList P ops Q L2 a w) Q) L1 a w → wpList P ops Q (L1 ++ L2) a w
  | [], a, w, h => h
  | o :: r, a, w, h => by
    rw [List.cons_append]
    unfold wpList at h ⊢
    have hout : LetsOut (Exit.then (fun a w => wpList P ops Q L2 a w) Q) → LetsOut Q := fun ⟨a, w, h⟩ => ⟨a, w, h⟩
    split
    · rename_i hw
      rw [if_pos hw] at h
      rcases h with h | ⟨h1, h2⟩
      · left
        unfold Oper.wp at h ⊢
        revert h
        generalize (execOp a.eval o).run P w = rr
        intro h
        cases rr with
        | ok n w' =>
          cases n <;> simp only [Oper.upon] at h ⊢ <;> first | exact h.elim | exact wpList_append r _ _ h | skip
          · refine h.mono fun e w'' he => ?_
            cases e with
            | returned v => exact wpList_append r _ _ he
            | panicked c => exact he
            | outgrown => exact hout he
          · exact h.mono fun v w'' he => wpList_append r _ _ he
        | halt hh w' =>
          cases hh <;> simp only [Oper.upon] at h ⊢ <;> first | exact h.elim | exact h
      · exact .inr ⟨h1, hout h2⟩
    · rename_i hw
      rw [if_neg hw] at h
      exact wpList_append r _ _ h
/-- The walk goes on behind n operations in one way (m', l'), however it comes there. -/
theorem SL.join (n : Nat) (m' : List (Nat × Value)) (l' : List Res) (hk : SL P X ops Q (rest.drop n) m' l')
    (h : ∀ K : Act → World → Prop, (∀ a w, Fr X.n a m' → Inv X w l' → K a w) → SL P X ops (Exit.then K Q) (rest.take n) m l) : SL P X ops Q rest m l := fun a w hf hI => by
  have := h (fun a w => wpList P ops Q (rest.drop n) a w) (fun a w hf hI => hk a w hf hI) a w hf hI
  have := wpList_append (Q := Q) (L2 := rest.drop n) _ _ _ this
  rwa [List.take_append_drop] at this
theorem SL.joined {K : Act → World → Prop} {m' : List (Nat × Value)} {l' : List Res} (hK : ∀ a w, Fr X.n a m' → Inv X w l' → K a w) (hm : Subs m m') (hl : l = l') : SL P X ops (Exit.then K Q) [] m l := fun a w hf hI => hK a w (hf.sub hm) (hl ▸ hI)
theorem SQ.append {K : Act → Prop} {L2 : List Oper} : ∀ (L1 : List Oper) (a : Act), wpQuiet P ops (fun w => Inv X w l) (wpQuiet P ops (fun w => Inv X w l) K L2) L1 a → wpQuiet P ops (fun w => Inv X w l) K (L1 ++ L2) a
  | [], a, h => h
  | o :: r, a, h => by
    rw [List.cons_append]
    unfold wpQuiet at h ⊢
    split
    · rename_i hw
      rw [if_pos hw] at h
      obtain ⟨v, h1, h2⟩ := h
      exact ⟨v, h1, SQ.append r _ h2⟩
    · rename_i hw
      rw [if_neg hw] at h
      exact SQ.append r _ h
theorem SQ.join {K : Act → Prop} (n : Nat) (m' : List (Nat × Value)) (hk : SQ P X ops K (rest.drop n) m' l)
    (h : ∀ K' : Act → Prop, (∀ a, Fr X.n a m' → K' a) → SQ P X ops K' (rest.take n) m l) : SQ P X ops K rest m l := fun a hf => by
  have := h (wpQuiet P ops (fun w => Inv X w l) K (rest.drop n)) (fun a hf => hk a hf) a hf
  have := SQ.append (K := K) (L2 := rest.drop n) _ _ this
  rwa [List.take_append_drop] at this
theorem SQ.joined {K : Act → Prop} {m' : List (Nat × Value)} (hK : ∀ a, Fr X.n a m' → K a) (hm : Subs m m') : SQ P X ops K [] m l := fun a hf => hK a (hf.sub hm)
theorem SQ.norm {K : Act → Prop} (m' : List (Nat × Value)) (hm : Subs m m') (h : SQ P X ops K rest m' l) : SQ P X ops K rest m l := fun a hf => h a (hf.sub hm)

/-- A call with one answer, that turns nothing of what is known. -/
theorem SL.callv {f : FuncId} {fs cs vals : List Value} {c : Operand} {args : List Operand} {aT : Array TypeId} (v : Value) (hg : o.guard = none)
    (ho : o.op = .call { callee := .value c, args := args.toArray, argTypes := aT }) (hok : CallOk P f) (hc : evM m c = some (.func (.func f) fs.toArray cs.toArray)) (ha : evL m args = some vals) (hd : o.dst = some d) (hn : d < X.n)
    (H : ∀ w, Inv X w l → Calls P f (fs ++ vals ++ cs).toArray w fun e w' => e = .returned v ∧ Inv X w' l)
    (k : SL P X ops Q rest ((d, v) :: m) l) : SL P X ops Q (o :: rest) m l :=
  SL.call (fun _ : Unit => v) (fun _ => l) (fun _ => True) hg ho hok hc ha hd hn (fun w hI => (H w hI).mono fun e w' ⟨h1, h2⟩ => ⟨(), h1, h2, trivial⟩) (fun _ _ => k)
theorem SL.callvg {j : Nat} {want : Bool} {dj : Nat} {f : FuncId} {fs cs vals : List Value} {c : Operand} {args : List Operand} {aT : Array TypeId} (v : Value) (hg : o.guard = some (j, want)) (hj : (ops[j]?).bind (·.dst) = some dj) (hb : look m dj = some (.bool want))
    (ho : o.op = .call { callee := .value c, args := args.toArray, argTypes := aT }) (hok : CallOk P f) (hc : evM m c = some (.func (.func f) fs.toArray cs.toArray)) (ha : evL m args = some vals) (hd : o.dst = some d) (hn : d < X.n)
    (H : ∀ w, Inv X w l → Calls P f (fs ++ vals ++ cs).toArray w fun e w' => e = .returned v ∧ Inv X w' l)
    (k : SL P X ops Q rest ((d, v) :: m) l) : SL P X ops Q (o :: rest) m l :=
  SL.callg (fun _ : Unit => v) (fun _ => l) (fun _ => True) hg hj hb ho hok hc ha hd hn (fun w hI => (H w hI).mono fun e w' ⟨h1, h2⟩ => ⟨(), h1, h2, trivial⟩) (fun _ _ => k)
theorem H_same {f : FuncId} {vs : Array Value} {w : World} (hI : Inv X w l) (h : Calls P f vs w fun e w' => e = .returned v ∧ w = w') : Calls P f vs w fun e w' => e = .returned v ∧ Inv X w' l := h.mono fun e w' ⟨h1, h2⟩ => ⟨h1, h2 ▸ hI⟩
theorem H_only {f : FuncId} {vs : Array Value} {w : World} (hI : Inv X w l) (h : Calls P f vs w fun e w' => e = .returned v ∧ Only (fun _ => False) w w') : Calls P f vs w fun e w' => e = .returned v ∧ Inv X w' l := h.mono fun e w' ⟨h1, h2⟩ => ⟨h1, hI.only h2⟩
theorem cond_t {α : Type} {b : Bool} {x y : α} (h : b = true) : cond b x y = x := by rw [h]; rfl
theorem cond_f {α : Type} {b : Bool} {x y : α} (h : b = false) : cond b x y = y := by rw [h]; rfl
theorem ret_bo {a b : Bool} (h : b = a) : Ending.returned (.bool a) = .returned (.bool b) := by rw [h]
theorem tf (b : Bool) : b = true ∨ b = false := by cases b <;> simp
end
end Go.Proofs.Ytloejpkefoagfaa
