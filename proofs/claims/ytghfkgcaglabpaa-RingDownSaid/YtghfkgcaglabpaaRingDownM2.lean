/-
  What the proof of RingDown stands on, part 2: each theorem by itself, under the conditions that it names.
-/
import Derived.Test.YtghfkgcaglabpaaRingDownM1
import Derived.Lib.AppendZerosOnto
import Derived.Lib.Hide
import Derived.StillTailTactics
import Derived.Deep.QuietTactic
/-
  The light machine: slices of slices. No program is named here.
-/
namespace Go.Proofs.Ytghfkgcaglabpaa
open Go.RowKit
def optIs (m : List (Nat × Value)) (o : Option Operand) (d k : Nat) : Prop := match o with | none => k = d | some y => evM m y = some (iw (k : Int))
section
variable {P : Program} {X : Cx} {o : Oper} {m : List (Nat × Value)} {l : List Res} {x : Operand} {t : TypeId}
theorem run_bound {w : World} {k y : Nat} (h : k ≤ y) (code : BoundsCode) : (Instr.sliceBound (iw (k : Int)) y code).run P w = .ok k w := by
  have h1 : (0 : Int) ≤ (k : Int) ∧ (k : Int) ≤ (y : Int) := by omega
  simp [Instr.sliceBound, asIntOf, h, h1]
theorem ru_slice {e size n c l0 h0 m0 : Nat} {q : Option Addr} {lo hi mx : Option Operand} (hs : SliIs P t e size) (ho : o.op = .slice t x lo hi mx) (hx : evM m x = some (.slice q n c)) (hm : optIs m mx c m0) (hh : optIs m hi n h0) (hl : optIs m lo 0 l0) (hmx : mx.isSome = true → hi.isSome = true) (h1 : m0 ≤ c) (h2 : h0 ≤ m0) (h3 : l0 ≤ h0) :
    Ru P X o m l (.slice (if m0 = l0 then q else q.map (·.add (l0 * size))) (h0 - l0) (m0 - l0)) := fun a w hf hI => by
  obtain ⟨hu, hsz⟩ := hs
  unfold execOp; rw [ho]
  have hb : (Instr.sliceBounds true n c (lo.map a.eval) (hi.map a.eval) (mx.map a.eval)).run P w = .ok (l0, h0, m0) w := by
    unfold Instr.sliceBounds
    cases mx with
    | none =>
      have hm' : m0 = c := hm
      subst hm'
      cases hi with
      | none =>
        have hh' : h0 = n := hh
        subst hh'
        cases lo with
        | none => have hl' : l0 = 0 := hl; subst hl'; simp
        | some y => have := hf.ev hl; simp [this, run_bound h3]
      | some yh =>
        have e1 := hf.ev hh
        cases lo with
        | none => have hl' : l0 = 0 := hl; subst hl'; simp [e1, run_bound h2]
        | some y => have := hf.ev hl; simp [this, e1, run_bound h2, run_bound h3]
    | some ym =>
      have e0 := hf.ev hm
      cases hi with
      | none => exact absurd (hmx rfl) (by simp)
      | some yh =>
        have e1 := hf.ev hh
        cases lo with
        | none => have hl' : l0 = 0 := hl; subst hl'; simp [e0, e1, run_bound h1, run_bound h2]
        | some y => have := hf.ev hl; simp [this, e0, e1, run_bound h1, run_bound h2, run_bound h3]
  simp only [hf.ev hx, Instr.sliceAt, Instr.slice, Sem.run_bind, run_underlying hu w, Result.andThen_ok, hb, size_run hsz w, Sem.run_pure]
theorem ru_sliceV {e size n c l0 h0 m0 : Nat} {q : Option Addr} {lo hi mx : Option Operand} {v : Value} (hv : Value.slice (if m0 = l0 then q else q.map (·.add (l0 * size))) (h0 - l0) (m0 - l0) = v) (hs : SliIs P t e size) (ho : o.op = .slice t x lo hi mx) (hx : evM m x = some (.slice q n c)) (hm : optIs m mx c m0) (hh : optIs m hi n h0) (hl : optIs m lo 0 l0) (hmx : mx.isSome = true → hi.isSome = true) (h1 : m0 ≤ c) (h2 : h0 ≤ m0) (h3 : l0 ≤ h0) : Ru P X o m l v :=
  hv ▸ ru_slice hs ho hx hm hh hl hmx h1 h2 h3
end
end Go.Proofs.Ytghfkgcaglabpaa

/-
  A region that draws its order and holds several operations that make memory, or turn it: one walk in the order of the text serves every order; what each of them comes to is taken as it comes. No program is named here.
-/
namespace Go.Proofs.Ytghfkgcaglabpaa
abbrev Got := Nat → Option Value
def updD (D : Got) (k : Nat) (v : Value) : Got := fun j => bif Nat.beq k j then some v else D j
theorem updD_same {D : Got} {k : Nat} {v : Value} : updD D k v k = some v := by simp [updD]
theorem beq_off {k j : Nat} (h : k ≠ j) : Nat.beq k j = false := by
  cases e : Nat.beq k j
  · rfl
  · exact absurd (Nat.eq_of_beq_eq_true e) h
theorem updD_ne {D : Got} {k j : Nat} {v : Value} (h : k ≠ j) : updD D k v j = D j := by simp [updD, beq_off h]
theorem updD_comm {D : Got} {i j : Nat} {u v : Value} (h : i ≠ j) : updD (updD D i v) j u = updD (updD D j u) i v := by
  funext k
  simp only [updD]
  by_cases h1 : i = k
  · subst h1; simp [beq_off (Ne.symm h)]
  · by_cases h2 : j = k
    · subst h2; simp [beq_off h]
    · simp [beq_off h1, beq_off h2]
section
variable {P : Program} {ops : Array Oper} {md : Region.Mode} {sp : List Nat} {C : Got → World → Prop} {V : Nat → Value → Prop} {dep : Nat → List Nat}

def mkUpon (P : Program) (R : Value → World → Prop) : Result Next → Prop
  | .ok (.value u) w' => R u w'
  | .ok .skip w' => R undef w'
  | .ok (.enter f args) w' => Calls P f args w' (fun e w'' => ∃ u, e = .returned u ∧ R u w'')
  | _ => False
def quUpon (R : World → Prop) (v : Value) : Result Next → Prop
  | .ok (.value u) w' => u = v ∧ R w'
  | .ok .skip w' => v = undef ∧ R w'
  | _ => False
def mkAt (P : Program) (C : Got → World → Prop) (V : Nat → Value → Prop) (dep : Nat → List Nat) (i : Nat) (o : Oper) (a : Act) (E : Got) : Prop :=
  ∀ D w, C D w → D i = none → (∀ j ∈ dep i, D j = E j) → mkUpon P (fun u w' => V i u ∧ C (updD D i u) w') ((execOp a.eval o).run P w)
def quAt (P : Program) (C : Got → World → Prop) (dep : Nat → List Nat) (i : Nat) (o : Oper) (a : Act) (E : Got) (v : Value) : Prop := ∀ D w, C D w → (∀ j ∈ dep i, D j = E j) → quUpon (C D) v ((execOp a.eval o).run P w)

def wpMk (P : Program) (ops : Array Oper) (sp : List Nat) (C : Got → World → Prop) (V : Nat → Value → Prop) (dep : Nat → List Nat) (Q : Act → Got → Prop) : Nat → List Oper → Act → Got → Prop
  | _, [], a, D => Q a D
  | k, o :: rest, a, D =>
    if Region.wanted o (yielded ops a.tmps) then
      (if sp.contains k = true then mkAt P C V dep k o a D ∧ ∀ v, V k v → wpMk P ops sp C V dep Q (k + 1) rest (a.put o.dst v) (updD D k v)
       else ∃ v, quAt P C dep k o a D v ∧ wpMk P ops sp C V dep Q (k + 1) rest (a.put o.dst v) D)
    else wpMk P ops sp C V dep Q (k + 1) rest (a.put o.dst undef) D

def mkOp (P : Program) (ops : Array Oper) (sp : List Nat) (C : Got → World → Prop) (V : Nat → Value → Prop) (dep : Nat → List Nat) (i : Nat) (K : Act → Got → Prop) (a : Act) (D : Got) : Prop :=
  match ops[i]? with
  | none => K a D
  | some o =>
    if Region.wanted o (yielded ops a.tmps) then
      (if sp.contains i = true then mkAt P C V dep i o a D ∧ ∀ v, V i v → K (a.put o.dst v) (updD D i v) else ∃ v, quAt P C dep i o a D v ∧ K (a.put o.dst v) D)
    else K (a.put o.dst undef) D
def MkYields (P : Program) (ops : Array Oper) (sp : List Nat) (C : Got → World → Prop) (V : Nat → Value → Prop) (dep : Nat → List Nat) (i : Nat) (o : Oper) (W : Value → Prop) (f : Value → Got → Got) (a : Act) (E : Got) : Prop :=
  (Region.wanted o (yielded ops a.tmps) = true ∧ sp.contains i = true ∧ mkAt P C V dep i o a E ∧ W = V i ∧ f = fun v D => updD D i v) ∨
  (Region.wanted o (yielded ops a.tmps) = true ∧ sp.contains i = false ∧ (∃ v, quAt P C dep i o a E v ∧ W = fun u => u = v) ∧ f = fun _ D => D) ∨
  (Region.wanted o (yielded ops a.tmps) = false ∧ (W = fun u => u = undef) ∧ f = fun _ D => D)

theorem Calls.wit {P : Program} {f : FuncId} {args : Array Value} {w : World} {R : Ending → World → Prop} (h : Calls P f args w R) : ∃ e w', R e w' := by
  obtain ⟨e, w', fr, hR, _⟩ := h []
  exact ⟨e, w', hR⟩
theorem mkUpon.wit {R : Value → World → Prop} {r : Result Next} (h : mkUpon P R r) : ∃ u w', R u w' := by
  cases r with
  | ok n w' =>
    cases n <;> simp only [mkUpon] at h
    case value u => exact ⟨_, _, h⟩
    case skip => exact ⟨_, _, h⟩
    case enter f args => obtain ⟨e, w'', u, _, hR⟩ := Calls.wit h; exact ⟨_, _, hR⟩
  | halt x w' => simp only [mkUpon] at h
theorem MkYields.some {i : Nat} {o : Oper} {W : Value → Prop} {f : Value → Got → Got} {a : Act} {E : Got} (hne : ∃ w, C E w) (hE : E i = none) (h : MkYields P ops sp C V dep i o W f a E) : ∃ v, W v ∧ ∃ w, C (f v E) w := by
  obtain ⟨w, hw⟩ := hne
  rcases h with ⟨_, h1, h2, rfl, rfl⟩ | ⟨_, _, ⟨v, _, rfl⟩, rfl⟩ | ⟨_, rfl, rfl⟩
  · obtain ⟨u, w', h3, h4⟩ := (h2 E w hw hE (fun _ _ => rfl)).wit
    exact ⟨u, h3, w', h4⟩
  · exact ⟨v, rfl, w, hw⟩
  · exact ⟨_, rfl, w, hw⟩
theorem MkYields.comm {i j : Nat} {o : Oper} {W : Value → Prop} {f : Value → Got → Got} {a : Act} {E : Got} (h : MkYields P ops sp C V dep i o W f a E) (hij : i ≠ j) (v u : Value) (D : Got) : f v (updD D j u) = updD (f v D) j u := by
  rcases h with ⟨_, _, _, _, rfl⟩ | ⟨_, _, _, rfl⟩ | ⟨_, _, rfl⟩
  · exact (updD_comm hij).symm
  · rfl
  · rfl
theorem MkYields.at {i j : Nat} {o : Oper} {W : Value → Prop} {f : Value → Got → Got} {a : Act} {E : Got} (h : MkYields P ops sp C V dep i o W f a E) (hij : i ≠ j) (v : Value) (D : Got) : f v D j = D j := by
  rcases h with ⟨_, _, _, _, rfl⟩ | ⟨_, _, _, rfl⟩ | ⟨_, _, rfl⟩
  · exact updD_ne hij
  · rfl
  · rfl
theorem MkYields.op {i : Nat} {o : Oper} {W : Value → Prop} {f : Value → Got → Got} {a : Act} {D : Got} (hi : ops[i]? = .some o) (hy : MkYields P ops sp C V dep i o W f a D) {K : Act → Got → Prop} (h : ∀ v, W v → K (a.put o.dst v) (f v D)) : mkOp P ops sp C V dep i K a D := by
  unfold mkOp
  simp only [hi]
  rcases hy with ⟨hw, hs, hm, rfl, rfl⟩ | ⟨hw, hs, ⟨v, hq, rfl⟩, rfl⟩ | ⟨hw, rfl, rfl⟩
  · simp only [hw, hs, if_true]; exact ⟨hm, h⟩
  · simp only [hw, hs, if_true]; exact ⟨v, hq, h v rfl⟩
  · simp only [hw]; exact h _ rfl
theorem mkYields_of_op {i : Nat} {o : Oper} {a : Act} {D : Got} {K : Act → Got → Prop} (hi : ops[i]? = .some o) (h : mkOp P ops sp C V dep i K a D) : ∃ W f, MkYields P ops sp C V dep i o W f a D ∧ ∀ v, W v → K (a.put o.dst v) (f v D) := by
  unfold mkOp at h
  simp only [hi] at h
  by_cases hw : Region.wanted o (yielded ops a.tmps) = true
  · simp only [hw, if_true] at h
    by_cases hs : sp.contains i = true
    · simp only [hs, if_true] at h
      exact ⟨_, _, .inl ⟨hw, hs, h.1, rfl, rfl⟩, h.2⟩
    · simp only [hs] at h
      obtain ⟨v, h1, h2⟩ := h
      exact ⟨_, _, .inr (.inl ⟨hw, by simpa using hs, ⟨v, h1, rfl⟩, rfl⟩), fun u hu => by subst hu; exact h2⟩
  · simp only [hw] at h
    exact ⟨_, _, .inr (.inr ⟨by simpa using hw, rfl, rfl⟩), fun u hu => by subst hu; exact h⟩
theorem MkYields.of_same {i : Nat} {o : Oper} {W : Value → Prop} {f : Value → Got → Got} {a a' : Act} {E E' : Got} (hy : MkYields P ops sp C V dep i o W f a E) (he : execOp a'.eval o = execOp a.eval o)
    (hw : Region.wanted o (yielded ops a'.tmps) = Region.wanted o (yielded ops a.tmps)) (hE : ∀ j ∈ dep i, E' j = E j) : MkYields P ops sp C V dep i o W f a' E' := by
  have hd : ∀ D : Got, (∀ j ∈ dep i, D j = E' j) → ∀ j ∈ dep i, D j = E j := fun D h j hj => (h j hj).trans (hE j hj)
  unfold MkYields mkAt quAt at *
  rw [he, hw]
  rcases hy with ⟨h1, h2, h3, h4⟩ | ⟨h1, h2, ⟨v, h3, h4⟩, h5⟩ | h
  · exact .inl ⟨h1, h2, fun D w k1 k2 k3 => h3 D w k1 k2 (hd D k3), h4⟩
  · exact .inr (.inl ⟨h1, h2, ⟨v, fun D w k1 k3 => h3 D w k1 (hd D k3), h4⟩, h5⟩)
  · exact .inr (.inr h)
theorem quAt_one {i : Nat} {o : Oper} {a : Act} {E : Got} {u v : Value} (hne : ∃ w, C E w) (h1 : quAt P C dep i o a E u) (h2 : quAt P C dep i o a E v) : u = v := by
  obtain ⟨w, hC⟩ := hne
  have k1 := h1 E w hC (fun _ _ => rfl)
  have k2 := h2 E w hC (fun _ _ => rfl)
  generalize (execOp a.eval o).run P w = r at *
  cases r with
  | ok n w' => cases n <;> simp only [quUpon] at k1 k2 <;> first | exact k1.1.symm.trans k2.1 | exact k1.1.trans k2.1.symm | exact k1.elim
  | halt x w' => simp only [quUpon] at k1

theorem mkOp_put (hdown : ∀ D j u w, C (updD D j u) w → D j = none → (∀ k, D k ≠ none → j ∉ dep k) → C D w) {i j : Nat} {oi oj : Oper} {W : Value → Prop} {f : Value → Got → Got} (hij : i ≠ j) (hdi : j ∉ dep i) (hdj : i ∉ dep j) (hj : ops[j]? = .some oj) (hap : oi.apart ops oj = true)
    (hsi : ∀ cs b, oi.op ≠ .select cs b) (hsj : ∀ cs b, oj.op ≠ .select cs b) {K : Act → Got → Prop} {a : Act} {D : Got} (hne : ∃ w, C D w) (hDi : D i = none) (hDj : D j = none) (hcl : ∀ k, D k ≠ none → j ∉ dep k)
    (hy : MkYields P ops sp C V dep i oi W f a D) (h : ∀ v, W v → (∃ w, C (f v D) w) → mkOp P ops sp C V dep j K (a.put oi.dst v) (f v D)) :
    mkOp P ops sp C V dep j (fun a' D' => MkYields P ops sp C V dep i oi W f a' D' ∧ ∀ v, W v → (∃ w, C (f v D') w) → K (a'.put oi.dst v) (f v D')) a D := by
  obtain ⟨h1, h2, h3⟩ := Oper.apart_spec hap
  have keep : ∀ u E, (∀ q ∈ dep i, E q = D q) → MkYields P ops sp C V dep i oi W f (a.put oj.dst u) E := fun u E hE =>
    hy.of_same (execOp_put oi hsi a oj.dst u h3) (wanted_put oi a oj.dst u h3) hE
  have hup : ∀ u, ∀ q ∈ dep i, updD D j u q = D q := fun u q hq => updD_ne (fun e => hdi (by rw [e]; exact hq))
  have hex : ∀ v, execOp (a.put oi.dst v).eval oj = execOp a.eval oj := fun v => execOp_put oj hsj a oi.dst v h1
  have hdd : ∀ v (D' : Got), (∀ q ∈ dep j, D' q = D q) → ∀ q ∈ dep j, D' q = f v D q := fun v D' hd q hq => (hd q hq).trans (hy.at (fun e => hdj (by rw [e]; exact hq)) v D).symm
  obtain ⟨v0, hv0, hne0⟩ := hy.some hne hDi
  unfold mkOp at *
  simp only [hj] at *
  simp only [wanted_put oj a oi.dst _ h1] at h
  by_cases hw : Region.wanted oj (yielded ops a.tmps) = true
  · simp only [hw, if_true] at h ⊢
    by_cases hs : sp.contains j = true
    · simp only [hs, if_true] at h ⊢
      refine ⟨?_, fun u hu => ⟨keep u _ (hup u), fun v hv hin => ?_⟩⟩
      · have := (h v0 hv0 hne0).1
        unfold mkAt at *
        rw [hex v0] at this
        exact fun D' w k1 k2 k3 => this D' w k1 k2 (hdd v0 D' k3)
      · rw [hy.comm hij] at hin ⊢
        have hin' : ∃ w, C (f v D) w := by
          obtain ⟨w, hC⟩ := hin
          exact ⟨w, hdown _ _ _ _ hC (by rw [hy.at hij]; exact hDj) (fun k hk => by
            by_cases e : i = k
            · subst e; exact hdi
            · rw [hy.at e] at hk; exact hcl k hk)⟩
        have := (h v hv hin').2 u hu
        rw [← Act.put_comm a v u h2]
        exact this
    · simp only [hs] at h ⊢
      have hall : ∀ v, W v → (∃ w, C (f v D) w) → ∃ u, quAt P C dep j oj a D u ∧ K ((a.put oi.dst v).put oj.dst u) (f v D) := fun v hv hin => by
        obtain ⟨u, hq, hk⟩ := h v hv hin
        refine ⟨u, ?_, hk⟩
        unfold quAt at *
        rw [hex v] at hq
        exact fun D' w k1 k3 => hq D' w k1 (hdd v D' k3)
      obtain ⟨u0, hq0, _⟩ := hall v0 hv0 hne0
      refine ⟨u0, hq0, keep u0 _ (fun _ _ => rfl), fun v hv hin => ?_⟩
      obtain ⟨u, hq, hk⟩ := hall v hv hin
      have := quAt_one hne hq0 hq
      subst this
      rw [← Act.put_comm a v u0 h2]
      exact hk
  · simp only [hw] at h ⊢
    exact ⟨keep _ _ (fun _ _ => rfl), fun v hv hin => by rw [← Act.put_comm a v undef h2]; exact h v hv hin⟩

def reachB (md : Region.Mode) (ops : Array Oper) : Nat → Nat → Nat → Bool
  | 0, _, _ => false
  | n + 1, i, j => ((ops[i]?).map (·.after.any fun e => Region.binds md e && (Nat.beq e.on j || reachB md ops n e.on j))).getD false
def depB (md : Region.Mode) (ops : Array Oper) (ds : List (Nat × List Nat)) : Bool := ds.all fun x => x.2.all fun j => reachB md ops 3 x.1 j
def depOf : List (Nat × List Nat) → Nat → List Nat
  | [], _ => []
  | (k, js) :: r, i => bif Nat.beq k i then js else depOf r i
def ShutM (md : Region.Mode) (ops : Array Oper) (listed : Array Bool) : Prop := ∀ k o, ops[k]? = .some o → listed.getD k false = true → ∀ e ∈ o.after, Region.binds md e = true → listed.getD e.on false = true
def Deps (md : Region.Mode) (ops : Array Oper) (dep : Nat → List Nat) : Prop := ∀ (i : Nat) (listed : Array Bool), ShutM md ops listed → i ∈ Region.ready md ops listed → ∀ j ∈ dep i, listed.getD j false = true
theorem reach_listed {listed : Array Bool} (hs : ShutM md ops listed) : ∀ (n i j : Nat) (o : Oper), ops[i]? = .some o → (∀ e ∈ o.after, Region.binds md e = true → listed.getD e.on false = true) → reachB md ops n i j = true → listed.getD j false = true
  | 0, _, _, _, _, _, h => by simp [reachB] at h
  | n + 1, i, j, o, ho, hall, h => by
    simp only [reachB, ho, Option.map_some, Option.getD_some, Array.any_eq_true, Bool.and_eq_true, Bool.or_eq_true] at h
    obtain ⟨q, hq, h2, h3⟩ := h
    have he := hall _ (Array.getElem_mem hq) h2
    rcases h3 with h3 | h3
    · rw [← Nat.eq_of_beq_eq_true h3]; exact he
    · cases ho2 : ops[(o.after[q]).on]? with
      | none =>
        cases n with
        | zero => simp [reachB] at h3
        | succ n => simp [reachB, ho2] at h3
      | some o2 => exact reach_listed hs n _ j o2 ho2 (hs _ o2 ho2 he) h3
theorem deps_of {ds : List (Nat × List Nat)} (h : depB md ops ds = true) : Deps md ops (depOf ds) := by
  intro i listed hs hi j hj
  obtain ⟨_, o, ho, hall⟩ := mem_ready.1 hi
  induction ds with
  | nil => simp [depOf] at hj
  | cons x r ih =>
    obtain ⟨k, js⟩ := x
    simp only [depB, List.all_cons, Bool.and_eq_true] at h
    simp only [depOf] at hj
    cases hb : Nat.beq k i
    · rw [hb] at hj
      exact ih (by simpa [depB] using h.2) (by simpa using hj)
    · rw [hb] at hj
      have e : k = i := Nat.eq_of_beq_eq_true hb
      subst e
      exact reach_listed hs 3 k j o ho hall (List.all_eq_true.1 h.1 j (by simpa using hj))
theorem getD_tf {listed : Array Bool} {j : Nat} (h : listed.getD j false = true) : listed.getD j true = true := by
  cases h2 : listed.getD j true with
  | true => rfl
  | false => rw [getD_both h2] at h; cases h
theorem Deps.off (hd : Deps md ops dep) {listed : Array Bool} (hs : ShutM md ops listed) {i j : Nat} (hi : i ∈ Region.ready md ops listed) (hj : listed.getD j true = false) : j ∉ dep i := fun h => by
  have h1 := getD_tf (hd i listed hs hi j h)
  rw [hj] at h1; cases h1
def wpAnyMk (P : Program) (md : Region.Mode) (ops : Array Oper) (sp : List Nat) (C : Got → World → Prop) (V : Nat → Value → Prop) (dep : Nat → List Nat) (Q : Act → Got → Prop) : Nat → Array Bool → Act → Got → Prop
  | 0, listed, a, D => Region.ready md ops listed = [] ∧ Q a D
  | fuel + 1, listed, a, D =>
    (Region.ready md ops listed = [] → Q a D) ∧
    ∀ i ∈ Region.ready md ops listed, mkOp P ops sp C V dep i (fun a' D' => (∃ w, C D' w) → wpAnyMk P md ops sp C V dep Q fuel (listed.setIfInBounds i true) a' D') a D

structure FlagsM (md : Region.Mode) (ops : Array Oper) (dep : Nat → List Nat) (listed : Array Bool) (D : Got) : Prop where
  size : listed.size = ops.size
  off : ∀ i, listed.getD i true = false → D i = none
  deps : ∀ k, D k ≠ none → ∀ q ∈ dep k, listed.getD q true = true
  shut : ShutM md ops listed
theorem set_keeps {listed : Array Bool} {i q : Nat} (h : listed.getD q true = true) : (listed.setIfInBounds i true).getD q true = true := by
  by_cases e : i = q
  · subst e
    rw [Array.getD_eq_getD_getElem?, Array.getElem?_setIfInBounds_self]
    split <;> simp
  · rw [getD_set_ne true e]; exact h
theorem set_keepsF {listed : Array Bool} {i q : Nat} (h : listed.getD q false = true) : (listed.setIfInBounds i true).getD q false = true := by
  by_cases e : i = q
  · subst e
    have hlt : i < listed.size := by
      cases Nat.lt_or_ge i listed.size with
      | inl h => exact h
      | inr hge => simp [Nat.not_lt.2 hge] at h
    simp [hlt]
  · rw [getD_set_ne false e]; exact h
theorem ShutM.set {listed : Array Bool} (h : ShutM md ops listed) {i : Nat} (hi : i ∈ Region.ready md ops listed) : ShutM md ops (listed.setIfInBounds i true) := by
  intro k o ho hk e he hb
  by_cases eq : i = k
  · subst eq
    obtain ⟨_, o', ho', hall⟩ := mem_ready.1 hi
    rw [ho] at ho'; cases ho'
    exact set_keepsF (hall e he hb)
  · rw [getD_set_ne false eq] at hk
    exact set_keepsF (h k o ho hk e he hb)
theorem FlagsM.set {listed : Array Bool} {D : Got} (h : FlagsM md ops dep listed D) {i : Nat} (hi : i ∈ Region.ready md ops listed) : FlagsM md ops dep (listed.setIfInBounds i true) D := by
  refine ⟨by simp [h.size], fun j hj => h.off j ?_, fun k hk q hq => set_keeps (h.deps k hk q hq), h.shut.set hi⟩
  by_cases e : i = j
  · subst e
    rw [Array.getD_eq_getD_getElem?, Array.getElem?_setIfInBounds_self] at hj
    split at hj <;> simp at hj
  · rwa [getD_set_ne true e] at hj
theorem FlagsM.step {listed : Array Bool} {D : Got} (h : FlagsM md ops dep listed D) (hd : Deps md ops dep) {i : Nat} (hi : i ∈ Region.ready md ops listed) (v : Value) : FlagsM md ops dep (listed.setIfInBounds i true) (updD D i v) := by
  refine ⟨by simp [h.size], fun j hj => ?_, fun k hk q hq => ?_, h.shut.set hi⟩
  · by_cases e : i = j
    · subst e
      rw [Array.getD_eq_getD_getElem?, Array.getElem?_setIfInBounds_self] at hj
      split at hj <;> simp at hj
    · rw [updD_ne e]; exact h.off j (by rwa [getD_set_ne true e] at hj)
  · by_cases e : i = k
    · subst e; exact set_keeps (getD_tf (hd i listed h.shut hi q hq))
    · rw [updD_ne e] at hk; exact set_keeps (h.deps k hk q hq)

theorem mkOp_wp {i : Nat} {K : Act → Got → Prop} {K' : Act → World → Prop} {Q' : Exit → Act → World → Prop} {a : Act} {D : Got} {w : World} (hw : C D w) (hD : D i = none) (h : mkOp P ops sp C V dep i K a D)
    (hk : ∀ a D' w', (D' = D ∨ ∃ v, D' = updD D i v) → C D' w' → K a D' → K' a w') : wpOp P ops Q' i K' a w := by
  unfold mkOp at h
  unfold wpOp
  split
  · rename_i ho
    simp only [ho] at h
    exact hk _ _ _ (.inl rfl) hw h
  · rename_i o ho
    simp only [ho] at h
    split
    · rename_i hwt
      simp only [hwt, if_true] at h
      left
      unfold Oper.wp
      split at h
      · obtain ⟨h1, h2⟩ := h
        have h5 := h1 D w hw hD (fun _ _ => rfl)
        generalize (execOp a.eval o).run P w = r at *
        cases r with
        | ok n w' =>
          cases n <;> simp only [mkUpon] at h5 <;> simp only [Oper.upon]
          case value u => exact hk _ _ _ (.inr ⟨u, rfl⟩) h5.2 (h2 u h5.1)
          case skip => exact hk _ _ _ (.inr ⟨_, rfl⟩) h5.2 (h2 _ h5.1)
          case enter f args => exact h5.mono fun e w'' ⟨u, he, hc⟩ => by subst he; exact hk _ _ _ (.inr ⟨u, rfl⟩) hc.2 (h2 u hc.1)
          all_goals exact h5.elim
        | halt x w' => simp only [mkUpon] at h5
      · obtain ⟨v, h1, h2⟩ := h
        have h5 := h1 D w hw (fun _ _ => rfl)
        generalize (execOp a.eval o).run P w = r at *
        cases r with
        | ok n w' =>
          cases n <;> simp only [quUpon] at h5 <;> simp only [Oper.upon]
          case value u => rw [h5.1]; exact hk _ _ _ (.inl rfl) h5.2 h2
          case skip => rw [← h5.1]; exact hk _ _ _ (.inl rfl) h5.2 h2
        | halt x w' => simp only [quUpon] at h5
    · rename_i hwt
      simp only [hwt] at h
      exact hk _ _ _ (.inl rfl) hw h

theorem wpAny_of_mk (hdep : Deps md ops dep) {Q : Act → Got → Prop} {Q' : Exit → Act → World → Prop} (hQ : ∀ a D w, C D w → Q a D → Q' .normal a w) :
    ∀ (fuel : Nat) (listed : Array Bool) (a : Act) (D : Got) (w : World), FlagsM md ops dep listed D → C D w → wpAnyMk P md ops sp C V dep Q fuel listed a D → wpAny P md ops Q' fuel listed a w
  | 0, listed, _, D, _, hf, hw, h => ⟨h.1, hQ _ D _ hw h.2⟩
  | fuel + 1, listed, a, D, w, hf, hw, h => ⟨fun h0 => hQ _ D _ hw (h.1 h0), fun i hi =>
      mkOp_wp hw (hf.off i (mem_ready.1 hi).1) (h.2 i hi) fun a' D' w' hD hC hK => by
        refine wpAny_of_mk hdep hQ fuel _ a' D' w' ?_ hC (hK ⟨w', hC⟩)
        rcases hD with rfl | ⟨v, rfl⟩
        · exact hf.set hi
        · exact hf.step hdep hi v⟩

theorem mkOp_flags {i : Nat} {a : Act} {D : Got} {listed : Array Bool} {K K' : Act → Got → Prop} (hf : FlagsM md ops dep listed D) (hd : Deps md ops dep) (hi : i ∈ Region.ready md ops listed) (h : ∀ a D, FlagsM md ops dep (listed.setIfInBounds i true) D → K a D → K' a D) (hh : mkOp P ops sp C V dep i K a D) : mkOp P ops sp C V dep i K' a D := by
  unfold mkOp at *
  split
  · rename_i ho
    simp only [ho] at hh
    exact h _ _ (hf.set hi) hh
  · rename_i o ho
    simp only [ho] at hh
    split
    · rename_i hw
      simp only [hw, if_true] at hh
      split
      · rename_i hs; simp only [hs, if_true] at hh; exact ⟨hh.1, fun v hv => h _ _ (hf.step hd hi v) (hh.2 v hv)⟩
      · rename_i hs; simp only [hs] at hh; obtain ⟨v, h1, h2⟩ := hh; exact ⟨v, h1, h _ _ (hf.set hi) h2⟩
    · rename_i hw; simp only [hw] at hh; exact h _ _ (hf.set hi) hh

theorem MkYields.flags {i : Nat} {o : Oper} {W : Value → Prop} {f : Value → Got → Got} {a : Act} {E : Got} {listed : Array Bool} (h : MkYields P ops sp C V dep i o W f a E) {D : Got} (hf : FlagsM md ops dep listed D) (hd : Deps md ops dep) (hi : i ∈ Region.ready md ops listed) (v : Value) : FlagsM md ops dep (listed.setIfInBounds i true) (f v D) := by
  rcases h with ⟨_, _, _, _, rfl⟩ | ⟨_, _, _, rfl⟩ | ⟨_, _, rfl⟩
  · exact hf.step hd hi v
  · exact hf.set hi
  · exact hf.set hi

theorem wpAnyMk_first (hdown : ∀ D j u w, C (updD D j u) w → D j = none → (∀ k, D k ≠ none → j ∉ dep k) → C D w) (hdep : Deps md ops dep) {Q : Act → Got → Prop} {i : Nat} {oi : Oper} {W : Value → Prop} {f : Value → Got → Got} (hi : ops[i]? = .some oi) (hsel : ∀ (j : Nat) (o : Oper) cs b, ops[j]? = .some o → o.op ≠ .select cs b) :
    ∀ (fuel : Nat) (listed : Array Bool) (a : Act) (D : Got), FlagsM md ops dep listed D → (∃ w, C D w) →
      (∀ j oj, ops[j]? = .some oj → j ≠ i → listed.getD j true = false → (∀ e ∈ oj.after, Region.binds md e = true → e.on ≠ i) → oi.apart ops oj = true) →
      i ∈ Region.ready md ops listed → MkYields P ops sp C V dep i oi W f a D →
      (∀ v, W v → (∃ w, C (f v D) w) → wpAnyMk P md ops sp C V dep Q fuel (listed.setIfInBounds i true) (a.put oi.dst v) (f v D)) → wpAnyMk P md ops sp C V dep Q (fuel + 1) listed a D := by
  intro fuel
  induction fuel with
  | zero =>
    intro listed a D hfl hne _ hr hy H
    refine ⟨fun h => (by rw [h] at hr; cases hr), fun j hj => ?_⟩
    by_cases hji : j = i
    · subst hji; exact hy.op hi H
    · have := ready_mono hj hji
      obtain ⟨v0, hv0, hin⟩ := hy.some hne (hfl.off i (mem_ready.1 hr).1)
      rw [(H v0 hv0 hin).1] at this
      cases this
  | succ fuel ih =>
    intro listed a D hfl hne hfree hr hy H
    refine ⟨fun h => (by rw [h] at hr; cases hr), fun j hj => ?_⟩
    by_cases hji : j = i
    · subst hji; exact hy.op hi H
    · have h1 := fun v hv hin => (H v hv hin).2 j (ready_mono hj hji)
      obtain ⟨hjun, oj, hoj, hall⟩ := mem_ready.1 hj
      have hiun := (mem_ready.1 hr).1
      have hnot : ∀ e ∈ oj.after, Region.binds md e = true → e.on ≠ i := fun e he hb heq => by
        have h1 := hall e he hb
        rw [heq, getD_both hiun] at h1
        cases h1
      have h2 := mkOp_put hdown (Ne.symm hji) (hdep.off hfl.shut hr hjun) (hdep.off hfl.shut hj hiun) hoj (hfree j oj hoj hji hjun hnot) (fun cs b => hsel i oi cs b hi) (fun cs b => hsel j oj cs b hoj) hne (hfl.off i hiun) (hfl.off j hjun) (fun k hk hj' => by rw [hfl.deps k hk j hj'] at hjun; cases hjun) hy h1
      have hfree' : ∀ k ok, ops[k]? = .some ok → k ≠ i → (listed.setIfInBounds j true).getD k true = false →
          (∀ e ∈ ok.after, Region.binds md e = true → e.on ≠ i) → oi.apart ops ok = true := fun k ok hk hki hun hno => by
        refine hfree k ok hk hki ?_ hno
        by_cases hjk : j = k
        · subst hjk; exact hjun
        · rw [getD_set_ne true hjk] at hun; exact hun
      refine mkOp_flags hfl hdep hj (fun a' D' hfl' h3 hin' => ih (listed.setIfInBounds j true) a' D' hfl' hin' hfree' (ready_mono hr (Ne.symm hji)) h3.1 (fun v hv hin => ?_)) h2
      rw [Array.setIfInBounds_comm _ _ hji]
      exact h3.2 v hv hin hin

theorem wpAnyMk_lex (hdown : ∀ D j u w, C (updD D j u) w → D j = none → (∀ k, D k ≠ none → j ∉ dep k) → C D w) (hdep : Deps md ops dep) {Q : Act → Got → Prop} (hs : Region.noSelect ops = true) : ∀ (l : List Oper) (k : Nat) (listed : Array Bool) (a : Act) (D : Got), FlagsM md ops dep listed D → (∃ w, C D w) → (∀ j, l[j]? = ops[k + j]?) →
    Region.lexFrom md ops l.length k listed = true → wpMk P ops sp C V dep Q k l a D → wpAnyMk P md ops sp C V dep Q l.length listed a D
  | [], _, _, _, _, _, _, _, hB, h => ⟨by simpa [Region.lexFrom] using hB, h⟩
  | o :: l, k, listed, a, D, hfl, hne, hl, hB, h => by
    have h0 : ops[k]? = .some o := by simpa using (hl 0).symm
    simp only [List.length_cons, Region.lexFrom, Bool.and_eq_true] at hB
    obtain ⟨⟨hr, hf⟩, hB'⟩ := hB
    have hst : mkOp P ops sp C V dep k (wpMk P ops sp C V dep Q (k + 1) l) a D := by unfold mkOp; simp only [h0]; exact h
    obtain ⟨W, f, hy, hK⟩ := mkYields_of_op h0 hst
    exact wpAnyMk_first hdown hdep h0 (Region.noSelect_spec hs) l.length listed a D hfl hne (Region.free_spec h0 hf) (by simpa using hr) hy
      (fun v hv hin => wpAnyMk_lex hdown hdep hs l (k + 1) _ _ _ (hy.flags hfl hdep (by simpa using hr) v) hin (fun j => by have := hl (j + 1); simpa [Nat.add_assoc, Nat.add_comm 1 j] using this) hB' (hK v hv))

theorem shut0 {n : Nat} : ShutM md ops (Array.replicate n false) := fun k o _ hk => by rw [getD_replicate_false] at hk; cases hk
def noD : Got := fun _ => none
theorem wp_region_mk {id : Nat} {Q : Exit → Act → World → Prop} {a : Act} {w : World} {l : List Oper} (sp : List Nat) (C : Got → World → Prop) (V : Nat → Value → Prop) (ds : List (Nat × List Nat)) (hm : P.follows .mixedOrders = true) (hB : Region.lexB .any l.toArray = true)
    (hd : depB .any l.toArray ds = true) (hdown : ∀ D j u w, C (updD D j u) w → D j = none → (∀ k, D k ≠ none → j ∉ depOf ds k) → C D w) (hC : C noD { w with drawn := w.drawn + 1 })
    (h : wpMk P l.toArray sp C V (depOf ds) (fun a' D => ∀ w', C D w' → Q .normal a' w') 0 l a noD) : (Code.region id l.toArray true).wp P Q a w := by
  simp only [Region.lexB, Bool.and_eq_true] at hB
  refine wp_region_any hm (wpAny_of_mk (deps_of hd) (sp := sp) (C := C) (V := V) (dep := depOf ds) (Q := fun a' D => ∀ w', C D w' → Q .normal a' w') (fun a' D w' hC' h => h w' hC') _ _ _ noD _ ⟨by simp, fun i _ => rfl, fun k hk => absurd rfl hk, shut0⟩ hC ?_)
  have := wpAnyMk_lex (sp := sp) (C := C) (V := V) (md := .any) hdown (deps_of hd) hB.1 l 0 (Array.replicate l.toArray.size false) a noD ⟨by simp, fun i _ => rfl, fun k hk => absurd rfl hk, shut0⟩ ⟨_, hC⟩ (by simp) (by simpa using hB.2) h
  simpa using this

def wpAnyMkL (P : Program) (md : Region.Mode) (ops : Array Oper) (sp : List Nat) (C : Got → World → Prop) (V : Nat → Value → Prop) (dep : Nat → List Nat) (n : Nat) (L : Array Bool → Act → Got → Prop) : Nat → Array Bool → Act → Got → Prop
  | 0, listed, a, D => L listed a D
  | f + 1, listed, a, D =>
    Region.ready md ops listed ≠ [] ∧ ∀ i ∈ Region.ready md ops listed, i < n ∧ mkOp P ops sp C V dep i (fun a' D' => (∃ w, C D' w) → wpAnyMkL P md ops sp C V dep n L f (listed.setIfInBounds i true) a' D') a D

theorem wpAny_of_headMk (hdep : Deps md ops dep) {n g : Nat} {L : Array Bool → Act → Got → Prop} {Q' : Exit → Act → World → Prop} (hL : ∀ listed a D w, C D w → L listed a D → wpAny P md ops Q' g listed a w) :
    ∀ (f : Nat) (listed : Array Bool) (a : Act) (D : Got) (w : World), FlagsM md ops dep listed D → C D w → wpAnyMkL P md ops sp C V dep n L f listed a D → wpAny P md ops Q' (f + g) listed a w
  | 0, listed, a, D, w, hf, hw, h => by rw [Nat.zero_add]; exact hL _ _ _ _ hw h
  | f + 1, listed, a, D, w, hf, hw, h => by
    rw [show f + 1 + g = (f + g) + 1 by omega]
    refine ⟨fun h0 => absurd h0 h.1, fun i hi => ?_⟩
    refine mkOp_wp hw (hf.off i (mem_ready.1 hi).1) (h.2 i hi).2 fun a' D' w' hD hC hK => ?_
    refine wpAny_of_headMk hdep hL f _ a' D' w' ?_ hC (hK ⟨w', hC⟩)
    rcases hD with rfl | ⟨v, rfl⟩
    · exact hf.set hi
    · exact hf.step hdep hi v

theorem wpAnyMkL_first (hdown : ∀ D j u w, C (updD D j u) w → D j = none → (∀ k, D k ≠ none → j ∉ dep k) → C D w) (hdep : Deps md ops dep) {n i : Nat} {oi : Oper} {W : Value → Prop} {f : Value → Got → Got} {L : Array Bool → Act → Got → Prop} (hi : ops[i]? = .some oi) (hsel : ∀ (j : Nat) (o : Oper) cs b, ops[j]? = .some o → o.op ≠ .select cs b)
    (hs : Region.sinkB md ops n = true) (hc : Region.chainB md ops n = true) (hn : n < ops.size) (hin : i < n)
    (hdone : ∀ listed a D, L listed a D → ∀ j ∈ Region.ready md ops listed, n ≤ j) :
    ∀ (fu : Nat) (listed : Array Bool) (a : Act) (D : Got), FlagsM md ops dep listed D → (∃ w, C D w) → HeadInv md ops n listed →
      (∀ j oj, ops[j]? = .some oj → j ≠ i → listed.getD j true = false → (∀ e ∈ oj.after, Region.binds md e = true → e.on ≠ i) → oi.apart ops oj = true) →
      i ∈ Region.ready md ops listed → MkYields P ops sp C V dep i oi W f a D →
      (∀ v, W v → (∃ w, C (f v D) w) → wpAnyMkL P md ops sp C V dep n L fu (listed.setIfInBounds i true) (a.put oi.dst v) (f v D)) → wpAnyMkL P md ops sp C V dep n L (fu + 1) listed a D := by
  intro fu
  induction fu with
  | zero =>
    intro listed a D hfl hne inv _ hr hy H
    have hun := (mem_ready.1 hr).1
    refine ⟨fun h => (by rw [h] at hr; cases hr), fun j hj => ?_⟩
    have hjn : j < n := by
      rcases Nat.lt_or_ge j n with h | h
      · exact h
      · exact absurd hj (tail_waits hs hc hn inv _ i rfl hin hun j h)
    refine ⟨hjn, ?_⟩
    by_cases hji : j = i
    · subst hji; exact hy.op hi H
    · obtain ⟨v0, hv0, hin0⟩ := hy.some hne (hfl.off i hun)
      have := hdone _ _ _ (H v0 hv0 hin0) j (ready_mono hj hji)
      omega
  | succ fu ih =>
    intro listed a D hfl hne inv hfree hr hy H
    have hun := (mem_ready.1 hr).1
    refine ⟨fun h => (by rw [h] at hr; cases hr), fun j hj => ?_⟩
    have hjn : j < n := by
      rcases Nat.lt_or_ge j n with h | h
      · exact h
      · exact absurd hj (tail_waits hs hc hn inv _ i rfl hin hun j h)
    refine ⟨hjn, ?_⟩
    by_cases hji : j = i
    · subst hji; exact hy.op hi H
    · have h1 := fun v hv hin => ((H v hv hin).2 j (ready_mono hj hji)).2
      obtain ⟨hjun, oj, hoj, hall⟩ := mem_ready.1 hj
      have hnot : ∀ e ∈ oj.after, Region.binds md e = true → e.on ≠ i := fun e he hb heq => by
        have h1 := hall e he hb
        rw [heq, getD_both hun] at h1
        cases h1
      have h2 := mkOp_put hdown (Ne.symm hji) (hdep.off hfl.shut hr hjun) (hdep.off hfl.shut hj hun) hoj (hfree j oj hoj hji hjun hnot) (fun cs b => hsel i oi cs b hi) (fun cs b => hsel j oj cs b hoj) hne (hfl.off i hun) (hfl.off j hjun) (fun k hk hj' => by rw [hfl.deps k hk j hj'] at hjun; cases hjun) hy h1
      have hfree' : ∀ k ok, ops[k]? = .some ok → k ≠ i → (listed.setIfInBounds j true).getD k true = false →
          (∀ e ∈ ok.after, Region.binds md e = true → e.on ≠ i) → oi.apart ops ok = true := fun k ok hk hki hun hno => by
        refine hfree k ok hk hki ?_ hno
        by_cases hjk : j = k
        · subst hjk; exact hjun
        · rw [getD_set_ne true hjk] at hun; exact hun
      refine mkOp_flags hfl hdep hj (fun a' D' hfl' h3 hin' => ih (listed.setIfInBounds j true) a' D' hfl' hin' (inv.set hj hjn) hfree' (ready_mono hr (Ne.symm hji)) h3.1 (fun v hv hin => ?_)) h2
      rw [Array.setIfInBounds_comm _ _ hji]
      exact h3.2 v hv hin hin

theorem wpAnyMkL_lex (hdown : ∀ D j u w, C (updD D j u) w → D j = none → (∀ k, D k ≠ none → j ∉ dep k) → C D w) (hdep : Deps md ops dep) {n g : Nat} {Lq : Act → Got → Prop} (hsel : Region.noSelect ops = true) (hs : Region.sinkB md ops n = true) (hc : Region.chainB md ops n = true) (hn : n < ops.size) :
    ∀ (l : List Oper) (k : Nat) (listed : Array Bool) (a : Act) (D : Got), FlagsM md ops dep listed D → (∃ w, C D w) → (∀ j, j < l.length → l[j]? = ops[k + j]?) → k + l.length = n → HeadInv md ops n listed →
    Region.lexHead md ops g l.length k listed = true → wpMk P ops sp C V dep Lq k l a D →
    wpAnyMkL P md ops sp C V dep n (fun listed' a' D' => Region.seqB md ops g n listed' = true ∧ Lq a' D') l.length listed a D
  | [], k, listed, a, D, _, _, _, hk, _, hB, h => by
    have : k = n := by simpa using hk
    subst this
    exact ⟨by simpa [Region.lexHead] using hB, h⟩
  | o :: l, k, listed, a, D, hfl, hne, hl, hk, inv, hB, h => by
    have h0 : ops[k]? = .some o := by simpa using (hl 0 (by simp)).symm
    simp only [List.length_cons, Region.lexHead, Bool.and_eq_true] at hB
    obtain ⟨⟨hr, hf⟩, hB'⟩ := hB
    have hkn : k < n := by simp only [List.length_cons] at hk; omega
    have hr' : k ∈ Region.ready md ops listed := by simpa using hr
    have hst : mkOp P ops sp C V dep k (wpMk P ops sp C V dep Lq (k + 1) l) a D := by unfold mkOp; simp only [h0]; exact h
    obtain ⟨W, f, hy, hK⟩ := mkYields_of_op h0 hst
    exact wpAnyMkL_first hdown hdep h0 (Region.noSelect_spec hsel) hs hc hn hkn (fun listed' a' D' hL => seqB_ready hL.1) l.length listed a D hfl hne inv (Region.free_spec h0 hf) hr' hy fun v hv hin =>
      wpAnyMkL_lex (g := g) hdown hdep hsel hs hc hn l (k + 1) (listed.setIfInBounds k true) (a.put o.dst v) (f v D) (hy.flags hfl hdep (by simpa using hr) v) hin (fun j hj => by have := hl (j + 1) (by simp; omega); simpa [Nat.add_assoc, Nat.add_comm 1 j] using this) (by simp only [List.length_cons] at hk; omega) (inv.set hr' hkn) hB' (hK v hv)

theorem wpAny_mk_tail {Q : Exit → Act → World → Prop} {a : Act} {w : World} {l : List Oper} (n : Nat) (sp : List Nat) (C : Got → World → Prop) (V : Nat → Value → Prop) (ds : List (Nat × List Nat)) (hB : Region.lexTailB .any l.toArray n = true)
    (hd : depB .any l.toArray ds = true) (hdown : ∀ D j u w, C (updD D j u) w → D j = none → (∀ k, D k ≠ none → j ∉ depOf ds k) → C D w) (hC : C noD { w with drawn := w.drawn + 1 })
    (h : wpMk P l.toArray sp C V (depOf ds) (fun a' D => ∀ w', C D w' → wpList P l.toArray Q (l.drop n) a' w') 0 (l.take n) a noD) : wpAny P .any l.toArray Q l.length (Array.replicate l.length false) a { w with drawn := w.drawn + 1 } := by
  simp only [Region.lexTailB, Bool.and_eq_true, decide_eq_true_eq] at hB
  obtain ⟨⟨⟨⟨hsel, hn⟩, hs⟩, hc⟩, hlex⟩ := hB
  have hn' : n < l.length := by simpa using hn
  have htl : (l.take n).length = n := by simp; omega
  have hdl : (l.drop n).length = l.toArray.size - n := by simp
  have inv0 : HeadInv .any l.toArray n (Array.replicate l.toArray.size false) :=
    ⟨by simp, fun j oj _ hl => (by rw [getD_replicate_false] at hl; cases hl), fun t _ ht => getD_in (by simpa using ht) (getD_replicate_false _ _)⟩
  have H := wpAnyMkL_lex (sp := sp) (C := C) (V := V) (md := .any) (g := l.toArray.size - n) hdown (deps_of hd) hsel hs hc hn (l.take n) 0 _ a noD ⟨by simp, fun i _ => rfl, fun k hk => absurd rfl hk, shut0⟩ ⟨_, hC⟩ (fun j hj => by
    have hj' : j < n := by rw [htl] at hj; exact hj
    simp [hj']) (by simpa using htl) inv0 (by rw [htl]; exact hlex) h
  have := wpAny_of_headMk (deps_of hd) (Q' := Q) (g := l.toArray.size - n) (fun listed a' D w' hw' hL => by
    have := wpAny_of_seq (md := .any) (Q' := Q) (l.drop n) n listed a' w' (fun j => by simp [List.getElem?_drop]) (by rw [hdl]; exact hL.1) (hL.2 w' hw')
    rwa [hdl] at this) _ _ _ noD _ ⟨by simp, fun i _ => rfl, fun k hk => absurd rfl hk, shut0⟩ hC H
  rw [htl, show n + (l.toArray.size - n) = l.toArray.size by omega] at this
  simpa using this
theorem wp_region_mk_tail {id : Nat} {Q : Exit → Act → World → Prop} {a : Act} {w : World} {l : List Oper} (n : Nat) (sp : List Nat) (C : Got → World → Prop) (V : Nat → Value → Prop) (ds : List (Nat × List Nat)) (hm : P.follows .mixedOrders = true) (hB : Region.lexTailB .any l.toArray n = true)
    (hd : depB .any l.toArray ds = true) (hdown : ∀ D j u w, C (updD D j u) w → D j = none → (∀ k, D k ≠ none → j ∉ depOf ds k) → C D w) (hC : C noD { w with drawn := w.drawn + 1 })
    (h : wpMk P l.toArray sp C V (depOf ds) (fun a' D => ∀ w', C D w' → wpList P l.toArray Q (l.drop n) a' w') 0 (l.take n) a noD) : (Code.region id l.toArray true).wp P Q a w := by
  refine wp_region_any hm ?_
  have := wpAny_mk_tail (Q := Q) n sp C V ds hB hd hdown hC h
  simpa using this
end
end Go.Proofs.Ytghfkgcaglabpaa

/-
  The light machine: regions that draw their order, and make memory in several places. No program is named here.
-/
namespace Go.Proofs.Ytghfkgcaglabpaa
open Go.RowKit

structure Mk where
  V : Value → Prop
  N : Value → Got → List Res
  ne : ∃ v, V v
  dp : List Nat := []
  loc : ∀ u D D', (∀ j ∈ dp, D j = D' j) → N u D = N u D'
def mfind : List (Nat × Mk) → Nat → Option Mk
  | [], _ => none
  | (j, s) :: r, k => bif Nat.beq j k then some s else mfind r k
def mV (ms : List (Nat × Mk)) (k : Nat) (v : Value) : Prop := match mfind ms k with | some s => s.V v | none => True
def mNews : List (Nat × Mk) → Got → List Res
  | [], _ => []
  | (k, s) :: r, D => (match D k with | some v => s.N v D | none => []) ++ mNews r D
def mHas : List (Nat × Mk) → Nat → Bool
  | [], _ => false
  | (j, _) :: r, k => bif Nat.beq j k then true else mHas r k
def mNodup : List (Nat × Mk) → Bool
  | [] => true
  | (j, _) :: r => !mHas r j && mNodup r
def hasN : List Nat → Nat → Bool
  | [], _ => false
  | j :: r, k => bif Nat.beq j k then true else hasN r k
theorem hasN_mem {l : List Nat} {k : Nat} (h : hasN l k = true) : k ∈ l := by
  induction l with
  | nil => simp [hasN] at h
  | cons j r ih =>
    simp only [hasN] at h
    cases hb : Nat.beq j k
    · rw [hb] at h; exact List.mem_cons_of_mem _ (ih (by simpa using h))
    · rw [Nat.eq_of_beq_eq_true hb]; exact List.mem_cons_self
def dpOk (ms : List (Nat × Mk)) (ds : List (Nat × List Nat)) : Bool := ms.all fun x => x.2.dp.all fun j => hasN (depOf ds x.1) j
def Cl (ms : List (Nat × Mk)) (D : Got) : Prop := ∀ x ∈ ms, D x.1 ≠ none → ∀ i ∈ x.2.dp, D i ≠ none
theorem loc_upd {s : Mk} {v u : Value} {D : Got} {k : Nat} (h : k ∉ s.dp) : s.N v (updD D k u) = s.N v D := s.loc v _ _ fun j hj => updD_ne (fun e => h (by rw [e]; exact hj))
theorem mNews_same {ms : List (Nat × Mk)} {D : Got} {k : Nat} {u : Value} (h : mHas ms k = false) (hk : ∀ x ∈ ms, D x.1 ≠ none → k ∉ x.2.dp) : mNews ms (updD D k u) = mNews ms D := by
  induction ms with
  | nil => rfl
  | cons x r ih =>
    obtain ⟨j, s⟩ := x
    simp only [mHas] at h
    cases hb : Nat.beq j k
    · rw [hb] at h
      have hne : k ≠ j := fun e => by subst e; simp at hb
      simp only [mNews]
      rw [updD_ne hne, ih (by simpa using h) (fun x hx => hk x (List.mem_cons_of_mem _ hx))]
      cases hd : D j with
      | none => rfl
      | some v => simp only; rw [loc_upd (hk (j, s) (by simp) (by simp [hd]))]
    · rw [hb] at h; simp at h
theorem mNews_add {ms : List (Nat × Mk)} {D : Got} {k : Nat} {u : Value} {s : Mk} (hn : mNodup ms = true) (hf : mfind ms k = some s) (hD : D k = none) (hk : ∀ x ∈ ms, D x.1 ≠ none → k ∉ x.2.dp) : (mNews ms (updD D k u)).Perm (mNews ms D ++ s.N u (updD D k u)) := by
  induction ms with
  | nil => simp [mfind] at hf
  | cons x r ih =>
    obtain ⟨j, q⟩ := x
    simp only [mNodup, Bool.and_eq_true, Bool.not_eq_true'] at hn
    simp only [mfind] at hf
    cases hb : Nat.beq j k
    · rw [hb] at hf
      have hne : k ≠ j := fun e => by subst e; simp at hb
      simp only [mNews]
      rw [updD_ne hne, List.append_assoc]
      have e1 : (match D j with | some v => q.N v (updD D k u) | none => []) = (match D j with | some v => q.N v D | none => []) := by
        cases hd : D j with
        | none => rfl
        | some v => simp only; rw [loc_upd (hk (j, q) (by simp) (by simp [hd]))]
      rw [e1]
      exact (ih hn.2 (by simpa using hf) (fun x hx => hk x (List.mem_cons_of_mem _ hx))).append_left _
    · rw [hb] at hf
      have e : j = k := Nat.eq_of_beq_eq_true hb
      subst e
      simp at hf; subst hf
      simp only [mNews]
      rw [updD_same, hD, mNews_same hn.1 (fun x hx => hk x (List.mem_cons_of_mem _ hx))]
      simp only [List.nil_append]
      exact List.perm_append_comm
theorem mHas_of {ms : List (Nat × Mk)} {k : Nat} (hf : mfind ms k = none) : mHas ms k = false := by
  induction ms with
  | nil => rfl
  | cons x r ih =>
    obtain ⟨j, q⟩ := x
    simp only [mfind] at hf
    simp only [mHas]
    cases hb : Nat.beq j k
    · rw [hb] at hf; exact ih (by simpa using hf)
    · rw [hb] at hf; simp at hf
theorem mfind_only {ms : List (Nat × Mk)} {k : Nat} {s : Mk} (hn : mNodup ms = true) (hf : mfind ms k = some s) : ∀ x ∈ ms, x.1 = k → x.2 = s := by
  induction ms with
  | nil => simp
  | cons x r ih =>
    obtain ⟨j, q⟩ := x
    simp only [mNodup, Bool.and_eq_true, Bool.not_eq_true'] at hn
    simp only [mfind] at hf
    have nohas : ∀ (r : List (Nat × Mk)) (j : Nat), mHas r j = false → ∀ y ∈ r, y.1 ≠ j := by
      intro r
      induction r with
      | nil => simp
      | cons z r ih2 =>
        intro j h y hy
        obtain ⟨jz, qz⟩ := z
        simp only [mHas] at h
        cases hb : Nat.beq jz j
        · rw [hb] at h
          rcases List.mem_cons.1 hy with rfl | hy
          · intro e; simp only at e; subst e; simp at hb
          · exact ih2 j (by simpa using h) y hy
        · rw [hb] at h; simp at h
    intro y hy hk
    rcases List.mem_cons.1 hy with rfl | hy
    · simp only at hk; subst hk
      simp at hf; exact hf
    · cases hb : Nat.beq j k
      · rw [hb] at hf; exact ih hn.2 (by simpa using hf) y hy hk
      · have e : j = k := Nat.eq_of_beq_eq_true hb
        subst e
        exact absurd hk (nohas r j hn.1 y hy)
theorem Inv.perm {X : Cx} {w : World} {l l' : List Res} (h : Inv X w l) (hp : l.Perm l') : Inv X w l' :=
  ⟨⟨fun r hr => h.1.1 r (hp.mem_iff.2 hr), (hp.pairwise_iff (fun {x y} hxy b h1 h2 => hxy b h2 h1)).1 h.1.2⟩, h.2⟩
theorem Inv.left {X : Cx} {w : World} {l l' : List Res} (h : Inv X w (l ++ l')) : Inv X w l :=
  ⟨⟨fun r hr => h.1.1 r (List.mem_append_left _ hr), (List.pairwise_append.1 h.1.2).1⟩, h.2⟩
def mDel : List (Nat × Mk) → Nat → List (Nat × Mk)
  | [], _ => []
  | (k, s) :: r, j => bif Nat.beq k j then r else (k, s) :: mDel r j
def mOf : List Nat → List (Nat × Mk) → Got → List Res
  | [], _, _ => []
  | j :: r, ms, D => (match mfind ms j with | some s => (match D j with | some v => s.N v D | none => []) | none => []) ++ mOf r (mDel ms j) D
def jsOk (js : List Nat) : List Nat → List (Nat × Mk) → Bool
  | [], _ => true
  | j :: r, ms => (match mfind ms j with | some s => s.dp.all (hasN js) | none => false) && jsOk js r (mDel ms j)
theorem mNews_pull {ms : List (Nat × Mk)} {D : Got} {j : Nat} {s : Mk} (hf : mfind ms j = some s) : (mNews ms D).Perm ((match D j with | some v => s.N v D | none => []) ++ mNews (mDel ms j) D) := by
  induction ms with
  | nil => simp [mfind] at hf
  | cons x r ih =>
    obtain ⟨k, q⟩ := x
    simp only [mfind] at hf
    simp only [mDel]
    cases hb : Nat.beq k j
    · rw [hb] at hf
      simp only [cond_false, mNews]
      refine ((ih (by simpa using hf)).append_left _).trans ?_
      rw [← List.append_assoc, ← List.append_assoc]
      exact List.perm_append_comm.append_right _
    · rw [hb] at hf
      have e : k = j := Nat.eq_of_beq_eq_true hb
      subst e
      simp at hf; subst hf
      simp only [cond_true, mNews]
      exact List.Perm.refl _
theorem mNews_of {D D' : Got} {Js : List Nat} : ∀ {js : List Nat} {ms : List (Nat × Mk)}, jsOk Js js ms = true → (∀ j ∈ js, D' j = D j) → (∀ j ∈ Js, D' j = D j) → ∃ l'', (mNews ms D').Perm (mOf js ms D ++ l'')
  | [], ms, _, _, _ => ⟨mNews ms D', List.Perm.refl _⟩
  | j :: r, ms, h, hd, hJ => by
    simp only [jsOk, Bool.and_eq_true] at h
    cases hs : mfind ms j with
    | none => rw [hs] at h; simp at h
    | some s =>
      rw [hs] at h
      obtain ⟨l'', hp⟩ := mNews_of (D := D) (D' := D') h.2 (fun i hi => hd i (List.mem_cons_of_mem _ hi)) hJ
      refine ⟨l'', (mNews_pull hs).trans ?_⟩
      simp only [mOf, hs]
      rw [hd j (by simp), List.append_assoc]
      have e1 : (match D j with | some v => s.N v D' | none => []) = (match D j with | some v => s.N v D | none => []) := by
        cases hdj : D j with
        | none => rfl
        | some v => simp only; exact s.loc v _ _ (fun i hi => hJ i (hasN_mem (List.all_eq_true.1 h.1 i hi)))
      rw [e1]
      exact hp.append_left _
def incB : List Nat → Bool
  | a :: b :: r => Nat.blt a b && incB (b :: r)
  | _ => true
theorem pick_sub {α : Type} : ∀ (js : List Nat) (l : List α) (n : Nat), incB js = true → (∀ j ∈ js, n ≤ j) → ∃ l', (js.filterMap (l[·]?)).Sublist l' ∧ l' = l.drop n
  | [], l, n, _, _ => ⟨_, by simp, rfl⟩
  | j :: r, l, n, h, hn => by
    refine ⟨_, ?_, rfl⟩
    have hr : incB r = true ∧ ∀ i ∈ r, j + 1 ≤ i := by
      clear hn
      induction r generalizing j with
      | nil => exact ⟨rfl, by simp⟩
      | cons b r ih =>
        simp only [incB, Bool.and_eq_true, Nat.blt_eq] at h
        refine ⟨h.2, fun i hi => ?_⟩
        rcases List.mem_cons.1 hi with rfl | hi
        · omega
        · have := (ih b h.2).2 i hi; omega
    obtain ⟨l', h1, rfl⟩ := pick_sub r l (j + 1) hr.1 hr.2
    have hnj := hn j (by simp)
    cases hj : l[j]? with
    | none =>
      rw [List.filterMap_cons, hj]
      exact h1.trans (by rw [show l.drop (j + 1) = (l.drop n).drop (j + 1 - n) by rw [List.drop_drop]; congr 1; omega]; exact List.drop_sublist _ _)
    | some x =>
      rw [List.filterMap_cons, hj]
      have hlt := (List.getElem?_eq_some_iff.1 hj).1
      have e : l.drop n = (l.drop n).take (j - n) ++ x :: l.drop (j + 1) := by
        have : l.drop j = x :: l.drop (j + 1) := by rw [List.drop_eq_getElem_cons hlt]; rw [(List.getElem?_eq_some_iff.1 hj).2]
        rw [← this, show l.drop j = (l.drop n).drop (j - n) by rw [List.drop_drop]; congr 1; omega, List.take_append_drop]
      rw [e]
      exact (h1.cons_cons x).trans (List.sublist_append_right _ _)
theorem Inv.pick {X : Cx} {w : World} {l : List Res} {js : List Nat} (h : Inv X w l) (hs : incB js = true) : Inv X w (js.filterMap (l[·]?)) := by
  obtain ⟨l', h1, h2⟩ := pick_sub js l 0 hs (fun _ _ => Nat.zero_le _)
  rw [List.drop_zero] at h2
  subst h2
  exact ⟨⟨fun r hr => h.1.1 r (h1.subset hr), h.1.2.sublist h1⟩, h.2⟩
def CM (X : Cx) (l : List Res) (ms : List (Nat × Mk)) : Got → World → Prop := fun D w => Inv X w (l ++ mNews ms D) ∧ Cl ms D
section
variable (P : Program) (X : Cx)
def SM (ops : Array Oper) (sp : List Nat) (C : Got → World → Prop) (V : Nat → Value → Prop) (ds : List (Nat × List Nat)) (K : Act → Got → Prop) (k : Nat) (rest : List Oper) (m : List (Nat × Value)) (D : Got) : Prop := ∀ a, Fr X.n a m → wpMk P ops sp C V (depOf ds) K k rest a D
end
section
variable {P : Program} {X : Cx} {ops : Array Oper} {Q : Exit → Act → World → Prop} {rest : List Oper} {o : Oper} {m : List (Nat × Value)} {l : List Res} {v : Value} {d k : Nat} {sp : List Nat} {C : Got → World → Prop} {V : Nat → Value → Prop} {K : Act → Got → Prop} {D : Got} {ds : List (Nat × List Nat)} {l1 : List Res} {ms : List (Nat × Mk)} {s : Mk}

def Wants (X : Cx) (ops : Array Oper) (o : Oper) (m : List (Nat × Value)) : Prop := ∀ a, Fr X.n a m → Region.wanted o (yielded ops a.tmps) = true
theorem w_all (h : o.guard = none) : Wants X ops o m := fun a _ => by simp [Region.wanted, h]
theorem w_yes {j : Nat} {want : Bool} {dj : Nat} (hg : o.guard = some (j, want)) (hj : (ops[j]?).bind (·.dst) = some dj) (hb : look m dj = some (.bool want)) : Wants X ops o m := fun a hf => by rw [guard_is hf hg hj hb]; simp
theorem CM.known {w : World} {D' : Got} {js : List Nat} (hC : CM X l ms D' w) (hj : jsOk js js ms = true) (hd : ∀ j ∈ js, D' j = D j) (hl1 : l ++ mOf js ms D = l1) : ∃ l'', (l ++ mNews ms D').Perm (l1 ++ l'') ∧ Inv X w (l1 ++ l'') := by
  obtain ⟨l'', hp⟩ := mNews_of hj hd hd
  have hp' : (l ++ mNews ms D').Perm (l1 ++ l'') := by rw [← hl1, List.append_assoc]; exact hp.append_left l
  exact ⟨l'', hp', Inv.perm hC.1 hp'⟩
theorem CM.down (hnd : mNodup ms = true) (hdp : dpOk ms ds = true) : ∀ (D : Got) j u w, CM X l ms (updD D j u) w → D j = none → (∀ k, D k ≠ none → j ∉ depOf ds k) → CM X l ms D w := fun D j u w hC hD hcl => by
  have hk : ∀ x ∈ ms, D x.1 ≠ none → j ∉ x.2.dp := fun x hx hne hj => hcl x.1 hne (hasN_mem (List.all_eq_true.1 (List.all_eq_true.1 hdp x hx) j hj))
  obtain ⟨hC1, hC2⟩ := hC
  refine ⟨?_, fun x hx hne i hi => ?_⟩
  · cases hf : mfind ms j with
    | some s =>
      refine Inv.left (l' := s.N u (updD D j u)) (hC1.perm ?_)
      rw [List.append_assoc]
      exact (mNews_add hnd hf hD hk).append_left l
    | none => rwa [mNews_same (mHas_of hf) hk] at hC1
  · have hxj : j ≠ x.1 := fun e => hne (by rw [← e]; exact hD)
    have := hC2 x hx (by rw [updD_ne hxj]; exact hne) i hi
    have hij : j ≠ i := fun e => hk x hx hne (by rw [e]; exact hi)
    rwa [updD_ne hij] at this
theorem SM.ru (hl1 : l ++ mOf (depOf ds k) ms D = l1) (hj : jsOk (depOf ds k) (depOf ds k) ms = true) (hk : (ms.map (·.1)).contains k = false) (hw : Wants X ops o m) (hd : o.dst = some d) (hn : d < X.n) (hr : Ru P X o m l1 v) (h : SM P X ops (ms.map (·.1)) (CM X l ms) V ds K (k + 1) rest ((d, v) :: m) D) : SM P X ops (ms.map (·.1)) (CM X l ms) V ds K k (o :: rest) m D := fun a hf => by
  unfold wpMk
  rw [if_pos (hw a hf), if_neg (by rw [hk]; simp)]
  refine ⟨v, fun D' w hD hd => ?_, ?_⟩
  · obtain ⟨l'', _, hI⟩ := CM.known hD hj hd hl1
    rw [hr a w hf hI.left]; exact ⟨rfl, hD⟩
  · rw [hd]; exact h _ (hf.put hn v)
theorem SM.made (hl1 : l ++ mOf (depOf ds k) ms D = l1) (hj : jsOk (depOf ds k) (depOf ds k) ms = true) (hdq : (s.dp.all fun j => hasN (depOf ds k) j && (D j).isSome) = true) (hm : mfind ms k = some s) (hk : (ms.map (·.1)).contains k = true) (hnd : mNodup ms = true) (hw : Wants X ops o m) (hd : o.dst = some d) (hn : d < X.n)
    (H : ∀ (l' : List Res) a w, Fr X.n a m → Inv X w (l1 ++ l') → mkUpon P (fun u w' => s.V u ∧ Inv X w' (l1 ++ l' ++ s.N u D)) ((execOp a.eval o).run P w))
    (h : ∀ v, s.V v → SM P X ops (ms.map (·.1)) (CM X l ms) (mV ms) ds K (k + 1) rest ((d, v) :: m) (updD D k v)) : SM P X ops (ms.map (·.1)) (CM X l ms) (mV ms) ds K k (o :: rest) m D := fun a hf => by
  have eV : mV ms k = s.V := by funext v; simp only [mV, hm]
  unfold wpMk
  rw [if_pos (hw a hf), if_pos hk]
  refine ⟨fun D' w hD hn hd => ?_, fun v hv => ?_⟩
  · obtain ⟨l'', hp, hI⟩ := CM.known hD hj hd hl1
    have h1 := H l'' a w hf hI
    have hkx : ∀ x ∈ ms, D' x.1 ≠ none → k ∉ x.2.dp := fun x hx hne hi => hD.2 x hx hne k hi hn
    have hdq' : ∀ j ∈ s.dp, D' j = D j ∧ D' j ≠ none := fun j hj' => by
      have h2 := List.all_eq_true.1 hdq j hj'
      simp only [Bool.and_eq_true] at h2
      have h3 := hd j (hasN_mem h2.1)
      exact ⟨h3, by rw [h3]; intro e; rw [e] at h2; simp at h2⟩
    have hkj : ∀ j ∈ s.dp, k ≠ j := fun j hj' e => (hdq' j hj').2 (by rw [← e]; exact hn)
    have fin : ∀ u w', s.V u ∧ Inv X w' (l1 ++ l'' ++ s.N u D) → mV ms k u ∧ CM X l ms (updD D' k u) w' := fun u w' hu => by
      refine ⟨by rw [eV]; exact hu.1, ?_, fun x hx hne i hi => ?_⟩
      · refine hu.2.perm ((hp.symm.append_right _).trans ?_)
        rw [List.append_assoc]
        have e1 : s.N u D = s.N u (updD D' k u) := s.loc u _ _ (fun j hj' => by rw [updD_ne (hkj j hj')]; exact (hdq' j hj').1.symm)
        rw [e1]
        exact ((mNews_add hnd hm hn hkx).symm).append_left l
      · by_cases e : k = i
        · subst e; rw [updD_same]; simp
        · rw [updD_ne e]
          by_cases ex : x.1 = k
          · rw [mfind_only hnd hm x hx ex] at hi
            exact (hdq' i hi).2
          · rw [updD_ne (Ne.symm ex)] at hne
            exact hD.2 x hx hne i hi
    generalize (execOp a.eval o).run P w = r at *
    cases r with
    | ok n w' =>
      cases n <;> simp only [mkUpon] at h1 ⊢
      case value u => exact fin _ _ h1
      case skip => exact fin _ _ h1
      case enter f args => exact h1.mono fun e w'' ⟨u, he, hc⟩ => ⟨u, he, fin _ _ hc⟩
    | halt x w' => simp only [mkUpon] at h1
  · rw [eV] at hv; rw [hd]; exact h v hv _ (hf.put hn v)
theorem SC.region_mk {id : Nat} {L : List Oper} (ms : List (Nat × Mk)) (ds : List (Nat × List Nat)) (hnd : mNodup ms = true) (hdp : dpOk ms ds = true) (hde : depB .any L.toArray ds = true) (hm : P.follows .mixedOrders = true) (hB : Region.lexB .any L.toArray = true)
    (h : SM P X L.toArray (ms.map (·.1)) (CM X l ms) (mV ms) ds (fun a' D => ∀ w', CM X l ms D w' → Q .normal a' w') 0 L m noD) : SC P X (.region id L.toArray true) Q m l := fun a w hf hi => by
  refine wp_region_mk (ms.map (·.1)) (CM X l ms) (mV ms) ds hm hB hde (CM.down hnd hdp) ?_ (h a hf)
  · unfold CM
    have : mNews ms noD = [] := by
      clear h hi hnd hdp
      induction ms with
      | nil => rfl
      | cons x r ih => obtain ⟨j, s⟩ := x; simp only [mNews, noD, List.nil_append]; exact ih
    rw [this, List.append_nil]
    exact ⟨hi.draw1, fun x _ hne => absurd rfl hne⟩
theorem SC.region_mk_tail {id : Nat} {L : List Oper} (n : Nat) (ms : List (Nat × Mk)) (ds : List (Nat × List Nat)) (hnd : mNodup ms = true) (hdp : dpOk ms ds = true) (hde : depB .any L.toArray ds = true) (hm : P.follows .mixedOrders = true) (hB : Region.lexTailB .any L.toArray n = true)
    (h : SM P X L.toArray (ms.map (·.1)) (CM X l ms) (mV ms) ds (fun a' D => ∀ w', CM X l ms D w' → wpList P L.toArray Q (L.drop n) a' w') 0 (L.take n) m noD) : SC P X (.region id L.toArray true) Q m l := fun a w hf hi => by
  refine wp_region_mk_tail n (ms.map (·.1)) (CM X l ms) (mV ms) ds hm hB hde (CM.down hnd hdp) ?_ (h a hf)
  · unfold CM
    have : mNews ms noD = [] := by
      clear h hi hnd hdp
      induction ms with
      | nil => rfl
      | cons x r ih => obtain ⟨j, s⟩ := x; simp only [mNews, noD, List.nil_append]; exact ih
    rw [this, List.append_nil]
    exact ⟨hi.draw1, fun x _ hne => absurd rfl hne⟩
theorem SM.nilE {l' : List Res} (hl : l ++ mNews ms D = l') (h : SE X Q .normal m l') : SM P X ops sp C V ds (fun a' D => ∀ w', CM X l ms D w' → Q .normal a' w') k [] m D := fun a hf => by
  unfold wpMk
  intro w' hC
  exact h a w' hf (by rw [← hl]; exact hC.1)
theorem SM.nilL {l' : List Res} {L : List Oper} (hl : l ++ mNews ms D = l') (h : SL P X ops Q L m l') : SM P X ops sp C V ds (fun a' D => ∀ w', CM X l ms D w' → wpList P ops Q L a' w') k [] m D := fun a hf => by
  unfold wpMk
  intro w' hC
  exact h a w' hf (by rw [← hl]; exact hC.1)
def vb : Value → Nat
  | .pointer (some a) => a.block
  | .slice (some a) _ _ => a.block
  | _ => 0
def Mk.blk (X : Cx) (cs : List Value) (T : TypeId) : Mk := ⟨fun u => ∃ b, X.w0.heap.size ≤ b ∧ u = pt b 0, fun u _ => [rBlk (vb u) cs T], ⟨pt X.w0.heap.size 0, _, Nat.le_refl _, rfl⟩, [], fun _ _ _ _ => rfl⟩
def gotD (D : Got) (k : Nat) : Value := match D k with | some v => v | none => undef
def Mk.row (X : Cx) (n c : Nat) (dp : List Nat) (cs : List Value → List Value) (T : TypeId) : Mk := ⟨fun u => ∃ b, X.w0.heap.size ≤ b ∧ u = sl b 0 n c, fun u D => [rBlk (vb u) (cs (dp.map (gotD D))) T], ⟨sl X.w0.heap.size 0 n c, _, Nat.le_refl _, rfl⟩, dp, fun u D D' h => by
  have : dp.map (gotD D) = dp.map (gotD D') := List.map_congr_left fun j hj => by simp only [gotD, h j hj]
  rw [this]⟩
def Mk.val (v : Value) : Mk := ⟨fun u => u = v, fun _ _ => [], ⟨v, rfl⟩, [], fun _ _ _ _ => rfl⟩
def Mk.mine (X : Cx) (f : List UInt8) (T : TypeId) : Mk := ⟨fun u => ∃ q c, (∀ b, (Value.slice q f.length c).ownBlock = some b → X.w0.heap.size ≤ b) ∧ u = .slice q f.length c, fun u _ => [rMine u f T], ⟨_, none, 0, fun b hb => by simp [Value.ownBlock] at hb, rfl⟩, [], fun _ _ _ _ => rfl⟩

section
variable (hl1 : l ++ mOf (depOf ds k) ms D = l1) (hj : jsOk (depOf ds k) (depOf ds k) ms = true) (hk : (ms.map (·.1)).contains k = true) (hnd : mNodup ms = true) (hw : Wants X ops o m) (hd : o.dst = some d) (hn : d < X.n)
include hl1 hj hk hnd hw hd hn
theorem SM.alloca {t : TypeId} {z : List Value} (hm : mfind ms k = some (Mk.blk X z t)) (ht : TyAg P t z) (ho : o.op = .alloc t)
    (h : ∀ b, X.w0.heap.size ≤ b → SM P X ops (ms.map (·.1)) (CM X l ms) (mV ms) ds K (k + 1) rest ((d, pt b 0) :: m) (updD D k (pt b 0))) : SM P X ops (ms.map (·.1)) (CM X l ms) (mV ms) ds K k (o :: rest) m D := by
  refine SM.made hl1 hj rfl hm hk hnd hw hd hn (fun l' a w hf hI => ?_) (by rintro v ⟨b, h1, rfl⟩; exact h b h1)
  have hrun : (Instr.alloc t true (.tuple #[])).run P w = .ok (.pointer (some ⟨w.heap.size, 0, none⟩)) (w.alloc (.cells z.toArray t)) := by
    unfold Instr.alloc
    rw [Sem.run_bind, (ht.run w).2.2]
    simp [newVar, newRow, newObj, Value.cells]; rfl
  unfold execOp; rw [ho]
  simp only [Sem.run_bind, hrun, Result.andThen_ok, Sem.run_pure]
  exact ⟨⟨_, hI.2.size, rfl⟩, new_blk hI z.toArray t⟩
theorem SM.buildSlice {t : TypeId} {e n size : Nat} {parts : List (Nat × Operand)} {vals : List (Nat × Value)} {z cs : List Value} {dp : List Nat} {csf : List Value → List Value} (hdq : (dp.all fun j => hasN (depOf ds k) j && (D j).isSome) = true) (hcs : csf (dp.map (gotD D)) = cs) (hm : mfind ms k = some (Mk.row X n n dp csf e)) (ho : o.op = .buildSlice t n parts.toArray)
    (hu : P.underlying t = some (.slice e)) (hs : (P.info? e).map (fun i => (i.size, i.zero.map (·.cells.toList))) = some (size, some z)) (hsz : Nat.ble (n * size) 16777216 = true) (hp : parts.mapM (fun x => (evM m x.2).map (x.1, ·)) = some vals)
    (hc : Instr.fill (fun i => some (i * size, size)) ((Array.range (n * size)).map (z.toArray[· % z.toArray.size]!)) vals = some cs.toArray)
    (h : ∀ b, X.w0.heap.size ≤ b → SM P X ops (ms.map (·.1)) (CM X l ms) (mV ms) ds K (k + 1) rest ((d, sl b 0 n n) :: m) (updD D k (sl b 0 n n))) : SM P X ops (ms.map (·.1)) (CM X l ms) (mV ms) ds K k (o :: rest) m D := by
  refine SM.made (s := Mk.row X n n dp csf e) hl1 hj hdq hm hk hnd hw hd hn (fun l' a w hf hI => ?_) (by rintro v ⟨b, h1, rfl⟩; exact h b h1)
  have hv : (parts.toArray.map fun (i, x) => (i, a.eval x)) = vals.toArray := by
    have : parts.map (fun (x : Nat × Operand) => (x.1, a.eval x.2)) = vals := by
      clear ho hc hw
      induction parts generalizing vals with
      | nil => simp at hp; simpa using hp.symm
      | cons y r ih =>
        simp only [List.mapM_cons, Option.bind_eq_bind, Option.bind_eq_some_iff, Option.map_eq_some_iff] at hp
        obtain ⟨u, ⟨u', hu, rfl⟩, us, hus, h⟩ := hp
        cases h
        rw [List.map_cons, ih hus, hf.ev hu]
    rw [← this]; simp
  have hrun := built_slice (P := P) (w := w) (parts := vals.toArray) hu hs (Nat.le_of_ble_eq_true hsz) hc
  unfold execOp; rw [ho]
  simp only [hv, Sem.run_bind, hrun, Result.andThen_ok, Sem.run_pure]
  refine ⟨⟨_, hI.2.size, rfl⟩, ?_⟩
  show Inv X _ (_ ++ [rBlk w.heap.size (csf (dp.map (gotD D))) e])
  rw [hcs]
  exact new_blk hI cs.toArray e
theorem SM.mkcall {f : FuncId} {fs cs vals : List Value} {c : Operand} {args : List Operand} {aT : Array TypeId} (hdq : (s.dp.all fun j => hasN (depOf ds k) j && (D j).isSome) = true) (hm : mfind ms k = some s)
    (ho : o.op = .call { callee := .value c, args := args.toArray, argTypes := aT }) (hok : CallOk P f) (hc : evM m c = some (.func (.func f) fs.toArray cs.toArray)) (ha : evL m args = some vals)
    (H : ∀ (l' : List Res) w, Inv X w (l1 ++ l') → Calls P f (fs ++ vals ++ cs).toArray w fun e w' => ∃ u, e = .returned u ∧ s.V u ∧ Inv X w' (l1 ++ l' ++ s.N u D))
    (h : ∀ v, s.V v → SM P X ops (ms.map (·.1)) (CM X l ms) (mV ms) ds K (k + 1) rest ((d, v) :: m) (updD D k v)) : SM P X ops (ms.map (·.1)) (CM X l ms) (mV ms) ds K k (o :: rest) m D := by
  refine SM.made hl1 hj hdq hm hk hnd hw hd hn (fun l' a w hf hI => ?_) h
  rw [call_enter ho hok hc ha hf w]
  exact H l' w hI
theorem SM.call {f : FuncId} {fs cs vals : List Value} {c : Operand} {args : List Operand} {aT : Array TypeId} (v : Value) (hm : mfind ms k = some (Mk.val v))
    (ho : o.op = .call { callee := .value c, args := args.toArray, argTypes := aT }) (hok : CallOk P f) (hc : evM m c = some (.func (.func f) fs.toArray cs.toArray)) (ha : evL m args = some vals)
    (H : ∀ (l' : List Res) w, Inv X w (l1 ++ l') → Calls P f (fs ++ vals ++ cs).toArray w fun e w' => e = .returned v ∧ Inv X w' (l1 ++ l'))
    (h : SM P X ops (ms.map (·.1)) (CM X l ms) (mV ms) ds K (k + 1) rest ((d, v) :: m) (updD D k v)) : SM P X ops (ms.map (·.1)) (CM X l ms) (mV ms) ds K k (o :: rest) m D :=
  SM.mkcall (s := Mk.val v) hl1 hj hk hnd hw hd hn rfl hm ho hok hc ha (fun l' w hI => (H l' w hI).mono fun e w' ⟨h1, h2⟩ => ⟨v, h1, rfl, by simpa [Mk.val] using h2⟩) (by rintro u rfl; exact h)
end
theorem SL.mk {f : FuncId} {fs cs vals : List Value} {c : Operand} {args : List Operand} {aT : Array TypeId} (s : Mk) (hw : Wants X ops o m)
    (ho : o.op = .call { callee := .value c, args := args.toArray, argTypes := aT }) (hok : CallOk P f) (hc : evM m c = some (.func (.func f) fs.toArray cs.toArray)) (ha : evL m args = some vals) (hd : o.dst = some d) (hn : d < X.n)
    (H : ∀ (l' : List Res) w, Inv X w (l ++ l') → Calls P f (fs ++ vals ++ cs).toArray w fun e w' => ∃ u, e = .returned u ∧ s.V u ∧ Inv X w' (l ++ l' ++ s.N u noD))
    (h : ∀ v, s.V v → SL P X ops Q rest ((d, v) :: m) (l ++ s.N v noD)) : SL P X ops Q (o :: rest) m l := fun a w hf hI =>
  wpList_step fun K hK => by
    rw [if_pos (hw a hf)]
    unfold Oper.wp
    rw [call_enter ho hok hc ha hf w, Oper.upon_enter]
    refine (H [] w (by rw [List.append_nil]; exact hI)).mono fun e w' ⟨u, he, hV, hI'⟩ => ?_
    subst he
    rw [hd]
    rw [List.append_nil] at hI'
    exact hK _ _ (h u hV _ _ (hf.put hn _) hI')
def Mk.ints (X : Cx) (xs : List Value) (e : TypeId) : Mk := ⟨fun u => ∃ q c, (∀ b, (Value.slice q xs.length c).ownBlock = some b → X.w0.heap.size ≤ b) ∧ u = .slice q xs.length c, fun u _ => [rRow u xs e], ⟨_, none, 0, fun b hb => by simp [Value.ownBlock] at hb, rfl⟩, [], fun _ _ _ _ => rfl⟩
theorem take_snoc {α : Type} {xs : List α} {i : Nat} {u : α} (h : xs[i]? = some u) : xs.take i ++ [u] = xs.take (i + 1) := by rw [List.take_add_one, h]; rfl
def tupv (v : Value) (i : Nat) : Value := match v with
  | .tuple a => a.getD i undef
  | .agg a => a.getD i undef
  | _ => undef
def Mk.rx (X : Cx) (f : List UInt8) (b : Bool) (e : Int) (U : TypeId) : Mk := ⟨fun u => ∃ q c, (∀ b, (Value.slice q f.length c).ownBlock = some b → X.w0.heap.size ≤ b) ∧ u = .tuple #[.slice q f.length c, bo b, iw e], fun u _ => [rMine (tupv u 0) f U], ⟨_, none, 0, fun b hb => by simp [Value.ownBlock] at hb, rfl⟩, [], fun _ _ _ _ => rfl⟩
def Mk.take (X : Cx) (f : List UInt8) (b : Bool) (t e : Int) (U : TypeId) : Mk := ⟨fun u => ∃ q c, (∀ b, (Value.slice q f.length c).ownBlock = some b → X.w0.heap.size ≤ b) ∧ u = .tuple #[.agg #[.slice q f.length c, bo b, iw t], iw e], fun u _ => [rMine (tupv (tupv u 0) 0) f U], ⟨_, none, 0, fun b hb => by simp [Value.ownBlock] at hb, rfl⟩, [], fun _ _ _ _ => rfl⟩
def Mk.see (X : Cx) (n : Nat) (h g : List UInt8) (e : Int) (U : TypeId) : Mk := ⟨fun u => ∃ qh ch qd cd, (∀ b, (Value.slice qh h.length ch).ownBlock = some b → X.w0.heap.size ≤ b) ∧ (∀ b, (Value.slice qd g.length cd).ownBlock = some b → X.w0.heap.size ≤ b) ∧ u = .tuple #[.agg #[iw (n : Int), .slice qh h.length ch, .slice qd g.length cd], iw e],
  fun u _ => [rMine (tupv (tupv u 0) 1) h U, rMine (tupv (tupv u 0) 2) g U], ⟨_, none, 0, none, 0, fun b hb => by simp [Value.ownBlock] at hb, fun b hb => by simp [Value.ownBlock] at hb, rfl⟩, [], fun _ _ _ _ => rfl⟩
end
end Go.Proofs.Ytghfkgcaglabpaa

/-
  How a ring lies in memory; what its calls do, as plain functions.
-/
namespace Go.Proofs.Ytghfkgcaglabpaa
open Go.RowKit

structure Line where
  buf : Nat → Int
  first : Int
  many : Int
structure LineOk (X : Line) : Prop where
  f : 0 ≤ X.first ∧ X.first < 16
  m : 0 ≤ X.many ∧ X.many ≤ 15
def line0 : Line := ⟨fun _ => 0, 0, 0⟩
theorem line0_ok : LineOk line0 := ⟨by simp [line0], by simp [line0]⟩
def lastI (X : Line) : Int := (X.first + X.many) % 16
theorem lastI_bd (X : Line) : 0 ≤ lastI X ∧ lastI X < 16 := by unfold lastI; omega
def putL (X : Line) (id : Int) : Line := { X with buf := up X.buf (lastI X).toNat id, many := X.many + 1 }
def popL (X : Line) : Line := { X with first := (X.first + 1) % 16, many := X.many - 1 }
def allL (X : Line) : List Int := (List.range X.many.toNat).map fun (i : Nat) => X.buf ((X.first + (i : Int)) % 16).toNat
def allV (X : Line) : List Value := (allL X).map iw
theorem allV_len {X : Line} : (allV X).length = X.many.toNat := by simp [allV, allL]
theorem allV_get {X : Line} {i : Nat} (h : i < X.many.toNat) : (allV X)[i]? = some (iw (X.buf ((X.first + (i : Int)) % 16).toNat)) := by simp [allV, allL, h]
theorem putL_ok {X : Line} (h : LineOk X) (hm : X.many < 15) (id : Int) : LineOk (putL X id) := ⟨h.f, by have := h.m; simp only [putL]; omega⟩
theorem popL_ok {X : Line} (h : LineOk X) (hm : 0 < X.many) : LineOk (popL X) := ⟨by simp only [popL]; omega, by have := h.m; simp only [popL]; omega⟩
theorem last_eq {X : Line} (h : LineOk X) : Int.tmod (IntKind.i64.wrap (X.first + X.many)) 16 = lastI X := by
  obtain ⟨h1, h2⟩ := h
  unfold lastI
  rw [IntKind.wrap_i64, Int.tmod_eq_emod_of_nonneg (by omega)]; omega
theorem at_eq {f i : Int} (h : 0 ≤ f ∧ f < 16) (hi : 0 ≤ i ∧ i < 16) : Int.tmod (IntKind.i64.wrap (f + i)) 16 = (f + i) % 16 := by
  rw [IntKind.wrap_i64, Int.tmod_eq_emod_of_nonneg (by omega)]; omega
theorem inc_eq {m : Int} (h : 0 ≤ m ∧ m ≤ 15) : IntKind.i64.wrap (m + 1) = m + 1 := by rw [IntKind.wrap_i64]; omega
theorem dec_eq {m : Int} (h : 0 ≤ m ∧ m ≤ 15) : IntKind.i64.wrap (m - 1) = m - 1 := by rw [IntKind.wrap_i64]; omega
theorem room_eq {m : Int} (h : 0 ≤ m ∧ m ≤ 15) : IntKind.i64.wrap (15 - m) = 15 - m := by rw [IntKind.wrap_i64]; omega

def lnAt (X : Line) (j : Nat) : Value := if j < 16 then iw (X.buf j) else if j = 16 then iw X.first else iw X.many
def rcAt (d p : Nat) (T R : Line) (k : Nat) : Value := if k = 0 then pt d 0 else if k = 1 then pt p 0 else if k < 20 then lnAt T (k - 2) else lnAt R (k - 20)
def rc (d p : Nat) (T R : Line) : List Value := (List.range 38).map (rcAt d p T R)
section
variable {d p : Nat} {T R T' R' : Line}
theorem rc_len : (rc d p T R).length = 38 := by simp [rc]
theorem rc_get {k : Nat} (h : k < 38) : (rc d p T R)[k]? = some (rcAt d p T R k) := by simp [rc, h]
theorem rc_d : (rc d p T R)[0]? = some (pt d 0) := rfl
theorem rc_p : (rc d p T R)[1]? = some (pt p 0) := rfl
theorem rc_tf : (rc d p T R)[18]? = some (iw T.first) := rfl
theorem rc_tm : (rc d p T R)[19]? = some (iw T.many) := rfl
theorem rc_rf : (rc d p T R)[36]? = some (iw R.first) := rfl
theorem rc_rm : (rc d p T R)[37]? = some (iw R.many) := rfl
theorem rc_tb {i : Nat} (h : i < 16) : (rc d p T R)[2 + i * 1]? = some (iw (T.buf i)) := by
  rw [rc_get (by omega)]; unfold rcAt lnAt
  rw [if_neg (by omega), if_neg (by omega), if_pos (by omega), if_pos (by omega), show 2 + i * 1 - 2 = i by omega]
theorem rc_rb {i : Nat} (h : i < 16) : (rc d p T R)[20 + i * 1]? = some (iw (R.buf i)) := by
  rw [rc_get (by omega)]; unfold rcAt lnAt
  rw [if_neg (by omega), if_neg (by omega), if_neg (by omega), if_pos (by omega), show 20 + i * 1 - 20 = i by omega]
theorem rc_set {k : Nat} {v : Value} (hk : k < 38) (hv : rcAt d p T' R' k = v) (ho : ∀ j, j < 38 → j ≠ k → rcAt d p T' R' j = rcAt d p T R j) : (rc d p T R).set k v = rc d p T' R' := by
  apply List.ext_getElem?
  intro j
  by_cases e : k = j
  · subst e; rw [List.getElem?_set_self (by rw [rc_len]; exact hk), rc_get hk, hv]
  · rw [List.getElem?_set_ne e]
    by_cases hj : j < 38
    · rw [rc_get hj, rc_get hj, ho j hj (Ne.symm e)]
    · rw [List.getElem?_eq_none (by rw [rc_len]; omega), List.getElem?_eq_none (by rw [rc_len]; omega)]
theorem ln_first {X : Line} {x : Int} {j : Nat} (h : j ≠ 16) : lnAt { X with first := x } j = lnAt X j := by simp [lnAt, h]
theorem ln_many {X : Line} {x : Int} {j : Nat} (h : j ≠ 17) (hj : j < 18) : lnAt { X with many := x } j = lnAt X j := by
  unfold lnAt; split
  · rfl
  · split
    · rfl
    · omega
theorem ln_buf {X : Line} {i j : Nat} {x : Int} (h : j ≠ i) : lnAt { X with buf := up X.buf i x } j = lnAt X j := by
  unfold lnAt; split
  · show iw (up X.buf i x j) = _; rw [up_ne _ _ h]
  · rfl
theorem set_tf (x : Int) : (rc d p T R).set 18 (iw x) = rc d p { T with first := x } R := rc_set (by omega) rfl (fun j hj hne => by
  unfold rcAt; (repeat' split) <;> first | rfl | exact ln_first (by omega))
theorem set_tm (x : Int) : (rc d p T R).set 19 (iw x) = rc d p { T with many := x } R := rc_set (by omega) rfl (fun j hj hne => by
  unfold rcAt; (repeat' split) <;> first | rfl | exact ln_many (by omega) (by omega))
theorem set_rf (x : Int) : (rc d p T R).set 36 (iw x) = rc d p T { R with first := x } := rc_set (by omega) rfl (fun j hj hne => by
  unfold rcAt; (repeat' split) <;> first | rfl | exact ln_first (by omega))
theorem set_rm (x : Int) : (rc d p T R).set 37 (iw x) = rc d p T { R with many := x } := rc_set (by omega) rfl (fun j hj hne => by
  unfold rcAt; (repeat' split) <;> first | rfl | exact ln_many (by omega) (by omega))
theorem set_tb {i : Nat} (h : i < 16) (x : Int) : (rc d p T R).set (2 + i * 1) (iw x) = rc d p { T with buf := up T.buf i x } R := rc_set (by omega) (by
    unfold rcAt lnAt
    rw [if_neg (by omega), if_neg (by omega), if_pos (by omega), if_pos (by omega), show 2 + i * 1 - 2 = i by omega]
    show iw (up T.buf i x i) = _; rw [up_same]) (fun j hj hne => by
  unfold rcAt; (repeat' split) <;> first | rfl | exact ln_buf (by omega))
theorem set_rb {i : Nat} (h : i < 16) (x : Int) : (rc d p T R).set (20 + i * 1) (iw x) = rc d p T { R with buf := up R.buf i x } := rc_set (by omega) (by
    unfold rcAt lnAt
    rw [if_neg (by omega), if_neg (by omega), if_neg (by omega), if_pos (by omega), show 20 + i * 1 - 20 = i by omega]
    show iw (up R.buf i x i) = _; rw [up_same]) (fun j hj hne => by
  unfold rcAt; (repeat' split) <;> first | rfl | exact ln_buf (by omega))
def lz : List Value := [iw 0, iw 0, iw 0, iw 0, iw 0, iw 0, iw 0, iw 0, iw 0, iw 0, iw 0, iw 0, iw 0, iw 0, iw 0, iw 0, iw 0, iw 0]
theorem lz_get {j : Nat} (h : j < 18) : lz[j]? = some (lnAt line0 j) := by
  have : j = 0 ∨ j = 1 ∨ j = 2 ∨ j = 3 ∨ j = 4 ∨ j = 5 ∨ j = 6 ∨ j = 7 ∨ j = 8 ∨ j = 9 ∨ j = 10 ∨ j = 11 ∨ j = 12 ∨ j = 13 ∨ j = 14 ∨ j = 15 ∨ j = 16 ∨ j = 17 := by omega
  rcases this with h | h | h | h | h | h | h | h | h | h | h | h | h | h | h | h | h | h <;> subst h <;> rfl
theorem set_tl : (rc d p T R).take 2 ++ lz ++ (rc d p T R).drop (2 + lz.length) = rc d p line0 R := by
  have hl : lz.length = 18 := rfl
  have ht : ((rc d p T R).take 2).length = 2 := by rw [List.length_take, rc_len]; omega
  apply List.ext_getElem?
  intro j
  by_cases h1 : j < 2
  · rw [List.append_assoc, List.getElem?_append_left (by omega), List.getElem?_take, if_pos h1, rc_get (by omega), rc_get (by omega)]
    unfold rcAt; (repeat' split) <;> first | rfl | omega
  · by_cases h2 : j < 20
    · rw [List.append_assoc, List.getElem?_append_right (by omega), ht, List.getElem?_append_left (by omega), lz_get (by omega), rc_get (by omega)]
      unfold rcAt; rw [if_neg (by omega), if_neg (by omega), if_pos h2]
    · rw [List.getElem?_append_right (by rw [List.length_append]; omega), List.length_append, ht, hl, List.getElem?_drop, show 2 + 18 + (j - (2 + 18)) = j by omega]
      by_cases hj : j < 38
      · rw [rc_get hj, rc_get hj]; unfold rcAt; rw [if_neg (by omega), if_neg (by omega), if_neg h2, if_neg (by omega), if_neg (by omega), if_neg h2]
      · rw [List.getElem?_eq_none (by rw [rc_len]; omega), List.getElem?_eq_none (by rw [rc_len]; omega)]
theorem set_rl : (rc d p T R).take 20 ++ lz ++ (rc d p T R).drop (20 + lz.length) = rc d p T line0 := by
  have hl : lz.length = 18 := rfl
  have ht : ((rc d p T R).take 20).length = 20 := by rw [List.length_take, rc_len]; omega
  apply List.ext_getElem?
  intro j
  by_cases h1 : j < 20
  · rw [List.append_assoc, List.getElem?_append_left (by omega), List.getElem?_take, if_pos h1, rc_get (by omega), rc_get (by omega)]
    unfold rcAt; (repeat' split) <;> first | rfl | omega
  · by_cases h2 : j < 38
    · rw [List.append_assoc, List.getElem?_append_right (by omega), ht, List.getElem?_append_left (by omega), lz_get (by omega), rc_get (by omega)]
      unfold rcAt; rw [if_neg (by omega), if_neg (by omega), if_neg h1]
    · rw [List.getElem?_append_right (by rw [List.length_append]; omega), List.length_append, ht, hl, List.getElem?_drop, show 20 + 18 + (j - (20 + 18)) = j by omega]
      rw [List.getElem?_eq_none (by rw [rc_len]; omega), List.getElem?_eq_none (by rw [rc_len]; omega)]
end

structure RingA where
  A : NicA
  L : List Bf
  T : Line
  R : Line
def Few (L : List Bf) : Prop := ∀ b ∈ L, b.refs < 1000000000000000
structure RingOk (S : RingA) : Prop where
  a : NicOk S.A
  t : LineOk S.T
  r : LineOk S.R
abbrev rBlkRing (r d p : Nat) (T R : Line) : Res := rBlk r (rc d p T R) 86
abbrev rDev (d : Nat) (F : Nat → Prop) (A : NicA) : Res := rNic 99 d F A
def RingAt (w : World) (r d p ab : Nat) (F : Nat → Prop) (S : RingA) : Prop := Sep w [rBlkRing r d p S.T S.R, rDev d F S.A, rPool p ab S.L]
def rfp (r d p ab : Nat) (F : Nat → Prop) (b : Nat) : Prop := b = r ∨ b = d ∨ F b ∨ b = p ∨ b = ab
theorem RingAt.lt {w : World} {r d p ab : Nat} {F : Nat → Prop} {S : RingA} (h : RingAt w r d p ab F S) : ∀ b, rfp r d p ab F b → b < w.heap.size := by
  intro b hb
  have h1 := h.1
  simp only [List.mem_cons, List.not_mem_nil, or_false, forall_eq_or_imp, forall_eq] at h1
  rcases hb with e | e | e | e | e
  · exact (rBlkRing r d p S.T S.R).lt w h1.1 b e
  · exact (rDev d F S.A).lt w h1.2.1 b (.inl e)
  · exact (rDev d F S.A).lt w h1.2.1 b (.inr e)
  · exact (rPool p ab S.L).lt w h1.2.2 b (.inl e)
  · exact (rPool p ab S.L).lt w h1.2.2 b (.inr e)
def rRing (r d p ab : Nat) (F : Nat → Prop) (S : RingA) : Res where
  ok w := RingAt w r d p ab F S
  fp := rfp r d p ab F
  lt w h := h.lt
  st w w' h hw := by
    refine ⟨fun s hs => ?_, h.2⟩
    have h1 := h.1 s hs
    refine s.st w w' h1 (fun b hb => hw b ?_)
    simp only [List.mem_cons, List.not_mem_nil, or_false] at hs
    rcases hs with rfl | rfl | rfl
    · exact .inl hb
    · exact hb.elim (fun e => .inr (.inl e)) (fun e => .inr (.inr (.inl e)))
    · exact hb.elim (fun e => .inr (.inr (.inr (.inl e)))) (fun e => .inr (.inr (.inr (.inr e))))
abbrev rS (r d p ab : Nat) : Nat → Prop := fun b => b = r ∨ b = d ∨ b = p ∨ b = ab
def RingTo (w : World) (r d p ab : Nat) (F : Nat → Prop) (S' : RingA) (w' : World) : Prop := ∃ F', RingAt w' r d p ab F' S' ∧ (∀ b, F' b → F b ∨ w.heap.size ≤ b) ∧ Only (rS r d p ab) w w'
section
variable {X : Cx} {l : List Res} {w w' : World} {r d p ab n : Nat} {F F' F0 : Nat → Prop} {S : RingA}
theorem RingAt.inv (n : Nat) (Z : Nat → Prop) (h : RingAt w r d p ab F S) : Inv ⟨n, w, Z⟩ w [rBlkRing r d p S.T S.R, rDev d F S.A, rPool p ab S.L] := ⟨h, Only.refl _ _⟩
theorem Inv.take3 {a b c : Res} (h : Inv X w (a :: b :: c :: l)) : Sep w [a, b, c] := by
  have := h.keep 3
  exact this.1
theorem RingTo.fin {T R : Line} {A : NicA} {L : List Bf} (h : Inv ⟨n, w, rS r d p ab⟩ w' (rBlkRing r d p T R :: rDev d F' A :: rPool p ab L :: l)) (hF : ∀ b, F' b → F b ∨ w.heap.size ≤ b) : RingTo w r d p ab F ⟨A, L, T, R⟩ w' := ⟨F', h.take3, hF, h.2⟩
theorem Inv.nicB {T : TypeId} {i : Nat} {A A' : NicA} (h : Inv X w l) (hi : l[i]? = some (rNic T d F A)) (hS : X.S d ∨ X.w0.heap.size ≤ d) (k : NicTo T w d F A' w') (hF : ∀ b, F b → F0 b ∨ X.w0.heap.size ≤ b) : ∃ F', Inv X w' (l.set i (rNic T d F' A')) ∧ ∀ b, F' b → F0 b ∨ X.w0.heap.size ≤ b := by
  obtain ⟨F', h1, h2, h3⟩ := k
  refine ⟨F', ⟨h.1.upd hi (fun b hb hlt => h3.block b hlt (fun e => hb (.inl e))) h1 (fun b hb => ?_), h.2.trans' h3 (fun b hb => by subst hb; exact hS)⟩, fun b hb => ?_⟩
  · rcases hb with hb | hb
    · exact .inl (.inl hb)
    · exact (h2 b hb).imp .inr id
  · rcases h2 b hb with h4 | h4
    · exact hF b h4
    · exact .inr (Nat.le_trans h.2.size h4)
theorem Inv.packRing (h : Inv X w (rBlkRing r d p S.T S.R :: rDev d F S.A :: rPool p ab S.L :: l)) : Inv X w (rRing r d p ab F S :: l) := by
  have h3 := h.take3
  have hp := h.1.2
  rw [List.pairwise_cons, List.pairwise_cons, List.pairwise_cons] at hp
  obtain ⟨h4, h5, h6, h7⟩ := hp
  refine ⟨⟨fun q hq => ?_, ?_⟩, h.2⟩
  · rcases List.mem_cons.1 hq with rfl | hq
    · exact h3
    · exact h.1.1 q (by simp [hq])
  · refine List.Pairwise.cons (fun q hq b hb hc => ?_) h7
    rcases hb with e | e | e | e | e
    · exact h4 q (by simp [hq]) b e hc
    · exact h5 q (by simp [hq]) b (.inl e) hc
    · exact h5 q (by simp [hq]) b (.inr e) hc
    · exact h6 q hq b (.inl e) hc
    · exact h6 q hq b (.inr e) hc
theorem Inv.openRing (h : Inv X w (rRing r d p ab F S :: l)) : Inv X w (rBlkRing r d p S.T S.R :: rDev d F S.A :: rPool p ab S.L :: l) := by
  have h3 : RingAt w r d p ab F S := h.1.1 (rRing r d p ab F S) (by simp)
  have hp := h.1.2
  rw [List.pairwise_cons] at hp
  have h4 := h3.2
  rw [List.pairwise_cons, List.pairwise_cons] at h4
  refine ⟨⟨fun q hq => ?_, ?_⟩, h.2⟩
  · simp only [List.mem_cons] at hq
    rcases hq with rfl | rfl | rfl | hq
    · exact h3.1 _ (by simp)
    · exact h3.1 _ (by simp)
    · exact h3.1 _ (by simp)
    · exact h.1.1 q (by simp [hq])
  · refine List.Pairwise.cons (fun q hq b hb hc => ?_) (List.Pairwise.cons (fun q hq b hb hc => ?_) (List.Pairwise.cons (fun q hq b hb hc => ?_) hp.2))
    · simp only [List.mem_cons] at hq
      rcases hq with rfl | rfl | hq
      · exact h4.1 _ (by simp) b hb hc
      · exact h4.1 _ (by simp) b hb hc
      · exact hp.1 q hq b (.inl hb) hc
    · simp only [List.mem_cons] at hq
      rcases hq with rfl | hq
      · exact h4.2.1 _ (by simp) b hb hc
      · exact hp.1 q hq b (hb.elim (fun e => .inr (.inl e)) (fun e => .inr (.inr (.inl e)))) hc
    · exact hp.1 q hq b (hb.elim (fun e => .inr (.inr (.inr (.inl e)))) (fun e => .inr (.inr (.inr (.inr e))))) hc
theorem rfp_in {b : Nat} {S' : RingA} {Q : Nat → Prop} (hF : ∀ b, F' b → F b ∨ Q b) (h : rfp r d p ab F' b) : rfp r d p ab F b ∨ Q b := by
  rcases h with e | e | e | e | e
  · exact .inl (.inl e)
  · exact .inl (.inr (.inl e))
  · exact (hF b e).imp (fun e => .inr (.inr (.inl e))) id
  · exact .inl (.inr (.inr (.inr (.inl e))))
  · exact .inl (.inr (.inr (.inr (.inr e))))
theorem Inv.ringTo {i : Nat} {S' : RingA} (h : Inv X w l) (hi : l[i]? = some (rRing r d p ab F S)) (hS : ∀ b, rS r d p ab b → X.S b ∨ X.w0.heap.size ≤ b) (k : RingTo w r d p ab F S' w') (hF : ∀ b, F b → F0 b ∨ X.w0.heap.size ≤ b) :
    ∃ F', Inv X w' (l.set i (rRing r d p ab F' S')) ∧ ∀ b, F' b → F0 b ∨ X.w0.heap.size ≤ b := by
  obtain ⟨F', h1, h2, h3⟩ := k
  refine ⟨F', ⟨h.1.upd hi (fun b hb hlt => h3.block b hlt (fun e => hb ?_)) h1 (fun b hb => rfp_in (S' := S') h2 hb), h.2.trans' h3 hS⟩, fun b hb => ?_⟩
  · rcases e with e | e | e | e
    · exact .inl e
    · exact .inr (.inl e)
    · exact .inr (.inr (.inr (.inl e)))
    · exact .inr (.inr (.inr (.inr e)))
  · rcases h2 b hb with h4 | h4
    · exact hF b h4
    · exact .inr (Nat.le_trans h.2.size h4)
def Turns (S : Nat → Prop) (l l' : List Res) (w w' : World) : Prop := Sep w' l' ∧ Only S w w' ∧ ∀ r' ∈ l', ∀ b, r'.fp b → (∃ r ∈ l, r.fp b) ∨ w.heap.size ≤ b
theorem Inv.turns {l1 l1' : List Res} {Z : Nat → Prop} (h : Inv X w (l1 ++ l)) (t : Turns Z l1 l1' w w') (hz : ∀ b, Z b → ∃ r ∈ l1, r.fp b) (hS : ∀ b, Z b → X.S b ∨ X.w0.heap.size ≤ b) : Inv X w' (l1' ++ l) := by
  obtain ⟨h1, h2, h3⟩ := t
  have hp := List.pairwise_append.1 h.1.2
  have hlt : ∀ s ∈ l, ∀ b, s.fp b → b < w.heap.size := fun s hs b hb => s.lt w (h.1.1 s (by simp [hs])) b hb
  refine ⟨⟨fun q hq => ?_, ?_⟩, h.2.trans' h2 hS⟩
  · rcases List.mem_append.1 hq with hq | hq
    · exact h1.1 q hq
    · refine q.st w w' (h.1.1 q (by simp [hq])) (fun b hb => h2.block b (hlt q hq b hb) (fun hz' => ?_))
      obtain ⟨r, hr, hrb⟩ := hz b hz'
      exact hp.2.2 r hr q hq b hrb hb
  · rw [List.pairwise_append]
    refine ⟨h1.2, hp.2.1, fun a ha q hq b hb hc => ?_⟩
    rcases h3 a ha b hb with ⟨r, hr, hrb⟩ | hge
    · exact hp.2.2 r hr q hq b hrb hc
    · have := hlt q hq b hc; omega
theorem Inv.turns0 {l1 l1' : List Res} {Z : Nat → Prop} (h : Inv X w l1) (t : Turns Z l1 l1' w w') (hz : ∀ b, Z b → ∃ r ∈ l1, r.fp b) (hS : ∀ b, Z b → X.S b ∨ X.w0.heap.size ≤ b) : Inv X w' l1' := by
  have := Inv.turns (l := []) (by rw [List.append_nil]; exact h) t hz hS
  rwa [List.append_nil] at this
theorem mine_bytes {j : Nat} {v : Value} {f : List UInt8} {U : TypeId} (h : Inv X w l) (hj : l[j]? = some (rMine v f U)) (hl : f.length ≤ 140737488351232) : BytesAt w v f := OwnBytes.bytes (h.1.get hj) hl
theorem mineIn {i j : Nat} {v : Value} {f : List UInt8} {U : TypeId} {q : Res} (h : Inv X w l) (hj : l[j]? = some (rMine v f U)) (hi : l[i]? = some q) (hij : i ≠ j) : sliceIn v (fun b => ¬ q.fp b) := fun b o n cap hv hn hb =>
  h.apart hi hj hij b hb (by subst hv; show (Value.slice (some ⟨b, o, none⟩) n cap).ownBlock = some b; rfl)
theorem sliceIn.mono {v : Value} {P Q : Nat → Prop} (h : sliceIn v P) (hpq : ∀ b, P b → Q b) : sliceIn v Q := fun b o n cap hv hn => hpq b (h b o n cap hv hn)
def RingToW (w : World) (r d p ab : Nat) (F : Nat → Prop) (S' : RingA) (l' : List Res) (w' : World) : Prop := ∃ F', Sep w' (rRing r d p ab F' S' :: l') ∧ (∀ b, F' b → F b ∨ w.heap.size ≤ b) ∧ (∀ q ∈ l', ∀ b, q.fp b → w.heap.size ≤ b) ∧ Only (rS r d p ab) w w'
theorem Inv.ringAt {i : Nat} {S' : RingA} (h : Inv X w l) (hi : l[i]? = some (rRing r d p ab F S)) (hS : ∀ b, rS r d p ab b → X.S b ∨ X.w0.heap.size ≤ b) (h1 : RingAt w' r d p ab F' S') (h2 : ∀ b, F' b → F b ∨ w.heap.size ≤ b) (h3 : Only (rS r d p ab) w w') : Inv X w' (l.set i (rRing r d p ab F' S')) := by
  refine ⟨h.1.upd hi (fun b hb hlt => h3.block b hlt (fun e => hb ?_)) h1 (fun b hb => rfp_in (S' := S') h2 hb), h.2.trans' h3 hS⟩
  rcases e with e | e | e | e
  · exact .inl e
  · exact .inr (.inl e)
  · exact .inr (.inr (.inr (.inl e)))
  · exact .inr (.inr (.inr (.inr e)))
theorem Inv.news {l' : List Res} (h : Inv X w l) (hok : ∀ q ∈ l', q.ok w) (hpw : l'.Pairwise (fun r s => ∀ b, r.fp b → ¬ s.fp b)) (hd : ∀ s ∈ l, ∀ q ∈ l', ∀ b, s.fp b → ¬ q.fp b) : Inv X w (l ++ l') :=
  ⟨⟨fun q hq => (List.mem_append.1 hq).elim (h.1.1 q) (hok q), List.pairwise_append.2 ⟨h.1.2, hpw, hd⟩⟩, h.2⟩
theorem Inv.ringToW {i : Nat} {S' : RingA} {l' : List Res} (h : Inv X w l) (hi : l[i]? = some (rRing r d p ab F S)) (hS : ∀ b, rS r d p ab b → X.S b ∨ X.w0.heap.size ≤ b) (k : RingToW w r d p ab F S' l' w') (hF : ∀ b, F b → F0 b ∨ X.w0.heap.size ≤ b) :
    ∃ F', Inv X w' (l.set i (rRing r d p ab F' S') ++ l') ∧ (∀ b, F' b → F0 b ∨ X.w0.heap.size ≤ b) ∧ ∀ q ∈ l', ∀ b, q.fp b → X.w0.heap.size ≤ b := by
  obtain ⟨F', h1, h2, h3, h4⟩ := k
  have hsz := h.2.size
  have hp := List.pairwise_cons.1 h1.2
  have hlt : ∀ s ∈ l, ∀ b, s.fp b → b < w.heap.size := fun s hs b hb => s.lt w (h.1.1 s hs) b hb
  refine ⟨F', (h.ringAt hi hS (h1.1 (rRing r d p ab F' S') (by simp)) h2 h4).news (fun q hq => h1.1 q (by simp [hq])) hp.2 (fun s hs q hq b hb hc => ?_), fun b hb => ?_, fun q hq b hb => Nat.le_trans hsz (h3 q hq b hb)⟩
  · rcases List.mem_or_eq_of_mem_set hs with hs | rfl
    · have h5 := hlt s hs b hb
      have h6 := h3 q hq b hc
      omega
    · exact hp.1 q hq b hb hc
  · rcases h2 b hb with h5 | h5
    · exact hF b h5
    · exact .inr (Nat.le_trans hsz h5)
theorem row_apart {oc : Nat} {A : NicA} {L : List Bf} {T R : Line} {q : Res} {cs : List Value} {U : TypeId} {n : Nat} {a : Res} (h : Inv X w (rBlkRing r d p T R :: rDev d F A :: rPool p ab L :: a :: rBlk oc cs U :: q :: l)) (hq : ∀ b, q.fp b → (rS r d p ab b ∨ b = oc) ∨ n ≤ b) : ∀ b, q.fp b → n ≤ b := by
  intro b hb
  rcases hq b hb with (((e | e | e | e) | e) | e)
  · exact (h.apart (i := 0) (j := 5) rfl rfl (by decide) b e hb).elim
  · exact (h.apart (i := 1) (j := 5) rfl rfl (by decide) b (.inl e) hb).elim
  · exact (h.apart (i := 2) (j := 5) rfl rfl (by decide) b (.inl e) hb).elim
  · exact (h.apart (i := 2) (j := 5) rfl rfl (by decide) b (.inr e) hb).elim
  · exact (h.apart (i := 4) (j := 5) rfl rfl (by decide) b e hb).elim
  · exact e
theorem SC.reord {P : Program} {c : Code} {Q : Exit → Act → World → Prop} {m : List (Nat × Value)} (l' : List Res) (hp : l.Perm l') (h : SC P X c Q m l') : SC P X c Q m l := fun a w hf hI => h a w hf (hI.perm hp)
theorem Inv.take4 {a b c e : Res} (h : Inv X w (a :: b :: c :: e :: l)) : Sep w [a, b, c, e] := (h.keep 4).1
theorem Inv.take6 {a b c e f g : Res} (h : Inv X w (a :: b :: c :: e :: f :: g :: l)) : Sep w [a, b, c, e, f, g] := (h.keep 6).1
theorem Inv.ring3 {S' : RingA} (h : Inv X w (rBlkRing r d p S.T S.R :: rDev d F S.A :: rPool p ab S.L :: l)) (hS : ∀ b, rS r d p ab b → X.S b ∨ X.w0.heap.size ≤ b) (k : RingTo w r d p ab F S' w') (hF : ∀ b, F b → F0 b ∨ X.w0.heap.size ≤ b) :
    ∃ F', Inv X w' (rBlkRing r d p S'.T S'.R :: rDev d F' S'.A :: rPool p ab S'.L :: l) ∧ ∀ b, F' b → F0 b ∨ X.w0.heap.size ≤ b := by
  obtain ⟨F', h1, h2⟩ := h.packRing.ringTo (i := 0) rfl hS k hF
  exact ⟨F', h1.openRing, h2⟩
end
end Go.Proofs.Ytghfkgcaglabpaa

/-
  The ring's small functions.
-/
namespace Go.Proofs.Ytghfkgcaglabpaa
open Go.RowKit
set_option maxRecDepth 100000
set_option maxHeartbeats 4000000
theorem last_t {w : World} {r d p : Nat} {T R : Line} (hT : LineOk T) (h : Blk w r (rc d p T R) 86) : Calls Try.prog 36 #[pt r 2] w fun e w' => e = .returned (iw (lastI T)) ∧ Only (fun _ => False) w w' := by
  have hq := hT.f
  have hq2 := hT.m
  refine calls_sc (l0 := [rBlkRing r d p T R]) (args := [pt r 2]) (fun _ => False) Try.func36 rfl 13 Try.ntmps36 (le_b rfl) (Inv.one h) ?_
  show SC _ _ _ _ [(0, pt r 2)] [rBlkRing r d p T R]
  refine SC.sr ?_
  refine SL.as ?_
  refine SL.nn [(0, pt r 2), (2, iw 0)] [rBlk r (rc d p T R) 86] ⟨rfl, rfl, trivial⟩ ?_
  refine SC.seq ?_
  refine SC.region_quiet (by kernel_rfl) (by kernel_rfl) ?_
  refine SQ.uu (ru_move rfl rfl) ?_
  refine SQ.uu (ru_nilCheck rfl rfl) ?_
  refine SQ.uu (ru_fieldAddr (o2 := 18) fd84_1 rfl rfl rfl) ?_
  refine SQ.uu (ru_load (i := 0) (v := iw T.first) ts3 rfl rfl rfl rc_tf) ?_
  refine SQ.uu (ru_move rfl rfl) ?_
  refine SQ.uu (ru_nilCheck rfl rfl) ?_
  refine SQ.uu (ru_fieldAddr (o2 := 19) fd84_2 rfl rfl rfl) ?_
  refine SQ.uu (ru_load (i := 0) (v := iw T.many) ts3 rfl rfl rfl rc_tm) ?_
  refine SQ.uu (ru_add (r := (IntKind.i64.wrap (T.first + T.many))) rfl rfl rfl rfl) ?_
  refine SQ.uu (ru_rem (r := (lastI T)) rfl rfl rfl (by decide) ((last_eq hT))) ?_
  refine SQ.uu (ru_assign rfl rfl) ?_
  refine SQ.nilE ?_
  refine SC.of_SE ?_
  refine SC.norm [(2, iw (lastI T))] _ ⟨rfl, trivial⟩ rfl ?_
  refine SC.ret ?_
  refine SE.res (.inl rfl) (res1 Try.results36 rfl) fun w1 hI => ⟨rfl, hI.2⟩

theorem put_t {w : World} {r d p : Nat} {T R : Line} (hT : LineOk T) (h : Blk w r (rc d p T R) 86) (id : Int) : Calls Try.prog 38 #[pt r 2, iw id] w fun e w' => e = .returned (.tuple #[]) ∧ Blk w' r (rc d p (putL T id) R) 86 ∧ Only (fun b => b = r) w w' := by
  have hq := hT.f
  have hq2 := hT.m
  refine calls_sc (l0 := [rBlkRing r d p T R]) (args := [pt r 2, iw id]) (fun b => b = r) Try.func38 rfl 18 Try.ntmps38 (le_b rfl) (Inv.one h) ?_
  show SC _ _ _ _ [(0, pt r 2), (1, iw id)] [rBlkRing r d p T R]
  refine SC.seq ?_
  refine SC.region_mk_tail 6 [(2, Mk.val (iw (lastI T)))] [] rfl rfl (by kernel_rfl) (by kernel_rfl) (by kernel_rfl) ?_
  refine SM.ru rfl rfl rfl (w_all rfl) rfl (lt_b rfl) (ru_move rfl rfl) ?_
  refine SM.ru rfl rfl rfl (w_all rfl) rfl (lt_b rfl) (ru_move rfl rfl) ?_
  have hbd := lastI_bd T
  refine SM.call rfl rfl rfl rfl (w_all rfl) rfl (lt_b rfl) (iw (lastI T)) rfl rfl co36 rfl rfl (fun l' w hI => H_only hI (last_t hT (hI.1.get (i := 0) rfl))) ?_
  refine SM.ru rfl rfl rfl (w_all rfl) rfl (lt_b rfl) (ru_move rfl rfl) ?_
  refine SM.ru rfl rfl rfl (w_all rfl) rfl (lt_b rfl) (ru_nilCheck rfl rfl) ?_
  refine SM.ru rfl rfl rfl (w_all rfl) rfl (lt_b rfl) (ru_fieldAddr (o2 := 2) fd84_0 rfl rfl rfl) ?_
  refine SM.nilL (l' := [rBlk r (rc d p T R) 86]) rfl ?_
  refine SL.uu (ru_indexA (o2 := 2 + ((lastI T).toNat) * 1) ar82 rfl rfl rfl (by omega) (by omega) rfl) ?_
  refine SL.store (i := 0) (c' := (rc d p ({ T with buf := up T.buf ((lastI T).toNat) id }) R)) rfl rfl ts3 rfl rfl rfl rfl rfl (by rw [rc_len]; omega) (.inl rfl) (set_tb (by omega) id) ?_
  refine SL.nn [(0, pt r 2)] [rBlk r (rc d p ({ T with buf := up T.buf ((lastI T).toNat) id }) R) 86] ⟨rfl, trivial⟩ ?_
  refine SC.region ?_
  refine SL.mv ?_
  refine SL.nk ?_
  refine SL.uu (ru_fieldAddr (o2 := 19) fd84_2 rfl rfl rfl) ?_
  refine SL.uu (ru_load (i := 0) (v := iw T.many) ts3 rfl rfl rfl rc_tm) ?_
  refine SL.uu (ru_add (r := (T.many + 1)) rfl rfl rfl ((inc_eq hT.m))) ?_
  refine SL.nk ?_
  refine SL.uu (ru_fieldAddr (o2 := 19) fd84_2 rfl rfl rfl) ?_
  refine SL.store (i := 0) (c' := (rc d p ({ T with buf := up T.buf ((lastI T).toNat) id, many := T.many + 1 }) R)) rfl rfl ts3 rfl rfl rfl rfl rfl (by rw [rc_len]; omega) (.inl rfl) (set_tm (T.many + 1)) ?_
  refine SL.nil ?_
  refine SE.res (.inr rfl) (res0 Try.results38) fun w1 hI => ⟨rfl, hI.1.get (i := 0) rfl, hI.2⟩

theorem last_r {w : World} {r d p : Nat} {T R : Line} (hR : LineOk R) (h : Blk w r (rc d p T R) 86) : Calls Try.prog 36 #[pt r 20] w fun e w' => e = .returned (iw (lastI R)) ∧ Only (fun _ => False) w w' := by
  have hq := hR.f
  have hq2 := hR.m
  refine calls_sc (l0 := [rBlkRing r d p T R]) (args := [pt r 20]) (fun _ => False) Try.func36 rfl 13 Try.ntmps36 (le_b rfl) (Inv.one h) ?_
  show SC _ _ _ _ [(0, pt r 20)] [rBlkRing r d p T R]
  refine SC.sr ?_
  refine SL.as ?_
  refine SL.nn [(0, pt r 20), (2, iw 0)] [rBlk r (rc d p T R) 86] ⟨rfl, rfl, trivial⟩ ?_
  refine SC.seq ?_
  refine SC.region_quiet (by kernel_rfl) (by kernel_rfl) ?_
  refine SQ.uu (ru_move rfl rfl) ?_
  refine SQ.uu (ru_nilCheck rfl rfl) ?_
  refine SQ.uu (ru_fieldAddr (o2 := 36) fd84_1 rfl rfl rfl) ?_
  refine SQ.uu (ru_load (i := 0) (v := iw R.first) ts3 rfl rfl rfl rc_rf) ?_
  refine SQ.uu (ru_move rfl rfl) ?_
  refine SQ.uu (ru_nilCheck rfl rfl) ?_
  refine SQ.uu (ru_fieldAddr (o2 := 37) fd84_2 rfl rfl rfl) ?_
  refine SQ.uu (ru_load (i := 0) (v := iw R.many) ts3 rfl rfl rfl rc_rm) ?_
  refine SQ.uu (ru_add (r := (IntKind.i64.wrap (R.first + R.many))) rfl rfl rfl rfl) ?_
  refine SQ.uu (ru_rem (r := (lastI R)) rfl rfl rfl (by decide) ((last_eq hR))) ?_
  refine SQ.uu (ru_assign rfl rfl) ?_
  refine SQ.nilE ?_
  refine SC.of_SE ?_
  refine SC.norm [(2, iw (lastI R))] _ ⟨rfl, trivial⟩ rfl ?_
  refine SC.ret ?_
  refine SE.res (.inl rfl) (res1 Try.results36 rfl) fun w1 hI => ⟨rfl, hI.2⟩

theorem put_r {w : World} {r d p : Nat} {T R : Line} (hR : LineOk R) (h : Blk w r (rc d p T R) 86) (id : Int) : Calls Try.prog 38 #[pt r 20, iw id] w fun e w' => e = .returned (.tuple #[]) ∧ Blk w' r (rc d p T (putL R id)) 86 ∧ Only (fun b => b = r) w w' := by
  have hq := hR.f
  have hq2 := hR.m
  refine calls_sc (l0 := [rBlkRing r d p T R]) (args := [pt r 20, iw id]) (fun b => b = r) Try.func38 rfl 18 Try.ntmps38 (le_b rfl) (Inv.one h) ?_
  show SC _ _ _ _ [(0, pt r 20), (1, iw id)] [rBlkRing r d p T R]
  refine SC.seq ?_
  refine SC.region_mk_tail 6 [(2, Mk.val (iw (lastI R)))] [] rfl rfl (by kernel_rfl) (by kernel_rfl) (by kernel_rfl) ?_
  refine SM.ru rfl rfl rfl (w_all rfl) rfl (lt_b rfl) (ru_move rfl rfl) ?_
  refine SM.ru rfl rfl rfl (w_all rfl) rfl (lt_b rfl) (ru_move rfl rfl) ?_
  have hbd := lastI_bd R
  refine SM.call rfl rfl rfl rfl (w_all rfl) rfl (lt_b rfl) (iw (lastI R)) rfl rfl co36 rfl rfl (fun l' w hI => H_only hI (last_r hR (hI.1.get (i := 0) rfl))) ?_
  refine SM.ru rfl rfl rfl (w_all rfl) rfl (lt_b rfl) (ru_move rfl rfl) ?_
  refine SM.ru rfl rfl rfl (w_all rfl) rfl (lt_b rfl) (ru_nilCheck rfl rfl) ?_
  refine SM.ru rfl rfl rfl (w_all rfl) rfl (lt_b rfl) (ru_fieldAddr (o2 := 20) fd84_0 rfl rfl rfl) ?_
  refine SM.nilL (l' := [rBlk r (rc d p T R) 86]) rfl ?_
  refine SL.uu (ru_indexA (o2 := 20 + ((lastI R).toNat) * 1) ar82 rfl rfl rfl (by omega) (by omega) rfl) ?_
  refine SL.store (i := 0) (c' := (rc d p T ({ R with buf := up R.buf ((lastI R).toNat) id }))) rfl rfl ts3 rfl rfl rfl rfl rfl (by rw [rc_len]; omega) (.inl rfl) (set_rb (by omega) id) ?_
  refine SL.nn [(0, pt r 20)] [rBlk r (rc d p T ({ R with buf := up R.buf ((lastI R).toNat) id })) 86] ⟨rfl, trivial⟩ ?_
  refine SC.region ?_
  refine SL.mv ?_
  refine SL.nk ?_
  refine SL.uu (ru_fieldAddr (o2 := 37) fd84_2 rfl rfl rfl) ?_
  refine SL.uu (ru_load (i := 0) (v := iw R.many) ts3 rfl rfl rfl rc_rm) ?_
  refine SL.uu (ru_add (r := (R.many + 1)) rfl rfl rfl ((inc_eq hR.m))) ?_
  refine SL.nk ?_
  refine SL.uu (ru_fieldAddr (o2 := 37) fd84_2 rfl rfl rfl) ?_
  refine SL.store (i := 0) (c' := (rc d p T ({ R with buf := up R.buf ((lastI R).toNat) id, many := R.many + 1 }))) rfl rfl ts3 rfl rfl rfl rfl rfl (by rw [rc_len]; omega) (.inl rfl) (set_rm (R.many + 1)) ?_
  refine SL.nil ?_
  refine SE.res (.inr rfl) (res0 Try.results38) fun w1 hI => ⟨rfl, hI.1.get (i := 0) rfl, hI.2⟩

theorem room_any {w : World} {r d p : Nat} {T R : Line} (hT : LineOk T) (h : Blk w r (rc d p T R) 86) : Calls Try.prog 22 #[pt r 0] w fun e w' => e = .returned (iw (15 - T.many)) ∧ Only (fun _ => False) w w' := by
  refine calls_sc (l0 := [rBlkRing r d p T R]) (args := [pt r 0]) (fun _ => False) Try.func22 rfl 9 Try.ntmps22 (le_b rfl) (Inv.one h) ?_
  show SC _ _ _ _ [(0, pt r 0)] [rBlkRing r d p T R]
  refine SC.sr ?_
  refine SL.as ?_
  refine SL.nn [(0, pt r 0), (2, iw 0)] [rBlk r (rc d p T R) 86] ⟨rfl, rfl, trivial⟩ ?_
  refine SC.sr ?_
  refine SL.mv ?_
  refine SL.nk ?_
  refine SL.uu (ru_fieldAddr (o2 := 2) fd86_2 rfl rfl rfl) ?_
  refine SL.uu (ru_fieldAddr (o2 := 19) fd84_2 rfl rfl rfl) ?_
  refine SL.uu (ru_load (i := 0) (v := iw T.many) ts3 rfl rfl rfl rc_tm) ?_
  refine SL.uu (ru_sub (r := (15 - T.many)) rfl rfl rfl ((room_eq hT.m))) ?_
  refine SL.as ?_
  refine SL.nn [(2, iw (15 - T.many))] _ ⟨rfl, trivial⟩ ?_
  refine SC.ret ?_
  refine SE.res (.inl rfl) (res1 Try.results22 rfl) fun w1 hI => ⟨rfl, hI.2⟩

end Go.Proofs.Ytghfkgcaglabpaa

/-
  What a line has.
-/
namespace Go.Proofs.Ytghfkgcaglabpaa
open Go.RowKit
set_option maxRecDepth 100000
set_option maxHeartbeats 4000000
theorem all_t {w : World} {r d p : Nat} {T R : Line} (hT : LineOk T) (h : Blk w r (rc d p T R) 86) : Calls Try.prog 60 #[pt r 2] w fun e w' => ∃ q c, e = .returned (.slice q (allV T).length c) ∧ w'.ownsRow 0 3 1 (.slice q (allV T).length c) (allV T).length (allV T) ∧ (∀ b, (Value.slice q (allV T).length c).ownBlock = some b → w.heap.size ≤ b) ∧ Only (fun _ => False) w w' := by
  have hq := hT.f
  have hq2 := hT.m
  refine calls_sc (l0 := [rBlkRing r d p T R]) (args := [pt r 2]) (fun _ => False) Try.func60 rfl 29 Try.ntmps60 (le_b rfl) (Inv.one h) ?_
  show SC _ _ _ _ [(0, pt r 2)] [rBlkRing r d p T R]
  refine SC.sr ?_
  refine SL.as ?_
  refine SL.nn [(0, pt r 2), (2, Value.slice none 0 0)] [rBlk r (rc d p T R) 86] ⟨rfl, rfl, trivial⟩ ?_
  refine SC.sr ?_
  refine SL.as ?_
  refine SL.nn [(0, pt r 2), (2, Value.slice none 0 0), (3, Value.slice none 0 0)] _ ⟨rfl, rfl, rfl, trivial⟩ ?_
  refine SC.seq ?_
  refine SC.sr ?_
  refine SL.mv ?_
  refine SL.nk ?_
  refine SL.uu (ru_fieldAddr (o2 := 19) fd84_2 rfl rfl rfl) ?_
  refine SL.uu (ru_load (i := 0) (v := iw T.many) ts3 rfl rfl rfl rc_tm) ?_
  refine SL.mv ?_
  refine SL.nn [(0, pt r 2), (2, Value.slice none 0 0), (3, Value.slice none 0 0), (8, iw T.many), (9, iw 0)] _ ⟨rfl, rfl, rfl, rfl, rfl, trivial⟩ ?_
  refine SC.block ?_
  refine SC.rows (rRow (.slice none 0 0) [] 3) (fun b hb => by cases hb) (fun w => row_nil w 3) ?_
  refine SC.loop (γ := Nat × Option Addr × Nat) (fun n g => [(0, pt r 2), (2, Value.slice none 0 0), (3, Value.slice g.2.1 g.1 g.2.2), (8, iw T.many), (9, iw (g.1 : Int))]) (fun n g => [rBlk r (rc d p T R) 86, rRow (.slice g.2.1 g.1 g.2.2) ((allV T).take g.1) 3]) (fun n g => n + g.1 = T.many.toNat ∧ ∀ b, (Value.slice g.2.1 g.1 g.2.2).ownBlock = some b → w.heap.size ≤ b) T.many.toNat (0, none, 0) ⟨rfl, fun b hb => by simp [Value.ownBlock] at hb⟩ ⟨rfl, rfl, rfl, rfl, rfl, trivial⟩ rfl ?_
  rintro n ⟨i, q, c⟩ ⟨hn, hq⟩
  simp only at hn hq
  rcases Nat.eq_zero_or_pos n with h0 | h0
  · skip
    refine SC.sr ?_
    refine SL.uu (ru_lt (b := (decide (((i : Int) : Int) < T.many))) rfl rfl rfl rfl) ?_
    refine SL.nn [(0, pt r 2), (2, Value.slice none 0 0), (3, Value.slice q i c), (8, iw T.many), (9, iw (i : Int)), (10, bo (decide (((i : Int) : Int) < T.many)))] [rBlk r (rc d p T R) 86, rRow (.slice q i c) ((allV T).take i) 3] ⟨rfl, rfl, rfl, rfl, rfl, rfl, trivial⟩ ?_
    refine SC.seq ?_
    refine SC.no (show some (Value.bool (decide (((i : Int) : Int) < T.many))) = some (Value.bool false) from congrArg (fun x => some (Value.bool x)) (decide_eq_false (by omega))) ?_
    refine SC.exit ?_
    refine SE.passe ?_
    refine SE.passe ?_
    refine SE.blke ?_
    refine SC.of_SE ?_
    refine SC.norm [(2, Value.slice none 0 0), (3, Value.slice q i c)] _ ⟨rfl, rfl, trivial⟩ rfl ?_
    refine SC.sr ?_
    refine SL.mv ?_
    refine SL.as ?_
    refine SL.nn [(2, Value.slice q i c)] _ ⟨rfl, trivial⟩ ?_
    refine SC.ret ?_
    obtain rfl : i = (allV T).length := by rw [allV_len]; omega
    rw [List.take_length]
    refine SE.res (.inl rfl) (res1 Try.results60 rfl) fun w1 hI => ⟨q, c, rfl, hI.1.get (i := 1) rfl, hq, hI.2⟩
  have hlen : ((allV T).take i).length = i := by rw [List.length_take, allV_len]; omega
  refine SC.sr ?_
  refine SL.uu (ru_lt (b := (decide (((i : Int) : Int) < T.many))) rfl rfl rfl rfl) ?_
  refine SL.nn [(0, pt r 2), (2, Value.slice none 0 0), (3, Value.slice q i c), (8, iw T.many), (9, iw (i : Int)), (10, bo (decide (((i : Int) : Int) < T.many)))] [rBlk r (rc d p T R) 86, rRow (.slice q i c) ((allV T).take i) 3] ⟨rfl, rfl, rfl, rfl, rfl, rfl, trivial⟩ ?_
  refine SC.seq ?_
  refine SC.yes (show some (Value.bool (decide (((i : Int) : Int) < T.many))) = some (Value.bool true) from congrArg (fun x => some (Value.bool x)) (decide_eq_true (by omega))) ?_
  refine SC.skip ?_
  refine SC.of_SE ?_
  refine SC.norm [(0, pt r 2), (2, Value.slice none 0 0), (3, Value.slice q i c), (8, iw T.many), (9, iw (i : Int))] _ ⟨rfl, rfl, rfl, rfl, rfl, trivial⟩ rfl ?_
  refine SC.seq ?_
  refine SC.block ?_
  refine SC.sr ?_
  refine SL.mv ?_
  refine SL.as ?_
  refine SL.nn [(0, pt r 2), (2, Value.slice none 0 0), (3, Value.slice q i c), (4, iw (i : Int)), (8, iw T.many), (9, iw (i : Int))] _ ⟨rfl, rfl, rfl, rfl, rfl, rfl, trivial⟩ ?_
  refine SC.region_mk_tail 14 [(13, Mk.row ⟨29, w, fun _ => False⟩ 1 1 [] (fun _ => [iw (T.buf (((T.first + (i : Int)) % 16).toNat))]) 3)] [] rfl rfl (by kernel_rfl) (by kernel_rfl) (by kernel_rfl) ?_
  refine SM.ru rfl rfl rfl (w_all rfl) rfl (lt_b rfl) (ru_move rfl rfl) ?_
  refine SM.ru rfl rfl rfl (w_all rfl) rfl (lt_b rfl) (ru_move rfl rfl) ?_
  refine SM.ru rfl rfl rfl (w_all rfl) rfl (lt_b rfl) (ru_move rfl rfl) ?_
  refine SM.ru rfl rfl rfl (w_all rfl) rfl (lt_b rfl) (ru_nilCheck rfl rfl) ?_
  refine SM.ru rfl rfl rfl (w_all rfl) rfl (lt_b rfl) (ru_fieldAddr (o2 := 18) fd84_1 rfl rfl rfl) ?_
  refine SM.ru rfl rfl rfl (w_all rfl) rfl (lt_b rfl) (ru_load (i := 0) (v := iw T.first) ts3 rfl rfl rfl rc_tf) ?_
  refine SM.ru rfl rfl rfl (w_all rfl) rfl (lt_b rfl) (ru_move rfl rfl) ?_
  refine SM.ru rfl rfl rfl (w_all rfl) rfl (lt_b rfl) (ru_add (r := (IntKind.i64.wrap (T.first + (i : Int)))) rfl rfl rfl rfl) ?_
  refine SM.ru rfl rfl rfl (w_all rfl) rfl (lt_b rfl) (ru_rem (r := ((T.first + (i : Int)) % 16)) rfl rfl rfl (by decide) ((at_eq hT.f (by omega)))) ?_
  refine SM.ru rfl rfl rfl (w_all rfl) rfl (lt_b rfl) (ru_nilCheck rfl rfl) ?_
  refine SM.ru rfl rfl rfl (w_all rfl) rfl (lt_b rfl) (ru_fieldAddr (o2 := 2) fd84_0 rfl rfl rfl) ?_
  refine SM.ru rfl rfl rfl (w_all rfl) rfl (lt_b rfl) (ru_indexA (o2 := 2 + (((T.first + (i : Int)) % 16).toNat) * 1) ar82 rfl rfl rfl (by omega) (by omega) rfl) ?_
  refine SM.ru rfl rfl rfl (w_all rfl) rfl (lt_b rfl) (ru_load (i := 0) (v := iw (T.buf (((T.first + (i : Int)) % 16).toNat))) ts3 rfl rfl rfl (rc_tb (by omega))) ?_
  refine SM.buildSlice (size := 1) (vals := [(0, iw (T.buf (((T.first + (i : Int)) % 16).toNat)))]) (z := [iw 0]) (cs := [iw (T.buf (((T.first + (i : Int)) % 16).toNat))]) (dp := []) (csf := fun _ => [iw (T.buf (((T.first + (i : Int)) % 16).toNat))]) rfl rfl rfl rfl (w_all rfl) rfl (lt_b rfl) rfl rfl rfl rfl Try.underlying26 (by kernel_rfl) rfl rfl (by kernel_rfl) fun b1 hb1 => ?_
  refine SM.nilL (l' := [rBlk r (rc d p T R) 86, rRow (.slice q i c) ((allV T).take i) 3, rBlk b1 [iw (T.buf (((T.first + (i : Int)) % 16).toNat))] 3]) rfl ?_
  refine SL.append_row (ri := 1) (rj := 2) (z := iw 0) (bytes := 8) rfl rfl (lt_b rfl) rfl Try.underlying26 (by kernel_rfl) rfl rfl rfl rfl rfl rfl (by first | omega | (simp; omega)) (by unfold maxLen; first | omega | (simp; omega)) (fun b hb => .inr (hq b hb)) fun q2 c3 hq4 => ?_
  refine SL.as ?_
  refine SL.nil ?_
  refine SE.blkn ?_
  refine SC.of_SE ?_
  refine SC.norm [(0, pt r 2), (2, Value.slice none 0 0), (3, Value.slice q2 (i + 1) c3), (8, iw T.many), (9, iw (i : Int))] [rBlk r (rc d p T R) 86, rRow (.slice q2 (i + 1) c3) ((allV T).take i ++ [iw (T.buf (((T.first + (i : Int)) % 16).toNat))]) 3, rBlk b1 [iw (T.buf (((T.first + (i : Int)) % 16).toNat))] 3] ⟨rfl, rfl, rfl, rfl, rfl, trivial⟩ rfl ?_
  refine SC.region ?_
  refine SL.uu (ru_add (r := (IntKind.i64.wrap ((i : Int) + 1))) rfl rfl rfl rfl) ?_
  refine SL.mv ?_
  refine SL.nil ?_
  refine SE.keep 2 ?_
  refine SE.again (n - 1) (i + 1, q2, c3) (by omega) ⟨by simp only; omega, fun b hb => (fun b hb => (hq4 b hb).elim False.elim id) b hb⟩ ⟨rfl, rfl, rfl, rfl, (congrArg (fun x => some (iw x)) (show IntKind.i64.wrap ((i : Int) + 1) = ((i + 1 : Nat) : Int) by rw [IntKind.wrap_i64]; omega)), trivial⟩ (by rw [take_snoc (allV_get (X := T) (i := i) (by omega))]; rfl) 

theorem all_r {w : World} {r d p : Nat} {T R : Line} (hR : LineOk R) (h : Blk w r (rc d p T R) 86) : Calls Try.prog 60 #[pt r 20] w fun e w' => ∃ q c, e = .returned (.slice q (allV R).length c) ∧ w'.ownsRow 0 3 1 (.slice q (allV R).length c) (allV R).length (allV R) ∧ (∀ b, (Value.slice q (allV R).length c).ownBlock = some b → w.heap.size ≤ b) ∧ Only (fun _ => False) w w' := by
  have hq := hR.f
  have hq2 := hR.m
  refine calls_sc (l0 := [rBlkRing r d p T R]) (args := [pt r 20]) (fun _ => False) Try.func60 rfl 29 Try.ntmps60 (le_b rfl) (Inv.one h) ?_
  show SC _ _ _ _ [(0, pt r 20)] [rBlkRing r d p T R]
  refine SC.sr ?_
  refine SL.as ?_
  refine SL.nn [(0, pt r 20), (2, Value.slice none 0 0)] [rBlk r (rc d p T R) 86] ⟨rfl, rfl, trivial⟩ ?_
  refine SC.sr ?_
  refine SL.as ?_
  refine SL.nn [(0, pt r 20), (2, Value.slice none 0 0), (3, Value.slice none 0 0)] _ ⟨rfl, rfl, rfl, trivial⟩ ?_
  refine SC.seq ?_
  refine SC.sr ?_
  refine SL.mv ?_
  refine SL.nk ?_
  refine SL.uu (ru_fieldAddr (o2 := 37) fd84_2 rfl rfl rfl) ?_
  refine SL.uu (ru_load (i := 0) (v := iw R.many) ts3 rfl rfl rfl rc_rm) ?_
  refine SL.mv ?_
  refine SL.nn [(0, pt r 20), (2, Value.slice none 0 0), (3, Value.slice none 0 0), (8, iw R.many), (9, iw 0)] _ ⟨rfl, rfl, rfl, rfl, rfl, trivial⟩ ?_
  refine SC.block ?_
  refine SC.rows (rRow (.slice none 0 0) [] 3) (fun b hb => by cases hb) (fun w => row_nil w 3) ?_
  refine SC.loop (γ := Nat × Option Addr × Nat) (fun n g => [(0, pt r 20), (2, Value.slice none 0 0), (3, Value.slice g.2.1 g.1 g.2.2), (8, iw R.many), (9, iw (g.1 : Int))]) (fun n g => [rBlk r (rc d p T R) 86, rRow (.slice g.2.1 g.1 g.2.2) ((allV R).take g.1) 3]) (fun n g => n + g.1 = R.many.toNat ∧ ∀ b, (Value.slice g.2.1 g.1 g.2.2).ownBlock = some b → w.heap.size ≤ b) R.many.toNat (0, none, 0) ⟨rfl, fun b hb => by simp [Value.ownBlock] at hb⟩ ⟨rfl, rfl, rfl, rfl, rfl, trivial⟩ rfl ?_
  rintro n ⟨i, q, c⟩ ⟨hn, hq⟩
  simp only at hn hq
  rcases Nat.eq_zero_or_pos n with h0 | h0
  · skip
    refine SC.sr ?_
    refine SL.uu (ru_lt (b := (decide (((i : Int) : Int) < R.many))) rfl rfl rfl rfl) ?_
    refine SL.nn [(0, pt r 20), (2, Value.slice none 0 0), (3, Value.slice q i c), (8, iw R.many), (9, iw (i : Int)), (10, bo (decide (((i : Int) : Int) < R.many)))] [rBlk r (rc d p T R) 86, rRow (.slice q i c) ((allV R).take i) 3] ⟨rfl, rfl, rfl, rfl, rfl, rfl, trivial⟩ ?_
    refine SC.seq ?_
    refine SC.no (show some (Value.bool (decide (((i : Int) : Int) < R.many))) = some (Value.bool false) from congrArg (fun x => some (Value.bool x)) (decide_eq_false (by omega))) ?_
    refine SC.exit ?_
    refine SE.passe ?_
    refine SE.passe ?_
    refine SE.blke ?_
    refine SC.of_SE ?_
    refine SC.norm [(2, Value.slice none 0 0), (3, Value.slice q i c)] _ ⟨rfl, rfl, trivial⟩ rfl ?_
    refine SC.sr ?_
    refine SL.mv ?_
    refine SL.as ?_
    refine SL.nn [(2, Value.slice q i c)] _ ⟨rfl, trivial⟩ ?_
    refine SC.ret ?_
    obtain rfl : i = (allV R).length := by rw [allV_len]; omega
    rw [List.take_length]
    refine SE.res (.inl rfl) (res1 Try.results60 rfl) fun w1 hI => ⟨q, c, rfl, hI.1.get (i := 1) rfl, hq, hI.2⟩
  have hlen : ((allV R).take i).length = i := by rw [List.length_take, allV_len]; omega
  refine SC.sr ?_
  refine SL.uu (ru_lt (b := (decide (((i : Int) : Int) < R.many))) rfl rfl rfl rfl) ?_
  refine SL.nn [(0, pt r 20), (2, Value.slice none 0 0), (3, Value.slice q i c), (8, iw R.many), (9, iw (i : Int)), (10, bo (decide (((i : Int) : Int) < R.many)))] [rBlk r (rc d p T R) 86, rRow (.slice q i c) ((allV R).take i) 3] ⟨rfl, rfl, rfl, rfl, rfl, rfl, trivial⟩ ?_
  refine SC.seq ?_
  refine SC.yes (show some (Value.bool (decide (((i : Int) : Int) < R.many))) = some (Value.bool true) from congrArg (fun x => some (Value.bool x)) (decide_eq_true (by omega))) ?_
  refine SC.skip ?_
  refine SC.of_SE ?_
  refine SC.norm [(0, pt r 20), (2, Value.slice none 0 0), (3, Value.slice q i c), (8, iw R.many), (9, iw (i : Int))] _ ⟨rfl, rfl, rfl, rfl, rfl, trivial⟩ rfl ?_
  refine SC.seq ?_
  refine SC.block ?_
  refine SC.sr ?_
  refine SL.mv ?_
  refine SL.as ?_
  refine SL.nn [(0, pt r 20), (2, Value.slice none 0 0), (3, Value.slice q i c), (4, iw (i : Int)), (8, iw R.many), (9, iw (i : Int))] _ ⟨rfl, rfl, rfl, rfl, rfl, rfl, trivial⟩ ?_
  refine SC.region_mk_tail 14 [(13, Mk.row ⟨29, w, fun _ => False⟩ 1 1 [] (fun _ => [iw (R.buf (((R.first + (i : Int)) % 16).toNat))]) 3)] [] rfl rfl (by kernel_rfl) (by kernel_rfl) (by kernel_rfl) ?_
  refine SM.ru rfl rfl rfl (w_all rfl) rfl (lt_b rfl) (ru_move rfl rfl) ?_
  refine SM.ru rfl rfl rfl (w_all rfl) rfl (lt_b rfl) (ru_move rfl rfl) ?_
  refine SM.ru rfl rfl rfl (w_all rfl) rfl (lt_b rfl) (ru_move rfl rfl) ?_
  refine SM.ru rfl rfl rfl (w_all rfl) rfl (lt_b rfl) (ru_nilCheck rfl rfl) ?_
  refine SM.ru rfl rfl rfl (w_all rfl) rfl (lt_b rfl) (ru_fieldAddr (o2 := 36) fd84_1 rfl rfl rfl) ?_
  refine SM.ru rfl rfl rfl (w_all rfl) rfl (lt_b rfl) (ru_load (i := 0) (v := iw R.first) ts3 rfl rfl rfl rc_rf) ?_
  refine SM.ru rfl rfl rfl (w_all rfl) rfl (lt_b rfl) (ru_move rfl rfl) ?_
  refine SM.ru rfl rfl rfl (w_all rfl) rfl (lt_b rfl) (ru_add (r := (IntKind.i64.wrap (R.first + (i : Int)))) rfl rfl rfl rfl) ?_
  refine SM.ru rfl rfl rfl (w_all rfl) rfl (lt_b rfl) (ru_rem (r := ((R.first + (i : Int)) % 16)) rfl rfl rfl (by decide) ((at_eq hR.f (by omega)))) ?_
  refine SM.ru rfl rfl rfl (w_all rfl) rfl (lt_b rfl) (ru_nilCheck rfl rfl) ?_
  refine SM.ru rfl rfl rfl (w_all rfl) rfl (lt_b rfl) (ru_fieldAddr (o2 := 20) fd84_0 rfl rfl rfl) ?_
  refine SM.ru rfl rfl rfl (w_all rfl) rfl (lt_b rfl) (ru_indexA (o2 := 20 + (((R.first + (i : Int)) % 16).toNat) * 1) ar82 rfl rfl rfl (by omega) (by omega) rfl) ?_
  refine SM.ru rfl rfl rfl (w_all rfl) rfl (lt_b rfl) (ru_load (i := 0) (v := iw (R.buf (((R.first + (i : Int)) % 16).toNat))) ts3 rfl rfl rfl (rc_rb (by omega))) ?_
  refine SM.buildSlice (size := 1) (vals := [(0, iw (R.buf (((R.first + (i : Int)) % 16).toNat)))]) (z := [iw 0]) (cs := [iw (R.buf (((R.first + (i : Int)) % 16).toNat))]) (dp := []) (csf := fun _ => [iw (R.buf (((R.first + (i : Int)) % 16).toNat))]) rfl rfl rfl rfl (w_all rfl) rfl (lt_b rfl) rfl rfl rfl rfl Try.underlying26 (by kernel_rfl) rfl rfl (by kernel_rfl) fun b1 hb1 => ?_
  refine SM.nilL (l' := [rBlk r (rc d p T R) 86, rRow (.slice q i c) ((allV R).take i) 3, rBlk b1 [iw (R.buf (((R.first + (i : Int)) % 16).toNat))] 3]) rfl ?_
  refine SL.append_row (ri := 1) (rj := 2) (z := iw 0) (bytes := 8) rfl rfl (lt_b rfl) rfl Try.underlying26 (by kernel_rfl) rfl rfl rfl rfl rfl rfl (by first | omega | (simp; omega)) (by unfold maxLen; first | omega | (simp; omega)) (fun b hb => .inr (hq b hb)) fun q2 c3 hq4 => ?_
  refine SL.as ?_
  refine SL.nil ?_
  refine SE.blkn ?_
  refine SC.of_SE ?_
  refine SC.norm [(0, pt r 20), (2, Value.slice none 0 0), (3, Value.slice q2 (i + 1) c3), (8, iw R.many), (9, iw (i : Int))] [rBlk r (rc d p T R) 86, rRow (.slice q2 (i + 1) c3) ((allV R).take i ++ [iw (R.buf (((R.first + (i : Int)) % 16).toNat))]) 3, rBlk b1 [iw (R.buf (((R.first + (i : Int)) % 16).toNat))] 3] ⟨rfl, rfl, rfl, rfl, rfl, trivial⟩ rfl ?_
  refine SC.region ?_
  refine SL.uu (ru_add (r := (IntKind.i64.wrap ((i : Int) + 1))) rfl rfl rfl rfl) ?_
  refine SL.mv ?_
  refine SL.nil ?_
  refine SE.keep 2 ?_
  refine SE.again (n - 1) (i + 1, q2, c3) (by omega) ⟨by simp only; omega, fun b hb => (fun b hb => (hq4 b hb).elim False.elim id) b hb⟩ ⟨rfl, rfl, rfl, rfl, (congrArg (fun x => some (iw x)) (show IntKind.i64.wrap ((i : Int) + 1) = ((i + 1 : Nat) : Int) by rw [IntKind.wrap_i64]; omega)), trivial⟩ (by rw [take_snoc (allV_get (X := R) (i := i) (by omega))]; rfl) 

end Go.Proofs.Ytghfkgcaglabpaa

/-
  What a ring's calls do, as plain functions.
-/
namespace Go.Proofs.Ytghfkgcaglabpaa
open Go.RowKit

def fillL : Nat → NicA → List Bf → Line → NicA × List Bf × Line
  | 0, A, L, R => (A, L, R)
  | n + 1, A, L, R => if (getF L).1.2 = 0 then fillL n (setRxF A (lastI R) 274).2 (getF L).2 (putL R (getF L).1.1) else (A, (getF L).2, R)
def fillF (S : RingA) : RingA :=
  let z := fillL (15 - S.R.many).toNat S.A S.L S.R
  if S.R.many < z.2.2.many then ⟨(writeF z.1 3 (lastI z.2.2)).2, z.2.1, S.T, z.2.2⟩ else ⟨z.1, z.2.1, S.T, z.2.2⟩
def beginF (S : RingA) : RingA := fillF ⟨(writeF (writeF S.A 0 2).2 0 1).2, S.L, line0, line0⟩
def freesF (L : List Bf) (l : List Int) : List Bf := l.foldl (fun L id => (freeF L id).2) L
def resetF (S : RingA) : RingA := beginF { S with L := freesF S.L (allL S.T ++ allL S.R) }
def uptoT : Nat → Int → List Bf → Line → List Bf × Line
  | 0, _, L, T => (L, T)
  | n + 1, h, L, T => if T.first = h then (L, T) else uptoT n h (freeF L (T.buf T.first.toNat)).2 (popL T)
def uptoR (A : NicA) : Nat → Int → List Bf → Line → List (Int × Bool) → List Bf × Line × List (Int × Bool)
  | 0, _, L, R, o => (L, R, o)
  | n + 1, h, L, R, o => if R.first = h then (L, R, o) else uptoR A n h (ownF L (R.buf R.first.toNat) (setF (rxR A R.first).1.1)).2 (popL R) (o ++ [(R.buf R.first.toNat, (rxR A R.first).1.2)])
def A6 (A : NicA) : NicA := { A with r := up A.r 6 0 }
def downB (A : NicA) : Bool := (bits .and .i64 (A.r 6) 4 != 0) && (A.r 1 == 0)
def pollF (S : RingA) : RingA × List (Int × Bool) :=
  if downB S.A then (resetF { S with A := A6 S.A }, [])
  else
    let x := uptoT S.T.many.toNat (S.A.r 4) S.L S.T
    let y := uptoR (A6 S.A) S.R.many.toNat (S.A.r 2) x.1 S.R []
    (fillF ⟨A6 S.A, y.1, x.2, y.2.1⟩, y.2.2)
def holdF (L : List Bf) (id : Int) : Int × List Bf := match bufAt L id with | some b => if 0 < b.refs then (0, putF L id { b with refs := b.refs + 1 }) else (7, L) | none => (7, L)
def sendF (S : RingA) (id : Int) : Int × RingA :=
  let b := seeF S.L id
  if b.2 ≠ 0 then (b.2, S) else if S.A.r 1 = 0 then (20, S) else if 15 - S.T.many = 0 then (21, S)
  else
    let x := setTxF S.A (lastI S.T) (b.1.head ++ b.1.data)
    if x.1 ≠ 0 then (x.1, { S with A := x.2 }) else (0, ⟨(writeF x.2 5 (lastI (putL S.T id))).2, (holdF S.L id).2, putL S.T id, S.R⟩)

theorem allV_one {X : Line} : ∀ u ∈ allV X, u.oneCell' = true := by
  intro u hu
  obtain ⟨x, _, rfl⟩ := List.mem_map.1 hu
  rfl
theorem all2_get {T R : Line} {i : Nat} (h : i < (allL T ++ allL R).length) : (allV T ++ allV R)[i]? = some (iw ((allL T ++ allL R).getD i 0)) := by
  have e : allV T ++ allV R = (allL T ++ allL R).map iw := by simp [allV]
  rw [e, List.getElem?_map, List.getElem?_eq_getElem h]
  simp [List.getD, List.getElem?_eq_getElem h]
theorem all2_len {T R : Line} : (allV T ++ allV R).length = (allL T ++ allL R).length := by simp [allV]
theorem frees_cons {L : List Bf} {x : Int} {l : List Int} : freesF L (x :: l) = freesF (freeF L x).2 l := rfl
theorem frees_step {L : List Bf} {l : List Int} {i : Nat} (h : i < l.length) : freesF L (l.drop i) = freesF (freeF L (l.getD i 0)).2 (l.drop (i + 1)) := by
  have e : l.drop i = l.getD i 0 :: l.drop (i + 1) := by
    rw [List.drop_eq_getElem_cons h]
    simp [List.getD, List.getElem?_eq_getElem h]
  rw [e, frees_cons]
theorem few_set {L : List Bf} (h : Few L) (k : Nat) {b : Bf} (hb : b.refs < 1000000000000000) : Few (L.set k b) := by
  intro x hx
  rcases List.mem_or_eq_of_mem_set hx with h1 | rfl
  · exact h x h1
  · exact hb
theorem bufAt_mem {L : List Bf} {id : Int} {b : Bf} (h : bufAt L id = some b) : b ∈ L := by
  unfold bufAt at h
  split at h
  · exact List.mem_of_getElem? h
  · cases h
theorem get_few {L : List Bf} (h : Few L) : Few (getF L).2 := by
  unfold getF; split
  · exact few_set h _ (by decide)
  · exact h
theorem free_few {L : List Bf} (h : Few L) (id : Int) : Few (freeF L id).2 := by
  unfold freeF; split
  · rename_i b hb
    split
    · exact few_set h _ (by have := h b (bufAt_mem hb); simp only; omega)
    · exact h
  · exact h
theorem set_few {L : List Bf} (h : Few L) (id : Int) (d : List UInt8) : Few (ownF L id (setF d)).2 := by
  unfold ownF; split
  · rename_i b hb
    split
    · exact h
    · split
      · split
        · refine few_set h _ ?_
          unfold setF; split <;> simp
        · exact h
      · exact h
  · exact h
theorem frees_few {L : List Bf} (h : Few L) (l : List Int) : Few (freesF L l) := by
  unfold freesF
  induction l generalizing L with
  | nil => exact h
  | cons x l ih => exact ih (free_few h x)
theorem fillL_ok : ∀ (n : Nat) {A : NicA} {L : List Bf} {R : Line}, NicOk A → Few L → LineOk R → R.many + n ≤ 15 → NicOk (fillL n A L R).1 ∧ Few (fillL n A L R).2.1 ∧ LineOk (fillL n A L R).2.2
  | 0, A, L, R, h1, h2, h3, _ => ⟨h1, h2, h3⟩
  | n + 1, A, L, R, h1, h2, h3, h4 => by
    unfold fillL
    split
    · exact fillL_ok n (setRx_ok h1 _ _) (get_few h2) (putL_ok h3 (by omega) _) (by simp only [putL]; omega)
    · exact ⟨h1, get_few h2, h3⟩
theorem fill_ok {S : RingA} (h : RingOk S) (hL : Few S.L) : RingOk (fillF S) ∧ Few (fillF S).L := by
  have hm := h.r.m
  obtain ⟨h1, h2, h3⟩ := fillL_ok (15 - S.R.many).toNat h.a hL h.r (by omega)
  unfold fillF
  simp only
  split
  · exact ⟨⟨write_ok h1 _ _, h.t, h3⟩, h2⟩
  · exact ⟨⟨h1, h.t, h3⟩, h2⟩
theorem begin_ok {S : RingA} (h : NicOk S.A) (hL : Few S.L) : RingOk (beginF S) ∧ Few (beginF S).L := fill_ok ⟨write_ok (write_ok h _ _) _ _, line0_ok, line0_ok⟩ hL
theorem reset_okR {S : RingA} (h : NicOk S.A) (hL : Few S.L) : RingOk (resetF S) ∧ Few (resetF S).L := begin_ok h (frees_few hL _)
theorem uptoT_ok {hd : Int} : ∀ (n : Nat) {L : List Bf} {T : Line}, Few L → LineOk T → (n : Int) ≤ T.many → Few (uptoT n hd L T).1 ∧ LineOk (uptoT n hd L T).2
  | 0, L, T, h1, h2, _ => ⟨h1, h2⟩
  | n + 1, L, T, h1, h2, h3 => by
    unfold uptoT
    split
    · exact ⟨h1, h2⟩
    · exact uptoT_ok n (free_few h1 _) (popL_ok h2 (by omega)) (by simp only [popL]; omega)
theorem uptoR_ok {A : NicA} {hd : Int} : ∀ (n : Nat) {L : List Bf} {R : Line} {o : List (Int × Bool)}, Few L → LineOk R → (n : Int) ≤ R.many → Few (uptoR A n hd L R o).1 ∧ LineOk (uptoR A n hd L R o).2.1
  | 0, L, R, o, h1, h2, _ => ⟨h1, h2⟩
  | n + 1, L, R, o, h1, h2, h3 => by
    unfold uptoR
    split
    · exact ⟨h1, h2⟩
    · exact uptoR_ok n (set_few h1 _ _) (popL_ok h2 (by omega)) (by simp only [popL]; omega)
theorem poll_ok {S : RingA} (h : RingOk S) (hL : Few S.L) : RingOk (pollF S).1 ∧ Few (pollF S).1.L := by
  unfold pollF
  split
  · exact reset_okR (read6_ok h.a) hL
  · simp only
    have hm := h.t.m
    have hm2 := h.r.m
    obtain ⟨h1, h2⟩ := uptoT_ok (hd := S.A.r 4) S.T.many.toNat hL h.t (by omega)
    obtain ⟨h3, h4⟩ := uptoR_ok (A := A6 S.A) (hd := S.A.r 2) (o := []) S.R.many.toNat h1 h.r (by omega)
    exact fill_ok ⟨read6_ok h.a, h2, h4⟩ h3

theorem hold_any {w : World} {p ab : Nat} {L : List Bf} (h : PoolAt w p ab L) (id : Int) (hm : Few L) : Calls Try.prog 39 #[pt p 0, iw id] w fun e w' => e = .returned (iw (holdF L id).1) ∧ PoolTo w p ab (holdF L id).2 w' := by
  by_cases hu : Used L id
  · obtain ⟨k, b, rfl, hk, hr⟩ := hu
    have e : holdF L (k : Int) = (0, L.set k { b with refs := b.refs + 1 }) := by
      unfold holdF; rw [bufAt_nat, hk]; simp only [if_pos hr, putF, Int.toNat_natCast]
    rw [e]
    exact (hold_in h hk hr (hm b (List.mem_of_getElem? hk))).mono (by rintro e w' ⟨rfl, h1, h2⟩; exact ⟨rfl, PoolTo.buf h1 h2⟩)
  · have e : holdF L id = (7, L) := by
      unfold holdF
      rcases not_used_cases hu with e | ⟨b, e, h0⟩
      · rw [e]
      · rw [e]; simp [h0]
    rw [e]
    exact (hold_no h hu).mono (by rintro e w' ⟨rfl, rfl⟩; exact ⟨rfl, PoolTo.same h⟩)
theorem see_sizes {w : World} {p ab : Nat} {L : List Bf} (h : PoolAt w p ab L) (id : Int) : (seeF L id).1.head.length ≤ 104 ∧ (seeF L id).1.data.length ≤ 288 := by
  unfold seeF
  split
  · rename_i b hb
    split
    · exact pool_sizes h b (bufAt_mem hb)
    · simp
  · simp
theorem RingAt.pool {w : World} {r d p ab : Nat} {F : Nat → Prop} {S : RingA} (h : RingAt w r d p ab F S) : PoolAt w p ab S.L := h.1 (rPool p ab S.L) (by simp)
theorem Inv.saw2 {X : Cx} {l : List Res} {w w' : World} {vh vd : Value} {fh fd : List UInt8} {U : TypeId} (h : Inv X w l) (h1 : OwnBytes w' 0 U vh fh) (h2 : OwnBytes w' 0 U vd fd) (h3 : ∀ b, vh.ownBlock = some b → w.heap.size ≤ b) (h4 : ∀ b, vd.ownBlock = some b → w.heap.size ≤ b) (h5 : ∀ b, vh.ownBlock = some b → vd.ownBlock = some b → False)
    (hO : Only (fun _ => False) w w') : Inv X w' (l ++ [rMine vh fh U, rMine vd fd U]) := by
  have := h.saw h1 h2 h3 h4 h5 hO
  rwa [List.append_assoc] at this
theorem ne_t {a b : Int} (h : (a != b) = true) : a ≠ b := by simpa using h
theorem ne_f {a b : Int} (h : (a != b) = false) : ¬ (a ≠ b) := by simpa using h
theorem eq_t {a b : Int} (h : (a == b) = true) : a = b := by simpa using h
theorem eq_f {a b : Int} (h : (a == b) = false) : ¬ a = b := by simpa using h
section
variable {A0 A : NicA} {L0 L : List Bf} {T R0 R : Line}
theorem fill_w (hZ : fillL (15 - R0.many).toNat A0 L0 R0 = (A, L, R)) (h : decide (R0.many < R.many) = true) : fillF ⟨A0, L0, T, R0⟩ = ⟨(writeF A 3 (lastI R)).2, L, T, R⟩ := by
  unfold fillF; simp only [hZ]; rw [if_pos (of_decide_eq_true h)]
theorem fill_n (hZ : fillL (15 - R0.many).toNat A0 L0 R0 = (A, L, R)) (h : decide (R0.many < R.many) = false) : fillF ⟨A0, L0, T, R0⟩ = ⟨A, L, T, R⟩ := by
  unfold fillF; simp only [hZ]; rw [if_neg (of_decide_eq_false h)]
theorem bne_yes {a b : Int} (h : (a != b) = true) : ¬ a = b := by simpa using h
theorem bne_no {a b : Int} (h : (a != b) = false) : a = b := by simpa using h
theorem rS_p {r d p ab b : Nat} {Q : Prop} (h : b = p ∨ b = ab) : rS r d p ab b ∨ Q := .inl (.inr (.inr h))
theorem rS_d {r d p ab : Nat} {Q : Prop} : rS r d p ab d ∨ Q := .inl (.inr (.inl rfl))
theorem rS_r {r d p ab b : Nat} {Q : Prop} (h : b = r) : rS r d p ab b ∨ Q := .inl (.inl h)
end
end Go.Proofs.Ytghfkgcaglabpaa

/-
  The document's pool as something that is known; its calls as plain functions.
-/
namespace Go.Proofs.Ytghfkgcaglabpaa
open Go.RowKit
def RefP (w : World) (r rb : Nat) (F : Nat → Prop) (L : List Bf) : Prop :=
  Blk w r [.slice (some ⟨rb, 0, none⟩) L.length L.length] 120 ∧ r ≠ rb ∧ ¬ F r ∧ ¬ F rb ∧ 1 ≤ L.length ∧ L.length ≤ 4096 ∧ (∀ b, F b → b < w.heap.size) ∧
  ∃ c, Blk w rb c 33 ∧ c.length = L.length * 3 ∧ ∀ k b, L[k]? = some b → RefBuf w c (k * 3) F b
theorem RefBuf.mono {w : World} {c : List Value} {o : Nat} {F F' : Nat → Prop} {b : Bf} (h : RefBuf w c o F b) (hF : ∀ x, x < w.heap.size → F x → F' x) : RefBuf w c o F' b := by
  obtain ⟨h0, ⟨x, n, k, h1, h2, h3⟩, ⟨y, n2, k2, h4, h5, h6⟩⟩ := h
  exact ⟨h0, ⟨x, n, k, h1, h2, fun b o n c e hn => hF b (h2.lt b o n c e hn) (h3 b o n c e hn)⟩, ⟨y, n2, k2, h4, h5, fun b o n c e hn => hF b (h5.lt b o n c e hn) (h6 b o n c e hn)⟩⟩
theorem RefP.base {w : World} {r rb : Nat} {F : Nat → Prop} {L : List Bf} (h : RefP w r rb F L) : RefAt w r rb (fun b => F b ∨ w.heap.size ≤ b) L := by
  obtain ⟨h1, h2, h3, h4, h5, h6, h7, c, h8, h9, h10⟩ := h
  have e1 := h1.lt
  have e2 := h8.lt
  exact ⟨h1, h2, fun e => e.elim h3 (fun e => by omega), fun e => e.elim h4 (fun e => by omega), h5, h6, fun b hb => .inr hb, c, h8, h9, fun k b hk => (h10 k b hk).mono (fun x _ hx => .inl hx)⟩
theorem RefP.of {w : World} {r rb : Nat} {base : Nat → Prop} {L : List Bf} (h : RefAt w r rb base L) : RefP w r rb (fun b => base b ∧ b < w.heap.size) L := by
  obtain ⟨h1, h2, h3, h4, h5, h6, h7, c, h8, h9, h10⟩ := h
  exact ⟨h1, h2, fun e => h3 e.1, fun e => h4 e.1, h5, h6, fun b hb => hb.2, c, h8, h9, fun k b hk => (h10 k b hk).mono (fun x hlt hx => ⟨hx, hlt⟩)⟩
def rRefP (r rb : Nat) (F : Nat → Prop) (L : List Bf) : Res where
  ok w := RefP w r rb F L
  fp b := b = r ∨ b = rb ∨ F b
  lt w h b hb := by
    obtain ⟨h1, h2, h3, h4, h5, h6, h7, c, h8, _⟩ := h
    rcases hb with rfl | rfl | hb
    · exact h1.lt
    · exact h8.lt
    · exact h7 b hb
  st w w' h hw := by
    obtain ⟨h1, h2, h3, h4, h5, h6, h7, c, h8, h9, h10⟩ := h
    refine ⟨by unfold Blk; rw [hw r (.inl rfl)]; exact h1, h2, h3, h4, h5, h6, fun b hb => ?_, c, by unfold Blk; rw [hw rb (.inr (.inl rfl))]; exact h8, h9, fun k b hk => ?_⟩
    · have e1 := h7 b hb
      have e2 := hw b (.inr (.inr hb))
      rw [Array.getElem?_eq_getElem e1] at e2
      exact (Array.getElem?_eq_some_iff.1 e2).1
    · obtain ⟨k0, ⟨x, n, m, k1, k2, k3⟩, ⟨y, n2, m2, k4, k5, k6⟩⟩ := h10 k b hk
      exact ⟨k0, ⟨x, n, m, k1, k2.agree k3 (fun b hb => hw b (.inr (.inr hb))), k3⟩, ⟨y, n2, m2, k4, k5.agree k6 (fun b hb => hw b (.inr (.inr hb))), k6⟩⟩
def RefPTo (w : World) (r rb : Nat) (F : Nat → Prop) (L' : List Bf) (w' : World) : Prop := ∃ F', RefP w' r rb F' L' ∧ (∀ b, F' b → F b ∨ w.heap.size ≤ b) ∧ Only (fun b => b = rb) w w'
section
variable {w w' : World} {r rb : Nat} {F F0 : Nat → Prop} {L L' : List Bf}
theorem RefPTo.same (h : RefP w r rb F L) : RefPTo w r rb F L w := ⟨F, h, fun b hb => .inl hb, Only.refl _ _⟩
theorem RefPTo.at (h : RefAt w' r rb (fun b => F b ∨ w.heap.size ≤ b) L') (k : Only (fun x => x = rb) w w') : RefPTo w r rb F L' w' := ⟨_, RefP.of h, fun b hb => hb.1, k⟩
theorem Inv.refPTo {X : Cx} {l : List Res} {i : Nat} (h : Inv X w l) (hi : l[i]? = some (rRefP r rb F L)) (hS : X.S rb ∨ X.w0.heap.size ≤ rb) (k : RefPTo w r rb F L' w') (hF : ∀ b, F b → F0 b ∨ X.w0.heap.size ≤ b) : ∃ F', Inv X w' (l.set i (rRefP r rb F' L')) ∧ ∀ b, F' b → F0 b ∨ X.w0.heap.size ≤ b := by
  obtain ⟨F', h1, h2, h3⟩ := k
  refine ⟨F', ⟨h.1.upd hi (fun b hb hlt => h3.block b hlt (fun e => hb (.inr (.inl e)))) h1 (fun b hb => ?_), h.2.trans' h3 (fun b hb => by subst hb; exact hS)⟩, fun b hb => ?_⟩
  · rcases hb with hb | hb | hb
    · exact .inl (.inl hb)
    · exact .inl (.inr (.inl hb))
    · exact (h2 b hb).imp (fun e => .inr (.inr e)) id
  · rcases h2 b hb with h4 | h4
    · exact hF b h4
    · exact .inr (Nat.le_trans h.2.size h4)
theorem refp_at {X : Cx} {l : List Res} {i : Nat} (h : Inv X w l) (hi : l[i]? = some (rRefP r rb F L)) : RefP w r rb F L := h.1.get hi
theorem rget_any (h : RefP w r rb F L) : Calls Try.prog 66 #[pt r 0] w fun e w' => e = .returned (.tuple #[iw (getF L).1.1, iw (getF L).1.2]) ∧ RefPTo w r rb F (getF L).2 w' := by
  unfold getF
  cases e : L.findIdx? (fun b => b.refs == 0) with
  | none =>
    rw [List.findIdx?_eq_none_iff] at e
    exact (rget_none h.base (fun j b _ hb => by have := e b (List.mem_of_getElem? hb); simp at this; omega)).mono (by rintro e w' ⟨rfl, rfl⟩; exact ⟨rfl, RefPTo.same h⟩)
  | some k =>
    rw [List.findIdx?_eq_some_iff_getElem] at e
    obtain ⟨hk, h1, h2⟩ := e
    have hr : L[k].refs = 0 := by simpa using h1
    exact (rget_in h.base (List.getElem?_eq_getElem hk) hr (fun j b hj hb => by
      obtain ⟨hjl, rfl⟩ := List.getElem?_eq_some_iff.1 hb
      have := h2 j hj; simp at this; omega)).mono (by rintro e w' ⟨rfl, h1, h2⟩; exact ⟨rfl, RefPTo.at h1 h2⟩)
theorem rfree_any (h : RefP w r rb F L) (id : Int) (hm : Few L) : Calls Try.prog 76 #[pt r 0, iw id] w fun e w' => e = .returned (iw (freeF L id).1) ∧ RefPTo w r rb F (freeF L id).2 w' := by
  by_cases hu : Used L id
  · obtain ⟨k, b, rfl, hk, hr⟩ := hu
    have e : freeF L (k : Int) = (0, L.set k { b with refs := b.refs - 1 }) := by
      unfold freeF; rw [bufAt_nat, hk]; simp only [if_pos hr, putF, Int.toNat_natCast]
    rw [e]
    exact (rfree_in h.base hk hr (hm b (List.mem_of_getElem? hk))).mono (by rintro e w' ⟨rfl, h1, h2⟩; exact ⟨rfl, RefPTo.at h1 h2⟩)
  · have e : freeF L id = (7, L) := by
      unfold freeF
      rcases not_used_cases hu with e | ⟨b, e, h0⟩
      · rw [e]
      · rw [e]; simp [h0]
    rw [e]
    exact (rfree_no h.base hu).mono (by rintro e w' ⟨rfl, rfl⟩; exact ⟨rfl, RefPTo.same h⟩)
theorem rhold_any (h : RefP w r rb F L) (id : Int) (hm : Few L) : Calls Try.prog 73 #[pt r 0, iw id] w fun e w' => e = .returned (iw (holdF L id).1) ∧ RefPTo w r rb F (holdF L id).2 w' := by
  by_cases hu : Used L id
  · obtain ⟨k, b, rfl, hk, hr⟩ := hu
    have e : holdF L (k : Int) = (0, L.set k { b with refs := b.refs + 1 }) := by
      unfold holdF; rw [bufAt_nat, hk]; simp only [if_pos hr, putF, Int.toNat_natCast]
    rw [e]
    exact (rhold_in h.base hk hr (hm b (List.mem_of_getElem? hk))).mono (by rintro e w' ⟨rfl, h1, h2⟩; exact ⟨rfl, RefPTo.at h1 h2⟩)
  · have e : holdF L id = (7, L) := by
      unfold holdF
      rcases not_used_cases hu with e | ⟨b, e, h0⟩
      · rw [e]
      · rw [e]; simp [h0]
    rw [e]
    exact (rhold_no h.base hu).mono (by rintro e w' ⟨rfl, rfl⟩; exact ⟨rfl, RefPTo.same h⟩)
end
end Go.Proofs.Ytghfkgcaglabpaa

/-
  The light machine: append of several elements to a row of one's own; slices.Grow and slices.Concat. No program is named here.
-/
namespace Go.Proofs.Ytghfkgcaglabpaa
open Go.RowKit
def CellsAt (w : World) (x : Value) (ys : List Value) : Prop :=
  (∃ a c, x = .slice a 0 c ∧ ys = []) ∨ ∃ (b o cap : Nat), x = .slice (some ⟨b, o, none⟩) ys.length cap ∧ ∀ j u, ys[j]? = some u → w.cell? ⟨b, o + j, none⟩ = some u
theorem BytesAt.cells {w : World} {v : Value} {f : List UInt8} (h : BytesAt w v f) : CellsAt w v (f.map bv) := by
  rcases h with ⟨a, c, h1, _, rfl⟩ | ⟨b, o, cap, rfl, h1, h2, h3⟩
  · exact .inl ⟨a, c, h1, rfl⟩
  · refine .inr ⟨b, o, cap, by simp, fun j u hj => ?_⟩
    have hjl : j < f.length := by have := (List.getElem?_eq_some_iff.1 hj).1; simpa using this
    rw [h3 j hjl]
    simp only [List.getElem?_map, List.getElem?_eq_getElem hjl, Option.map_some] at hj
    exact hj
theorem row_cells {w : World} {v : Value} {xs : List Value} {e : TypeId} (h : w.ownsRow 0 e 1 v xs.length xs) : CellsAt w v xs := by
  rcases h.2 with ⟨h1, h2⟩ | ⟨g, cap, cur, rfl, h1, h2, h3, h4, h5, h6⟩
  · exact .inl ⟨none, 0, h1, List.eq_nil_of_length_eq_zero h2⟩
  · refine .inr ⟨g, 0, cap, rfl, fun j u hj => ?_⟩
    rw [Nat.zero_add, cell_of_row _ _ _ _ _ _ h2]
    have hjl : j < xs.length := (List.getElem?_eq_some_iff.1 hj).1
    have : (cur.toList.take (xs.length * 1))[j]? = some u := by rw [h6]; exact hj
    rw [List.getElem?_take, if_pos (by omega)] at this
    simpa using this
theorem CellsAt.only {w w' : World} {x : Value} {ys : List Value} (h : CellsAt w x ys) (hO : Only (fun _ => False) w w') : CellsAt w' x ys := by
  rcases h with h | ⟨b, o, cap, rfl, h1⟩
  · exact .inl h
  · refine .inr ⟨b, o, cap, rfl, fun j u hj => ?_⟩
    have hc := h1 j u hj
    rw [hO.cell (a := ⟨b, o + j, none⟩) (block_lt_of_cell hc) id]; exact hc
section
variable {P : Program} {X : Cx} {ops : Array Oper} {Q : Exit → Act → World → Prop} {rest : List Oper} {o : Oper} {m : List (Nat × Value)} {l : List Res} {v : Value} {d k : Nat} {x y : Operand} {t t' : TypeId}
theorem run_app0_none {w : World} {e ty : TypeId} {v x : Value} {xs : List Value} {i : TypeInfo} (ht : P.underlying t = some (.slice e)) (hi : P.info? e = some i) (hv : w.ownsRow 0 e 1 v xs.length xs) {a : Option Addr} {c : Nat} (hx : x = .slice a 0 c) :
    ∃ w', (Builtin.append_ #[t, t] ty #[v, x]).run P w = .ok v w' ∧ w = w' := by
  subst hx
  refine ⟨w, ?_, rfl⟩
  rcases hv.2 with ⟨rfl, h0⟩ | ⟨g, cap, cur, rfl, _, hg, hnc, _⟩
  · cases a <;> simp [Builtin.append_, run_underlying ht, sizeOf, typeInfo, hi, Builtin.lenOf, Builtin.firstCells, loadCells, loadCellsFrom]
  · cases a <;> simp [Builtin.append_, run_underlying ht, sizeOf, typeInfo, hi, Builtin.lenOf, Builtin.firstCells, loadCells, loadCellsFrom, hnc, storeCells]
theorem run_appOwn {w : World} {e ty : TypeId} {v x z : Value} {xs ys : List Value} {bytes : Nat} (ht : P.underlying t = some (.slice e)) (hz : (P.info? e).map (fun i => (i.zero, i.size, i.bytes)) = some (some z, 1, bytes)) (hzs : z.cells.size = 1) (hu : ∀ u ∈ ys, u.oneCell' = true)
    (hv : w.ownsRow 0 e 1 v xs.length xs) (hx : CellsAt w x ys) (hb : (xs.length + ys.length) * bytes ≤ 140737488355328) (hn : xs.length + ys.length ≤ maxLen) :
    ∃ v' w', (Builtin.append_ #[t, t] ty #[v, x]).run P w = .ok v' w' ∧ w'.ownsRow 0 e 1 v' (xs ++ ys).length (xs ++ ys) ∧ Only (fun k => v.ownBlock = some k) w w' ∧ (∀ b, v'.ownBlock = some b → v.ownBlock = some b ∨ w.heap.size ≤ b) := by
  obtain ⟨i, hi, h3⟩ := map_some hz
  simp only [Prod.mk.injEq] at h3
  obtain ⟨z0, z1, z2⟩ := h3
  by_cases hys : ys = []
  · subst hys
    have hx' : ∃ a c, x = .slice a 0 c := by
      rcases hx with ⟨a, c, h, _⟩ | ⟨b, o, cap, h, _⟩
      · exact ⟨a, c, h⟩
      · exact ⟨_, _, h⟩
    obtain ⟨a, c, rfl⟩ := hx'
    obtain ⟨w', hr, rfl⟩ := run_app0_none (P := P) (ty := ty) ht hi hv rfl
    exact ⟨v, w, hr, by simpa using hv, Only.refl _ _, fun b hb => .inl hb⟩
  · have hpos : 0 < ys.length := by cases ys with | nil => exact absurd rfl hys | cons a b => simp
    rcases hx with ⟨a, c, h, h0⟩ | ⟨g2, o2, c2, rfl, hcell⟩
    · exact absurd h0 hys
    have hnews : ∀ j q, ys[j]? = some q → w.cell? ((⟨g2, o2, none⟩ : Addr).add j) = some q := by
      intro j q hj
      rw [add_at]; exact hcell j q hj
    obtain ⟨v', w', hr, hO, hG, _⟩ := run_append_own (P := P) w 0 t ty e i z 1 bytes ht hi z0 z1 z2 hzs (by decide) v xs.length xs hv ⟨g2, o2, none⟩ ys.length c2 ys (by simp) hnews hu hn hb (Nat.zero_le _)
    refine ⟨v', w', hr, by simpa using hO, grown_only hG _ (fun k h => h), ?_⟩
    rcases hv.2 with ⟨rfl, h0⟩ | ⟨g, cap, cur, rfl, _, hg, hnc, hcm, hcs, htake⟩
    · have hxs : xs = [] := List.eq_nil_of_length_eq_zero h0
      subst hxs
      have h2 := run_append_nil (P := P) w t ty e i z ht hi z0 ⟨g2, o2, none⟩ ys.length c2 ys (by simp [z1]) hnews (by omega) (by unfold maxLen at hn; simp at hn; omega) (by rw [z2]; simp at hb; omega)
      rw [hr] at h2
      injection h2 with e1
      subst e1
      exact fun b hb => .inr (by simp [Value.ownBlock] at hb; omega)
    · by_cases hroom : xs.length + ys.length ≤ cap
      · have h2 := run_append_room (P := P) w t ty e i ht hi g xs.length cap cur hg ⟨g2, o2, none⟩ ys.length c2 ys (by simp [z1]) hnews hu hroom (by rw [z1]; simp; omega)
        rw [hr] at h2
        injection h2 with e1
        subst e1
        exact fun b hb => .inl (by simpa [Value.ownBlock] using hb)
      · have holds : ∀ j q, xs[j]? = some q → w.cell? ((⟨g, 0, none⟩ : Addr).add j) = some q := World.ownsRow.cells hv (g := g) rfl
        have h2 := run_append_grow (P := P) w t ty e i z ht hi z0 ⟨g, 0, none⟩ xs.length cap xs (by simp [z1]) holds ⟨g2, o2, none⟩ ys.length c2 ys (by simp [z1]) hnews (by omega) (by unfold maxLen at hn; omega) (growslice_fits (by omega) (by rw [z2]; exact hb))
        rw [hr] at h2
        injection h2 with e1
        subst e1
        exact fun b hb => .inr (by simp [Value.ownBlock] at hb; omega)
theorem SL.append_own {e ri : Nat} {a1 a2 : Operand} {vx z : Value} {xs ys : List Value} {bytes : Nat} {q : Option Addr} {n c : Nat} (hg : o.guard = none) (hd : o.dst = some d) (hn : d < X.n) (ho : o.op = .call { callee := .builtin .append, args := #[a1, a2], argTypes := #[t, t] })
    (ht : P.underlying t = some (.slice e)) (hz : (P.info? e).map (fun i => (i.zero, i.size, i.bytes)) = some (some z, 1, bytes)) (hzs : z.cells.size = 1) (hu : ∀ u ∈ ys, u.oneCell' = true) (h1 : evM m a1 = some (.slice q n c)) (h2 : evM m a2 = some vx) (hi : l[ri]? = some (rRow (.slice q n c) xs e)) (hx : ∀ w, Inv X w l → CellsAt w vx ys)
    (hb : (xs.length + ys.length) * bytes ≤ 140737488355328) (hl : xs.length + ys.length ≤ maxLen) (hS : ∀ b, (Value.slice q n c).ownBlock = some b → X.S b ∨ X.w0.heap.size ≤ b)
    (k : ∀ (q' : Option Addr) (c' : Nat), (∀ b, (Value.slice q' (xs ++ ys).length c').ownBlock = some b → X.S b ∨ X.w0.heap.size ≤ b) → SL P X ops Q rest ((d, .slice q' (xs ++ ys).length c') :: m) (l.set ri (rRow (.slice q' (xs ++ ys).length c') (xs ++ ys) e))) : SL P X ops Q (o :: rest) m l := fun a w hf hI =>
  wpList_plain hg fun K' hK => by
    obtain ⟨v', w', hr, hO, hU, hN⟩ := run_appOwn (P := P) (ty := o.type) ht hz hzs hu (hI.1.get hi) (hx w hI) hb hl
    unfold Oper.wp
    rw [run_call_app ho (hf.ev h1) (hf.ev h2) hr]
    simp only [Oper.upon_value, hd]
    obtain ⟨q', c', rfl⟩ : ∃ q' c', v' = .slice q' (xs ++ ys).length c' := by
      rcases hO.2 with ⟨h0, h0'⟩ | ⟨g, cap, cur, rfl, _⟩
      · exact ⟨none, 0, by rw [h0, h0']⟩
      · exact ⟨some ⟨g, 0, none⟩, cap, rfl⟩
    refine hK _ _ (k q' c' (fun b hb => ?_) _ _ (hf.put hn _) (hI.upd hi hU hS hO (fun b hb => hN b hb)))
    rcases hN b hb with h | h
    · exact hS b h
    · exact .inr (Nat.le_trans hI.2.size h)
theorem grown_row {w : World} {e : TypeId} {z : Value} {n G : Nat} (hz1 : z.cells.size = 1) (hG : n ≤ G) (hGm : G ≤ maxLen) : (w.drew.alloc (.cells (#[] ++ Builtin.zeroCells z.cells n ++ Builtin.zeroCells z.cells (G - n)) e)).ownsRow 0 e 1 (.slice (some ⟨w.heap.size, 0, none⟩) 0 G) ([] : List Value).length [] := by
  refine ⟨by simp, .inr ⟨w.heap.size, G, _, rfl, Nat.zero_le _, heap_alloc_new w.drew _, Nat.zero_le _, hGm, ?_, by simp⟩⟩
  simp only [Array.size_append, size_zeroCells, hz1]
  simp; omega
end
end Go.Proofs.Ytghfkgcaglabpaa

/-
  The light machine: rows of one's own that begin anywhere in their block (what 'x = x[1:]' leaves), of elements of one cell. No program is named here.
-/
namespace Go.Proofs.Ytghfkgcaglabpaa
open Go.RowKit
def RowO (w : World) (v : Value) (xs : List Value) (e : TypeId) : Prop :=
  (v = .slice none 0 0 ∧ xs = []) ∨ ∃ g o c cur, v = .slice (some ⟨g, o, none⟩) xs.length c ∧ Blk w g cur e ∧ xs.length ≤ c ∧ c ≤ maxLen ∧ o + c ≤ cur.length ∧ (cur.drop o).take xs.length = xs
def rRowO (v : Value) (xs : List Value) (e : TypeId) : Res where
  ok w := RowO w v xs e
  fp j := v.ownBlock = some j
  lt w h b hb := by
    rcases h with ⟨rfl, _⟩ | ⟨g, o, c, cur, rfl, h, _⟩
    · cases hb
    · simp [Value.ownBlock] at hb; subst hb; exact h.lt
  st w w' h hw := by
    rcases h with h | ⟨g, o, c, cur, rfl, h, h2⟩
    · exact .inl h
    · exact .inr ⟨g, o, c, cur, rfl, by unfold Blk; rw [hw g rfl]; exact h, h2⟩
theorem rowO_nil (w : World) (e : TypeId) : RowO w (.slice none 0 0) [] e := .inl ⟨rfl, rfl⟩
theorem rowO_form {w : World} {q : Option Addr} {n c : Nat} {xs : List Value} {e : TypeId} (h : RowO w (.slice q n c) xs e) : n = xs.length := by
  rcases h with ⟨h1, rfl⟩ | ⟨g, o, c, cur, h1, _⟩
  · simp at h1; simp [h1]
  · simp at h1; exact h1.2.1
theorem ownsRow.toO {w : World} {v : Value} {xs : List Value} {e : TypeId} (h : w.ownsRow 0 e 1 v xs.length xs) : RowO w v xs e := by
  rcases h.2 with ⟨h1, h2⟩ | ⟨g, cap, cur, rfl, h1, h2, h3, h4, h5, h6⟩
  · exact .inl ⟨h1, List.eq_nil_of_length_eq_zero h2⟩
  · refine .inr ⟨g, 0, cap, cur.toList, rfl, by unfold Blk; simpa using h2, h3, h4, by rw [Array.length_toList]; omega, by rw [List.drop_zero]; simpa using h6⟩
theorem RowO.cell {w : World} {g o n c i : Nat} {xs : List Value} {e : TypeId} (h : RowO w (.slice (some ⟨g, o, none⟩) n c) xs e) {u : Value} (hu : xs[i]? = some u) : w.cell? ⟨g, o + i, none⟩ = some u := by
  rcases h with ⟨h1, rfl⟩ | ⟨g', o', c', cur, h1, hb, h2, h3, h4, h5⟩
  · simp at h1
  · simp only [Value.slice.injEq, Option.some.injEq, Addr.mk.injEq] at h1
    obtain ⟨⟨rfl, rfl, _⟩, rfl, rfl⟩ := h1
    rw [hb.cell]
    have hil : i < xs.length := (List.getElem?_eq_some_iff.1 hu).1
    rw [← h5, List.getElem?_take, if_pos hil, List.getElem?_drop] at hu
    exact hu
def offA (q : Option Addr) (i : Nat) : Addr := ⟨(q.getD ⟨0, 0, none⟩).block, (q.getD ⟨0, 0, none⟩).off + i, none⟩
section
variable {P : Program} {X : Cx} {ops : Array Oper} {Q : Exit → Act → World → Prop} {rest : List Oper} {o : Oper} {m : List (Nat × Value)} {l : List Res} {v : Value} {d k : Nat} {x y : Operand} {t t' : TypeId}
theorem ru_index_rowO {e ri : Nat} {ix : Operand} {q : Option Addr} {n c : Nat} {xs : List Value} {i : Int} {kk : IntKind} (hs : SliIs P t e 1) (ho : o.op = .indexAddr t x ix) (hx : evM m x = some (.slice q n c)) (hix : evM m ix = some (.int kk i)) (hi : l[ri]? = some (rRowO (.slice q n c) xs e))
    (h0 : 0 ≤ i) (hn : i < n) : Ru P X o m l (.pointer (some (offA q i.toNat))) := fun a w hf hI => by
  have hR : RowO w (.slice q n c) xs e := hI.1.get hi
  have en := rowO_form hR
  rcases hR with ⟨h1, rfl⟩ | ⟨g, o', c', cur, h1, _⟩
  · simp at en; omega
  · simp only [Value.slice.injEq] at h1
    obtain ⟨rfl, _, _⟩ := h1
    exact ru_indexS (P := P) (X := X) (m := m) (l := l) hs ho hx hix h0 hn (by rw [Nat.mul_one]; rfl) a w hf hI
theorem ru_load_rowO {e ri : Nat} {q : Option Addr} {n c i : Nat} {xs : List Value} {z u : Value} (ht : TySc P t z) (ho : o.op = .load t x) (hx : evM m x = some (.pointer (some (offA q i)))) (hi : l[ri]? = some (rRowO (.slice q n c) xs e)) (hu : xs[i]? = some u) : Ru P X o m l u := fun a w hf hI => by
  have hR : RowO w (.slice q n c) xs e := hI.1.get hi
  have hc : w.cell? (offA q i) = some u := by
    cases q with
    | none =>
      rcases hR with ⟨_, rfl⟩ | ⟨g, o', c', cur, h1, _⟩
      · simp at hu
      · simp at h1
    | some a =>
      obtain ⟨g, o', sp⟩ := a
      rcases id hR with ⟨h1, _⟩ | ⟨g2, o2, c', cur, h1, _⟩
      · simp at h1
      · simp only [Value.slice.injEq, Option.some.injEq, Addr.mk.injEq] at h1
        obtain ⟨⟨rfl, rfl, rfl⟩, _, _⟩ := h1
        exact RowO.cell hR hu
  unfold execOp; rw [ho]
  simp only [hf.ev hx, Instr.loadAt, Instr.sureAddr, Sem.run_bind, Sem.run_pure, Result.andThen_ok, loadVar, (ht.run w).1]
  simp [hc]
theorem run_append_roomO {w : World} (t ty e : TypeId) (i : TypeInfo) (ht : P.underlying t = some (.slice e)) (hi : P.info? e = some i) (hs1 : i.size = 1)
    (g off sLen sCap : Nat) (cur : Array Value) (hg : w.heap[g]? = some (.cells cur e (0, 0)))
    (a : Addr) (m c : Nat) (news : List Value) (hl : news.length = m) (hnews : ∀ j u, news[j]? = some u → w.cell? (a.add j) = some u) (h1 : ∀ u ∈ news, u.oneCell' = true)
    (hroom : sLen + m ≤ sCap) (hfit : off + sLen + news.length ≤ cur.size) :
    (Builtin.append_ #[t, t] ty #[.slice (some ⟨g, off, none⟩) sLen sCap, .slice (some a) m c]).run P w =
      .ok (.slice (some ⟨g, off, none⟩) (sLen + m) sCap) (w.setRow g (cur.toList.take (off + sLen) ++ news ++ cur.toList.drop (off + sLen + news.length)).toArray) := by
  have hf := run_firstCells_some (P := P) w i.size m a m c news (by rw [hs1, Nat.mul_one]; exact hl) hnews
  have hst := run_storeCells_at P g (off + sLen) e news 0 cur w hg (by simpa using hfit) h1
  rw [Nat.add_zero] at hst
  have ha : (⟨g, off, none⟩ : Addr).add (sLen * i.size) = ⟨g, off + sLen, none⟩ := by rw [add_at, hs1, Nat.mul_one]
  simp [Builtin.append_, run_underlying ht, sizeOf, typeInfo, hi, Builtin.lenOf, hroom, hf, ha, hst]
theorem run_rowO1 {w : World} {e ty : TypeId} {v u z : Value} {xs : List Value} {g2 : Nat} {bytes : Nat} (ht : P.underlying t = some (.slice e)) (hz : (P.info? e).map (fun i => (i.zero, i.size, i.bytes)) = some (some z, 1, bytes)) (hzs : z.cells.size = 1) (hu : u.oneCell' = true)
    (hv : RowO w v xs e) (hx : Blk w g2 [u] e) (hb : (xs.length + 1) * bytes ≤ 140737488355328) (hn : xs.length + 1 ≤ maxLen) :
    ∃ v' w', (Builtin.append_ #[t, t] ty #[v, sl g2 0 1 1]).run P w = .ok v' w' ∧ RowO w' v' (xs ++ [u]) e ∧ Only (fun k => v.ownBlock = some k) w w' ∧ (∀ b, v'.ownBlock = some b → v.ownBlock = some b ∨ w.heap.size ≤ b) := by
  rcases hv with ⟨rfl, rfl⟩ | ⟨g, o', c', cur, rfl, hg, h2, h3, h4, h5⟩
  · obtain ⟨v', w', h1, h2, h3, h4⟩ := run_row1 (P := P) (ty := ty) ht hz hzs hu (row_nil w e) hx (by simpa using hb) (by simpa using hn)
    exact ⟨v', w', h1, ownsRow.toO h2, h3, h4⟩
  · obtain ⟨i, hi, hh⟩ := map_some hz
    simp only [Prod.mk.injEq] at hh
    obtain ⟨z0, z1, z2⟩ := hh
    have hnews : ∀ j q, ([u] : List Value)[j]? = some q → w.cell? ((⟨g2, 0, none⟩ : Addr).add j) = some q := by
      intro j q hj
      rw [add_at, hx.cell]
      simpa using hj
    by_cases hroom : xs.length + 1 ≤ c'
    · have hr := run_append_roomO (P := P) t ty e i ht hi z1 g o' xs.length c' cur.toArray (by exact hg) ⟨g2, 0, none⟩ 1 1 [u] rfl hnews (fun q hq => by simp at hq; subst hq; exact hu) hroom (by simp; omega)
      refine ⟨_, _, hr, .inr ⟨g, o', c', _, by simp, setRow_heap w g cur.toArray _ e (0, 0) hg, by simpa using hroom, h3, ?_, ?_⟩, ⟨rfl, rfl, rfl, by simp [World.setRow], fun k' _ hk' => setRow_other w g k' _ (fun e => hk' (by rw [e]; rfl))⟩, fun b hb => .inl (by simpa [Value.ownBlock] using hb)⟩
      · simp; omega
      · have hlen : (cur.take (o' + xs.length)).length = o' + xs.length := by rw [List.length_take]; omega
        have e1 : cur.take (o' + xs.length) = cur.take o' ++ xs := by
          rw [List.take_add, h5]
        simp only [List.length_append, List.length_singleton]
        rw [List.append_assoc, e1, List.append_assoc, List.drop_left' (by rw [List.length_take]; omega), ← List.append_assoc, List.take_left' (by simp)]
    · have hr := run_append_grow (P := P) w t ty e i z ht hi z0 ⟨g, o', none⟩ xs.length c' xs (by simp [z1]) (fun j q hj => by
        rw [add_at]
        exact RowO.cell (.inr ⟨g, o', c', cur, rfl, hg, h2, h3, h4, h5⟩) hj) ⟨g2, 0, none⟩ 1 1 [u] (by simp [z1]) hnews (by omega) (by unfold maxLen at hn; omega) (growslice_fits (by omega) (by rw [z2]; exact hb))
      have hge := grownCap_ge w (xs.length + 1) c' e
      have hle := grownCap_le_maxLen w (xs.length + 1) c' e (by unfold maxLen at hn ⊢; omega)
      have hsz : (Builtin.zeroCells z.cells (grownCap w (xs.length + 1) c' e - (xs.length + 1))).toList.length = grownCap w (xs.length + 1) c' e - (xs.length + 1) := by rw [Array.length_toList, size_zeroCells, hzs, Nat.mul_one]
      refine ⟨_, _, hr, .inr ⟨w.heap.size, 0, grownCap w (xs.length + 1) c' e, xs ++ [u] ++ (Builtin.zeroCells z.cells (grownCap w (xs.length + 1) c' e - (xs.length + 1))).toList, by simp, ?_, by simpa using hge, hle, ?_, ?_⟩, ⟨rfl, rfl, rfl, by simp, fun k hk _ => heap_alloc_old w.drew _ hk⟩, fun b hb => .inr (by simp [Value.ownBlock] at hb; omega)⟩
      · have := heap_alloc_new w.drew (.cells (xs.toArray ++ #[u] ++ Builtin.zeroCells z.cells (grownCap w (xs.length + 1) c' e - (xs.length + 1))) e)
        unfold Blk
        refine Eq.trans this ?_
        congr 2
        simp
      · simp only [List.length_append, List.length_singleton, hsz]; omega
      · rw [List.drop_zero]; exact List.take_left' rfl
theorem SL.append_rowO {e ri rj : Nat} {a1 a2 : Operand} {u z : Value} {xs : List Value} {g2 bytes : Nat} {q : Option Addr} {n c : Nat} (hg : o.guard = none) (hd : o.dst = some d) (hn : d < X.n) (ho : o.op = .call { callee := .builtin .append, args := #[a1, a2], argTypes := #[t, t] })
    (ht : P.underlying t = some (.slice e)) (hz : (P.info? e).map (fun i => (i.zero, i.size, i.bytes)) = some (some z, 1, bytes)) (hzs : z.cells.size = 1) (hu : u.oneCell' = true) (h1 : evM m a1 = some (.slice q n c)) (h2 : evM m a2 = some (sl g2 0 1 1)) (hi : l[ri]? = some (rRowO (.slice q n c) xs e)) (hj : l[rj]? = some (rBlk g2 [u] e))
    (hb : (xs.length + 1) * bytes ≤ 140737488355328) (hl : xs.length + 1 ≤ maxLen) (hS : ∀ b, (Value.slice q n c).ownBlock = some b → X.S b ∨ X.w0.heap.size ≤ b)
    (k : ∀ (q' : Option Addr) (c' : Nat), (∀ b, (Value.slice q' (n + 1) c').ownBlock = some b → X.S b ∨ X.w0.heap.size ≤ b) → SL P X ops Q rest ((d, .slice q' (n + 1) c') :: m) (l.set ri (rRowO (.slice q' (n + 1) c') (xs ++ [u]) e))) : SL P X ops Q (o :: rest) m l := fun a w hf hI =>
  wpList_plain hg fun K' hK => by
    have hR : RowO w (.slice q n c) xs e := hI.1.get hi
    have en := rowO_form hR
    obtain ⟨v', w', hr, hO, hU, hN⟩ := run_rowO1 (P := P) (ty := o.type) ht hz hzs hu hR (hI.1.get hj) hb hl
    unfold Oper.wp
    rw [run_call_app ho (hf.ev h1) (hf.ev h2) hr]
    simp only [Oper.upon_value, hd]
    obtain ⟨q', c', rfl⟩ : ∃ q' c', v' = .slice q' (n + 1) c' := by
      rcases hO with ⟨_, h0⟩ | ⟨g, o', cap, cur, rfl, _⟩
      · simp at h0
      · exact ⟨_, cap, by rw [en]; simp; rfl⟩
    refine hK _ _ (k q' c' (fun b hb => ?_) _ _ (hf.put hn _) (hI.upd hi hU hS hO (fun b hb => hN b hb)))
    rcases hN b hb with h | h
    · exact hS b h
    · exact .inr (Nat.le_trans hI.2.size h)
theorem RowO.tail {w : World} {q : Option Addr} {n c : Nat} {xs : List Value} {e : TypeId} (h : RowO w (.slice q n c) xs e) (h1 : 1 ≤ n) : RowO w (.slice (if c = 1 then q else q.map (·.add (1 * 1))) (n - 1) (c - 1)) (xs.drop 1) e ∧ 1 ≤ c := by
  have en := rowO_form h
  rcases h with ⟨h2, rfl⟩ | ⟨g, o', c', cur, h2, hb, h3, h4, h5, h6⟩
  · simp at en; omega
  · simp only [Value.slice.injEq] at h2
    obtain ⟨rfl, rfl, rfl⟩ := h2
    have hdrop : (cur.drop (o' + 1)).take (xs.drop 1).length = xs.drop 1 := by
      have e2 : cur.drop (o' + 1) = (cur.drop o').drop 1 := by rw [List.drop_drop]
      rw [e2, List.length_drop, ← List.drop_take]
      rw [h6]
    by_cases hc : c = 1
    · rw [if_pos hc]
      subst hc
      have hx : xs.length = 1 := by omega
      have hx0 : xs.drop 1 = [] := List.drop_eq_nil_of_le (by omega)
      refine ⟨.inr ⟨g, o', 0, cur, by rw [hx0, hx]; rfl, hb, by rw [hx0]; simp, by simp, by omega, by rw [hx0]; simp⟩, Nat.le_refl _⟩
    · rw [if_neg hc]
      refine ⟨.inr ⟨g, o' + 1, c - 1, cur, ?_, hb, by rw [List.length_drop]; omega, by omega, by omega, hdrop⟩, by omega⟩
      rw [List.length_drop]
      simp [Addr.add]
end
end Go.Proofs.Ytghfkgcaglabpaa

/-
  A register through the ring.
-/
namespace Go.Proofs.Ytghfkgcaglabpaa
open Go.RowKit
set_option maxRecDepth 100000
set_option maxHeartbeats 4000000
theorem RingAt.of3 {X : Cx} {w : World} {r d p ab : Nat} {F : Nat → Prop} {A : NicA} {L : List Bf} {T R : Line} {l : List Res} (h : Inv X w (rBlkRing r d p T R :: rDev d F A :: rPool p ab L :: l)) : RingAt w r d p ab F ⟨A, L, T, R⟩ := h.take3
theorem readq1 {w : World} {d : Nat} {F : Nat → Prop} {A : NicA} (hk : NicOk A) (h : NicAt 99 w d F A) : Calls Try.prog 63 #[pt d 0, iw 1] w fun e w' => e = .returned (.tuple #[iw (A.r 1), iw 0]) ∧ Only (fun _ => False) w w' := by
  have hok := hk
  obtain ⟨r2, r3, r4, r5, r6, _, _, _⟩ := hok
  obtain ⟨tv, cv, hI⟩ := h.inv 27 (fun _ => False)
  refine calls_sc (l0 := _) (args := [pt d 0, iw 1]) (fun _ => False) Try.func63 rfl 27 Try.ntmps63 (le_b rfl) hI ?_
  show SC _ _ _ _ [(0, pt d 0), (1, iw 1)] [rBlk d (nc A tv cv) 99, rFrs F tv cv A.tb A.cb]
  refine SC.sr ?_
  refine SL.as ?_
  refine SL.as ?_
  refine SL.nn [(0, pt d 0), (1, iw 1), (4, iw 0), (5, iw 0)] [rBlk d (nc A tv cv) 99, rFrs F tv cv A.tb A.cb] ⟨rfl, rfl, rfl, rfl, trivial⟩ ?_
  refine SC.seq ?_
  refine SC.sr ?_
  refine SL.mv ?_
  refine SL.uu (ru_lt (b := false) rfl rfl rfl rfl) ?_
  refine SL.mv ?_
  refine SL.gg (ru_move rfl rfl) ?_
  refine SL.gg (ru_ge (b := false) rfl rfl rfl rfl) ?_
  refine SL.uu (ru_pick (u := bo true) (v := bo false) rfl rfl rfl rfl) ?_
  refine SL.nn [(0, pt d 0), (1, iw 1), (4, iw 0), (5, iw 0), (12, bo false)] _ ⟨rfl, rfl, rfl, rfl, rfl, trivial⟩ ?_
  refine SC.no rfl ?_
  refine SC.skip ?_
  refine SC.of_SE ?_
  refine SC.norm [(0, pt d 0), (1, iw 1), (4, iw 0), (5, iw 0)] _ ⟨rfl, rfl, rfl, rfl, trivial⟩ rfl ?_
  refine SC.sr ?_
  refine SL.mv ?_
  refine SL.mv ?_
  refine SL.nk ?_
  refine SL.uu (ru_fieldAddr (o2 := 0) fd99_0 rfl rfl rfl) ?_
  refine SL.uu (ru_indexA (o2 := 1) ar91 rfl rfl rfl (by decide) (by decide) rfl) ?_
  refine SL.uu (ru_load (i := 0) (v := iw (A.r 1)) ts3 rfl rfl rfl (nc_r (by decide))) ?_
  refine SL.as ?_
  refine SL.nn [(0, pt d 0), (1, iw 1), (4, iw 0), (5, iw 0), (6, iw (A.r 1))] _ ⟨rfl, rfl, rfl, rfl, rfl, trivial⟩ ?_
  refine SC.seq ?_
  refine SC.sr ?_
  refine SL.mv ?_
  refine SL.uu (ru_eq (b := false) rfl rfl rfl rfl) ?_
  refine SL.nn [(0, pt d 0), (1, iw 1), (4, iw 0), (5, iw 0), (6, iw (A.r 1)), (20, bo false)] _ ⟨rfl, rfl, rfl, rfl, rfl, rfl, trivial⟩ ?_
  refine SC.no rfl ?_
  refine SC.skip ?_
  refine SC.of_SE ?_
  refine SC.norm [(4, iw 0), (5, iw 0), (6, iw (A.r 1))] _ ⟨rfl, rfl, rfl, trivial⟩ rfl ?_
  refine SC.sr ?_
  refine SL.mv ?_
  refine SL.as ?_
  refine SL.as ?_
  refine SL.nn [(4, iw (A.r 1)), (5, iw 0)] _ ⟨rfl, rfl, trivial⟩ ?_
  refine SC.ret ?_
  refine SE.res (.inl rfl) (res2 Try.results63 rfl rfl) fun w1 hI => ⟨rfl, hI.2⟩

theorem regq1 {w : World} {r d p ab : Nat} {F : Nat → Prop} {A : NicA} {L : List Bf} {T R : Line} (hk : NicOk A) (h : RingAt w r d p ab F ⟨A, L, T, R⟩) : Calls Try.prog 34 #[pt r 0, iw 1] w fun e w' => e = .returned (iw (A.r 1)) ∧ Only (fun _ => False) w w' := by
  refine calls_sc (l0 := [rBlkRing r d p T R, rDev d F A, rPool p ab L]) (args := [pt r 0, iw 1]) (fun _ => False) Try.func34 rfl 17 Try.ntmps34 (le_b rfl) (h.inv _ _) ?_
  show SC _ _ _ _ [(0, pt r 0), (1, iw 1)] [rBlkRing r d p T R, rDev d F A, rPool p ab L]
  refine SC.sr ?_
  refine SL.as ?_
  refine SL.nn [(0, pt r 0), (1, iw 1), (4, iw 0)] [rBlk r (rc d p T R) 86, rDev d F A, rPool p ab L] ⟨rfl, rfl, rfl, trivial⟩ ?_
  refine SC.sr ?_
  refine SL.mv ?_
  refine SL.nk ?_
  refine SL.uu (ru_fieldAddr (o2 := 0) fd86_0 rfl rfl rfl) ?_
  refine SL.uu (ru_load (i := 0) (v := pt d 0) ts36 rfl rfl rfl rc_d) ?_
  refine SL.mv ?_
  refine SL.callv (Value.tuple #[iw (A.r 1), iw 0]) rfl rfl co63 rfl rfl rfl (lt_b rfl) (fun w hI => H_only hI (readq1 hk (nic_at hI (i := 1) rfl))) ?_
  refine SL.mv ?_
  refine SL.uu (ru_extract rfl rfl rfl) ?_
  refine SL.uu (ru_extract rfl rfl rfl) ?_
  refine SL.as ?_
  refine SL.as ?_
  refine SL.nn [(4, iw 0), (5, iw (A.r 1))] _ ⟨rfl, rfl, trivial⟩ ?_
  refine SC.sr ?_
  refine SL.mv ?_
  refine SL.as ?_
  refine SL.nn [(4, iw (A.r 1))] _ ⟨rfl, trivial⟩ ?_
  refine SC.ret ?_
  refine SE.res (.inl rfl) (res1 Try.results34 rfl) fun w1 hI => ⟨rfl, hI.2⟩

theorem readq2 {w : World} {d : Nat} {F : Nat → Prop} {A : NicA} (hk : NicOk A) (h : NicAt 99 w d F A) : Calls Try.prog 63 #[pt d 0, iw 2] w fun e w' => e = .returned (.tuple #[iw (A.r 2), iw 0]) ∧ Only (fun _ => False) w w' := by
  have hok := hk
  obtain ⟨r2, r3, r4, r5, r6, _, _, _⟩ := hok
  obtain ⟨tv, cv, hI⟩ := h.inv 27 (fun _ => False)
  refine calls_sc (l0 := _) (args := [pt d 0, iw 2]) (fun _ => False) Try.func63 rfl 27 Try.ntmps63 (le_b rfl) hI ?_
  show SC _ _ _ _ [(0, pt d 0), (1, iw 2)] [rBlk d (nc A tv cv) 99, rFrs F tv cv A.tb A.cb]
  refine SC.sr ?_
  refine SL.as ?_
  refine SL.as ?_
  refine SL.nn [(0, pt d 0), (1, iw 2), (4, iw 0), (5, iw 0)] [rBlk d (nc A tv cv) 99, rFrs F tv cv A.tb A.cb] ⟨rfl, rfl, rfl, rfl, trivial⟩ ?_
  refine SC.seq ?_
  refine SC.sr ?_
  refine SL.mv ?_
  refine SL.uu (ru_lt (b := false) rfl rfl rfl rfl) ?_
  refine SL.mv ?_
  refine SL.gg (ru_move rfl rfl) ?_
  refine SL.gg (ru_ge (b := false) rfl rfl rfl rfl) ?_
  refine SL.uu (ru_pick (u := bo true) (v := bo false) rfl rfl rfl rfl) ?_
  refine SL.nn [(0, pt d 0), (1, iw 2), (4, iw 0), (5, iw 0), (12, bo false)] _ ⟨rfl, rfl, rfl, rfl, rfl, trivial⟩ ?_
  refine SC.no rfl ?_
  refine SC.skip ?_
  refine SC.of_SE ?_
  refine SC.norm [(0, pt d 0), (1, iw 2), (4, iw 0), (5, iw 0)] _ ⟨rfl, rfl, rfl, rfl, trivial⟩ rfl ?_
  refine SC.sr ?_
  refine SL.mv ?_
  refine SL.mv ?_
  refine SL.nk ?_
  refine SL.uu (ru_fieldAddr (o2 := 0) fd99_0 rfl rfl rfl) ?_
  refine SL.uu (ru_indexA (o2 := 2) ar91 rfl rfl rfl (by decide) (by decide) rfl) ?_
  refine SL.uu (ru_load (i := 0) (v := iw (A.r 2)) ts3 rfl rfl rfl (nc_r (by decide))) ?_
  refine SL.as ?_
  refine SL.nn [(0, pt d 0), (1, iw 2), (4, iw 0), (5, iw 0), (6, iw (A.r 2))] _ ⟨rfl, rfl, rfl, rfl, rfl, trivial⟩ ?_
  refine SC.seq ?_
  refine SC.sr ?_
  refine SL.mv ?_
  refine SL.uu (ru_eq (b := false) rfl rfl rfl rfl) ?_
  refine SL.nn [(0, pt d 0), (1, iw 2), (4, iw 0), (5, iw 0), (6, iw (A.r 2)), (20, bo false)] _ ⟨rfl, rfl, rfl, rfl, rfl, rfl, trivial⟩ ?_
  refine SC.no rfl ?_
  refine SC.skip ?_
  refine SC.of_SE ?_
  refine SC.norm [(4, iw 0), (5, iw 0), (6, iw (A.r 2))] _ ⟨rfl, rfl, rfl, trivial⟩ rfl ?_
  refine SC.sr ?_
  refine SL.mv ?_
  refine SL.as ?_
  refine SL.as ?_
  refine SL.nn [(4, iw (A.r 2)), (5, iw 0)] _ ⟨rfl, rfl, trivial⟩ ?_
  refine SC.ret ?_
  refine SE.res (.inl rfl) (res2 Try.results63 rfl rfl) fun w1 hI => ⟨rfl, hI.2⟩

theorem regq2 {w : World} {r d p ab : Nat} {F : Nat → Prop} {A : NicA} {L : List Bf} {T R : Line} (hk : NicOk A) (h : RingAt w r d p ab F ⟨A, L, T, R⟩) : Calls Try.prog 34 #[pt r 0, iw 2] w fun e w' => e = .returned (iw (A.r 2)) ∧ Only (fun _ => False) w w' := by
  refine calls_sc (l0 := [rBlkRing r d p T R, rDev d F A, rPool p ab L]) (args := [pt r 0, iw 2]) (fun _ => False) Try.func34 rfl 17 Try.ntmps34 (le_b rfl) (h.inv _ _) ?_
  show SC _ _ _ _ [(0, pt r 0), (1, iw 2)] [rBlkRing r d p T R, rDev d F A, rPool p ab L]
  refine SC.sr ?_
  refine SL.as ?_
  refine SL.nn [(0, pt r 0), (1, iw 2), (4, iw 0)] [rBlk r (rc d p T R) 86, rDev d F A, rPool p ab L] ⟨rfl, rfl, rfl, trivial⟩ ?_
  refine SC.sr ?_
  refine SL.mv ?_
  refine SL.nk ?_
  refine SL.uu (ru_fieldAddr (o2 := 0) fd86_0 rfl rfl rfl) ?_
  refine SL.uu (ru_load (i := 0) (v := pt d 0) ts36 rfl rfl rfl rc_d) ?_
  refine SL.mv ?_
  refine SL.callv (Value.tuple #[iw (A.r 2), iw 0]) rfl rfl co63 rfl rfl rfl (lt_b rfl) (fun w hI => H_only hI (readq2 hk (nic_at hI (i := 1) rfl))) ?_
  refine SL.mv ?_
  refine SL.uu (ru_extract rfl rfl rfl) ?_
  refine SL.uu (ru_extract rfl rfl rfl) ?_
  refine SL.as ?_
  refine SL.as ?_
  refine SL.nn [(4, iw 0), (5, iw (A.r 2))] _ ⟨rfl, rfl, trivial⟩ ?_
  refine SC.sr ?_
  refine SL.mv ?_
  refine SL.as ?_
  refine SL.nn [(4, iw (A.r 2))] _ ⟨rfl, trivial⟩ ?_
  refine SC.ret ?_
  refine SE.res (.inl rfl) (res1 Try.results34 rfl) fun w1 hI => ⟨rfl, hI.2⟩

theorem readq4 {w : World} {d : Nat} {F : Nat → Prop} {A : NicA} (hk : NicOk A) (h : NicAt 99 w d F A) : Calls Try.prog 63 #[pt d 0, iw 4] w fun e w' => e = .returned (.tuple #[iw (A.r 4), iw 0]) ∧ Only (fun _ => False) w w' := by
  have hok := hk
  obtain ⟨r2, r3, r4, r5, r6, _, _, _⟩ := hok
  obtain ⟨tv, cv, hI⟩ := h.inv 27 (fun _ => False)
  refine calls_sc (l0 := _) (args := [pt d 0, iw 4]) (fun _ => False) Try.func63 rfl 27 Try.ntmps63 (le_b rfl) hI ?_
  show SC _ _ _ _ [(0, pt d 0), (1, iw 4)] [rBlk d (nc A tv cv) 99, rFrs F tv cv A.tb A.cb]
  refine SC.sr ?_
  refine SL.as ?_
  refine SL.as ?_
  refine SL.nn [(0, pt d 0), (1, iw 4), (4, iw 0), (5, iw 0)] [rBlk d (nc A tv cv) 99, rFrs F tv cv A.tb A.cb] ⟨rfl, rfl, rfl, rfl, trivial⟩ ?_
  refine SC.seq ?_
  refine SC.sr ?_
  refine SL.mv ?_
  refine SL.uu (ru_lt (b := false) rfl rfl rfl rfl) ?_
  refine SL.mv ?_
  refine SL.gg (ru_move rfl rfl) ?_
  refine SL.gg (ru_ge (b := false) rfl rfl rfl rfl) ?_
  refine SL.uu (ru_pick (u := bo true) (v := bo false) rfl rfl rfl rfl) ?_
  refine SL.nn [(0, pt d 0), (1, iw 4), (4, iw 0), (5, iw 0), (12, bo false)] _ ⟨rfl, rfl, rfl, rfl, rfl, trivial⟩ ?_
  refine SC.no rfl ?_
  refine SC.skip ?_
  refine SC.of_SE ?_
  refine SC.norm [(0, pt d 0), (1, iw 4), (4, iw 0), (5, iw 0)] _ ⟨rfl, rfl, rfl, rfl, trivial⟩ rfl ?_
  refine SC.sr ?_
  refine SL.mv ?_
  refine SL.mv ?_
  refine SL.nk ?_
  refine SL.uu (ru_fieldAddr (o2 := 0) fd99_0 rfl rfl rfl) ?_
  refine SL.uu (ru_indexA (o2 := 4) ar91 rfl rfl rfl (by decide) (by decide) rfl) ?_
  refine SL.uu (ru_load (i := 0) (v := iw (A.r 4)) ts3 rfl rfl rfl (nc_r (by decide))) ?_
  refine SL.as ?_
  refine SL.nn [(0, pt d 0), (1, iw 4), (4, iw 0), (5, iw 0), (6, iw (A.r 4))] _ ⟨rfl, rfl, rfl, rfl, rfl, trivial⟩ ?_
  refine SC.seq ?_
  refine SC.sr ?_
  refine SL.mv ?_
  refine SL.uu (ru_eq (b := false) rfl rfl rfl rfl) ?_
  refine SL.nn [(0, pt d 0), (1, iw 4), (4, iw 0), (5, iw 0), (6, iw (A.r 4)), (20, bo false)] _ ⟨rfl, rfl, rfl, rfl, rfl, rfl, trivial⟩ ?_
  refine SC.no rfl ?_
  refine SC.skip ?_
  refine SC.of_SE ?_
  refine SC.norm [(4, iw 0), (5, iw 0), (6, iw (A.r 4))] _ ⟨rfl, rfl, rfl, trivial⟩ rfl ?_
  refine SC.sr ?_
  refine SL.mv ?_
  refine SL.as ?_
  refine SL.as ?_
  refine SL.nn [(4, iw (A.r 4)), (5, iw 0)] _ ⟨rfl, rfl, trivial⟩ ?_
  refine SC.ret ?_
  refine SE.res (.inl rfl) (res2 Try.results63 rfl rfl) fun w1 hI => ⟨rfl, hI.2⟩

theorem regq4 {w : World} {r d p ab : Nat} {F : Nat → Prop} {A : NicA} {L : List Bf} {T R : Line} (hk : NicOk A) (h : RingAt w r d p ab F ⟨A, L, T, R⟩) : Calls Try.prog 34 #[pt r 0, iw 4] w fun e w' => e = .returned (iw (A.r 4)) ∧ Only (fun _ => False) w w' := by
  refine calls_sc (l0 := [rBlkRing r d p T R, rDev d F A, rPool p ab L]) (args := [pt r 0, iw 4]) (fun _ => False) Try.func34 rfl 17 Try.ntmps34 (le_b rfl) (h.inv _ _) ?_
  show SC _ _ _ _ [(0, pt r 0), (1, iw 4)] [rBlkRing r d p T R, rDev d F A, rPool p ab L]
  refine SC.sr ?_
  refine SL.as ?_
  refine SL.nn [(0, pt r 0), (1, iw 4), (4, iw 0)] [rBlk r (rc d p T R) 86, rDev d F A, rPool p ab L] ⟨rfl, rfl, rfl, trivial⟩ ?_
  refine SC.sr ?_
  refine SL.mv ?_
  refine SL.nk ?_
  refine SL.uu (ru_fieldAddr (o2 := 0) fd86_0 rfl rfl rfl) ?_
  refine SL.uu (ru_load (i := 0) (v := pt d 0) ts36 rfl rfl rfl rc_d) ?_
  refine SL.mv ?_
  refine SL.callv (Value.tuple #[iw (A.r 4), iw 0]) rfl rfl co63 rfl rfl rfl (lt_b rfl) (fun w hI => H_only hI (readq4 hk (nic_at hI (i := 1) rfl))) ?_
  refine SL.mv ?_
  refine SL.uu (ru_extract rfl rfl rfl) ?_
  refine SL.uu (ru_extract rfl rfl rfl) ?_
  refine SL.as ?_
  refine SL.as ?_
  refine SL.nn [(4, iw 0), (5, iw (A.r 4))] _ ⟨rfl, rfl, trivial⟩ ?_
  refine SC.sr ?_
  refine SL.mv ?_
  refine SL.as ?_
  refine SL.nn [(4, iw (A.r 4))] _ ⟨rfl, trivial⟩ ?_
  refine SC.ret ?_
  refine SE.res (.inl rfl) (res1 Try.results34 rfl) fun w1 hI => ⟨rfl, hI.2⟩

theorem reg6 {w : World} {r d p ab : Nat} {F : Nat → Prop} {A : NicA} {L : List Bf} {T R : Line} (hk : NicOk A) (h : RingAt w r d p ab F ⟨A, L, T, R⟩) : Calls Try.prog 34 #[pt r 0, iw 6] w fun e w' => e = .returned (iw (A.r 6)) ∧ NicTo 99 w d F (A6 A) w' := by
  refine calls_sc (l0 := [rBlkRing r d p T R, rDev d F A, rPool p ab L]) (args := [pt r 0, iw 6]) (fun b => b = d) Try.func34 rfl 17 Try.ntmps34 (le_b rfl) (h.inv _ _) ?_
  show SC _ _ _ _ [(0, pt r 0), (1, iw 6)] [rBlkRing r d p T R, rDev d F A, rPool p ab L]
  refine SC.sr ?_
  refine SL.as ?_
  refine SL.nn [(0, pt r 0), (1, iw 6), (4, iw 0)] [rBlk r (rc d p T R) 86, rDev d F A, rPool p ab L] ⟨rfl, rfl, rfl, trivial⟩ ?_
  refine SC.sr ?_
  refine SL.mv ?_
  refine SL.nk ?_
  refine SL.uu (ru_fieldAddr (o2 := 0) fd86_0 rfl rfl rfl) ?_
  refine SL.uu (ru_load (i := 0) (v := pt d 0) ts36 rfl rfl rfl rc_d) ?_
  refine SL.mv ?_
  refine SL.call (ζ := Nat → Prop) (fun F2 => Value.tuple #[iw (A.r 6), iw 0]) (fun F2 => [rBlk r (rc d p T R) 86, rDev d F2 (A6 A), rPool p ab L]) (fun F2 => ∀ b, F2 b → F b ∨ w.heap.size ≤ b) rfl rfl co63 rfl rfl rfl (lt_b rfl) (fun w hI => (p_read_6 hk (nic_at hI (i := 1) rfl)).mono fun e w2 ⟨h1, h2⟩ => by obtain ⟨F2, k1, k2⟩ := hI.nicB (F0 := F) (i := 1) rfl (.inl rfl) h2 (fun b hb => .inl hb); exact ⟨F2, h1, k1, k2⟩) ?_
  intro F2 hF2
  refine SL.mv ?_
  refine SL.uu (ru_extract rfl rfl rfl) ?_
  refine SL.uu (ru_extract rfl rfl rfl) ?_
  refine SL.as ?_
  refine SL.as ?_
  refine SL.nn [(4, iw 0), (5, iw (A.r 6))] [rBlk r (rc d p T R) 86, rDev d F2 (A6 A), rPool p ab L] ⟨rfl, rfl, trivial⟩ ?_
  refine SC.sr ?_
  refine SL.mv ?_
  refine SL.as ?_
  refine SL.nn [(4, iw (A.r 6))] _ ⟨rfl, trivial⟩ ?_
  refine SC.ret ?_
  refine SE.res (.inl rfl) (res1 Try.results34 rfl) fun w1 hI => ⟨rfl, F2, hI.1.get (i := 1) rfl, hF2, hI.2⟩

end Go.Proofs.Ytghfkgcaglabpaa

/-
  fill.
-/
namespace Go.Proofs.Ytghfkgcaglabpaa
open Go.RowKit
set_option maxRecDepth 100000
set_option maxHeartbeats 4000000
theorem fill_any {w : World} {r d p ab : Nat} {F0 : Nat → Prop} {A0 : NicA} {L0 : List Bf} {T R0 : Line} (hk : NicOk A0) (hT : LineOk T) (hR0 : LineOk R0) (hL : Few L0) (h : RingAt w r d p ab F0 ⟨A0, L0, T, R0⟩) : Calls Try.prog 59 #[pt r 0] w fun e w' => e = .returned (.tuple #[]) ∧ RingTo w r d p ab F0 (fillF ⟨A0, L0, T, R0⟩) w' := by
  have hr0 := hR0.m
  obtain ⟨Z, hZ⟩ : ∃ Z, fillL (15 - R0.many).toNat A0 L0 R0 = Z := ⟨_, rfl⟩
  refine calls_sc (l0 := [rBlkRing r d p T R0, rDev d F0 A0, rPool p ab L0]) (args := [pt r 0]) (rS r d p ab) Try.func59 rfl 56 Try.ntmps59 (le_b rfl) (h.inv _ _) ?_
  show SC _ _ _ _ [(0, pt r 0)] [rBlkRing r d p T R0, rDev d F0 A0, rPool p ab L0]
  refine SC.sr ?_
  refine SL.mv ?_
  refine SL.nk ?_
  refine SL.uu (ru_fieldAddr (o2 := 20) fd86_3 rfl rfl rfl) ?_
  refine SL.uu (ru_fieldAddr (o2 := 37) fd84_2 rfl rfl rfl) ?_
  refine SL.uu (ru_load (i := 0) (v := iw R0.many) ts3 rfl rfl rfl rc_rm) ?_
  refine SL.as ?_
  refine SL.nn [(0, pt r 0), (2, iw R0.many)] [rBlk r (rc d p T R0) 86, rDev d F0 A0, rPool p ab L0] ⟨rfl, rfl, trivial⟩ ?_
  refine SC.seq ?_
  refine SC.block ?_
  refine SC.loop (γ := (Nat → Prop) × NicA × List Bf × Line) (fun n g => [(0, pt r 0), (2, iw R0.many)]) (fun n g => [rBlk r (rc d p T g.2.2.2) 86, rDev d g.1 g.2.1, rPool p ab g.2.2.1]) (fun n g => NicOk g.2.1 ∧ Few g.2.2.1 ∧ LineOk g.2.2.2 ∧ g.2.2.2.many + (n : Int) = 15 ∧ (∀ b, g.1 b → F0 b ∨ w.heap.size ≤ b) ∧ fillL n g.2.1 g.2.2.1 g.2.2.2 = Z) (15 - R0.many).toNat (F0, A0, L0, R0) ⟨hk, hL, hR0, by simp only; omega, fun b hb => .inl hb, hZ⟩ ⟨rfl, rfl, trivial⟩ rfl ?_
  rintro n ⟨F, A, L, R⟩ ⟨hk, hL, hR, hn, hF, hZn⟩
  simp only at hk hL hR hn hF hZn
  have hrm := hR.m
  rcases n with _ | n
  · skip
    simp only [fillL] at hZn
    refine SC.seq ?_
    refine SC.sr ?_
    refine SL.mv ?_
    refine SL.nk ?_
    refine SL.uu (ru_fieldAddr (o2 := 20) fd86_3 rfl rfl rfl) ?_
    refine SL.uu (ru_fieldAddr (o2 := 37) fd84_2 rfl rfl rfl) ?_
    refine SL.uu (ru_load (i := 0) (v := iw R.many) ts3 rfl rfl rfl rc_rm) ?_
    refine SL.uu (ru_lt (b := (decide ((R.many : Int) < 15))) rfl rfl rfl rfl) ?_
    refine SL.nn [(0, pt r 0), (2, iw R0.many), (15, bo (decide ((R.many : Int) < 15)))] [rBlk r (rc d p T R) 86, rDev d F A, rPool p ab L] ⟨rfl, rfl, rfl, trivial⟩ ?_
    refine SC.no (show some (Value.bool (decide ((R.many : Int) < 15))) = some (Value.bool false) from congrArg (fun x => some (Value.bool x)) (decide_eq_false (by omega))) ?_
    refine SC.exit ?_
    refine SE.passe ?_
    refine SE.passe ?_
    refine SE.blke ?_
    refine SC.of_SE ?_
    refine SC.norm [(0, pt r 0), (2, iw R0.many)] _ ⟨rfl, rfl, trivial⟩ rfl ?_
    refine SC.sr ?_
    refine SL.mv ?_
    refine SL.nk ?_
    refine SL.uu (ru_fieldAddr (o2 := 20) fd86_3 rfl rfl rfl) ?_
    refine SL.uu (ru_fieldAddr (o2 := 37) fd84_2 rfl rfl rfl) ?_
    refine SL.uu (ru_load (i := 0) (v := iw R.many) ts3 rfl rfl rfl rc_rm) ?_
    refine SL.mv ?_
    refine SL.uu (ru_gt (b := (decide ((R0.many : Int) < R.many))) rfl rfl rfl rfl) ?_
    refine SL.nn [(0, pt r 0), (46, bo (decide ((R0.many : Int) < R.many)))] _ ⟨rfl, rfl, trivial⟩ ?_
    refine SC.both (decide ((R0.many : Int) < R.many)) rfl (fun h1 => ?_) (fun h1 => ?_)
    · skip
      refine SC.region_mk_tail 8 [(7, Mk.val (iw (lastI R)))] [] rfl rfl (by kernel_rfl) (by kernel_rfl) (by kernel_rfl) ?_
      refine SM.ru rfl rfl rfl (w_all rfl) rfl (lt_b rfl) (ru_move rfl rfl) ?_
      refine SM.ru rfl rfl rfl (w_all rfl) rfl (lt_b rfl) (ru_nilCheck rfl rfl) ?_
      refine SM.ru rfl rfl rfl (w_all rfl) rfl (lt_b rfl) (ru_fieldAddr (o2 := 0) fd86_0 rfl rfl rfl) ?_
      refine SM.ru rfl rfl rfl (w_all rfl) rfl (lt_b rfl) (ru_load (i := 0) (v := pt d 0) ts36 rfl rfl rfl rc_d) ?_
      refine SM.ru rfl rfl rfl (w_all rfl) rfl (lt_b rfl) (ru_move rfl rfl) ?_
      refine SM.ru rfl rfl rfl (w_all rfl) rfl (lt_b rfl) (ru_nilCheck rfl rfl) ?_
      refine SM.ru rfl rfl rfl (w_all rfl) rfl (lt_b rfl) (ru_fieldAddr (o2 := 20) fd86_3 rfl rfl rfl) ?_
      have hbd1 := lastI_bd R
      refine SM.call rfl rfl rfl rfl (w_all rfl) rfl (lt_b rfl) (iw (lastI R)) rfl rfl co36 rfl rfl (fun l' w hI => H_only hI (last_r hR (hI.1.get (i := 0) rfl))) ?_
      refine SM.nilL (l' := [rBlk r (rc d p T R) 86, rDev d F A, rPool p ab L]) rfl ?_
      refine SL.call (ζ := Nat → Prop) (fun F3 => iw ((writeF A 3 (lastI R)).1)) (fun F3 => [rBlk r (rc d p T R) 86, rDev d F3 ((writeF A 3 (lastI R)).2), rPool p ab L]) (fun F3 => ∀ b, F3 b → F0 b ∨ w.heap.size ≤ b) rfl rfl co40 rfl rfl rfl (lt_b rfl) (fun w hI => (p_write hk (nic_at hI (i := 1) rfl) 3 (lastI R)).mono fun e w2 ⟨h1, h2⟩ => by obtain ⟨F2, k1, k2⟩ := hI.nicB (i := 1) rfl rS_d (NicTo.of h2) hF; exact ⟨F2, h1, k1, k2⟩) ?_
      intro F3 hF3
      refine SL.nil ?_
      subst hZn
      refine SE.res (.inr rfl) (res0 Try.results59) fun w1 hI => ⟨rfl, ?_⟩
      rw [fill_w hZ h1]
      exact RingTo.fin hI hF3
    refine SC.skip ?_
    subst hZn
    refine SE.res (.inr rfl) (res0 Try.results59) fun w1 hI => ⟨rfl, ?_⟩
    rw [fill_n hZ h1]
    exact RingTo.fin hI hF
  refine SC.seq ?_
  refine SC.sr ?_
  refine SL.mv ?_
  refine SL.nk ?_
  refine SL.uu (ru_fieldAddr (o2 := 20) fd86_3 rfl rfl rfl) ?_
  refine SL.uu (ru_fieldAddr (o2 := 37) fd84_2 rfl rfl rfl) ?_
  refine SL.uu (ru_load (i := 0) (v := iw R.many) ts3 rfl rfl rfl rc_rm) ?_
  refine SL.uu (ru_lt (b := (decide ((R.many : Int) < 15))) rfl rfl rfl rfl) ?_
  refine SL.nn [(0, pt r 0), (2, iw R0.many), (15, bo (decide ((R.many : Int) < 15)))] [rBlk r (rc d p T R) 86, rDev d F A, rPool p ab L] ⟨rfl, rfl, rfl, trivial⟩ ?_
  refine SC.yes (show some (Value.bool (decide ((R.many : Int) < 15))) = some (Value.bool true) from congrArg (fun x => some (Value.bool x)) (decide_eq_true (by omega))) ?_
  refine SC.skip ?_
  refine SC.of_SE ?_
  refine SC.norm [(0, pt r 0), (2, iw R0.many)] _ ⟨rfl, rfl, trivial⟩ rfl ?_
  refine SC.block ?_
  refine SC.sr ?_
  refine SL.mv ?_
  refine SL.nk ?_
  refine SL.uu (ru_fieldAddr (o2 := 1) fd86_1 rfl rfl rfl) ?_
  refine SL.uu (ru_load (i := 0) (v := pt p 0) ts37 rfl rfl rfl rc_p) ?_
  refine SL.call (ζ := Unit) (fun _z => Value.tuple #[iw ((getF L).1.1), iw ((getF L).1.2)]) (fun _z => [rBlk r (rc d p T R) 86, rDev d F A, rPool p ab ((getF L).2)]) (fun _z => True) rfl rfl co17 rfl rfl rfl (lt_b rfl) (fun w hI => (get_any (pool_at hI (i := 2) rfl)).mono fun e w2 ⟨h1, h2⟩ => ⟨(), h1, hI.poolTo (i := 2) rfl (fun b hb => rS_p hb) h2, trivial⟩) ?_
  rintro ⟨⟩ _
  refine SL.mv ?_
  refine SL.uu (ru_extract rfl rfl rfl) ?_
  refine SL.uu (ru_extract rfl rfl rfl) ?_
  refine SL.as ?_
  refine SL.as ?_
  refine SL.nn [(0, pt r 0), (2, iw R0.many), (3, iw ((getF L).1.1)), (4, iw ((getF L).1.2))] [rBlk r (rc d p T R) 86, rDev d F A, rPool p ab ((getF L).2)] ⟨rfl, rfl, rfl, rfl, trivial⟩ ?_
  refine SC.seq ?_
  refine SC.sr ?_
  refine SL.mv ?_
  refine SL.uu (ru_ne (b := ((((getF L).1.2) : Int) != 0)) rfl rfl rfl rfl) ?_
  refine SL.nn [(0, pt r 0), (2, iw R0.many), (3, iw ((getF L).1.1)), (25, bo ((((getF L).1.2) : Int) != 0))] _ ⟨rfl, rfl, rfl, rfl, trivial⟩ ?_
  refine SC.both ((((getF L).1.2) : Int) != 0) rfl (fun h4 => ?_) (fun h4 => ?_)
  · skip
    rw [fillL, if_neg (bne_yes h4)] at hZn
    refine SC.exit ?_
    refine SE.passe ?_
    refine SE.blko (by decide) ?_
    refine SE.passe ?_
    refine SE.blke ?_
    refine SC.of_SE ?_
    refine SC.norm [(0, pt r 0), (2, iw R0.many)] _ ⟨rfl, rfl, trivial⟩ rfl ?_
    refine SC.sr ?_
    refine SL.mv ?_
    refine SL.nk ?_
    refine SL.uu (ru_fieldAddr (o2 := 20) fd86_3 rfl rfl rfl) ?_
    refine SL.uu (ru_fieldAddr (o2 := 37) fd84_2 rfl rfl rfl) ?_
    refine SL.uu (ru_load (i := 0) (v := iw R.many) ts3 rfl rfl rfl rc_rm) ?_
    refine SL.mv ?_
    refine SL.uu (ru_gt (b := (decide ((R0.many : Int) < R.many))) rfl rfl rfl rfl) ?_
    refine SL.nn [(0, pt r 0), (46, bo (decide ((R0.many : Int) < R.many)))] _ ⟨rfl, rfl, trivial⟩ ?_
    refine SC.both (decide ((R0.many : Int) < R.many)) rfl (fun h5 => ?_) (fun h5 => ?_)
    · skip
      refine SC.region_mk_tail 8 [(7, Mk.val (iw (lastI R)))] [] rfl rfl (by kernel_rfl) (by kernel_rfl) (by kernel_rfl) ?_
      refine SM.ru rfl rfl rfl (w_all rfl) rfl (lt_b rfl) (ru_move rfl rfl) ?_
      refine SM.ru rfl rfl rfl (w_all rfl) rfl (lt_b rfl) (ru_nilCheck rfl rfl) ?_
      refine SM.ru rfl rfl rfl (w_all rfl) rfl (lt_b rfl) (ru_fieldAddr (o2 := 0) fd86_0 rfl rfl rfl) ?_
      refine SM.ru rfl rfl rfl (w_all rfl) rfl (lt_b rfl) (ru_load (i := 0) (v := pt d 0) ts36 rfl rfl rfl rc_d) ?_
      refine SM.ru rfl rfl rfl (w_all rfl) rfl (lt_b rfl) (ru_move rfl rfl) ?_
      refine SM.ru rfl rfl rfl (w_all rfl) rfl (lt_b rfl) (ru_nilCheck rfl rfl) ?_
      refine SM.ru rfl rfl rfl (w_all rfl) rfl (lt_b rfl) (ru_fieldAddr (o2 := 20) fd86_3 rfl rfl rfl) ?_
      have hbd5 := lastI_bd R
      refine SM.call rfl rfl rfl rfl (w_all rfl) rfl (lt_b rfl) (iw (lastI R)) rfl rfl co36 rfl rfl (fun l' w hI => H_only hI (last_r hR (hI.1.get (i := 0) rfl))) ?_
      refine SM.nilL (l' := [rBlk r (rc d p T R) 86, rDev d F A, rPool p ab ((getF L).2)]) rfl ?_
      refine SL.call (ζ := Nat → Prop) (fun F7 => iw ((writeF A 3 (lastI R)).1)) (fun F7 => [rBlk r (rc d p T R) 86, rDev d F7 ((writeF A 3 (lastI R)).2), rPool p ab ((getF L).2)]) (fun F7 => ∀ b, F7 b → F0 b ∨ w.heap.size ≤ b) rfl rfl co40 rfl rfl rfl (lt_b rfl) (fun w hI => (p_write hk (nic_at hI (i := 1) rfl) 3 (lastI R)).mono fun e w2 ⟨h1, h2⟩ => by obtain ⟨F2, k1, k2⟩ := hI.nicB (i := 1) rfl rS_d (NicTo.of h2) hF; exact ⟨F2, h1, k1, k2⟩) ?_
      intro F7 hF7
      refine SL.nil ?_
      subst hZn
      refine SE.res (.inr rfl) (res0 Try.results59) fun w1 hI => ⟨rfl, ?_⟩
      rw [fill_w hZ h5]
      exact RingTo.fin hI hF7
    refine SC.skip ?_
    subst hZn
    refine SE.res (.inr rfl) (res0 Try.results59) fun w1 hI => ⟨rfl, ?_⟩
    rw [fill_n hZ h5]
    exact RingTo.fin hI hF
  rw [fillL, if_pos (bne_no h4)] at hZn
  refine SC.skip ?_
  refine SC.of_SE ?_
  refine SC.norm [(0, pt r 0), (2, iw R0.many), (3, iw ((getF L).1.1))] _ ⟨rfl, rfl, rfl, trivial⟩ rfl ?_
  refine SC.seq ?_
  refine SC.region_mk_tail 8 [(7, Mk.val (iw (lastI R)))] [] rfl rfl (by kernel_rfl) (by kernel_rfl) (by kernel_rfl) ?_
  refine SM.ru rfl rfl rfl (w_all rfl) rfl (lt_b rfl) (ru_move rfl rfl) ?_
  refine SM.ru rfl rfl rfl (w_all rfl) rfl (lt_b rfl) (ru_nilCheck rfl rfl) ?_
  refine SM.ru rfl rfl rfl (w_all rfl) rfl (lt_b rfl) (ru_fieldAddr (o2 := 0) fd86_0 rfl rfl rfl) ?_
  refine SM.ru rfl rfl rfl (w_all rfl) rfl (lt_b rfl) (ru_load (i := 0) (v := pt d 0) ts36 rfl rfl rfl rc_d) ?_
  refine SM.ru rfl rfl rfl (w_all rfl) rfl (lt_b rfl) (ru_move rfl rfl) ?_
  refine SM.ru rfl rfl rfl (w_all rfl) rfl (lt_b rfl) (ru_nilCheck rfl rfl) ?_
  refine SM.ru rfl rfl rfl (w_all rfl) rfl (lt_b rfl) (ru_fieldAddr (o2 := 20) fd86_3 rfl rfl rfl) ?_
  have hbd7 := lastI_bd R
  refine SM.call rfl rfl rfl rfl (w_all rfl) rfl (lt_b rfl) (iw (lastI R)) rfl rfl co36 rfl rfl (fun l' w hI => H_only hI (last_r hR (hI.1.get (i := 0) rfl))) ?_
  refine SM.nilL (l' := [rBlk r (rc d p T R) 86, rDev d F A, rPool p ab ((getF L).2)]) rfl ?_
  refine SL.call (ζ := Nat → Prop) (fun F9 => iw ((setRxF A (lastI R) 274).1)) (fun F9 => [rBlk r (rc d p T R) 86, rDev d F9 ((setRxF A (lastI R) 274).2), rPool p ab ((getF L).2)]) (fun F9 => ∀ b, F9 b → F0 b ∨ w.heap.size ≤ b) rfl rfl co79 rfl rfl rfl (lt_b rfl) (fun w hI => (p_setrx hk (nic_at hI (i := 1) rfl) (lastI R) 274).mono fun e w2 ⟨h1, h2⟩ => by obtain ⟨F2, k1, k2⟩ := hI.nicB (i := 1) rfl rS_d h2 hF; exact ⟨F2, h1, k1, k2⟩) ?_
  intro F9 hF9
  refine SL.nn [(0, pt r 0), (2, iw R0.many), (3, iw ((getF L).1.1))] [rBlk r (rc d p T R) 86, rDev d F9 ((setRxF A (lastI R) 274).2), rPool p ab ((getF L).2)] ⟨rfl, rfl, rfl, trivial⟩ ?_
  refine SC.region ?_
  refine SL.mv ?_
  refine SL.nk ?_
  refine SL.uu (ru_fieldAddr (o2 := 20) fd86_3 rfl rfl rfl) ?_
  refine SL.mv ?_
  refine SL.call (ζ := Unit) (fun _z => Value.tuple #[]) (fun _z => [rBlk r (rc d p T (putL R ((getF L).1.1))) 86, rDev d F9 ((setRxF A (lastI R) 274).2), rPool p ab ((getF L).2)]) (fun _z => True) rfl rfl co38 rfl rfl rfl (lt_b rfl) (fun w hI => (put_r hR (hI.1.get (i := 0) rfl) ((getF L).1.1)).mono fun e w2 ⟨h1, h2, h3⟩ => ⟨(), h1, hI.upd (i := 0) rfl h3 (fun b hb => rS_r hb) h2 (fun b hb => .inl hb), trivial⟩) ?_
  rintro ⟨⟩ _
  refine SL.nil ?_
  refine SE.blkn ?_
  refine SE.again n (F9, (setRxF A (lastI R) 274).2, (getF L).2, putL R ((getF L).1.1)) (by omega) ⟨(setRx_ok hk _ _), (get_few hL), (putL_ok hR (by omega) _), by simp only [putL]; omega, hF9, hZn⟩ ⟨rfl, rfl, trivial⟩ rfl

end Go.Proofs.Ytghfkgcaglabpaa

/-
  begin.
-/
namespace Go.Proofs.Ytghfkgcaglabpaa
open Go.RowKit
set_option maxRecDepth 100000
set_option maxHeartbeats 4000000
theorem begin_any {w : World} {r d p ab : Nat} {F0 : Nat → Prop} {A0 : NicA} {L0 : List Bf} {T0 R0 : Line} (hk : NicOk A0) (hL : Few L0) (h : RingAt w r d p ab F0 ⟨A0, L0, T0, R0⟩) : Calls Try.prog 61 #[pt r 0] w fun e w' => e = .returned (.tuple #[]) ∧ RingTo w r d p ab F0 (beginF ⟨A0, L0, T0, R0⟩) w' := by
  refine calls_sc (l0 := [rBlkRing r d p T0 R0, rDev d F0 A0, rPool p ab L0]) (args := [pt r 0]) (rS r d p ab) Try.func61 rfl 22 Try.ntmps61 (le_b rfl) (h.inv _ _) ?_
  show SC _ _ _ _ [(0, pt r 0)] [rBlkRing r d p T0 R0, rDev d F0 A0, rPool p ab L0]
  refine SC.sr ?_
  refine SL.mv ?_
  refine SL.nk ?_
  refine SL.uu (ru_fieldAddr (o2 := 0) fd86_0 rfl rfl rfl) ?_
  refine SL.uu (ru_load (i := 0) (v := pt d 0) ts36 rfl rfl rfl rc_d) ?_
  refine SL.call (ζ := Nat → Prop) (fun F1 => iw ((writeF A0 0 2).1)) (fun F1 => [rBlk r (rc d p T0 R0) 86, rDev d F1 ((writeF A0 0 2).2), rPool p ab L0]) (fun F1 => ∀ b, F1 b → F0 b ∨ w.heap.size ≤ b) rfl rfl co40 rfl rfl rfl (lt_b rfl) (fun w hI => (p_write hk (nic_at hI (i := 1) rfl) 0 2).mono fun e w2 ⟨h1, h2⟩ => by obtain ⟨F2, k1, k2⟩ := hI.nicB (i := 1) rfl rS_d (NicTo.of h2) (fun b hb => .inl hb); exact ⟨F2, h1, k1, k2⟩) ?_
  intro F1 hF1
  refine SL.nn [(0, pt r 0)] [rBlk r (rc d p T0 R0) 86, rDev d F1 ((writeF A0 0 2).2), rPool p ab L0] ⟨rfl, trivial⟩ ?_
  refine SC.sr ?_
  refine SL.mv ?_
  refine SL.nk ?_
  refine SL.uu (ru_fieldAddr (o2 := 0) fd86_0 rfl rfl rfl) ?_
  refine SL.uu (ru_load (i := 0) (v := pt d 0) ts36 rfl rfl rfl rc_d) ?_
  refine SL.call (ζ := Nat → Prop) (fun F2 => iw ((writeF ((writeF A0 0 2).2) 0 1).1)) (fun F2 => [rBlk r (rc d p T0 R0) 86, rDev d F2 ((writeF ((writeF A0 0 2).2) 0 1).2), rPool p ab L0]) (fun F2 => ∀ b, F2 b → F0 b ∨ w.heap.size ≤ b) rfl rfl co40 rfl rfl rfl (lt_b rfl) (fun w hI => (p_write (write_ok hk _ _) (nic_at hI (i := 1) rfl) 0 1).mono fun e w2 ⟨h1, h2⟩ => by obtain ⟨F2, k1, k2⟩ := hI.nicB (i := 1) rfl rS_d (NicTo.of h2) hF1; exact ⟨F2, h1, k1, k2⟩) ?_
  intro F2 hF2
  refine SL.nn [(0, pt r 0)] [rBlk r (rc d p T0 R0) 86, rDev d F2 ((writeF ((writeF A0 0 2).2) 0 1).2), rPool p ab L0] ⟨rfl, trivial⟩ ?_
  refine SC.sr ?_
  refine SL.mv ?_
  refine SL.mv ?_
  refine SL.uu (ru_build (vals := []) (cells := [iw 0, iw 0, iw 0, iw 0, iw 0, iw 0, iw 0, iw 0, iw 0, iw 0, iw 0, iw 0, iw 0, iw 0, iw 0, iw 0, iw 0, iw 0]) rfl rfl (by kernel_rfl)) ?_
  refine SL.uu (ru_build (vals := []) (cells := [iw 0, iw 0, iw 0, iw 0, iw 0, iw 0, iw 0, iw 0, iw 0, iw 0, iw 0, iw 0, iw 0, iw 0, iw 0, iw 0, iw 0, iw 0]) rfl rfl (by kernel_rfl)) ?_
  refine SL.nk ?_
  refine SL.uu (ru_fieldAddr (o2 := 2) fd86_2 rfl rfl rfl) ?_
  refine SL.storea (i := 0) (vs := lz) (c' := (rc d p line0 R0)) rfl rfl ta84 rfl rfl rfl rfl rfl rfl (by rw [rc_len]; decide) (.inl (.inl rfl)) set_tl ?_
  refine SL.nk ?_
  refine SL.uu (ru_fieldAddr (o2 := 20) fd86_3 rfl rfl rfl) ?_
  refine SL.storea (i := 0) (vs := lz) (c' := (rc d p line0 line0)) rfl rfl ta84 rfl rfl rfl rfl rfl rfl (by rw [rc_len]; decide) (.inl (.inl rfl)) set_rl ?_
  refine SL.nn [(0, pt r 0)] [rBlk r (rc d p line0 line0) 86, rDev d F2 ((writeF ((writeF A0 0 2).2) 0 1).2), rPool p ab L0] ⟨rfl, trivial⟩ ?_
  refine SC.region ?_
  refine SL.mv ?_
  refine SL.call (ζ := Nat → Prop) (fun F3 => Value.tuple #[]) (fun F3 => [rBlk r (rc d p ((fillF ⟨(writeF ((writeF A0 0 2).2) 0 1).2, L0, line0, line0⟩).T) ((fillF ⟨(writeF ((writeF A0 0 2).2) 0 1).2, L0, line0, line0⟩).R)) 86, rDev d F3 ((fillF ⟨(writeF ((writeF A0 0 2).2) 0 1).2, L0, line0, line0⟩).A), rPool p ab ((fillF ⟨(writeF ((writeF A0 0 2).2) 0 1).2, L0, line0, line0⟩).L)]) (fun F3 => ∀ b, F3 b → F0 b ∨ w.heap.size ≤ b) rfl rfl co59 rfl rfl rfl (lt_b rfl) (fun w hI => (fill_any (write_ok (write_ok hk _ _) _ _) line0_ok line0_ok hL (RingAt.of3 hI)).mono fun e w2 ⟨h1, h2⟩ => by obtain ⟨F2, k1, k2⟩ := hI.ring3 (S := ⟨(writeF ((writeF A0 0 2).2) 0 1).2, L0, line0, line0⟩) (fun b hb => .inl hb) h2 hF2; exact ⟨F2, h1, k1, k2⟩) ?_
  intro F3 hF3
  refine SL.nil ?_
  refine SE.res (.inr rfl) (res0 Try.results61) fun w1 hI => ⟨rfl, RingTo.fin hI hF3⟩

end Go.Proofs.Ytghfkgcaglabpaa

/-
  Sending, Coming.
-/
namespace Go.Proofs.Ytghfkgcaglabpaa
open Go.RowKit
set_option maxRecDepth 100000
set_option maxHeartbeats 4000000
theorem sending_any {w : World} {r d p ab : Nat} {F0 : Nat → Prop} {A0 : NicA} {L0 : List Bf} {T0 R0 : Line} (hT0 : LineOk T0) (hR0 : LineOk R0) (h : RingAt w r d p ab F0 ⟨A0, L0, T0, R0⟩) : Calls Try.prog 21 #[pt r 0] w fun e w' => ∃ q c, e = .returned (.slice q (allV T0).length c) ∧ w'.ownsRow 0 3 1 (.slice q (allV T0).length c) (allV T0).length (allV T0) ∧ (∀ b, (Value.slice q (allV T0).length c).ownBlock = some b → w.heap.size ≤ b) ∧ Only (fun _ => False) w w' := by
  refine calls_sc (l0 := [rBlkRing r d p T0 R0, rDev d F0 A0, rPool p ab L0]) (args := [pt r 0]) (fun _ => False) Try.func21 rfl 7 Try.ntmps21 (le_b rfl) (h.inv _ _) ?_
  show SC _ _ _ _ [(0, pt r 0)] [rBlkRing r d p T0 R0, rDev d F0 A0, rPool p ab L0]
  refine SC.sr ?_
  refine SL.as ?_
  refine SL.nn [(0, pt r 0), (2, Value.slice none 0 0)] [rBlk r (rc d p T0 R0) 86, rDev d F0 A0, rPool p ab L0] ⟨rfl, rfl, trivial⟩ ?_
  refine SC.sr ?_
  refine SL.mv ?_
  refine SL.nk ?_
  refine SL.uu (ru_fieldAddr (o2 := 2) fd86_2 rfl rfl rfl) ?_
  refine SL.mk (Mk.ints ⟨7, w, fun _ => False⟩ (allV T0) 3) (w_all rfl) rfl co60 rfl rfl rfl (lt_b rfl) (fun l' w hI => (all_t hT0 (hI.1.get (i := 0) rfl)).mono fun e w2 ⟨q, c, h1, h2, h3, h4⟩ => ⟨_, h1, ⟨q, c, fun b hb => Nat.le_trans hI.2.size (h3 b hb), rfl⟩, hI.add h4 h2 h3⟩) ?_
  rintro _ ⟨q1, c2, hq1, rfl⟩
  refine SL.norm [(0, pt r 0), (2, Value.slice none 0 0), (3, pt r 0), (4, pt r 0), (5, pt r 2), (6, Value.slice q1 ((allV T0).length) c2)] [rBlk r (rc d p T0 R0) 86, rDev d F0 A0, rPool p ab L0, rRow (.slice q1 ((allV T0).length) c2) (allV T0) 3] ⟨rfl, rfl, rfl, rfl, rfl, rfl, trivial⟩ rfl ?_
  refine SL.as ?_
  refine SL.nn [(2, Value.slice q1 ((allV T0).length) c2)] _ ⟨rfl, trivial⟩ ?_
  refine SC.ret ?_
  refine SE.res (.inl rfl) (res1 Try.results21 rfl) fun w1 hI => ⟨q1, c2, rfl, hI.1.get (i := 3) rfl, hq1, hI.2⟩

theorem coming_any {w : World} {r d p ab : Nat} {F0 : Nat → Prop} {A0 : NicA} {L0 : List Bf} {T0 R0 : Line} (hT0 : LineOk T0) (hR0 : LineOk R0) (h : RingAt w r d p ab F0 ⟨A0, L0, T0, R0⟩) : Calls Try.prog 24 #[pt r 0] w fun e w' => ∃ q c, e = .returned (.slice q (allV R0).length c) ∧ w'.ownsRow 0 3 1 (.slice q (allV R0).length c) (allV R0).length (allV R0) ∧ (∀ b, (Value.slice q (allV R0).length c).ownBlock = some b → w.heap.size ≤ b) ∧ Only (fun _ => False) w w' := by
  refine calls_sc (l0 := [rBlkRing r d p T0 R0, rDev d F0 A0, rPool p ab L0]) (args := [pt r 0]) (fun _ => False) Try.func24 rfl 7 Try.ntmps24 (le_b rfl) (h.inv _ _) ?_
  show SC _ _ _ _ [(0, pt r 0)] [rBlkRing r d p T0 R0, rDev d F0 A0, rPool p ab L0]
  refine SC.sr ?_
  refine SL.as ?_
  refine SL.nn [(0, pt r 0), (2, Value.slice none 0 0)] [rBlk r (rc d p T0 R0) 86, rDev d F0 A0, rPool p ab L0] ⟨rfl, rfl, trivial⟩ ?_
  refine SC.sr ?_
  refine SL.mv ?_
  refine SL.nk ?_
  refine SL.uu (ru_fieldAddr (o2 := 20) fd86_3 rfl rfl rfl) ?_
  refine SL.mk (Mk.ints ⟨7, w, fun _ => False⟩ (allV R0) 3) (w_all rfl) rfl co60 rfl rfl rfl (lt_b rfl) (fun l' w hI => (all_r hR0 (hI.1.get (i := 0) rfl)).mono fun e w2 ⟨q, c, h1, h2, h3, h4⟩ => ⟨_, h1, ⟨q, c, fun b hb => Nat.le_trans hI.2.size (h3 b hb), rfl⟩, hI.add h4 h2 h3⟩) ?_
  rintro _ ⟨q1, c2, hq1, rfl⟩
  refine SL.norm [(0, pt r 0), (2, Value.slice none 0 0), (3, pt r 0), (4, pt r 0), (5, pt r 20), (6, Value.slice q1 ((allV R0).length) c2)] [rBlk r (rc d p T0 R0) 86, rDev d F0 A0, rPool p ab L0, rRow (.slice q1 ((allV R0).length) c2) (allV R0) 3] ⟨rfl, rfl, rfl, rfl, rfl, rfl, trivial⟩ rfl ?_
  refine SL.as ?_
  refine SL.nn [(2, Value.slice q1 ((allV R0).length) c2)] _ ⟨rfl, trivial⟩ ?_
  refine SC.ret ?_
  refine SE.res (.inl rfl) (res1 Try.results24 rfl) fun w1 hI => ⟨q1, c2, rfl, hI.1.get (i := 3) rfl, hq1, hI.2⟩

end Go.Proofs.Ytghfkgcaglabpaa

/-
  What was sent is let go.
-/
namespace Go.Proofs.Ytghfkgcaglabpaa
open Go.RowKit
set_option maxRecDepth 100000
set_option maxHeartbeats 4000000
theorem poll1_any {w : World} {r d p ab : Nat} {F0 : Nat → Prop} {A0 : NicA} {L0 : List Bf} {T0 R0 : Line} {c : Nat} (hL : Few L0) (h : Sep w [rBlkRing r d p T0 R0, rDev d F0 A0, rPool p ab L0, rBlk c [pt r 0] 38]) (at' id : Int) : Calls Try.prog 56 #[iw at', iw id, pt c 0] w fun e w' => e = .returned (.tuple #[]) ∧ PoolTo w p ab (freeF L0 id).2 w' := by
  refine calls_sc (l0 := [rBlkRing r d p T0 R0, rDev d F0 A0, rPool p ab L0, rBlk c [pt r 0] 38]) (args := [iw at', iw id, pt c 0]) (fun b => b = p ∨ b = ab) Try.func56 rfl 11 Try.ntmps56 (le_b rfl) ⟨h, Only.refl _ _⟩ ?_
  show SC _ _ _ _ [(0, iw at'), (1, iw id), (2, pt c 0)] [rBlkRing r d p T0 R0, rDev d F0 A0, rPool p ab L0, rBlk c [pt r 0] 38]
  refine SC.region ?_
  refine SL.uu (ru_load (i := 3) ts38 rfl rfl rfl rfl) ?_
  refine SL.nk ?_
  refine SL.uu (ru_fieldAddr (o2 := 1) fd86_1 rfl rfl rfl) ?_
  refine SL.uu (ru_load (i := 0) (v := pt p 0) ts37 rfl rfl rfl rc_p) ?_
  refine SL.mv ?_
  refine SL.call (ζ := Unit) (fun _z => iw ((freeF L0 id).1)) (fun _z => [rBlk r (rc d p T0 R0) 86, rDev d F0 A0, rPool p ab ((freeF L0 id).2), rBlk c [pt r 0] 38]) (fun _z => True) rfl rfl co26 rfl rfl rfl (lt_b rfl) (fun w hI => (free_any (pool_at hI (i := 2) rfl) id hL).mono fun e w2 ⟨h1, h2⟩ => ⟨(), h1, hI.poolTo (i := 2) rfl (fun b hb => .inl hb) h2, trivial⟩) ?_
  rintro ⟨⟩ _
  refine SL.nil ?_
  refine SE.res (.inr rfl) (res0 Try.results56) fun w1 hI => ⟨rfl, ⟨hI.1.get (i := 2) rfl, hI.2⟩⟩

theorem upto1_any {w : World} {r d p ab : Nat} {F0 : Nat → Prop} {A0 : NicA} {L0 : List Bf} {T0 R0 : Line} {c : Nat} (hT0 : LineOk T0) (hR0 : LineOk R0) (hL : Few L0) (h : Sep w [rBlkRing r d p T0 R0, rDev d F0 A0, rPool p ab L0, rBlk c [pt r 0] 38]) (hd : Int) : Calls Try.prog 55 #[pt r 2, iw hd, Value.func (.func 56) #[] #[pt c 0]] w fun e w' => e = .returned (.tuple #[]) ∧ RingTo w r d p ab F0 ⟨A0, (uptoT T0.many.toNat hd L0 T0).1, (uptoT T0.many.toNat hd L0 T0).2, R0⟩ w' := by
  have ht0 := hT0.m
  obtain ⟨Z, hZ⟩ : ∃ Z, uptoT T0.many.toNat hd L0 T0 = Z := ⟨_, rfl⟩
  refine calls_sc (l0 := [rBlkRing r d p T0 R0, rDev d F0 A0, rPool p ab L0, rBlk c [pt r 0] 38]) (args := [pt r 2, iw hd, Value.func (.func 56) #[] #[pt c 0]]) (rS r d p ab) Try.func55 rfl 47 Try.ntmps55 (le_b rfl) ⟨h, Only.refl _ _⟩ ?_
  show SC _ _ _ _ [(0, pt r 2), (1, iw hd), (2, Value.func (.func 56) #[] #[pt c 0])] [rBlkRing r d p T0 R0, rDev d F0 A0, rPool p ab L0, rBlk c [pt r 0] 38]
  refine SC.block ?_
  refine SC.loop (γ := List Bf × Line) (fun n g => [(0, pt r 2), (1, iw hd), (2, Value.func (.func 56) #[] #[pt c 0])]) (fun n g => [rBlk r (rc d p g.2 R0) 86, rDev d F0 A0, rPool p ab g.1, rBlk c [pt r 0] 38]) (fun n g => Few g.1 ∧ LineOk g.2 ∧ g.2.many = (n : Int) ∧ uptoT n hd g.1 g.2 = Z) T0.many.toNat (L0, T0) ⟨hL, hT0, by simp only; omega, hZ⟩ ⟨rfl, rfl, rfl, trivial⟩ rfl ?_
  rintro n ⟨L, T⟩ ⟨hL, hT, hn, hZn⟩
  simp only at hL hT hn hZn
  have htf := hT.f
  have htm := hT.m
  rcases n with _ | n
  · skip
    simp only [uptoT] at hZn
    refine SC.seq ?_
    refine SC.sr ?_
    refine SL.mv ?_
    refine SL.nk ?_
    refine SL.uu (ru_fieldAddr (o2 := 19) fd84_2 rfl rfl rfl) ?_
    refine SL.uu (ru_load (i := 0) (v := iw T.many) ts3 rfl rfl rfl rc_tm) ?_
    refine SL.uu (ru_gt (b := false) rfl rfl rfl (decide_eq_false (by omega))) ?_
    refine SL.mv ?_
    refine SL.oo ?_
    refine SL.oo ?_
    refine SL.oo ?_
    refine SL.oo ?_
    refine SL.oo ?_
    refine SL.oo ?_
    refine SL.uu (ru_pick (u := undef) (v := bo false) rfl rfl rfl rfl) ?_
    refine SL.nn [(0, pt r 2), (1, iw hd), (2, Value.func (.func 56) #[] #[pt c 0]), (19, bo false)] [rBlk r (rc d p T R0) 86, rDev d F0 A0, rPool p ab L, rBlk c [pt r 0] 38] ⟨rfl, rfl, rfl, rfl, trivial⟩ ?_
    refine SC.no rfl ?_
    refine SC.exit ?_
    refine SE.passe ?_
    refine SE.passe ?_
    refine SE.blke ?_
    subst hZn
    rw [hZ]
    refine SE.res (.inr rfl) (res0 Try.results55) fun w1 hI => ⟨rfl, RingTo.fin hI (fun b hb => .inl hb)⟩
  refine SC.seq ?_
  refine SC.sr ?_
  refine SL.mv ?_
  refine SL.nk ?_
  refine SL.uu (ru_fieldAddr (o2 := 19) fd84_2 rfl rfl rfl) ?_
  refine SL.uu (ru_load (i := 0) (v := iw T.many) ts3 rfl rfl rfl rc_tm) ?_
  refine SL.uu (ru_gt (b := true) rfl rfl rfl (decide_eq_true (by omega))) ?_
  refine SL.mv ?_
  refine SL.gg (ru_move rfl rfl) ?_
  refine SL.gg (ru_nilCheck rfl rfl) ?_
  refine SL.gg (ru_fieldAddr (o2 := 18) fd84_1 rfl rfl rfl) ?_
  refine SL.gg (ru_load (i := 0) (v := iw T.first) ts3 rfl rfl rfl rc_tf) ?_
  refine SL.gg (ru_move rfl rfl) ?_
  refine SL.gg (ru_ne (b := ((T.first : Int) != hd)) rfl rfl rfl rfl) ?_
  refine SL.uu (ru_pick (u := bo ((T.first : Int) != hd)) (v := bo false) rfl rfl rfl rfl) ?_
  refine SL.nn [(0, pt r 2), (1, iw hd), (2, Value.func (.func 56) #[] #[pt c 0]), (19, bo ((T.first : Int) != hd))] [rBlk r (rc d p T R0) 86, rDev d F0 A0, rPool p ab L, rBlk c [pt r 0] 38] ⟨rfl, rfl, rfl, rfl, trivial⟩ ?_
  refine SC.both ((T.first : Int) != hd) rfl (fun h1 => ?_) (fun h1 => ?_)
  · skip
    rw [uptoT, if_neg (bne_yes h1)] at hZn
    refine SC.skip ?_
    refine SC.of_SE ?_
    refine SC.norm [(0, pt r 2), (1, iw hd), (2, Value.func (.func 56) #[] #[pt c 0])] _ ⟨rfl, rfl, rfl, trivial⟩ rfl ?_
    refine SC.block ?_
    refine SC.sr ?_
    refine SL.mv ?_
    refine SL.nk ?_
    refine SL.uu (ru_fieldAddr (o2 := 18) fd84_1 rfl rfl rfl) ?_
    refine SL.uu (ru_load (i := 0) (v := iw T.first) ts3 rfl rfl rfl rc_tf) ?_
    refine SL.as ?_
    refine SL.nn [(0, pt r 2), (1, iw hd), (2, Value.func (.func 56) #[] #[pt c 0]), (6, iw T.first)] _ ⟨rfl, rfl, rfl, rfl, trivial⟩ ?_
    refine SC.sr ?_
    refine SL.mv ?_
    refine SL.mv ?_
    refine SL.mv ?_
    refine SL.uu (ru_add (r := (IntKind.i64.wrap (T.first + 1))) rfl rfl rfl rfl) ?_
    refine SL.uu (ru_rem (r := ((T.first + 1) % 16)) rfl rfl rfl (by decide) ((at_eq hT.f (by omega)))) ?_
    refine SL.mv ?_
    refine SL.nk ?_
    refine SL.uu (ru_fieldAddr (o2 := 19) fd84_2 rfl rfl rfl) ?_
    refine SL.uu (ru_load (i := 0) (v := iw T.many) ts3 rfl rfl rfl rc_tm) ?_
    refine SL.uu (ru_sub (r := (T.many - 1)) rfl rfl rfl ((dec_eq hT.m))) ?_
    refine SL.nk ?_
    refine SL.uu (ru_fieldAddr (o2 := 18) fd84_1 rfl rfl rfl) ?_
    refine SL.store (i := 0) (c' := (rc d p ({ T with first := (T.first + 1) % 16 }) R0)) rfl rfl ts3 rfl rfl rfl rfl rfl (by rw [rc_len]; omega) (.inl (.inl rfl)) (set_tf ((T.first + 1) % 16)) ?_
    refine SL.nk ?_
    refine SL.uu (ru_fieldAddr (o2 := 19) fd84_2 rfl rfl rfl) ?_
    refine SL.store (i := 0) (c' := (rc d p ({ T with first := (T.first + 1) % 16, many := T.many - 1 }) R0)) rfl rfl ts3 rfl rfl rfl rfl rfl (by rw [rc_len]; omega) (.inl (.inl rfl)) (set_tm (T.many - 1)) ?_
    refine SL.nn [(0, pt r 2), (1, iw hd), (2, Value.func (.func 56) #[] #[pt c 0]), (6, iw T.first)] [rBlk r (rc d p ({ T with first := (T.first + 1) % 16, many := T.many - 1 }) R0) 86, rDev d F0 A0, rPool p ab L, rBlk c [pt r 0] 38] ⟨rfl, rfl, rfl, rfl, trivial⟩ ?_
    refine SC.region ?_
    refine SL.mv ?_
    refine SL.mv ?_
    refine SL.mv ?_
    refine SL.mv ?_
    refine SL.nk ?_
    refine SL.uu (ru_fieldAddr (o2 := 2) fd84_0 rfl rfl rfl) ?_
    refine SL.uu (ru_indexA (o2 := 2 + T.first.toNat * 1) ar82 rfl rfl rfl (by omega) (by omega) rfl) ?_
    refine SL.uu (ru_load (i := 0) (v := iw (T.buf T.first.toNat)) ts3 rfl rfl rfl (rc_tb (by omega))) ?_
    refine SL.call (ζ := Unit) (fun _z => Value.tuple #[]) (fun _z => [rBlk r (rc d p ({ T with first := (T.first + 1) % 16, many := T.many - 1 }) R0) 86, rDev d F0 A0, rPool p ab ((freeF L (T.buf T.first.toNat)).2), rBlk c [pt r 0] 38]) (fun _z => True) rfl rfl co56 rfl rfl rfl (lt_b rfl) (fun w hI => (poll1_any hL hI.take4 T.first (T.buf T.first.toNat)).mono fun e w2 ⟨h1, h2⟩ => ⟨(), h1, hI.poolTo (i := 2) rfl (fun b hb => rS_p hb) h2, trivial⟩) ?_
    rintro ⟨⟩ _
    refine SL.nil ?_
    refine SE.blkn ?_
    refine SE.again n ((freeF L (T.buf T.first.toNat)).2, popL T) (by omega) ⟨(free_few hL _), popL_ok hT (by omega), by simp only [popL]; omega, hZn⟩ ⟨rfl, rfl, rfl, trivial⟩ rfl
  rw [uptoT, if_pos (bne_no h1)] at hZn
  refine SC.exit ?_
  refine SE.passe ?_
  refine SE.passe ?_
  refine SE.blke ?_
  subst hZn
  rw [hZ]
  refine SE.res (.inr rfl) (res0 Try.results55) fun w1 hI => ⟨rfl, RingTo.fin hI (fun b hb => .inl hb)⟩

end Go.Proofs.Ytghfkgcaglabpaa

/-
  What came is taken.
-/
namespace Go.Proofs.Ytghfkgcaglabpaa
open Go.RowKit
set_option maxRecDepth 100000
set_option maxHeartbeats 4000000
def comeV (o : List (Int × Bool)) : List (List Value) := o.map fun x => [iw x.1, bo x.2]
theorem comeV_len {o : List (Int × Bool)} : (comeV o).length = o.length := by simp [comeV]
theorem comeV_snoc {o : List (Int × Bool)} {x : Int} {y : Bool} : comeV o ++ [[iw x, bo y]] = comeV (o ++ [(x, y)]) := by simp [comeV]
def zR (p ab oc : Nat) (v : Value) : Nat → Prop := fun b => b = p ∨ b = ab ∨ b = oc ∨ v.ownBlock = some b

theorem zR_in {r d p ab c oc cc : Nat} {F0 : Nat → Prop} {A0 : NicA} {L0 : List Bf} {T0 R0 : Line} {q : Option Addr} {o : List (Int × Bool)} : ∀ b, zR p ab oc (.slice q o.length cc) b → ∃ q' ∈ [rBlkRing r d p T0 R0, rDev d F0 A0, rPool p ab L0, rBlk c [pt r 0] 38, rBlk oc [.slice q o.length cc] 61, rRowN (.slice q o.length cc) (comeV o) 67 2], q'.fp b := fun b hb => by
  rcases hb with e | e | e | e
  · exact ⟨rPool p ab L0, by simp, .inl e⟩
  · exact ⟨rPool p ab L0, by simp, .inr e⟩
  · exact ⟨rBlk oc [.slice q o.length cc] 61, by simp, e⟩
  · exact ⟨rRowN (.slice q o.length cc) (comeV o) 67 2, by simp, e⟩

theorem poll2_any {w : World} {r d p ab : Nat} {F0 : Nat → Prop} {A0 : NicA} {L0 : List Bf} {T0 R0 : Line} {c oc cc : Nat} {q : Option Addr} {o : List (Int × Bool)} (hk : NicOk A0) (hL : Few L0) (ho : o.length ≤ 100) (h : Sep w [rBlkRing r d p T0 R0, rDev d F0 A0, rPool p ab L0, rBlk c [pt r 0] 38, rBlk oc [.slice q o.length cc] 61, rRowN (.slice q o.length cc) (comeV o) 67 2]) (at' id : Int) : Calls Try.prog 57 #[iw at', iw id, pt c 0, pt oc 0] w fun e w' => e = .returned (.tuple #[]) ∧ ∃ q' c', (∀ b, (Value.slice q' (o ++ [(id, (rxR A0 at').1.2)]).length c').ownBlock = some b → zR p ab oc (.slice q o.length cc) b ∨ w.heap.size ≤ b) ∧ Turns (zR p ab oc (.slice q o.length cc)) [rBlkRing r d p T0 R0, rDev d F0 A0, rPool p ab L0, rBlk c [pt r 0] 38, rBlk oc [.slice q o.length cc] 61, rRowN (.slice q o.length cc) (comeV o) 67 2] [rBlkRing r d p T0 R0, rDev d F0 A0, rPool p ab ((ownF L0 id (setF (rxR A0 at').1.1)).2), rBlk c [pt r 0] 38, rBlk oc [.slice q' ((o ++ [(id, (rxR A0 at').1.2)]).length) c'] 61, rRowN (.slice q' ((o ++ [(id, (rxR A0 at').1.2)]).length) c') (comeV (o ++ [(id, (rxR A0 at').1.2)])) 67 2] w w' := by
  have hz : ∀ b, zR p ab oc (.slice q o.length cc) b → ∃ q' ∈ [rBlkRing r d p T0 R0, rDev d F0 A0, rPool p ab L0, rBlk c [pt r 0] 38, rBlk oc [.slice q o.length cc] 61, rRowN (.slice q o.length cc) (comeV o) 67 2], q'.fp b := zR_in
  refine calls_sc (l0 := [rBlkRing r d p T0 R0, rDev d F0 A0, rPool p ab L0, rBlk c [pt r 0] 38, rBlk oc [.slice q o.length cc] 61, rRowN (.slice q o.length cc) (comeV o) 67 2]) (args := [iw at', iw id, pt c 0, pt oc 0]) (zR p ab oc (.slice q o.length cc)) Try.func57 rfl 32 Try.ntmps57 (le_b rfl) ⟨h, Only.refl _ _⟩ ?_
  show SC _ _ _ _ [(0, iw at'), (1, iw id), (2, pt c 0), (3, pt oc 0)] [rBlkRing r d p T0 R0, rDev d F0 A0, rPool p ab L0, rBlk c [pt r 0] 38, rBlk oc [.slice q o.length cc] 61, rRowN (.slice q o.length cc) (comeV o) 67 2]
  refine SC.sr ?_
  refine SL.uu (ru_load (i := 3) ts38 rfl rfl rfl rfl) ?_
  refine SL.nk ?_
  refine SL.uu (ru_fieldAddr (o2 := 0) fd86_0 rfl rfl rfl) ?_
  refine SL.uu (ru_load (i := 0) (v := pt d 0) ts36 rfl rfl rfl rc_d) ?_
  refine SL.mv ?_
  refine SL.mk (Mk.rx ⟨32, w, zR p ab oc (.slice q o.length cc)⟩ (rxR A0 at').1.1 (rxR A0 at').1.2 (rxR A0 at').2 5) (w_all rfl) rfl co58 rfl rfl rfl (lt_b rfl) (fun l' w hI => (p_rx hk (nic_at hI (i := 1) rfl) at').mono fun e w2 ⟨v, h1, h3, h4⟩ => by obtain ⟨qa, qc, rfl, k1, k2⟩ := hI.rxed (rx_len hk _) h3 h4; exact ⟨_, h1, ⟨qa, qc, k2, rfl⟩, k1⟩) ?_
  rintro _ ⟨q1, c2, hq1, rfl⟩
  refine SL.norm [(0, iw at'), (1, iw id), (2, pt c 0), (3, pt oc 0), (10, pt r 0), (11, pt r 0), (12, pt r 0), (13, pt d 0), (14, iw at'), (15, Value.tuple #[Value.slice q1 ((rxR A0 at').1.1.length) c2, bo ((rxR A0 at').1.2), iw ((rxR A0 at').2)])] [rBlk r (rc d p T0 R0) 86, rDev d F0 A0, rPool p ab L0, rBlk c [pt r 0] 38, rBlk oc [Value.slice q o.length cc] 61, rRowN (.slice q o.length cc) (comeV o) 67 2, rMine (.slice q1 ((rxR A0 at').1.1).length c2) ((rxR A0 at').1.1) 5] ⟨rfl, rfl, rfl, rfl, rfl, rfl, rfl, rfl, rfl, rfl, trivial⟩ rfl ?_
  refine SL.mv ?_
  refine SL.uu (ru_extract rfl rfl rfl) ?_
  refine SL.uu (ru_extract rfl rfl rfl) ?_
  refine SL.uu (ru_extract rfl rfl rfl) ?_
  refine SL.as ?_
  refine SL.as ?_
  refine SL.as ?_
  refine SL.nn [(1, iw id), (2, pt c 0), (3, pt oc 0), (6, Value.slice q1 ((rxR A0 at').1.1.length) c2), (7, bo ((rxR A0 at').1.2))] _ ⟨rfl, rfl, rfl, rfl, rfl, trivial⟩ ?_
  refine SC.sr ?_
  refine SL.uu (ru_load (i := 3) ts38 rfl rfl rfl rfl) ?_
  refine SL.nk ?_
  refine SL.uu (ru_fieldAddr (o2 := 1) fd86_1 rfl rfl rfl) ?_
  refine SL.uu (ru_load (i := 0) (v := pt p 0) ts37 rfl rfl rfl rc_p) ?_
  refine SL.mv ?_
  refine SL.mv ?_
  refine SL.call (ζ := Unit) (fun _z => iw ((ownF L0 id (setF ((rxR A0 at').1.1))).1)) (fun _z => [rBlk r (rc d p T0 R0) 86, rDev d F0 A0, rPool p ab ((ownF L0 id (setF ((rxR A0 at').1.1))).2), rBlk c [pt r 0] 38, rBlk oc [Value.slice q o.length cc] 61, rRowN (.slice q o.length cc) (comeV o) 67 2, rMine (.slice q1 ((rxR A0 at').1.1).length c2) ((rxR A0 at').1.1) 5]) (fun _z => True) rfl rfl co18 rfl rfl rfl (lt_b rfl) (fun w hI => (set_any (pool_at hI (i := 2) rfl) id (mine_bytes hI (j := 6) rfl (rx_len hk _)) ((mineIn hI (j := 6) (i := 2) rfl rfl (by decide)).mono (fun b hb e => hb (.inr e)))).mono fun e w2 ⟨h1, h2⟩ => ⟨(), h1, hI.poolTo (i := 2) rfl (fun b hb => .inl (hb.elim (fun e => .inl e) (fun e => .inr (.inl e)))) h2, trivial⟩) ?_
  rintro ⟨⟩ _
  refine SL.nn [(1, iw id), (3, pt oc 0), (7, bo ((rxR A0 at').1.2))] [rBlk r (rc d p T0 R0) 86, rDev d F0 A0, rPool p ab ((ownF L0 id (setF ((rxR A0 at').1.1))).2), rBlk c [pt r 0] 38, rBlk oc [Value.slice q o.length cc] 61, rRowN (.slice q o.length cc) (comeV o) 67 2, rMine (.slice q1 ((rxR A0 at').1.1).length c2) ((rxR A0 at').1.1) 5] ⟨rfl, rfl, rfl, trivial⟩ ?_
  refine SC.region ?_
  refine SL.uu (ru_load (i := 4) ts61 rfl rfl rfl rfl) ?_
  refine SL.mv ?_
  refine SL.mv ?_
  refine SL.uu (ru_build (vals := [(0, iw id), (1, bo ((rxR A0 at').1.2))]) (cells := [iw id, bo ((rxR A0 at').1.2)]) rfl rfl (by kernel_rfl)) ?_
  refine SL.buildSlice (size := 2) (vals := [(0, Value.agg #[iw id, bo ((rxR A0 at').1.2)])]) (z := [iw 0, bo false]) (cs := [iw id, bo ((rxR A0 at').1.2)]) rfl rfl (lt_b rfl) rfl Try.underlying61 (by kernel_rfl) rfl rfl (by kernel_rfl) fun b3 hb3 => ?_
  refine SL.append_rowN (ri := 5) (rj := 7) (size := 2) (r := [iw id, bo ((rxR A0 at').1.2)]) (z := Value.agg #[iw 0, bo false]) (bytes := 16) rfl rfl (lt_b rfl) rfl (by decide) Try.underlying61 (by kernel_rfl) rfl rfl rfl rfl rfl rfl rfl (by rw [comeV_len]; omega) (by unfold maxLen; rw [comeV_len]; omega) (fun b hb => .inl (.inr (.inr (.inr hb)))) fun q4 c5 hq6 => ?_
  refine SL.store (i := 4) (c' := [Value.slice q4 (o.length + 1) c5]) rfl rfl ts61 rfl rfl rfl rfl rfl (lt_b rfl) (.inl (.inr (.inr (.inl rfl)))) rfl ?_
  refine SL.nil ?_
  refine SE.res (.inr rfl) (res0 Try.results57) fun w1 hI => ⟨rfl, q4, c5, ?_⟩
  have h6 := hI.take6
  rw [comeV_snoc] at h6
  have ho : o.length + 1 = (o ++ [(id, (rxR A0 at').1.2)]).length := by simp
  rw [ho] at h6 hq6
  refine ⟨hq6, h6, hI.2, fun q' hq' b hb => ?_⟩
  simp only [List.mem_cons, List.not_mem_nil, or_false] at hq'
  rcases hq' with rfl | rfl | rfl | rfl | rfl | rfl
  · exact .inl ⟨rBlkRing r d p T0 R0, by simp, hb⟩
  · exact .inl ⟨rDev d F0 A0, by simp, hb⟩
  · exact .inl ⟨rPool p ab L0, by simp, hb⟩
  · exact .inl ⟨rBlk c [pt r 0] 38, by simp, hb⟩
  · exact .inl ⟨rBlk oc [.slice q o.length cc] 61, by simp, hb⟩
  · exact (hq6 b hb).imp (hz b) (fun e => e)

theorem zU_in {r d p ab c oc : Nat} {F0 : Nat → Prop} {A0 : NicA} {L0 : List Bf} {T0 R0 : Line} {b : Nat} (hb : rS r d p ab b ∨ b = oc) : ∃ q' ∈ [rBlkRing r d p T0 R0, rDev d F0 A0, rPool p ab L0, rBlk c [pt r 0] 38, rBlk oc [.slice none 0 0] 61], q'.fp b := by
  rcases hb with (e | e | e | e) | e
  · exact ⟨rBlkRing r d p T0 R0, by simp, e⟩
  · exact ⟨rDev d F0 A0, by simp, .inl e⟩
  · exact ⟨rPool p ab L0, by simp, .inl e⟩
  · exact ⟨rPool p ab L0, by simp, .inr e⟩
  · exact ⟨rBlk oc [.slice none 0 0] 61, by simp, e⟩

theorem zR_out {w : World} {r d p ab oc n cc : Nat} {q : Option Addr} (hq : ∀ b, (Value.slice q n cc).ownBlock = some b → (rS r d p ab b ∨ b = oc) ∨ w.heap.size ≤ b) : ∀ b, zR p ab oc (.slice q n cc) b → (rS r d p ab b ∨ b = oc) ∨ w.heap.size ≤ b := fun b hb => by
  rcases hb with e | e | e | e
  · exact .inl (.inl (.inr (.inr (.inl e))))
  · exact .inl (.inl (.inr (.inr (.inr e))))
  · exact .inl (.inr e)
  · exact hq b e

theorem upto2_any {w : World} {r d p ab : Nat} {F0 : Nat → Prop} {A0 : NicA} {L0 : List Bf} {T0 R0 : Line} {c oc : Nat} (hk : NicOk A0) (hT0 : LineOk T0) (hR0 : LineOk R0) (hL : Few L0) (h : Sep w [rBlkRing r d p T0 R0, rDev d F0 A0, rPool p ab L0, rBlk c [pt r 0] 38, rBlk oc [.slice none 0 0] 61]) (hd : Int) : Calls Try.prog 55 #[pt r 20, iw hd, Value.func (.func 57) #[] #[pt c 0, pt oc 0]] w fun e w' => e = .returned (.tuple #[]) ∧ ∃ q' c', (∀ b, (Value.slice q' (uptoR A0 R0.many.toNat hd L0 R0 []).2.2.length c').ownBlock = some b → (rS r d p ab b ∨ b = oc) ∨ w.heap.size ≤ b) ∧ Turns (fun b => rS r d p ab b ∨ b = oc) [rBlkRing r d p T0 R0, rDev d F0 A0, rPool p ab L0, rBlk c [pt r 0] 38, rBlk oc [.slice none 0 0] 61] [rBlkRing r d p T0 ((uptoR A0 R0.many.toNat hd L0 R0 []).2.1), rDev d F0 A0, rPool p ab ((uptoR A0 R0.many.toNat hd L0 R0 []).1), rBlk c [pt r 0] 38, rBlk oc [.slice q' ((uptoR A0 R0.many.toNat hd L0 R0 []).2.2.length) c'] 61, rRowN (.slice q' ((uptoR A0 R0.many.toNat hd L0 R0 []).2.2.length) c') (comeV (uptoR A0 R0.many.toNat hd L0 R0 []).2.2) 67 2] w w' := by
  have hr0 := hR0.m
  obtain ⟨Z, hZ⟩ : ∃ Z, uptoR A0 R0.many.toNat hd L0 R0 [] = Z := ⟨_, rfl⟩
  refine calls_sc (l0 := [rBlkRing r d p T0 R0, rDev d F0 A0, rPool p ab L0, rBlk c [pt r 0] 38, rBlk oc [.slice none 0 0] 61]) (args := [pt r 20, iw hd, Value.func (.func 57) #[] #[pt c 0, pt oc 0]]) (fun b => rS r d p ab b ∨ b = oc) Try.func55 rfl 47 Try.ntmps55 (le_b rfl) ⟨h, Only.refl _ _⟩ ?_
  show SC _ _ _ _ [(0, pt r 20), (1, iw hd), (2, Value.func (.func 57) #[] #[pt c 0, pt oc 0])] [rBlkRing r d p T0 R0, rDev d F0 A0, rPool p ab L0, rBlk c [pt r 0] 38, rBlk oc [.slice none 0 0] 61]
  refine SC.block ?_
  refine SC.rows (rRowN (.slice none 0 0) [] 67 2) (fun b hb => by cases hb) (fun w => rowN_nil w 67 2) ?_
  refine SC.loop (γ := List Bf × Line × List (Int × Bool) × Option Addr × Nat) (fun n g => [(0, pt r 20), (1, iw hd), (2, Value.func (.func 57) #[] #[pt c 0, pt oc 0])]) (fun n g => [rBlk r (rc d p T0 g.2.1) 86, rDev d F0 A0, rPool p ab g.1, rBlk c [pt r 0] 38, rBlk oc [Value.slice g.2.2.2.1 g.2.2.1.length g.2.2.2.2] 61, rRowN (.slice g.2.2.2.1 g.2.2.1.length g.2.2.2.2) (comeV g.2.2.1) 67 2]) (fun n g => Few g.1 ∧ LineOk g.2.1 ∧ g.2.1.many = (n : Int) ∧ g.2.2.1.length + n ≤ 15 ∧ (∀ b, (Value.slice g.2.2.2.1 g.2.2.1.length g.2.2.2.2).ownBlock = some b → (rS r d p ab b ∨ b = oc) ∨ w.heap.size ≤ b) ∧ uptoR A0 n hd g.1 g.2.1 g.2.2.1 = Z) R0.many.toNat (L0, R0, [], none, 0) ⟨hL, hR0, by simp only; omega, by simp; omega, fun b hb => by simp [Value.ownBlock] at hb, hZ⟩ ⟨rfl, rfl, rfl, trivial⟩ rfl ?_
  rintro n ⟨L, R, o, q, cc⟩ ⟨hL, hR, hn, ho, hq, hZn⟩
  simp only at hL hR hn ho hq hZn
  have hrf := hR.f
  have hrm := hR.m
  rcases n with _ | n
  · skip
    simp only [uptoR] at hZn
    refine SC.seq ?_
    refine SC.sr ?_
    refine SL.mv ?_
    refine SL.nk ?_
    refine SL.uu (ru_fieldAddr (o2 := 37) fd84_2 rfl rfl rfl) ?_
    refine SL.uu (ru_load (i := 0) (v := iw R.many) ts3 rfl rfl rfl rc_rm) ?_
    refine SL.uu (ru_gt (b := false) rfl rfl rfl (decide_eq_false (by omega))) ?_
    refine SL.mv ?_
    refine SL.oo ?_
    refine SL.oo ?_
    refine SL.oo ?_
    refine SL.oo ?_
    refine SL.oo ?_
    refine SL.oo ?_
    refine SL.uu (ru_pick (u := undef) (v := bo false) rfl rfl rfl rfl) ?_
    refine SL.nn [(0, pt r 20), (1, iw hd), (2, Value.func (.func 57) #[] #[pt c 0, pt oc 0]), (19, bo false)] [rBlk r (rc d p T0 R) 86, rDev d F0 A0, rPool p ab L, rBlk c [pt r 0] 38, rBlk oc [Value.slice q o.length cc] 61, rRowN (.slice q o.length cc) (comeV o) 67 2] ⟨rfl, rfl, rfl, rfl, trivial⟩ ?_
    refine SC.no rfl ?_
    refine SC.exit ?_
    refine SE.passe ?_
    refine SE.passe ?_
    refine SE.blke ?_
    subst hZn
    rw [hZ]
    refine SE.res (.inr rfl) (res0 Try.results55) fun w1 hI => ⟨rfl, q, cc, hq, hI.1, hI.2, fun q' hq' b hb => ?_⟩
    simp only [List.mem_cons, List.not_mem_nil, or_false] at hq'
    rcases hq' with rfl | rfl | rfl | rfl | rfl | rfl
    · exact .inl ⟨rBlkRing r d p T0 R0, by simp, hb⟩
    · exact .inl ⟨rDev d F0 A0, by simp, hb⟩
    · exact .inl ⟨rPool p ab L0, by simp, hb⟩
    · exact .inl ⟨rBlk c [pt r 0] 38, by simp, hb⟩
    · exact .inl ⟨rBlk oc [.slice none 0 0] 61, by simp, hb⟩
    · exact (hq b hb).imp zU_in id
  refine SC.seq ?_
  refine SC.sr ?_
  refine SL.mv ?_
  refine SL.nk ?_
  refine SL.uu (ru_fieldAddr (o2 := 37) fd84_2 rfl rfl rfl) ?_
  refine SL.uu (ru_load (i := 0) (v := iw R.many) ts3 rfl rfl rfl rc_rm) ?_
  refine SL.uu (ru_gt (b := true) rfl rfl rfl (decide_eq_true (by omega))) ?_
  refine SL.mv ?_
  refine SL.gg (ru_move rfl rfl) ?_
  refine SL.gg (ru_nilCheck rfl rfl) ?_
  refine SL.gg (ru_fieldAddr (o2 := 36) fd84_1 rfl rfl rfl) ?_
  refine SL.gg (ru_load (i := 0) (v := iw R.first) ts3 rfl rfl rfl rc_rf) ?_
  refine SL.gg (ru_move rfl rfl) ?_
  refine SL.gg (ru_ne (b := ((R.first : Int) != hd)) rfl rfl rfl rfl) ?_
  refine SL.uu (ru_pick (u := bo ((R.first : Int) != hd)) (v := bo false) rfl rfl rfl rfl) ?_
  refine SL.nn [(0, pt r 20), (1, iw hd), (2, Value.func (.func 57) #[] #[pt c 0, pt oc 0]), (19, bo ((R.first : Int) != hd))] [rBlk r (rc d p T0 R) 86, rDev d F0 A0, rPool p ab L, rBlk c [pt r 0] 38, rBlk oc [Value.slice q o.length cc] 61, rRowN (.slice q o.length cc) (comeV o) 67 2] ⟨rfl, rfl, rfl, rfl, trivial⟩ ?_
  refine SC.both ((R.first : Int) != hd) rfl (fun h1 => ?_) (fun h1 => ?_)
  · skip
    rw [uptoR, if_neg (bne_yes h1)] at hZn
    refine SC.skip ?_
    refine SC.of_SE ?_
    refine SC.norm [(0, pt r 20), (1, iw hd), (2, Value.func (.func 57) #[] #[pt c 0, pt oc 0])] _ ⟨rfl, rfl, rfl, trivial⟩ rfl ?_
    refine SC.block ?_
    refine SC.sr ?_
    refine SL.mv ?_
    refine SL.nk ?_
    refine SL.uu (ru_fieldAddr (o2 := 36) fd84_1 rfl rfl rfl) ?_
    refine SL.uu (ru_load (i := 0) (v := iw R.first) ts3 rfl rfl rfl rc_rf) ?_
    refine SL.as ?_
    refine SL.nn [(0, pt r 20), (1, iw hd), (2, Value.func (.func 57) #[] #[pt c 0, pt oc 0]), (6, iw R.first)] _ ⟨rfl, rfl, rfl, rfl, trivial⟩ ?_
    refine SC.sr ?_
    refine SL.mv ?_
    refine SL.mv ?_
    refine SL.mv ?_
    refine SL.uu (ru_add (r := (IntKind.i64.wrap (R.first + 1))) rfl rfl rfl rfl) ?_
    refine SL.uu (ru_rem (r := ((R.first + 1) % 16)) rfl rfl rfl (by decide) ((at_eq hR.f (by omega)))) ?_
    refine SL.mv ?_
    refine SL.nk ?_
    refine SL.uu (ru_fieldAddr (o2 := 37) fd84_2 rfl rfl rfl) ?_
    refine SL.uu (ru_load (i := 0) (v := iw R.many) ts3 rfl rfl rfl rc_rm) ?_
    refine SL.uu (ru_sub (r := (R.many - 1)) rfl rfl rfl ((dec_eq hR.m))) ?_
    refine SL.nk ?_
    refine SL.uu (ru_fieldAddr (o2 := 36) fd84_1 rfl rfl rfl) ?_
    refine SL.store (i := 0) (c' := (rc d p T0 ({ R with first := (R.first + 1) % 16 }))) rfl rfl ts3 rfl rfl rfl rfl rfl (by rw [rc_len]; omega) (.inl (.inl (.inl rfl))) (set_rf ((R.first + 1) % 16)) ?_
    refine SL.nk ?_
    refine SL.uu (ru_fieldAddr (o2 := 37) fd84_2 rfl rfl rfl) ?_
    refine SL.store (i := 0) (c' := (rc d p T0 ({ R with first := (R.first + 1) % 16, many := R.many - 1 }))) rfl rfl ts3 rfl rfl rfl rfl rfl (by rw [rc_len]; omega) (.inl (.inl (.inl rfl))) (set_rm (R.many - 1)) ?_
    refine SL.nn [(0, pt r 20), (1, iw hd), (2, Value.func (.func 57) #[] #[pt c 0, pt oc 0]), (6, iw R.first)] [rBlk r (rc d p T0 ({ R with first := (R.first + 1) % 16, many := R.many - 1 })) 86, rDev d F0 A0, rPool p ab L, rBlk c [pt r 0] 38, rBlk oc [Value.slice q o.length cc] 61, rRowN (.slice q o.length cc) (comeV o) 67 2] ⟨rfl, rfl, rfl, rfl, trivial⟩ ?_
    refine SC.region ?_
    refine SL.mv ?_
    refine SL.mv ?_
    refine SL.mv ?_
    refine SL.mv ?_
    refine SL.nk ?_
    refine SL.uu (ru_fieldAddr (o2 := 20) fd84_0 rfl rfl rfl) ?_
    refine SL.uu (ru_indexA (o2 := 20 + R.first.toNat * 1) ar82 rfl rfl rfl (by omega) (by omega) rfl) ?_
    refine SL.uu (ru_load (i := 0) (v := iw (R.buf R.first.toNat)) ts3 rfl rfl rfl (rc_rb (by omega))) ?_
    refine SL.call (ζ := Option Addr × Nat) (fun z => Value.tuple #[]) (fun z => [rBlk r (rc d p T0 ({ R with first := (R.first + 1) % 16, many := R.many - 1 })) 86, rDev d F0 A0, rPool p ab ((ownF L (R.buf R.first.toNat) (setF (rxR A0 R.first).1.1)).2), rBlk c [pt r 0] 38, rBlk oc [Value.slice z.1 ((o ++ [((R.buf R.first.toNat), (rxR A0 R.first).1.2)]).length) z.2] 61, rRowN (.slice z.1 ((o ++ [((R.buf R.first.toNat), (rxR A0 R.first).1.2)]).length) z.2) (comeV (o ++ [((R.buf R.first.toNat), (rxR A0 R.first).1.2)])) 67 2]) (fun z => ∀ b, (Value.slice z.1 (o ++ [((R.buf R.first.toNat), (rxR A0 R.first).1.2)]).length z.2).ownBlock = some b → (rS r d p ab b ∨ b = oc) ∨ w.heap.size ≤ b) rfl rfl co57 rfl rfl rfl (lt_b rfl) (fun w hI => (poll2_any hk hL (by omega) hI.take6 R.first (R.buf R.first.toNat)).mono fun e w2 ⟨h1, q', c', h2, t⟩ => ⟨(q', c'), h1, hI.turns0 t zR_in (zR_out hq), fun b hb => (h2 b hb).elim (zR_out hq b) (fun e => .inr (Nat.le_trans hI.2.size e))⟩) ?_
    rintro ⟨q2, c3⟩ hq4
    refine SL.nil ?_
    refine SE.blkn ?_
    refine SE.again n ((ownF L (R.buf R.first.toNat) (setF (rxR A0 R.first).1.1)).2, popL R, (o ++ [((R.buf R.first.toNat), (rxR A0 R.first).1.2)]), q2, c3) (by omega) ⟨(set_few hL _ _), popL_ok hR (by omega), by simp only [popL]; omega, by simp; omega, hq4, hZn⟩ ⟨rfl, rfl, rfl, trivial⟩ rfl
  rw [uptoR, if_pos (bne_no h1)] at hZn
  refine SC.exit ?_
  refine SE.passe ?_
  refine SE.passe ?_
  refine SE.blke ?_
  subst hZn
  rw [hZ]
  refine SE.res (.inr rfl) (res0 Try.results55) fun w1 hI => ⟨rfl, q, cc, hq, hI.1, hI.2, fun q' hq' b hb => ?_⟩
  simp only [List.mem_cons, List.not_mem_nil, or_false] at hq'
  rcases hq' with rfl | rfl | rfl | rfl | rfl | rfl
  · exact .inl ⟨rBlkRing r d p T0 R0, by simp, hb⟩
  · exact .inl ⟨rDev d F0 A0, by simp, hb⟩
  · exact .inl ⟨rPool p ab L0, by simp, hb⟩
  · exact .inl ⟨rBlk c [pt r 0] 38, by simp, hb⟩
  · exact .inl ⟨rBlk oc [.slice none 0 0] 61, by simp, hb⟩
  · exact (hq b hb).imp zU_in id

end Go.Proofs.Ytghfkgcaglabpaa

/-
  slices.Concat of two (ints).
-/
namespace Go.Proofs.Ytghfkgcaglabpaa
open Go.RowKit
set_option maxRecDepth 100000
set_option maxHeartbeats 4000000
theorem growI_none (w : World) : Calls Try.prog 87 #[.slice none 0 0, .int .i64 0] w fun e w' => e = .returned (.slice none 0 0) ∧ w = w' := by
  go_enter Try.func87, Try.ntmps87
  go_wp2
  go_ret
  exact ⟨rfl, rfl⟩
theorem growI_some (w : World) {n : Nat} (h0 : 0 < n) (hn : n ≤ 1000000) : Calls Try.prog 87 #[.slice none 0 0, .int .i64 (n : Int)] w fun e w' => ∃ G, n ≤ G ∧ G ≤ maxLen ∧ e = .returned (.slice (some ⟨w.heap.size, 0, none⟩) 0 G) ∧ w' = w.drew.alloc (.cells (#[] ++ Builtin.zeroCells (Value.int .i64 0).cells n ++ Builtin.zeroCells (Value.int .i64 0).cells (G - n)) 3) := by
  have hz : (Try.prog.info? 3).map (fun i => (i.zero, i.size, i.bytes)) = some (some (Value.int .i64 0), 1, 8) := by kernel_rfl
  obtain ⟨i0, hi0, h3⟩ := map_some hz
  simp only [Prod.mk.injEq] at h3
  obtain ⟨hz0, hs0, hb0⟩ := h3
  have hrz : ∀ ty, (Builtin.append_ #[26, 3] ty #[.slice none 0 0, .int .i64 (n : Int)]).run Try.prog w =
      .ok (.slice (some ⟨w.heap.size, 0, none⟩) n (grownCap w n 0 3)) (w.drew.alloc (.cells (#[] ++ Builtin.zeroCells (Value.int .i64 0).cells n ++ Builtin.zeroCells (Value.int .i64 0).cells (grownCap w n 0 3 - n)) 3)) := fun ty => by
    have h := Lib.run_append_grow_zeros (P := Try.prog) w 26 3 ty 3 i0 (Value.int .i64 0) .i64 .i64 Try.underlying26 Try.underlying3 hi0 hz0 none 0 0 [] (run_firstCells_none w.drew i0.size 0 0 0) n h0 (by omega) (by omega) (by omega) (by rw [hb0]; omega) (by rw [hb0]; exact growslice_fits (by omega) (by omega))
    simpa using h
  have hGn : n ≤ grownCap w n 0 3 := grownCap_ge w _ _ _
  have hGm := grownCap_le_maxLen w n 0 3 (by unfold maxLen; omega)
  obtain ⟨G, hG⟩ : ∃ G, G = grownCap w n 0 3 := ⟨_, rfl⟩
  rw [← hG] at hrz hGn hGm
  have hG63 : G ≤ 9223372036854775807 := by unfold maxLen at hGm; omega
  have h4 : (0 : Int) < (n : Int) := by omega
  have h5 : wrap64 (n : Int) = (n : Int) := by unfold wrap64; omega
  have h6 : ¬ ((n : Int) < 0) := by omega
  refine Calls.mono (R := fun e w' => e = .returned (.slice (some ⟨w.heap.size, 0, none⟩) 0 G) ∧ w' = w.drew.alloc (.cells (#[] ++ Builtin.zeroCells (Value.int .i64 0).cells n ++ Builtin.zeroCells (Value.int .i64 0).cells (G - n)) 3)) ?_ (fun e w' ⟨h1, h2⟩ => ⟨G, hGn, hGm, h1, h2⟩)
  obtain ⟨W2, hW2⟩ : ∃ W2, W2 = w.drew.alloc (.cells (#[] ++ Builtin.zeroCells (Value.int .i64 0).cells n ++ Builtin.zeroCells (Value.int .i64 0).cells (G - n)) 3) := ⟨_, rfl⟩
  rw [← hW2] at hrz ⊢
  clear hG hz hi0 hz0 hs0 hb0 hGm hW2
  have hrz' : ∀ ty, (Builtin.append_ #[26, 3] ty #[.slice none 0 0, .int .i64 ((n : Int) - (0 - 0))]).run Try.prog w = .ok (.slice (some ⟨w.heap.size, 0, none⟩) n G) W2 := fun ty => by
    rw [show (n : Int) - (0 - 0) = (n : Int) by omega]; exact hrz ty
  go_enter Try.func87, Try.ntmps87
  go_wp2_with (at_builtin; first | refine Lib.wpList_append_run _ rfl _ _ _ _ rfl _ _ rfl rfl _ _ (hrz _) ?_ | refine Lib.wpList_append_run _ rfl _ _ _ _ rfl _ _ rfl rfl _ _ (hrz' _) ?_)
  all_goals (go_ret; exact ⟨rfl, rfl⟩)
theorem growI_any (w : World) {n : Nat} (hn : n ≤ 1000000) : Calls Try.prog 87 #[.slice none 0 0, iw (n : Int)] w fun e w' => ∃ q c, e = .returned (.slice q 0 c) ∧ w'.ownsRow 0 3 1 (.slice q 0 c) ([] : List Value).length [] ∧ (∀ b, (Value.slice q 0 c).ownBlock = some b → w.heap.size ≤ b) ∧ Only (fun _ => False) w w' := by
  rcases Nat.eq_zero_or_pos n with rfl | h0
  · exact (growI_none w).mono (by rintro e w' ⟨rfl, rfl⟩; exact ⟨none, 0, rfl, row_nil _ _, fun b hb => by simp [Value.ownBlock] at hb, Only.refl _ _⟩)
  · exact (growI_some w h0 hn).mono (by
      rintro e w' ⟨G, h1, h2, rfl, rfl⟩
      exact ⟨_, _, rfl, grown_row rfl h1 h2, fun b hb => by simp [Value.ownBlock] at hb; omega, ⟨rfl, rfl, rfl, by simp, fun k hk _ => heap_alloc_old w.drew _ hk⟩⟩)

theorem catI_any {w : World} {b : Nat} {qa qb : Option Addr} {ca cb : Nat} {xs ys : List Value} (h : Blk w b [.slice qa xs.length ca, .slice qb ys.length cb] 26) (hx1 : CellsAt w (.slice qa xs.length ca) xs) (hx2 : CellsAt w (.slice qb ys.length cb) ys) (ho1 : ∀ u ∈ xs, u.oneCell' = true) (ho2 : ∀ u ∈ ys, u.oneCell' = true) (hn : xs.length + ys.length ≤ 1000000) : Calls Try.prog 75 #[sl b 0 2 2] w fun e w' => ∃ q c, e = .returned (.slice q ([] ++ xs ++ ys).length c) ∧ w'.ownsRow 0 3 1 (.slice q ([] ++ xs ++ ys).length c) (xs ++ ys).length (xs ++ ys) ∧ (∀ b, (Value.slice q ([] ++ xs ++ ys).length c).ownBlock = some b → w.heap.size ≤ b) ∧ Only (fun _ => False) w w' := by
  refine calls_sc (l0 := [rBlk b [.slice qa xs.length ca, .slice qb ys.length cb] 26]) (args := [sl b 0 2 2]) (fun _ => False) Try.func75 rfl 36 Try.ntmps75 (le_b rfl) (Inv.one h) ?_
  show SC _ _ _ _ [(0, sl b 0 2 2)] [rBlk b [.slice qa xs.length ca, .slice qb ys.length cb] 26]
  refine SC.sr ?_
  refine SL.as ?_
  refine SL.nn [(0, sl b 0 2 2), (2, Value.slice none 0 0)] [rBlk b [Value.slice qa xs.length ca, Value.slice qb ys.length cb] 26] ⟨rfl, rfl, trivial⟩ ?_
  refine SC.sr ?_
  refine SL.as ?_
  refine SL.nn [(0, sl b 0 2 2), (2, Value.slice none 0 0), (3, iw 0)] _ ⟨rfl, rfl, rfl, trivial⟩ ?_
  refine SC.seq ?_
  refine SC.sr ?_
  refine SL.mv ?_
  refine SL.uu (ru_len Try.underlying130 rfl rfl) ?_
  refine SL.mv ?_
  refine SL.nn [(0, sl b 0 2 2), (2, Value.slice none 0 0), (3, iw 0), (9, sl b 0 2 2), (10, iw 2), (11, iw 0)] _ ⟨rfl, rfl, rfl, rfl, rfl, rfl, trivial⟩ ?_
  refine SC.block ?_
  refine SC.rounds 3 ?_
  refine SR.norm [(0, sl b 0 2 2), (2, Value.slice none 0 0), (3, iw 0), (9, sl b 0 2 2), (10, iw 2), (11, iw 0)] _ ⟨rfl, rfl, rfl, rfl, rfl, rfl, trivial⟩ rfl ?_
  refine SR.next ?_
  refine SC.sr ?_
  refine SL.uu (ru_lt (b := true) rfl rfl rfl rfl) ?_
  refine SL.nn [(0, sl b 0 2 2), (2, Value.slice none 0 0), (3, iw 0), (9, sl b 0 2 2), (10, iw 2), (11, iw 0), (12, bo true)] _ ⟨rfl, rfl, rfl, rfl, rfl, rfl, rfl, trivial⟩ ?_
  refine SC.seq ?_
  refine SC.yes rfl ?_
  refine SC.skip ?_
  refine SC.of_SE ?_
  refine SC.norm [(0, sl b 0 2 2), (2, Value.slice none 0 0), (3, iw 0), (9, sl b 0 2 2), (10, iw 2), (11, iw 0)] _ ⟨rfl, rfl, rfl, rfl, rfl, rfl, trivial⟩ rfl ?_
  refine SC.seq ?_
  refine SC.block ?_
  refine SC.sr ?_
  refine SL.uu (ru_indexS (o2 := 0) si130 rfl rfl rfl (by decide) (by decide) rfl) ?_
  refine SL.uu (ru_load (i := 0) ts26 rfl rfl rfl rfl) ?_
  refine SL.as ?_
  refine SL.nn [(0, sl b 0 2 2), (2, Value.slice none 0 0), (3, iw 0), (5, Value.slice qa xs.length ca), (9, sl b 0 2 2), (10, iw 2), (11, iw 0)] _ ⟨rfl, rfl, rfl, rfl, rfl, rfl, rfl, trivial⟩ ?_
  refine SC.sr ?_
  refine SL.mv ?_
  refine SL.mv ?_
  refine SL.uu (ru_len Try.underlying26 rfl rfl) ?_
  refine SL.uu (ru_add (r := (xs.length : Int)) rfl rfl rfl ((by rw [IntKind.wrap_i64]; omega))) ?_
  refine SL.as ?_
  refine SL.nn [(0, sl b 0 2 2), (2, Value.slice none 0 0), (3, iw (xs.length : Int)), (9, sl b 0 2 2), (10, iw 2), (11, iw 0)] _ ⟨rfl, rfl, rfl, rfl, rfl, rfl, trivial⟩ ?_
  refine SC.sr ?_
  refine SL.mv ?_
  refine SL.uu (ru_lt (b := false) rfl rfl rfl ((decide_eq_false (by omega)))) ?_
  refine SL.nn [(0, sl b 0 2 2), (2, Value.slice none 0 0), (3, iw (xs.length : Int)), (9, sl b 0 2 2), (10, iw 2), (11, iw 0), (20, bo false)] _ ⟨rfl, rfl, rfl, rfl, rfl, rfl, rfl, trivial⟩ ?_
  refine SC.no rfl ?_
  refine SC.skip ?_
  refine SE.blkn ?_
  refine SC.of_SE ?_
  refine SC.norm [(0, sl b 0 2 2), (2, Value.slice none 0 0), (3, iw (xs.length : Int)), (9, sl b 0 2 2), (10, iw 2), (11, iw 0)] _ ⟨rfl, rfl, rfl, rfl, rfl, rfl, trivial⟩ rfl ?_
  refine SC.region ?_
  refine SL.uu (ru_add (r := 1) rfl rfl rfl rfl) ?_
  refine SL.mv ?_
  refine SL.nil ?_
  refine SE.round ?_
  refine SR.norm [(0, sl b 0 2 2), (2, Value.slice none 0 0), (3, iw (xs.length : Int)), (9, sl b 0 2 2), (10, iw 2), (11, iw 1)] _ ⟨rfl, rfl, rfl, rfl, rfl, rfl, trivial⟩ rfl ?_
  refine SR.next ?_
  refine SC.sr ?_
  refine SL.uu (ru_lt (b := true) rfl rfl rfl rfl) ?_
  refine SL.nn [(0, sl b 0 2 2), (2, Value.slice none 0 0), (3, iw (xs.length : Int)), (9, sl b 0 2 2), (10, iw 2), (11, iw 1), (12, bo true)] _ ⟨rfl, rfl, rfl, rfl, rfl, rfl, rfl, trivial⟩ ?_
  refine SC.seq ?_
  refine SC.yes rfl ?_
  refine SC.skip ?_
  refine SC.of_SE ?_
  refine SC.norm [(0, sl b 0 2 2), (2, Value.slice none 0 0), (3, iw (xs.length : Int)), (9, sl b 0 2 2), (10, iw 2), (11, iw 1)] _ ⟨rfl, rfl, rfl, rfl, rfl, rfl, trivial⟩ rfl ?_
  refine SC.seq ?_
  refine SC.block ?_
  refine SC.sr ?_
  refine SL.uu (ru_indexS (o2 := 1) si130 rfl rfl rfl (by decide) (by decide) rfl) ?_
  refine SL.uu (ru_load (i := 0) ts26 rfl rfl rfl rfl) ?_
  refine SL.as ?_
  refine SL.nn [(0, sl b 0 2 2), (2, Value.slice none 0 0), (3, iw (xs.length : Int)), (5, Value.slice qb ys.length cb), (9, sl b 0 2 2), (10, iw 2), (11, iw 1)] _ ⟨rfl, rfl, rfl, rfl, rfl, rfl, rfl, trivial⟩ ?_
  refine SC.sr ?_
  refine SL.mv ?_
  refine SL.mv ?_
  refine SL.uu (ru_len Try.underlying26 rfl rfl) ?_
  refine SL.uu (ru_add (r := ((xs.length + ys.length : Nat) : Int)) rfl rfl rfl ((by rw [IntKind.wrap_i64]; omega))) ?_
  refine SL.as ?_
  refine SL.nn [(0, sl b 0 2 2), (2, Value.slice none 0 0), (3, iw ((xs.length + ys.length : Nat) : Int)), (9, sl b 0 2 2), (10, iw 2), (11, iw 1)] _ ⟨rfl, rfl, rfl, rfl, rfl, rfl, trivial⟩ ?_
  refine SC.sr ?_
  refine SL.mv ?_
  refine SL.uu (ru_lt (b := false) rfl rfl rfl ((decide_eq_false (by omega)))) ?_
  refine SL.nn [(0, sl b 0 2 2), (2, Value.slice none 0 0), (3, iw ((xs.length + ys.length : Nat) : Int)), (9, sl b 0 2 2), (10, iw 2), (11, iw 1), (20, bo false)] _ ⟨rfl, rfl, rfl, rfl, rfl, rfl, rfl, trivial⟩ ?_
  refine SC.no rfl ?_
  refine SC.skip ?_
  refine SE.blkn ?_
  refine SC.of_SE ?_
  refine SC.norm [(0, sl b 0 2 2), (2, Value.slice none 0 0), (3, iw ((xs.length + ys.length : Nat) : Int)), (9, sl b 0 2 2), (10, iw 2), (11, iw 1)] _ ⟨rfl, rfl, rfl, rfl, rfl, rfl, trivial⟩ rfl ?_
  refine SC.region ?_
  refine SL.uu (ru_add (r := 2) rfl rfl rfl rfl) ?_
  refine SL.mv ?_
  refine SL.nil ?_
  refine SE.round ?_
  refine SR.norm [(0, sl b 0 2 2), (2, Value.slice none 0 0), (3, iw ((xs.length + ys.length : Nat) : Int)), (9, sl b 0 2 2), (10, iw 2), (11, iw 2)] _ ⟨rfl, rfl, rfl, rfl, rfl, rfl, trivial⟩ rfl ?_
  refine SR.next ?_
  refine SC.sr ?_
  refine SL.uu (ru_lt (b := false) rfl rfl rfl rfl) ?_
  refine SL.nn [(0, sl b 0 2 2), (2, Value.slice none 0 0), (3, iw ((xs.length + ys.length : Nat) : Int)), (9, sl b 0 2 2), (10, iw 2), (11, iw 2), (12, bo false)] _ ⟨rfl, rfl, rfl, rfl, rfl, rfl, rfl, trivial⟩ ?_
  refine SC.seq ?_
  refine SC.no rfl ?_
  refine SC.exit ?_
  refine SE.passe ?_
  refine SE.passe ?_
  refine SE.blke ?_
  refine SC.of_SE ?_
  refine SC.norm [(0, sl b 0 2 2), (2, Value.slice none 0 0), (3, iw ((xs.length + ys.length : Nat) : Int))] _ ⟨rfl, rfl, rfl, trivial⟩ rfl ?_
  refine SC.sr ?_
  refine SL.mv ?_
  refine SL.mk (Mk.ints ⟨36, w, fun _ => False⟩ [] 3) (w_all rfl) rfl co87 rfl rfl rfl (lt_b rfl) (fun l' w hI => (growI_any w (n := xs.length + ys.length) (by omega)).mono fun e w2 ⟨q, c, h1, h2, h3, h4⟩ => ⟨_, h1, ⟨q, c, fun b hb => Nat.le_trans hI.2.size (h3 b hb), rfl⟩, hI.add h4 h2 h3⟩) ?_
  rintro _ ⟨q1, c2, hq1, rfl⟩
  refine SL.norm [(0, sl b 0 2 2), (2, Value.slice none 0 0), (3, iw ((xs.length + ys.length : Nat) : Int)), (23, iw ((xs.length + ys.length : Nat) : Int)), (24, Value.slice q1 0 c2)] [rBlk b [Value.slice qa xs.length ca, Value.slice qb ys.length cb] 26, rRow (.slice q1 0 c2) ([]) 3] ⟨rfl, rfl, rfl, rfl, rfl, trivial⟩ rfl ?_
  refine SL.as ?_
  refine SL.nn [(0, sl b 0 2 2), (2, Value.slice none 0 0), (6, Value.slice q1 0 c2)] _ ⟨rfl, rfl, rfl, trivial⟩ ?_
  refine SC.seq ?_
  refine SC.sr ?_
  refine SL.mv ?_
  refine SL.uu (ru_len Try.underlying130 rfl rfl) ?_
  refine SL.mv ?_
  refine SL.nn [(2, Value.slice none 0 0), (6, Value.slice q1 0 c2), (25, sl b 0 2 2), (26, iw 2), (27, iw 0)] _ ⟨rfl, rfl, rfl, rfl, rfl, trivial⟩ ?_
  refine SC.block ?_
  refine SC.rounds 3 ?_
  refine SR.norm [(2, Value.slice none 0 0), (6, Value.slice q1 0 c2), (25, sl b 0 2 2), (26, iw 2), (27, iw 0)] _ ⟨rfl, rfl, rfl, rfl, rfl, trivial⟩ rfl ?_
  refine SR.next ?_
  refine SC.sr ?_
  refine SL.uu (ru_lt (b := true) rfl rfl rfl rfl) ?_
  refine SL.nn [(2, Value.slice none 0 0), (6, Value.slice q1 0 c2), (25, sl b 0 2 2), (26, iw 2), (27, iw 0), (28, bo true)] _ ⟨rfl, rfl, rfl, rfl, rfl, rfl, trivial⟩ ?_
  refine SC.seq ?_
  refine SC.yes rfl ?_
  refine SC.skip ?_
  refine SC.of_SE ?_
  refine SC.norm [(2, Value.slice none 0 0), (6, Value.slice q1 0 c2), (25, sl b 0 2 2), (26, iw 2), (27, iw 0)] _ ⟨rfl, rfl, rfl, rfl, rfl, trivial⟩ rfl ?_
  refine SC.seq ?_
  refine SC.block ?_
  refine SC.sr ?_
  refine SL.uu (ru_indexS (o2 := 0) si130 rfl rfl rfl (by decide) (by decide) rfl) ?_
  refine SL.uu (ru_load (i := 0) ts26 rfl rfl rfl rfl) ?_
  refine SL.as ?_
  refine SL.nn [(2, Value.slice none 0 0), (6, Value.slice q1 0 c2), (8, Value.slice qa xs.length ca), (25, sl b 0 2 2), (26, iw 2), (27, iw 0)] _ ⟨rfl, rfl, rfl, rfl, rfl, rfl, trivial⟩ ?_
  refine SC.region ?_
  refine SL.mv ?_
  refine SL.mv ?_
  refine SL.append_own (ri := 1) (z := Value.int .i64 0) (bytes := 8) (xs := []) (ys := xs) rfl rfl (lt_b rfl) rfl Try.underlying26 (by kernel_rfl) rfl ho1 rfl rfl rfl (fun w hI => hx1.only hI.2) (by simp; omega) (by unfold maxLen; simp; omega) (fun b hb => .inr (hq1 b hb)) fun q3 c4 hq5 => ?_
  refine SL.as ?_
  refine SL.nil ?_
  refine SE.blkn ?_
  refine SC.of_SE ?_
  refine SC.norm [(2, Value.slice none 0 0), (6, Value.slice q3 (([] ++ xs).length) c4), (25, sl b 0 2 2), (26, iw 2), (27, iw 0)] [rBlk b [Value.slice qa xs.length ca, Value.slice qb ys.length cb] 26, rRow (.slice q3 (([] ++ xs).length) c4) ([] ++ xs) 3] ⟨rfl, rfl, rfl, rfl, rfl, trivial⟩ rfl ?_
  refine SC.region ?_
  refine SL.uu (ru_add (r := 1) rfl rfl rfl rfl) ?_
  refine SL.mv ?_
  refine SL.nil ?_
  refine SE.round ?_
  refine SR.norm [(2, Value.slice none 0 0), (6, Value.slice q3 (([] ++ xs).length) c4), (25, sl b 0 2 2), (26, iw 2), (27, iw 1)] _ ⟨rfl, rfl, rfl, rfl, rfl, trivial⟩ rfl ?_
  refine SR.next ?_
  refine SC.sr ?_
  refine SL.uu (ru_lt (b := true) rfl rfl rfl rfl) ?_
  refine SL.nn [(2, Value.slice none 0 0), (6, Value.slice q3 (([] ++ xs).length) c4), (25, sl b 0 2 2), (26, iw 2), (27, iw 1), (28, bo true)] _ ⟨rfl, rfl, rfl, rfl, rfl, rfl, trivial⟩ ?_
  refine SC.seq ?_
  refine SC.yes rfl ?_
  refine SC.skip ?_
  refine SC.of_SE ?_
  refine SC.norm [(2, Value.slice none 0 0), (6, Value.slice q3 (([] ++ xs).length) c4), (25, sl b 0 2 2), (26, iw 2), (27, iw 1)] _ ⟨rfl, rfl, rfl, rfl, rfl, trivial⟩ rfl ?_
  refine SC.seq ?_
  refine SC.block ?_
  refine SC.sr ?_
  refine SL.uu (ru_indexS (o2 := 1) si130 rfl rfl rfl (by decide) (by decide) rfl) ?_
  refine SL.uu (ru_load (i := 0) ts26 rfl rfl rfl rfl) ?_
  refine SL.as ?_
  refine SL.nn [(2, Value.slice none 0 0), (6, Value.slice q3 (([] ++ xs).length) c4), (8, Value.slice qb ys.length cb), (25, sl b 0 2 2), (26, iw 2), (27, iw 1)] _ ⟨rfl, rfl, rfl, rfl, rfl, rfl, trivial⟩ ?_
  refine SC.region ?_
  refine SL.mv ?_
  refine SL.mv ?_
  refine SL.append_own (ri := 1) (z := Value.int .i64 0) (bytes := 8) (xs := [] ++ xs) (ys := ys) rfl rfl (lt_b rfl) rfl Try.underlying26 (by kernel_rfl) rfl ho2 rfl rfl rfl (fun w hI => hx2.only hI.2) (by simp; omega) (by unfold maxLen; simp; omega) (fun b hb => hq5 b hb) fun q6 c7 hq8 => ?_
  refine SL.as ?_
  refine SL.nil ?_
  refine SE.blkn ?_
  refine SC.of_SE ?_
  refine SC.norm [(2, Value.slice none 0 0), (6, Value.slice q6 (([] ++ xs ++ ys).length) c7), (25, sl b 0 2 2), (26, iw 2), (27, iw 1)] [rBlk b [Value.slice qa xs.length ca, Value.slice qb ys.length cb] 26, rRow (.slice q6 (([] ++ xs ++ ys).length) c7) ([] ++ xs ++ ys) 3] ⟨rfl, rfl, rfl, rfl, rfl, trivial⟩ rfl ?_
  refine SC.region ?_
  refine SL.uu (ru_add (r := 2) rfl rfl rfl rfl) ?_
  refine SL.mv ?_
  refine SL.nil ?_
  refine SE.round ?_
  refine SR.norm [(2, Value.slice none 0 0), (6, Value.slice q6 (([] ++ xs ++ ys).length) c7), (25, sl b 0 2 2), (26, iw 2), (27, iw 2)] _ ⟨rfl, rfl, rfl, rfl, rfl, trivial⟩ rfl ?_
  refine SR.next ?_
  refine SC.sr ?_
  refine SL.uu (ru_lt (b := false) rfl rfl rfl rfl) ?_
  refine SL.nn [(2, Value.slice none 0 0), (6, Value.slice q6 (([] ++ xs ++ ys).length) c7), (25, sl b 0 2 2), (26, iw 2), (27, iw 2), (28, bo false)] _ ⟨rfl, rfl, rfl, rfl, rfl, rfl, trivial⟩ ?_
  refine SC.seq ?_
  refine SC.no rfl ?_
  refine SC.exit ?_
  refine SE.passe ?_
  refine SE.passe ?_
  refine SE.blke ?_
  refine SC.of_SE ?_
  refine SC.norm [(2, Value.slice none 0 0), (6, Value.slice q6 (([] ++ xs ++ ys).length) c7)] _ ⟨rfl, rfl, trivial⟩ rfl ?_
  refine SC.sr ?_
  refine SL.mv ?_
  refine SL.as ?_
  refine SL.nn [(2, Value.slice q6 (([] ++ xs ++ ys).length) c7)] _ ⟨rfl, trivial⟩ ?_
  refine SC.ret ?_
  have en : ([] ++ xs ++ ys : List Value) = xs ++ ys := by simp
  refine SE.res (.inl rfl) (res1 Try.results75 rfl) fun w1 hI => ⟨q6, c7, rfl, by rw [← en]; exact hI.1.get (i := 1) rfl, fun b hb => (hq8 b hb).elim False.elim (fun e => e), hI.2⟩

end Go.Proofs.Ytghfkgcaglabpaa

/-
  Reset.
-/
namespace Go.Proofs.Ytghfkgcaglabpaa
open Go.RowKit
set_option maxRecDepth 100000
set_option maxHeartbeats 4000000
theorem SC.pick {P : Program} {X : Cx} {c : Code} {Q : Exit → Act → World → Prop} {m : List (Nat × Value)} {l : List Res} (js : List Nat) (hs : incB js = true) (h : SC P X c Q m (js.filterMap (l[·]?))) : SC P X c Q m l := fun a w hf hI => h a w hf (hI.pick hs)
theorem reset_any {w : World} {r d p ab : Nat} {F0 : Nat → Prop} {A0 : NicA} {L0 : List Bf} {T0 R0 : Line} (hk : NicOk A0) (hT0 : LineOk T0) (hR0 : LineOk R0) (hL : Few L0) (h : RingAt w r d p ab F0 ⟨A0, L0, T0, R0⟩) : Calls Try.prog 47 #[pt r 0] w fun e w' => e = .returned (.tuple #[]) ∧ RingTo w r d p ab F0 (resetF ⟨A0, L0, T0, R0⟩) w' := by
  have ht0 := hT0.m
  have hr0 := hR0.m
  have hib : (allL T0 ++ allL R0).length ≤ 1000 := by simp [allL]; omega
  obtain ⟨Z, hZ⟩ : ∃ Z, freesF L0 (allL T0 ++ allL R0) = Z := ⟨_, rfl⟩
  refine calls_sc (l0 := [rBlkRing r d p T0 R0, rDev d F0 A0, rPool p ab L0]) (args := [pt r 0]) (rS r d p ab) Try.func47 rfl 28 Try.ntmps47 (le_b rfl) (h.inv _ _) ?_
  show SC _ _ _ _ [(0, pt r 0)] [rBlkRing r d p T0 R0, rDev d F0 A0, rPool p ab L0]
  refine SC.seq ?_
  refine SC.seq ?_
  refine SC.region_mk [(3, Mk.ints ⟨28, w, rS r d p ab⟩ (allV T0) 3), (7, Mk.ints ⟨28, w, rS r d p ab⟩ (allV R0) 3), (8, Mk.row ⟨28, w, rS r d p ab⟩ 2 2 [3, 7] (fun g => [g.getD 0 undef, g.getD 1 undef]) 26), (9, Mk.ints ⟨28, w, rS r d p ab⟩ (allV T0 ++ allV R0) 3)] [(7, [3]), (8, [3, 7]), (9, [3, 7, 8]), (10, [3, 7, 8, 9])] rfl rfl (by kernel_rfl) (by kernel_rfl) (by kernel_rfl) ?_
  refine SM.ru rfl rfl rfl (w_all rfl) rfl (lt_b rfl) (ru_move rfl rfl) ?_
  refine SM.ru rfl rfl rfl (w_all rfl) rfl (lt_b rfl) (ru_nilCheck rfl rfl) ?_
  refine SM.ru rfl rfl rfl (w_all rfl) rfl (lt_b rfl) (ru_fieldAddr (o2 := 2) fd86_2 rfl rfl rfl) ?_
  refine SM.mkcall (s := Mk.ints ⟨28, w, rS r d p ab⟩ (allV T0) 3) rfl rfl rfl rfl (w_all rfl) rfl (lt_b rfl) rfl rfl rfl co60 rfl rfl (fun l' w hI => (all_t hT0 (hI.1.get (i := 0) rfl)).mono fun e w2 ⟨q, c, h1, h2, h3, h4⟩ => ⟨_, h1, ⟨q, c, fun b hb => Nat.le_trans hI.2.size (h3 b hb), rfl⟩, hI.add h4 h2 h3⟩) ?_
  rintro _ ⟨q1, c2, hq1, rfl⟩
  refine SM.ru rfl rfl rfl (w_all rfl) rfl (lt_b rfl) (ru_move rfl rfl) ?_
  refine SM.ru rfl rfl rfl (w_all rfl) rfl (lt_b rfl) (ru_nilCheck rfl rfl) ?_
  refine SM.ru rfl rfl rfl (w_all rfl) rfl (lt_b rfl) (ru_fieldAddr (o2 := 20) fd86_3 rfl rfl rfl) ?_
  refine SM.mkcall (s := Mk.ints ⟨28, w, rS r d p ab⟩ (allV R0) 3) rfl rfl rfl rfl (w_all rfl) rfl (lt_b rfl) rfl rfl rfl co60 rfl rfl (fun l' w hI => (all_r hR0 (hI.1.get (i := 0) rfl)).mono fun e w2 ⟨q, c, h1, h2, h3, h4⟩ => ⟨_, h1, ⟨q, c, fun b hb => Nat.le_trans hI.2.size (h3 b hb), rfl⟩, hI.add h4 h2 h3⟩) ?_
  rintro _ ⟨q3, c4, hq3, rfl⟩
  refine SM.buildSlice (size := 1) (vals := [(0, Value.slice q1 ((allV T0).length) c2), (1, Value.slice q3 ((allV R0).length) c4)]) (z := [Value.slice none 0 0]) (cs := [Value.slice q1 ((allV T0).length) c2, Value.slice q3 ((allV R0).length) c4]) (dp := [3, 7]) (csf := fun g => [g.getD 0 undef, g.getD 1 undef]) rfl rfl rfl rfl (w_all rfl) rfl (lt_b rfl) rfl rfl rfl rfl Try.underlying130 (by kernel_rfl) rfl rfl (by kernel_rfl) fun b5 hb5 => ?_
  refine SM.mkcall (s := Mk.ints ⟨28, w, rS r d p ab⟩ (allV T0 ++ allV R0) 3) rfl rfl rfl rfl (w_all rfl) rfl (lt_b rfl) rfl rfl rfl co75 rfl rfl (fun l' w hI => (catI_any (w := w) (hI.1.get (i := 5) rfl) (row_cells (hI.1.get (i := 3) rfl)) (row_cells (hI.1.get (i := 4) rfl)) allV_one allV_one (by rw [allV_len, allV_len]; have := hT0.m; have := hR0.m; omega)).mono fun e w2 ⟨q, c, h1, h2, h3, h4⟩ => ⟨_, h1, ⟨q, c, fun b hb => Nat.le_trans hI.2.size (h3 b hb), rfl⟩, hI.add h4 h2 h3⟩) ?_
  rintro _ ⟨q6, c7, hq6, rfl⟩
  refine SM.ru rfl rfl rfl (w_all rfl) rfl (lt_b rfl) (ru_len Try.underlying26 rfl rfl) ?_
  refine SM.ru rfl rfl rfl (w_all rfl) rfl (lt_b rfl) (ru_move rfl rfl) ?_
  refine SM.nilE (l' := [rBlk r (rc d p T0 R0) 86, rDev d F0 A0, rPool p ab L0, rRow (.slice q1 ((allV T0).length) c2) (allV T0) 3, rRow (.slice q3 ((allV R0).length) c4) (allV R0) 3, rBlk b5 [Value.slice q1 ((allV T0).length) c2, Value.slice q3 ((allV R0).length) c4] 26, rRow (.slice q6 ((allV T0 ++ allV R0).length) c7) (allV T0 ++ allV R0) 3]) rfl ?_
  refine SC.of_SE ?_
  refine SC.norm [(0, pt r 0), (13, Value.slice q6 ((allV T0 ++ allV R0).length) c7), (14, iw ((allV T0 ++ allV R0).length : Int)), (15, iw 0)] [rBlk r (rc d p T0 R0) 86, rDev d F0 A0, rPool p ab L0, rRow (.slice q1 ((allV T0).length) c2) (allV T0) 3, rRow (.slice q3 ((allV R0).length) c4) (allV R0) 3, rBlk b5 [Value.slice q1 ((allV T0).length) c2, Value.slice q3 ((allV R0).length) c4] 26, rRow (.slice q6 ((allV T0 ++ allV R0).length) c7) (allV T0 ++ allV R0) 3] ⟨rfl, rfl, rfl, rfl, trivial⟩ rfl ?_
  refine SC.block ?_
  refine SC.pick [0, 1, 2, 6] rfl ?_
  refine SC.loop (γ := Nat × List Bf) (fun n g => [(0, pt r 0), (13, Value.slice q6 ((allV T0 ++ allV R0).length) c7), (14, iw ((allV T0 ++ allV R0).length : Int)), (15, iw (g.1 : Int))]) (fun n g => [rBlk r (rc d p T0 R0) 86, rDev d F0 A0, rPool p ab g.2, rRow (.slice q6 ((allV T0 ++ allV R0).length) c7) (allV T0 ++ allV R0) 3]) (fun n g => n + g.1 = (allL T0 ++ allL R0).length ∧ Few g.2 ∧ freesF g.2 ((allL T0 ++ allL R0).drop g.1) = Z) (allL T0 ++ allL R0).length (0, L0) ⟨rfl, hL, hZ⟩ ⟨rfl, rfl, rfl, rfl, trivial⟩ rfl ?_
  rintro n ⟨i, L⟩ ⟨hn, hL, hZn⟩
  simp only at hn hL hZn
  rcases n with _ | n
  · skip
    have hlen2 := all2_len (T := T0) (R := R0)
    rw [List.drop_eq_nil_of_le (by omega)] at hZn
    simp only [freesF, List.foldl_nil] at hZn
    refine SC.sr ?_
    refine SL.uu (ru_lt (b := (decide (((i : Int) : Int) < ((allV T0 ++ allV R0).length : Int)))) rfl rfl rfl rfl) ?_
    refine SL.nn [(0, pt r 0), (13, Value.slice q6 ((allV T0 ++ allV R0).length) c7), (14, iw ((allV T0 ++ allV R0).length : Int)), (15, iw (i : Int)), (16, bo (decide (((i : Int) : Int) < ((allV T0 ++ allV R0).length : Int))))] [rBlk r (rc d p T0 R0) 86, rDev d F0 A0, rPool p ab L, rRow (.slice q6 ((allV T0 ++ allV R0).length) c7) (allV T0 ++ allV R0) 3] ⟨rfl, rfl, rfl, rfl, rfl, trivial⟩ ?_
    refine SC.seq ?_
    refine SC.no (show some (Value.bool (decide (((i : Int) : Int) < ((allV T0 ++ allV R0).length : Int)))) = some (Value.bool false) from congrArg (fun x => some (Value.bool x)) (decide_eq_false (by omega))) ?_
    refine SC.exit ?_
    refine SE.passe ?_
    refine SE.passe ?_
    refine SE.blke ?_
    refine SC.of_SE ?_
    refine SC.norm [(0, pt r 0)] _ ⟨rfl, trivial⟩ rfl ?_
    refine SC.region ?_
    refine SL.mv ?_
    refine SL.call (ζ := Nat → Prop) (fun F8 => Value.tuple #[]) (fun F8 => [rBlk r (rc d p ((beginF ⟨A0, L, T0, R0⟩).T) ((beginF ⟨A0, L, T0, R0⟩).R)) 86, rDev d F8 ((beginF ⟨A0, L, T0, R0⟩).A), rPool p ab ((beginF ⟨A0, L, T0, R0⟩).L), rRow (.slice q6 ((allV T0 ++ allV R0).length) c7) (allV T0 ++ allV R0) 3]) (fun F8 => ∀ b, F8 b → F0 b ∨ w.heap.size ≤ b) rfl rfl co61 rfl rfl rfl (lt_b rfl) (fun w hI => (begin_any hk hL (RingAt.of3 hI)).mono fun e w2 ⟨h1, h2⟩ => by obtain ⟨F2, k1, k2⟩ := hI.ring3 (S := ⟨A0, L, T0, R0⟩) (fun b hb => .inl hb) h2 (fun b hb => .inl hb); exact ⟨F2, h1, k1, k2⟩) ?_
    intro F8 hF8
    refine SL.nil ?_
    refine SE.res (.inr rfl) (res0 Try.results47) fun w1 hI => ⟨rfl, ?_⟩
    subst hZn
    unfold resetF
    simp only [hZ]
    exact RingTo.fin hI hF8
  have hlen2 := all2_len (T := T0) (R := R0)
  rw [frees_step (by omega)] at hZn
  refine SC.sr ?_
  refine SL.uu (ru_lt (b := (decide (((i : Int) : Int) < ((allV T0 ++ allV R0).length : Int)))) rfl rfl rfl rfl) ?_
  refine SL.nn [(0, pt r 0), (13, Value.slice q6 ((allV T0 ++ allV R0).length) c7), (14, iw ((allV T0 ++ allV R0).length : Int)), (15, iw (i : Int)), (16, bo (decide (((i : Int) : Int) < ((allV T0 ++ allV R0).length : Int))))] [rBlk r (rc d p T0 R0) 86, rDev d F0 A0, rPool p ab L, rRow (.slice q6 ((allV T0 ++ allV R0).length) c7) (allV T0 ++ allV R0) 3] ⟨rfl, rfl, rfl, rfl, rfl, trivial⟩ ?_
  refine SC.seq ?_
  refine SC.yes (show some (Value.bool (decide (((i : Int) : Int) < ((allV T0 ++ allV R0).length : Int)))) = some (Value.bool true) from congrArg (fun x => some (Value.bool x)) (decide_eq_true (by omega))) ?_
  refine SC.skip ?_
  refine SC.of_SE ?_
  refine SC.norm [(0, pt r 0), (13, Value.slice q6 ((allV T0 ++ allV R0).length) c7), (14, iw ((allV T0 ++ allV R0).length : Int)), (15, iw (i : Int))] _ ⟨rfl, rfl, rfl, rfl, trivial⟩ rfl ?_
  refine SC.seq ?_
  refine SC.block ?_
  refine SC.sr ?_
  refine SL.uu (ru_index_row (ri := 3) si26 rfl rfl rfl rfl (by omega) (by omega)) ?_
  refine SL.uu (ru_load_row (ri := 3) ts3 rfl rfl rfl (all2_get (by omega))) ?_
  refine SL.as ?_
  refine SL.nn [(0, pt r 0), (3, iw ((allL T0 ++ allL R0).getD i 0)), (13, Value.slice q6 ((allV T0 ++ allV R0).length) c7), (14, iw ((allV T0 ++ allV R0).length : Int)), (15, iw (i : Int))] _ ⟨rfl, rfl, rfl, rfl, rfl, trivial⟩ ?_
  refine SC.region ?_
  refine SL.mv ?_
  refine SL.nk ?_
  refine SL.uu (ru_fieldAddr (o2 := 1) fd86_1 rfl rfl rfl) ?_
  refine SL.uu (ru_load (i := 0) (v := pt p 0) ts37 rfl rfl rfl rc_p) ?_
  refine SL.mv ?_
  refine SL.call (ζ := Unit) (fun _z => iw ((freeF L ((allL T0 ++ allL R0).getD i 0)).1)) (fun _z => [rBlk r (rc d p T0 R0) 86, rDev d F0 A0, rPool p ab ((freeF L ((allL T0 ++ allL R0).getD i 0)).2), rRow (.slice q6 ((allV T0 ++ allV R0).length) c7) (allV T0 ++ allV R0) 3]) (fun _z => True) rfl rfl co26 rfl rfl rfl (lt_b rfl) (fun w hI => (free_any (pool_at hI (i := 2) rfl) ((allL T0 ++ allL R0).getD i 0) hL).mono fun e w2 ⟨h1, h2⟩ => ⟨(), h1, hI.poolTo (i := 2) rfl (fun b hb => rS_p hb) h2, trivial⟩) ?_
  rintro ⟨⟩ _
  refine SL.nil ?_
  refine SE.blkn ?_
  refine SC.of_SE ?_
  refine SC.norm [(0, pt r 0), (13, Value.slice q6 ((allV T0 ++ allV R0).length) c7), (14, iw ((allV T0 ++ allV R0).length : Int)), (15, iw (i : Int))] [rBlk r (rc d p T0 R0) 86, rDev d F0 A0, rPool p ab ((freeF L ((allL T0 ++ allL R0).getD i 0)).2), rRow (.slice q6 ((allV T0 ++ allV R0).length) c7) (allV T0 ++ allV R0) 3] ⟨rfl, rfl, rfl, rfl, trivial⟩ rfl ?_
  refine SC.region ?_
  refine SL.uu (ru_add (r := (IntKind.i64.wrap ((i : Int) + 1))) rfl rfl rfl rfl) ?_
  refine SL.mv ?_
  refine SL.nil ?_
  refine SE.again n (i + 1, (freeF L ((allL T0 ++ allL R0).getD i 0)).2) (by omega) ⟨by simp only; omega, (free_few hL _), hZn⟩ ⟨rfl, rfl, rfl, (congrArg (fun x => some (iw x)) (show IntKind.i64.wrap ((i : Int) + 1) = ((i + 1 : Nat) : Int) by rw [IntKind.wrap_i64]; omega)), trivial⟩ rfl

end Go.Proofs.Ytghfkgcaglabpaa

/-
  slices.Concat of two (bytes).
-/
namespace Go.Proofs.Ytghfkgcaglabpaa
open Go.RowKit
set_option maxRecDepth 100000
set_option maxHeartbeats 4000000
theorem growB_none (w : World) : Calls Try.prog 65 #[.slice none 0 0, .int .i64 0] w fun e w' => e = .returned (.slice none 0 0) ∧ w = w' := by
  go_enter Try.func65, Try.ntmps65
  go_wp2
  go_ret
  exact ⟨rfl, rfl⟩
theorem growB_some (w : World) {n : Nat} (h0 : 0 < n) (hn : n ≤ 1000000) : Calls Try.prog 65 #[.slice none 0 0, .int .i64 (n : Int)] w fun e w' => ∃ G, n ≤ G ∧ G ≤ maxLen ∧ e = .returned (.slice (some ⟨w.heap.size, 0, none⟩) 0 G) ∧ w' = w.drew.alloc (.cells (#[] ++ Builtin.zeroCells (Value.int .u8 0).cells n ++ Builtin.zeroCells (Value.int .u8 0).cells (G - n)) 5) := by
  have hz : (Try.prog.info? 5).map (fun i => (i.zero, i.size, i.bytes)) = some (some (Value.int .u8 0), 1, 1) := by kernel_rfl
  obtain ⟨i0, hi0, h3⟩ := map_some hz
  simp only [Prod.mk.injEq] at h3
  obtain ⟨hz0, hs0, hb0⟩ := h3
  have hrz : ∀ ty, (Builtin.append_ #[28, 3] ty #[.slice none 0 0, .int .i64 (n : Int)]).run Try.prog w =
      .ok (.slice (some ⟨w.heap.size, 0, none⟩) n (grownCap w n 0 5)) (w.drew.alloc (.cells (#[] ++ Builtin.zeroCells (Value.int .u8 0).cells n ++ Builtin.zeroCells (Value.int .u8 0).cells (grownCap w n 0 5 - n)) 5)) := fun ty => by
    have h := Lib.run_append_grow_zeros (P := Try.prog) w 28 3 ty 5 i0 (Value.int .u8 0) .i64 .i64 Try.underlying28 Try.underlying3 hi0 hz0 none 0 0 [] (run_firstCells_none w.drew i0.size 0 0 0) n h0 (by omega) (by omega) (by omega) (by rw [hb0]; omega) (by rw [hb0]; exact growslice_fits (by omega) (by omega))
    simpa using h
  have hGn : n ≤ grownCap w n 0 5 := grownCap_ge w _ _ _
  have hGm := grownCap_le_maxLen w n 0 5 (by unfold maxLen; omega)
  obtain ⟨G, hG⟩ : ∃ G, G = grownCap w n 0 5 := ⟨_, rfl⟩
  rw [← hG] at hrz hGn hGm
  have hG63 : G ≤ 9223372036854775807 := by unfold maxLen at hGm; omega
  have h4 : (0 : Int) < (n : Int) := by omega
  have h5 : wrap64 (n : Int) = (n : Int) := by unfold wrap64; omega
  have h6 : ¬ ((n : Int) < 0) := by omega
  refine Calls.mono (R := fun e w' => e = .returned (.slice (some ⟨w.heap.size, 0, none⟩) 0 G) ∧ w' = w.drew.alloc (.cells (#[] ++ Builtin.zeroCells (Value.int .u8 0).cells n ++ Builtin.zeroCells (Value.int .u8 0).cells (G - n)) 5)) ?_ (fun e w' ⟨h1, h2⟩ => ⟨G, hGn, hGm, h1, h2⟩)
  obtain ⟨W2, hW2⟩ : ∃ W2, W2 = w.drew.alloc (.cells (#[] ++ Builtin.zeroCells (Value.int .u8 0).cells n ++ Builtin.zeroCells (Value.int .u8 0).cells (G - n)) 5) := ⟨_, rfl⟩
  rw [← hW2] at hrz ⊢
  clear hG hz hi0 hz0 hs0 hb0 hGm hW2
  have hrz' : ∀ ty, (Builtin.append_ #[28, 3] ty #[.slice none 0 0, .int .i64 ((n : Int) - (0 - 0))]).run Try.prog w = .ok (.slice (some ⟨w.heap.size, 0, none⟩) n G) W2 := fun ty => by
    rw [show (n : Int) - (0 - 0) = (n : Int) by omega]; exact hrz ty
  go_enter Try.func65, Try.ntmps65
  go_wp2_with (at_builtin; first | refine Lib.wpList_append_run _ rfl _ _ _ _ rfl _ _ rfl rfl _ _ (hrz _) ?_ | refine Lib.wpList_append_run _ rfl _ _ _ _ rfl _ _ rfl rfl _ _ (hrz' _) ?_)
  all_goals (go_ret; exact ⟨rfl, rfl⟩)
theorem growB_any (w : World) {n : Nat} (hn : n ≤ 1000000) : Calls Try.prog 65 #[.slice none 0 0, iw (n : Int)] w fun e w' => ∃ q c, e = .returned (.slice q 0 c) ∧ w'.ownsRow 0 5 1 (.slice q 0 c) ([] : List Value).length [] ∧ (∀ b, (Value.slice q 0 c).ownBlock = some b → w.heap.size ≤ b) ∧ Only (fun _ => False) w w' := by
  rcases Nat.eq_zero_or_pos n with rfl | h0
  · exact (growB_none w).mono (by rintro e w' ⟨rfl, rfl⟩; exact ⟨none, 0, rfl, row_nil _ _, fun b hb => by simp [Value.ownBlock] at hb, Only.refl _ _⟩)
  · exact (growB_some w h0 hn).mono (by
      rintro e w' ⟨G, h1, h2, rfl, rfl⟩
      exact ⟨_, _, rfl, grown_row rfl h1 h2, fun b hb => by simp [Value.ownBlock] at hb; omega, ⟨rfl, rfl, rfl, by simp, fun k hk _ => heap_alloc_old w.drew _ hk⟩⟩)

theorem catB_any {w : World} {b : Nat} {qa qb : Option Addr} {ca cb : Nat} {xs ys : List Value} (h : Blk w b [.slice qa xs.length ca, .slice qb ys.length cb] 28) (hx1 : CellsAt w (.slice qa xs.length ca) xs) (hx2 : CellsAt w (.slice qb ys.length cb) ys) (ho1 : ∀ u ∈ xs, u.oneCell' = true) (ho2 : ∀ u ∈ ys, u.oneCell' = true) (hn : xs.length + ys.length ≤ 1000000) : Calls Try.prog 37 #[sl b 0 2 2] w fun e w' => ∃ q c, e = .returned (.slice q ([] ++ xs ++ ys).length c) ∧ w'.ownsRow 0 5 1 (.slice q ([] ++ xs ++ ys).length c) (xs ++ ys).length (xs ++ ys) ∧ (∀ b, (Value.slice q ([] ++ xs ++ ys).length c).ownBlock = some b → w.heap.size ≤ b) ∧ Only (fun _ => False) w w' := by
  refine calls_sc (l0 := [rBlk b [.slice qa xs.length ca, .slice qb ys.length cb] 28]) (args := [sl b 0 2 2]) (fun _ => False) Try.func37 rfl 36 Try.ntmps37 (le_b rfl) (Inv.one h) ?_
  show SC _ _ _ _ [(0, sl b 0 2 2)] [rBlk b [.slice qa xs.length ca, .slice qb ys.length cb] 28]
  refine SC.sr ?_
  refine SL.as ?_
  refine SL.nn [(0, sl b 0 2 2), (2, Value.slice none 0 0)] [rBlk b [Value.slice qa xs.length ca, Value.slice qb ys.length cb] 28] ⟨rfl, rfl, trivial⟩ ?_
  refine SC.sr ?_
  refine SL.as ?_
  refine SL.nn [(0, sl b 0 2 2), (2, Value.slice none 0 0), (3, iw 0)] _ ⟨rfl, rfl, rfl, trivial⟩ ?_
  refine SC.seq ?_
  refine SC.sr ?_
  refine SL.mv ?_
  refine SL.uu (ru_len Try.underlying27 rfl rfl) ?_
  refine SL.mv ?_
  refine SL.nn [(0, sl b 0 2 2), (2, Value.slice none 0 0), (3, iw 0), (9, sl b 0 2 2), (10, iw 2), (11, iw 0)] _ ⟨rfl, rfl, rfl, rfl, rfl, rfl, trivial⟩ ?_
  refine SC.block ?_
  refine SC.rounds 3 ?_
  refine SR.norm [(0, sl b 0 2 2), (2, Value.slice none 0 0), (3, iw 0), (9, sl b 0 2 2), (10, iw 2), (11, iw 0)] _ ⟨rfl, rfl, rfl, rfl, rfl, rfl, trivial⟩ rfl ?_
  refine SR.next ?_
  refine SC.sr ?_
  refine SL.uu (ru_lt (b := true) rfl rfl rfl rfl) ?_
  refine SL.nn [(0, sl b 0 2 2), (2, Value.slice none 0 0), (3, iw 0), (9, sl b 0 2 2), (10, iw 2), (11, iw 0), (12, bo true)] _ ⟨rfl, rfl, rfl, rfl, rfl, rfl, rfl, trivial⟩ ?_
  refine SC.seq ?_
  refine SC.yes rfl ?_
  refine SC.skip ?_
  refine SC.of_SE ?_
  refine SC.norm [(0, sl b 0 2 2), (2, Value.slice none 0 0), (3, iw 0), (9, sl b 0 2 2), (10, iw 2), (11, iw 0)] _ ⟨rfl, rfl, rfl, rfl, rfl, rfl, trivial⟩ rfl ?_
  refine SC.seq ?_
  refine SC.block ?_
  refine SC.sr ?_
  refine SL.uu (ru_indexS (o2 := 0) si27 rfl rfl rfl (by decide) (by decide) rfl) ?_
  refine SL.uu (ru_load (i := 0) ts28 rfl rfl rfl rfl) ?_
  refine SL.as ?_
  refine SL.nn [(0, sl b 0 2 2), (2, Value.slice none 0 0), (3, iw 0), (5, Value.slice qa xs.length ca), (9, sl b 0 2 2), (10, iw 2), (11, iw 0)] _ ⟨rfl, rfl, rfl, rfl, rfl, rfl, rfl, trivial⟩ ?_
  refine SC.sr ?_
  refine SL.mv ?_
  refine SL.mv ?_
  refine SL.uu (ru_len Try.underlying28 rfl rfl) ?_
  refine SL.uu (ru_add (r := (xs.length : Int)) rfl rfl rfl ((by rw [IntKind.wrap_i64]; omega))) ?_
  refine SL.as ?_
  refine SL.nn [(0, sl b 0 2 2), (2, Value.slice none 0 0), (3, iw (xs.length : Int)), (9, sl b 0 2 2), (10, iw 2), (11, iw 0)] _ ⟨rfl, rfl, rfl, rfl, rfl, rfl, trivial⟩ ?_
  refine SC.sr ?_
  refine SL.mv ?_
  refine SL.uu (ru_lt (b := false) rfl rfl rfl ((decide_eq_false (by omega)))) ?_
  refine SL.nn [(0, sl b 0 2 2), (2, Value.slice none 0 0), (3, iw (xs.length : Int)), (9, sl b 0 2 2), (10, iw 2), (11, iw 0), (20, bo false)] _ ⟨rfl, rfl, rfl, rfl, rfl, rfl, rfl, trivial⟩ ?_
  refine SC.no rfl ?_
  refine SC.skip ?_
  refine SE.blkn ?_
  refine SC.of_SE ?_
  refine SC.norm [(0, sl b 0 2 2), (2, Value.slice none 0 0), (3, iw (xs.length : Int)), (9, sl b 0 2 2), (10, iw 2), (11, iw 0)] _ ⟨rfl, rfl, rfl, rfl, rfl, rfl, trivial⟩ rfl ?_
  refine SC.region ?_
  refine SL.uu (ru_add (r := 1) rfl rfl rfl rfl) ?_
  refine SL.mv ?_
  refine SL.nil ?_
  refine SE.round ?_
  refine SR.norm [(0, sl b 0 2 2), (2, Value.slice none 0 0), (3, iw (xs.length : Int)), (9, sl b 0 2 2), (10, iw 2), (11, iw 1)] _ ⟨rfl, rfl, rfl, rfl, rfl, rfl, trivial⟩ rfl ?_
  refine SR.next ?_
  refine SC.sr ?_
  refine SL.uu (ru_lt (b := true) rfl rfl rfl rfl) ?_
  refine SL.nn [(0, sl b 0 2 2), (2, Value.slice none 0 0), (3, iw (xs.length : Int)), (9, sl b 0 2 2), (10, iw 2), (11, iw 1), (12, bo true)] _ ⟨rfl, rfl, rfl, rfl, rfl, rfl, rfl, trivial⟩ ?_
  refine SC.seq ?_
  refine SC.yes rfl ?_
  refine SC.skip ?_
  refine SC.of_SE ?_
  refine SC.norm [(0, sl b 0 2 2), (2, Value.slice none 0 0), (3, iw (xs.length : Int)), (9, sl b 0 2 2), (10, iw 2), (11, iw 1)] _ ⟨rfl, rfl, rfl, rfl, rfl, rfl, trivial⟩ rfl ?_
  refine SC.seq ?_
  refine SC.block ?_
  refine SC.sr ?_
  refine SL.uu (ru_indexS (o2 := 1) si27 rfl rfl rfl (by decide) (by decide) rfl) ?_
  refine SL.uu (ru_load (i := 0) ts28 rfl rfl rfl rfl) ?_
  refine SL.as ?_
  refine SL.nn [(0, sl b 0 2 2), (2, Value.slice none 0 0), (3, iw (xs.length : Int)), (5, Value.slice qb ys.length cb), (9, sl b 0 2 2), (10, iw 2), (11, iw 1)] _ ⟨rfl, rfl, rfl, rfl, rfl, rfl, rfl, trivial⟩ ?_
  refine SC.sr ?_
  refine SL.mv ?_
  refine SL.mv ?_
  refine SL.uu (ru_len Try.underlying28 rfl rfl) ?_
  refine SL.uu (ru_add (r := ((xs.length + ys.length : Nat) : Int)) rfl rfl rfl ((by rw [IntKind.wrap_i64]; omega))) ?_
  refine SL.as ?_
  refine SL.nn [(0, sl b 0 2 2), (2, Value.slice none 0 0), (3, iw ((xs.length + ys.length : Nat) : Int)), (9, sl b 0 2 2), (10, iw 2), (11, iw 1)] _ ⟨rfl, rfl, rfl, rfl, rfl, rfl, trivial⟩ ?_
  refine SC.sr ?_
  refine SL.mv ?_
  refine SL.uu (ru_lt (b := false) rfl rfl rfl ((decide_eq_false (by omega)))) ?_
  refine SL.nn [(0, sl b 0 2 2), (2, Value.slice none 0 0), (3, iw ((xs.length + ys.length : Nat) : Int)), (9, sl b 0 2 2), (10, iw 2), (11, iw 1), (20, bo false)] _ ⟨rfl, rfl, rfl, rfl, rfl, rfl, rfl, trivial⟩ ?_
  refine SC.no rfl ?_
  refine SC.skip ?_
  refine SE.blkn ?_
  refine SC.of_SE ?_
  refine SC.norm [(0, sl b 0 2 2), (2, Value.slice none 0 0), (3, iw ((xs.length + ys.length : Nat) : Int)), (9, sl b 0 2 2), (10, iw 2), (11, iw 1)] _ ⟨rfl, rfl, rfl, rfl, rfl, rfl, trivial⟩ rfl ?_
  refine SC.region ?_
  refine SL.uu (ru_add (r := 2) rfl rfl rfl rfl) ?_
  refine SL.mv ?_
  refine SL.nil ?_
  refine SE.round ?_
  refine SR.norm [(0, sl b 0 2 2), (2, Value.slice none 0 0), (3, iw ((xs.length + ys.length : Nat) : Int)), (9, sl b 0 2 2), (10, iw 2), (11, iw 2)] _ ⟨rfl, rfl, rfl, rfl, rfl, rfl, trivial⟩ rfl ?_
  refine SR.next ?_
  refine SC.sr ?_
  refine SL.uu (ru_lt (b := false) rfl rfl rfl rfl) ?_
  refine SL.nn [(0, sl b 0 2 2), (2, Value.slice none 0 0), (3, iw ((xs.length + ys.length : Nat) : Int)), (9, sl b 0 2 2), (10, iw 2), (11, iw 2), (12, bo false)] _ ⟨rfl, rfl, rfl, rfl, rfl, rfl, rfl, trivial⟩ ?_
  refine SC.seq ?_
  refine SC.no rfl ?_
  refine SC.exit ?_
  refine SE.passe ?_
  refine SE.passe ?_
  refine SE.blke ?_
  refine SC.of_SE ?_
  refine SC.norm [(0, sl b 0 2 2), (2, Value.slice none 0 0), (3, iw ((xs.length + ys.length : Nat) : Int))] _ ⟨rfl, rfl, rfl, trivial⟩ rfl ?_
  refine SC.sr ?_
  refine SL.mv ?_
  refine SL.mk (Mk.ints ⟨36, w, fun _ => False⟩ [] 5) (w_all rfl) rfl co65 rfl rfl rfl (lt_b rfl) (fun l' w hI => (growB_any w (n := xs.length + ys.length) (by omega)).mono fun e w2 ⟨q, c, h1, h2, h3, h4⟩ => ⟨_, h1, ⟨q, c, fun b hb => Nat.le_trans hI.2.size (h3 b hb), rfl⟩, hI.add h4 h2 h3⟩) ?_
  rintro _ ⟨q1, c2, hq1, rfl⟩
  refine SL.norm [(0, sl b 0 2 2), (2, Value.slice none 0 0), (3, iw ((xs.length + ys.length : Nat) : Int)), (23, iw ((xs.length + ys.length : Nat) : Int)), (24, Value.slice q1 0 c2)] [rBlk b [Value.slice qa xs.length ca, Value.slice qb ys.length cb] 28, rRow (.slice q1 0 c2) ([]) 5] ⟨rfl, rfl, rfl, rfl, rfl, trivial⟩ rfl ?_
  refine SL.as ?_
  refine SL.nn [(0, sl b 0 2 2), (2, Value.slice none 0 0), (6, Value.slice q1 0 c2)] _ ⟨rfl, rfl, rfl, trivial⟩ ?_
  refine SC.seq ?_
  refine SC.sr ?_
  refine SL.mv ?_
  refine SL.uu (ru_len Try.underlying27 rfl rfl) ?_
  refine SL.mv ?_
  refine SL.nn [(2, Value.slice none 0 0), (6, Value.slice q1 0 c2), (25, sl b 0 2 2), (26, iw 2), (27, iw 0)] _ ⟨rfl, rfl, rfl, rfl, rfl, trivial⟩ ?_
  refine SC.block ?_
  refine SC.rounds 3 ?_
  refine SR.norm [(2, Value.slice none 0 0), (6, Value.slice q1 0 c2), (25, sl b 0 2 2), (26, iw 2), (27, iw 0)] _ ⟨rfl, rfl, rfl, rfl, rfl, trivial⟩ rfl ?_
  refine SR.next ?_
  refine SC.sr ?_
  refine SL.uu (ru_lt (b := true) rfl rfl rfl rfl) ?_
  refine SL.nn [(2, Value.slice none 0 0), (6, Value.slice q1 0 c2), (25, sl b 0 2 2), (26, iw 2), (27, iw 0), (28, bo true)] _ ⟨rfl, rfl, rfl, rfl, rfl, rfl, trivial⟩ ?_
  refine SC.seq ?_
  refine SC.yes rfl ?_
  refine SC.skip ?_
  refine SC.of_SE ?_
  refine SC.norm [(2, Value.slice none 0 0), (6, Value.slice q1 0 c2), (25, sl b 0 2 2), (26, iw 2), (27, iw 0)] _ ⟨rfl, rfl, rfl, rfl, rfl, trivial⟩ rfl ?_
  refine SC.seq ?_
  refine SC.block ?_
  refine SC.sr ?_
  refine SL.uu (ru_indexS (o2 := 0) si27 rfl rfl rfl (by decide) (by decide) rfl) ?_
  refine SL.uu (ru_load (i := 0) ts28 rfl rfl rfl rfl) ?_
  refine SL.as ?_
  refine SL.nn [(2, Value.slice none 0 0), (6, Value.slice q1 0 c2), (8, Value.slice qa xs.length ca), (25, sl b 0 2 2), (26, iw 2), (27, iw 0)] _ ⟨rfl, rfl, rfl, rfl, rfl, rfl, trivial⟩ ?_
  refine SC.region ?_
  refine SL.mv ?_
  refine SL.mv ?_
  refine SL.append_own (ri := 1) (z := Value.int .u8 0) (bytes := 1) (xs := []) (ys := xs) rfl rfl (lt_b rfl) rfl Try.underlying28 (by kernel_rfl) rfl ho1 rfl rfl rfl (fun w hI => hx1.only hI.2) (by simp; omega) (by unfold maxLen; simp; omega) (fun b hb => .inr (hq1 b hb)) fun q3 c4 hq5 => ?_
  refine SL.as ?_
  refine SL.nil ?_
  refine SE.blkn ?_
  refine SC.of_SE ?_
  refine SC.norm [(2, Value.slice none 0 0), (6, Value.slice q3 (([] ++ xs).length) c4), (25, sl b 0 2 2), (26, iw 2), (27, iw 0)] [rBlk b [Value.slice qa xs.length ca, Value.slice qb ys.length cb] 28, rRow (.slice q3 (([] ++ xs).length) c4) ([] ++ xs) 5] ⟨rfl, rfl, rfl, rfl, rfl, trivial⟩ rfl ?_
  refine SC.region ?_
  refine SL.uu (ru_add (r := 1) rfl rfl rfl rfl) ?_
  refine SL.mv ?_
  refine SL.nil ?_
  refine SE.round ?_
  refine SR.norm [(2, Value.slice none 0 0), (6, Value.slice q3 (([] ++ xs).length) c4), (25, sl b 0 2 2), (26, iw 2), (27, iw 1)] _ ⟨rfl, rfl, rfl, rfl, rfl, trivial⟩ rfl ?_
  refine SR.next ?_
  refine SC.sr ?_
  refine SL.uu (ru_lt (b := true) rfl rfl rfl rfl) ?_
  refine SL.nn [(2, Value.slice none 0 0), (6, Value.slice q3 (([] ++ xs).length) c4), (25, sl b 0 2 2), (26, iw 2), (27, iw 1), (28, bo true)] _ ⟨rfl, rfl, rfl, rfl, rfl, rfl, trivial⟩ ?_
  refine SC.seq ?_
  refine SC.yes rfl ?_
  refine SC.skip ?_
  refine SC.of_SE ?_
  refine SC.norm [(2, Value.slice none 0 0), (6, Value.slice q3 (([] ++ xs).length) c4), (25, sl b 0 2 2), (26, iw 2), (27, iw 1)] _ ⟨rfl, rfl, rfl, rfl, rfl, trivial⟩ rfl ?_
  refine SC.seq ?_
  refine SC.block ?_
  refine SC.sr ?_
  refine SL.uu (ru_indexS (o2 := 1) si27 rfl rfl rfl (by decide) (by decide) rfl) ?_
  refine SL.uu (ru_load (i := 0) ts28 rfl rfl rfl rfl) ?_
  refine SL.as ?_
  refine SL.nn [(2, Value.slice none 0 0), (6, Value.slice q3 (([] ++ xs).length) c4), (8, Value.slice qb ys.length cb), (25, sl b 0 2 2), (26, iw 2), (27, iw 1)] _ ⟨rfl, rfl, rfl, rfl, rfl, rfl, trivial⟩ ?_
  refine SC.region ?_
  refine SL.mv ?_
  refine SL.mv ?_
  refine SL.append_own (ri := 1) (z := Value.int .u8 0) (bytes := 1) (xs := [] ++ xs) (ys := ys) rfl rfl (lt_b rfl) rfl Try.underlying28 (by kernel_rfl) rfl ho2 rfl rfl rfl (fun w hI => hx2.only hI.2) (by simp; omega) (by unfold maxLen; simp; omega) (fun b hb => hq5 b hb) fun q6 c7 hq8 => ?_
  refine SL.as ?_
  refine SL.nil ?_
  refine SE.blkn ?_
  refine SC.of_SE ?_
  refine SC.norm [(2, Value.slice none 0 0), (6, Value.slice q6 (([] ++ xs ++ ys).length) c7), (25, sl b 0 2 2), (26, iw 2), (27, iw 1)] [rBlk b [Value.slice qa xs.length ca, Value.slice qb ys.length cb] 28, rRow (.slice q6 (([] ++ xs ++ ys).length) c7) ([] ++ xs ++ ys) 5] ⟨rfl, rfl, rfl, rfl, rfl, trivial⟩ rfl ?_
  refine SC.region ?_
  refine SL.uu (ru_add (r := 2) rfl rfl rfl rfl) ?_
  refine SL.mv ?_
  refine SL.nil ?_
  refine SE.round ?_
  refine SR.norm [(2, Value.slice none 0 0), (6, Value.slice q6 (([] ++ xs ++ ys).length) c7), (25, sl b 0 2 2), (26, iw 2), (27, iw 2)] _ ⟨rfl, rfl, rfl, rfl, rfl, trivial⟩ rfl ?_
  refine SR.next ?_
  refine SC.sr ?_
  refine SL.uu (ru_lt (b := false) rfl rfl rfl rfl) ?_
  refine SL.nn [(2, Value.slice none 0 0), (6, Value.slice q6 (([] ++ xs ++ ys).length) c7), (25, sl b 0 2 2), (26, iw 2), (27, iw 2), (28, bo false)] _ ⟨rfl, rfl, rfl, rfl, rfl, rfl, trivial⟩ ?_
  refine SC.seq ?_
  refine SC.no rfl ?_
  refine SC.exit ?_
  refine SE.passe ?_
  refine SE.passe ?_
  refine SE.blke ?_
  refine SC.of_SE ?_
  refine SC.norm [(2, Value.slice none 0 0), (6, Value.slice q6 (([] ++ xs ++ ys).length) c7)] _ ⟨rfl, rfl, trivial⟩ rfl ?_
  refine SC.sr ?_
  refine SL.mv ?_
  refine SL.as ?_
  refine SL.nn [(2, Value.slice q6 (([] ++ xs ++ ys).length) c7)] _ ⟨rfl, trivial⟩ ?_
  refine SC.ret ?_
  have en : ([] ++ xs ++ ys : List Value) = xs ++ ys := by simp
  refine SE.res (.inl rfl) (res1 Try.results37 rfl) fun w1 hI => ⟨q6, c7, rfl, by rw [← en]; exact hI.1.get (i := 1) rfl, fun b hb => (hq8 b hb).elim False.elim (fun e => e), hI.2⟩

theorem catBB_any {w : World} {b : Nat} {qa qb : Option Addr} {ca cb : Nat} {f g : List UInt8} (h : Blk w b [.slice qa f.length ca, .slice qb g.length cb] 28) (hx1 : BytesAt w (.slice qa f.length ca) f) (hx2 : BytesAt w (.slice qb g.length cb) g) (hn : f.length + g.length ≤ 1000000) : Calls Try.prog 37 #[sl b 0 2 2] w fun e w' => ∃ q c, e = .returned (.slice q (f ++ g).length c) ∧ OwnBytes w' 0 5 (.slice q (f ++ g).length c) (f ++ g) ∧ (∀ b, (Value.slice q (f ++ g).length c).ownBlock = some b → w.heap.size ≤ b) ∧ Only (fun _ => False) w w' := by
  have hone : ∀ l : List UInt8, ∀ u ∈ l.map bv, u.oneCell' = true := fun l u hu => by obtain ⟨x, _, rfl⟩ := List.mem_map.1 hu; rfl
  have := catB_any (w := w) (b := b) (qa := qa) (qb := qb) (ca := ca) (cb := cb) (xs := f.map bv) (ys := g.map bv) (by simpa using h) (by simpa using hx1.cells) (by simpa using hx2.cells) (hone f) (hone g) (by simpa using hn)
  have e1 : ([] ++ f.map bv ++ g.map bv).length = (f ++ g).length := by simp
  have e2 : (f.map bv ++ g.map bv).length = (f ++ g).length := by simp
  have e3 : f.map bv ++ g.map bv = (f ++ g).map bv := by simp
  simp only [e1, e3, List.length_map] at this
  exact this

end Go.Proofs.Ytghfkgcaglabpaa
