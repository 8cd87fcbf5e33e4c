/-
  What the proof of WireBrings stands on, part 1: each theorem by itself, under the conditions that it names.
-/
import Derived.Test.YtcilikkljkdceaaWireBringsM0
import Derived.Test.YtcilikkljkdceaaProg
import Derived.Lib.AppendZerosOnto
import Derived.Laws.Shifts
import Derived.Laws.Cover3
import Derived.Lib.Hide
import Derived.Outline
/-
  Rounds of a loop over a function, walked in the light machine: judgements SI (code), SLI (a list of operations with a call of yield); the loop's statement; a round; a function that holds such a loop. No program is named here.
-/
namespace Go.Proofs.Ytcilikkljkdceaa
open Go.RowKit
def rObj (k : Nat) (o : Obj) : Res where
  ok w := w.heap[k]? = some o
  fp b := b = k
  lt w h b hb := by subst hb; exact (Array.getElem?_eq_some_iff.1 h).1
  st w w' h hw := by rw [hw k rfl]; exact h
abbrev rDef (D : Nat) : Res := rObj D (.deferred (some []))
abbrev rLoop (k : Nat) (r : Loop) : Res := rObj k (.loop r)
abbrev mkLoop (fn : FuncId) (T : Array Value) (ps : Array Tmp) (assign body : Code) (D : Nat) (st : LoopState) (j : Option Code) : Loop := { state := st, pending := j, fn, tmps := T, params := ps, assign, body, defers := D }
abbrev markD (D : Nat) : Deferred := { target := .collected D, args := #[] }
theorem only_put (w : World) (k : Nat) (o : Obj) : Only (fun b => b = k) w (w.putObj k o) := ⟨rfl, rfl, rfl, by simp, fun j _ hj => World.putObj_heap_other hj⟩
theorem Inv.putObj {X : Cx} {w : World} {l : List Res} {i k : Nat} {o : Obj} (o' : Obj) (h : Inv X w l) (hi : l[i]? = some (rObj k o)) (hS : X.S k ∨ X.w0.heap.size ≤ k) : Inv X (w.putObj k o') (l.set i (rObj k o')) :=
  h.upd hi (only_put w k o') (fun b hb => by cases hb; exact hS) (World.putObj_heap_same ((rObj k o).lt w (h.1.get hi) k rfl)) (fun b hb => .inl hb)
theorem Inv.addObj {X : Cx} {w : World} {l : List Res} (h : Inv X w l) (o : Obj) : Inv X (w.alloc o) (l ++ [rObj w.heap.size o]) :=
  h.add ((Only.refl _ w).alloc o) (World.alloc_heap_new w o) (fun b hb => by cases hb; exact Nat.le_refl _)
section
variable (P : Program) (Z : Rd) (X : Cx)
def SI (c : Code) (Q : Exit → Act → World → Prop) (m : List (Nat × Value)) (l : List Res) : Prop := ∀ a w, Fr X.n a m → Inv X w l → c.wpIn Z.F 0 P Q (sh Z a) w
def SLI (ops : Array Oper) (Q : Exit → Act → World → Prop) (rest : List Oper) (m : List (Nat × Value)) (l : List Res) : Prop := ∀ a w, Fr X.n a m → Inv X w l → wpListIn Z.F 0 P ops Q rest (sh Z a) w
end
section
variable {P : Program} {Z : Rd} {X : Cx} {ops : Array Oper} {Q : Exit → Act → World → Prop} {rest : List Oper} {o : Oper} {m : List (Nat × Value)} {l : List Res} {v : Value} {d : Nat}
theorem SI.norm {c : Code} (m' : List (Nat × Value)) (l' : List Res) (hm : Subs m m') (hl : l = l') (h : SI P Z X c Q m' l') : SI P Z X c Q m l := fun a w hf hi => h a w (hf.sub hm) (hl ▸ hi)
theorem SI.seq {x y : Code} (h : SI P Z X x (Exit.then (y.wpIn Z.F 0 P Q) Q) m l) : SI P Z X (x.seq y) Q m l := fun a w hf hi => wpIn_seq (h a w hf hi)
theorem SI.block {id : Nat} {c : Code} (h : SI P Z X c (Exit.inBlock id Q) m l) : SI P Z X (.block id c) Q m l := fun a w hf hi => wpIn_block (h a w hf hi)
theorem SI.skip (h : SE X (shQ Z Q) .normal m l) : SI P Z X .skip Q m l := fun a w hf hi => wpIn_skip (h a w hf hi)
theorem SI.exit {id : Nat} (h : SE X (shQ Z Q) (.exit id) m l) : SI P Z X (.exit id) Q m l := fun a w hf hi => wpIn_exit (h a w hf hi)
theorem sh_ev {a : Act} {x : Operand} {v : Value} (hf : Fr X.n a m) (hx : evM m x = some v) : (sh Z a).eval x = v := by rw [sh_eval]; exact hf.ev hx
theorem SI.yes {c : Operand} {x y : Code} (hc : evM m c = some (.bool true)) (h : SI P Z X x Q m l) : SI P Z X (.cond c x y) Q m l := fun a w hf hi => wpIn_cond_true (sh_ev hf hc) (h a w hf hi)
theorem SI.no {c : Operand} {x y : Code} (hc : evM m c = some (.bool false)) (h : SI P Z X y Q m l) : SI P Z X (.cond c x y) Q m l := fun a w hf hi => wpIn_cond_false (sh_ev hf hc) (h a w hf hi)
theorem SI.both {c : Operand} {x y : Code} (b : Bool) (hc : evM m c = some (.bool b)) (ht : b = true → SI P Z X x Q m l) (hn : b = false → SI P Z X y Q m l) : SI P Z X (.cond c x y) Q m l := fun a w hf hi => wpIn_cond_split (sh_ev hf hc) (fun e => ht e a w hf hi) (fun e => hn e a w hf hi)
theorem SI.of_SE {y : Code} {m' : List (Nat × Value)} {l' : List Res} (h : SI P Z X y Q m' l') : SE X (shQ Z (Exit.then (y.wpIn Z.F 0 P Q) Q)) .normal m' l' := h
theorem SI.of_SG (ho : NoOut Q) {id : Nat} {draw : Bool} {L : List Oper} (hnd : L.all ndf = true) (h : SG P X draw L (shQ Z Q) m l) : SI P Z X (.region id L.toArray draw) Q m l := fun a w hf hi => by
  have h1 := h a w hf hi
  cases draw with
  | false =>
    refine wpIn_region_lit ?_
    have := list_lift (Z := Z) ho (L2 := []) L a w hnd (by
      refine cast (congrArg (fun q => wpList P L.toArray q L a w) ?_) h1
      funext e a w; cases e <;> rfl)
    rwa [List.append_nil] at this
  | true => exact wpIn_region_any h1.1 (any_lift ho (all_ndf hnd) _ _ _ _ h1.2)
theorem SI.region_list {id : Nat} {L : List Oper} (h : SLI P Z X L.toArray Q L m l) : SI P Z X (.region id L.toArray false) Q m l := fun a w hf hi => wpIn_region_lit (h a w hf hi)
theorem SLI.head (n : Nat) (ho : NoOut Q) (hnd : (rest.take n).all ndf = true) (h : SL P X ops (hdQ Z P ops Q (rest.drop n)) (rest.take n) m l) : SLI P Z X ops Q rest m l := fun a w hf hi => by
  have := list_lift (Z := Z) ho (L2 := rest.drop n) _ a w hnd (h a w hf hi)
  rwa [List.take_append_drop] at this
theorem SF.list (h : SLI P Z X ops Q rest m l) : SE X (hdQ Z P ops Q rest) .normal m l := h
theorem SLI.nil (h : SE X (shQ Z Q) .normal m l) : SLI P Z X ops Q [] m l := fun a w hf hi => h a w hf hi
theorem call_yield {Lk : Nat} {r : Loop} {vals : List Value} {c : Operand} {args : List Operand} {aT : Array TypeId} (ho : o.op = .call { callee := .value c, args := args.toArray, argTypes := aT })
    (hc : evM m c = some (.func (.yield Lk) #[] #[])) (ha : evL m args = some vals) (hsz : vals.length = r.params.size) {a : Act} {n : Nat} (hf : Fr n a m) (w : World) (hw : w.heap[Lk]? = some (.loop r)) :
    (execOp a.eval o).run P w = .ok (.round Lk r.fn ((r.params.zip vals.toArray).foldl (fun t (p, v) => t.setIfInBounds p v) r.tmps) r.assign r.body) w := by
  have hy := run_yield (P := P) (args := vals.toArray) hw (by simpa using hsz)
  unfold execOp; rw [ho]
  have he : args.toArray.map a.eval = vals.toArray := by rw [← hf.evL ha]; simp
  simp [resolve, hf.ev hc, Deferred.ofValue, he, invoke, Sem.run_bind, Result.andThen, hy]
theorem SLI.yield {ζ : Type} (val : ζ → Value) (l' : ζ → List Res) (p : ζ → Prop) {j Lk : Nat} {r : Loop} {vals : List Value} {c : Operand} {args : List Operand} {aT : Array TypeId} (hl : Z.l = none) (hg : o.guard = none)
    (hop : o.op = .call { callee := .value c, args := args.toArray, argTypes := aT }) (hc : evM m c = some (.func (.yield Lk) #[] #[])) (ha : evL m args = some vals) (hj : l[j]? = some (rLoop Lk r)) (hsz : vals.length = r.params.size) (hd : o.dst = some d) (hn : d < X.n)
    (H : ∀ w, Inv X w l → RoundIn Fence.wide 0 P Lk r.fn ((r.params.zip vals.toArray).foldl (fun t (p, v) => t.setIfInBounds p v) r.tmps) r.assign r.body w fun e w' => ∃ z, e = .returned (val z) ∧ Inv X w' (l' z) ∧ p z)
    (k : ∀ z, p z → SLI P Z X ops Q rest ((d, val z) :: m) (l' z)) : SLI P Z X ops Q (o :: rest) m l := fun a w hf hI =>
  wpListIn_plain hg fun K hK => by
    refine ⟨fun _ _ => trivial, ?_⟩
    have e0 : Z.F = Fence.wide := by unfold Rd.F; rw [hl]; rfl
    have e : Oper.semAt Z.F.round (sh Z a).eval o = execOp a.eval o := by rw [sh_eval]; exact Oper.semAt_eq _ _ _ (fun c hc => by rw [hop] at hc; cases hc)
    rw [e, call_yield hop hc ha hsz hf w (hI.1.get hj), Oper.uponIn_round]
    refine ⟨fun hd => (by cases hd), ?_⟩
    rw [e0]
    refine (H w hI).mono fun e w' ⟨z, he, hI', hp⟩ => ?_
    subst he
    rw [hd]
    show K ((sh Z a).put (some d) (val z)) w'
    rw [sh_put]
    exact hK _ _ (k z hp _ _ (hf.put hn _) hI')
theorem SF.norm {e : Exit} (m' : List (Nat × Value)) (l' : List Res) (hm : Subs m m') (hl : l = l') (h : SE X Q e m' l') : SE X Q e m l := fun a w hf hi => h a w (hf.sub hm) (hl ▸ hi)
theorem SF.passe {K : Act → World → Prop} {id : Nat} (h : SE X (shQ Z Q) (.exit id) m l) : SE X (shQ Z (Exit.then K Q)) (.exit id) m l := h
theorem SF.blkn {id : Nat} (h : SE X (shQ Z Q) .normal m l) : SE X (shQ Z (Exit.inBlock id Q)) .normal m l := h
theorem SF.blke {id : Nat} (h : SE X (shQ Z Q) .normal m l) : SE X (shQ Z (Exit.inBlock id Q)) (.exit id) m l := fun a w hf hi => by simp only [shQ, Exit.inBlock, if_true]; exact h a w hf hi
theorem SF.blko {id id' : Nat} (hne : id' ≠ id) (h : SE X (shQ Z Q) (.exit id') m l) : SE X (shQ Z (Exit.inBlock id Q)) (.exit id') m l := fun a w hf hi => by simp only [shQ, Exit.inBlock, if_neg hne]; exact h a w hf hi
theorem wpIn_loop_ghost {F : Fence} {n : Nat} {a : Act} {w : World} {c : Code} (I : Nat → Act → World → Prop) (n₀ : Nat) (h₀ : I n₀ a w)
    (round : ∀ k a w, I k a w → c.wpIn F n P (Exit.then (fun a' w' => ∃ k', k' < k ∧ I k' a' w') Q) a w) : (Code.loop c).wpIn F n P Q a w := by
  refine wpIn_loop (fun a w => ∃ k, I k a w) (fun a w => leastOf (fun k => I k a w)) ⟨n₀, h₀⟩ ?_
  intro a w hI
  refine wpIn_mono (round _ a w (leastOf_spec hI).1) ?_
  intro e a' w' hq
  cases e with
  | normal =>
    obtain ⟨n', hlt, hI'⟩ := hq
    exact show (∃ k, I k a' w') ∧ leastOf (fun k => I k a' w') < leastOf (fun k => I k a w) from ⟨⟨n', hI'⟩, Nat.lt_of_le_of_lt ((leastOf_spec ⟨n', hI'⟩).2 n' hI') hlt⟩
  | exit id => exact hq
  | goto l => exact hq
  | ret => exact hq
  | panic ch => exact hq
  | outgrown => exact hq
theorem SI.loop {c : Code} {γ : Type} (M : Nat → γ → List (Nat × Value)) (R : Nat → γ → List Res) (p : Nat → γ → Prop) (n0 : Nat) (g0 : γ) (hp : p n0 g0) (h0 : Subs m (M n0 g0)) (hl : l = R n0 g0)
    (round : ∀ n g, p n g → SI P Z X c (Exit.then (fun a w => ∃ n', n' < n ∧ ∃ a0 g', a = sh Z a0 ∧ p n' g' ∧ Fr X.n a0 (M n' g') ∧ Inv X w (R n' g')) Q) (M n g) (R n g)) : SI P Z X (.loop c) Q m l := fun a w hf hi =>
  wpIn_loop_ghost (fun n a w => ∃ a0 g, a = sh Z a0 ∧ p n g ∧ Fr X.n a0 (M n g) ∧ Inv X w (R n g)) n0 ⟨a, g0, rfl, hp, hf.sub h0, hl ▸ hi⟩ fun n a w ⟨a0, g, h0, h1, h2, h3⟩ => by subst h0; exact round n g h1 a0 w h2 h3
theorem SF.again {γ : Type} {M : Nat → γ → List (Nat × Value)} {R : Nat → γ → List Res} {p : Nat → γ → Prop} {n : Nat} (n' : Nat) (g' : γ) (hn : n' < n) (hp : p n' g') (hm : Subs m (M n' g')) (hl : l = R n' g') :
    SE X (shQ Z (Exit.then (fun a w => ∃ n', n' < n ∧ ∃ a0 g', a = sh Z a0 ∧ p n' g' ∧ Fr X.n a0 (M n' g') ∧ Inv X w (R n' g')) Q)) .normal m l := fun a w hf hi => ⟨n', hn, a, g', rfl, hp, hf.sub hm, hl ▸ hi⟩
theorem SF.res {F : Fence} {fn : Func} {R : Ending → World → Prop} {e : Exit} (hz : Z.ds = []) (he : e = .ret ∨ e = .normal) (hr : ∀ a w, Fr X.n a m → Inv X w l → (results fn a.tmps).run P w = .ok v w) (hR : ∀ w, Inv X w l → R (.returned v) w) : SE X (shQ Z (bodyPostM F 0 P fn R)) e m l := fun a w hf hI => by
  have hd : (sh Z a).defers = [] := by show a.defers ++ Z.ds = []; rw [hz, hf.1]; rfl
  have : LeavesInM F 0 P fn a.tmps R (sh Z a).defers .returning w := by rw [hd]; exact ⟨v, hr a w hf hI, hR w hI⟩
  rcases he with rfl | rfl <;> exact this
theorem bpm_out {F : Fence} {fn : Func} {R : Ending → World → Prop} (h : ∀ w, ¬ R .outgrown w) : NoOut (bodyPostM F 0 P fn R) := fun _ w hq => h w hq
theorem fr_args {n : Nat} {args : List Value} (hargs : args.length ≤ n) : Fr n { tmps := args.toArray ++ Array.replicate (n - args.toArray.size) undef, defers := [] } (args.zipIdx.map fun x => (x.2, x.1)) := by
  refine ⟨rfl, by simp; omega, ?_⟩
  intro t v hv
  have key : ∀ (xs : List Value) (k : Nat), look ((xs.zipIdx k).map fun x => (x.2, x.1)) t = some v → k ≤ t ∧ xs[t - k]? = some v := by
    intro xs
    induction xs with
    | nil => intro k h; simp [look] at h
    | cons x r ih =>
      intro k h
      simp only [List.zipIdx_cons, List.map_cons, look] at h
      cases hb : Nat.beq k t
      · rw [hb] at h
        have hne : k ≠ t := fun e => by subst e; simp at hb
        obtain ⟨h1, h2⟩ := ih (k + 1) (by simpa using h)
        refine ⟨by omega, ?_⟩
        rw [show t - k = (t - (k + 1)) + 1 by omega, List.getElem?_cons_succ]; exact h2
      · rw [hb] at h
        have e : k = t := Nat.eq_of_beq_eq_true hb
        subst e
        simp at h; subst h
        simp
  have h2 := (key args 0 hv).2
  simp only [Nat.sub_zero] at h2
  obtain ⟨h3, h4⟩ := List.getElem?_eq_some_iff.1 h2
  rw [Array.getElem?_append_left (by simpa using h3)]
  simpa using h2
theorem calls_si {f : FuncId} {fn : Func} {c : Code} {args : List Value} {w : World} {R : Ending → World → Prop} {l0 : List Res} (S : Nat → Prop) (hfn : P.funcs[f]? = some fn) (hb : fn.body = some c) (n : Nat) (hn : fn.ntmps = n) (hargs : args.length ≤ n)
    (hI : Inv ⟨n, w, S⟩ w l0) (hR : ∀ w, ¬ R .outgrown w) (h : NoOut (bodyPostM Fence.wide 0 P fn R) → SI P ⟨none, []⟩ ⟨n, w, S⟩ c (bodyPostM Fence.wide 0 P fn R) (args.zipIdx.map fun x => (x.2, x.1)) l0) : Calls P f args.toArray w R := by
  refine (callsIn_wide (n := 0)).1 (callsIn_of_wp_marks hfn hb trivial ?_)
  have := h (bpm_out hR) { tmps := args.toArray ++ Array.replicate (n - args.toArray.size) undef, defers := [] } w (fr_args hargs) hI
  rw [hn]
  exact this
theorem SF.begin {body : Code} {Lk j : Nat} {r : Loop} {R : Ending → World → Prop} (hz : Z = ⟨some Lk, []⟩) (hj : l[j]? = some (rLoop Lk r)) (hr : r.state = .ready) (hS : X.S Lk ∨ X.w0.heap.size ≤ Lk) (h : SI P ⟨some Lk, []⟩ X body (roundPost P Lk R) m (l.set j (rLoop Lk { r with state := .busy }))) :
    SE X (shQ Z (Exit.then (fun a₁ w₁ => ∃ w₂, (Instr.beginRound Lk).run P w₁ = .ok () w₂ ∧ body.wpIn (Fence.wide.inRound Lk) 0 P (roundPost P Lk R) a₁ w₂) (fun _ _ _ => False))) .normal m l := fun a w hf hI => by
  subst hz
  exact ⟨_, run_beginRound (hI.1.get hj) hr, h a _ hf (hI.putObj _ hj hS)⟩
theorem SF.rend {Lk j : Nat} {r : Loop} {R : Ending → World → Prop} (hj : l[j]? = some (rLoop Lk r)) (hS : X.S Lk ∨ X.w0.heap.size ≤ Lk) (hR : ∀ w, Inv X w (l.set j (rLoop Lk { r with state := .ready, pending := none })) → R (.returned (.bool true)) w) : SE X (shQ Z (roundPost P Lk R)) .normal m l := fun a w _ hI =>
  ⟨_, _, run_endRound none (hI.1.get hj), hR _ (hI.putObj _ hj hS)⟩
theorem round_si {Lk : Nat} {fn : FuncId} {tmps : Array Value} {assign body : Code} {w : World} {R : Ending → World → Prop} {l0 : List Res} (S : Nat → Prop) (n : Nat) (hf : Fr n ⟨tmps, []⟩ m) (hI : Inv ⟨n, w, S⟩ w l0)
    (h : SI P ⟨some Lk, []⟩ ⟨n, w, S⟩ assign (Exit.then (fun a₁ w₁ => ∃ w₂, (Instr.beginRound Lk).run P w₁ = .ok () w₂ ∧ body.wpIn (Fence.wide.inRound Lk) 0 P (roundPost P Lk R) a₁ w₂) (fun _ _ _ => False)) m l0) : RoundIn Fence.wide 0 P Lk fn tmps assign body w R :=
  roundIn_of_wpIn trivial (h ⟨tmps, []⟩ w hf hI)
theorem loop_eta {r : Loop} (h1 : r.state = .ready) (h2 : r.pending = none) : ({ r with state := .ready, pending := none } : Loop) = r := by cases r; simp_all
def JP (P : Program) (Z : Rd) (X : Cx) (Q : Exit → Act → World → Prop) (m : List (Nat × Value)) (l : List Res) : Option Code → Prop
  | none => SE X (shQ Z Q) .normal m l
  | some c => SI P Z X c Q m l
theorem JP.on (h : SE X (shQ Z Q) .normal m l) : JP P Z X Q m l none := h
theorem SI.range {g : Operand} {ps : Array Tmp} {assign body : Code} {gf : FuncId} {lb : List Value} {ζ : Type} (R : ζ → List Res) (p : ζ → Option Code → Prop) (hl : Z.l = none) (hok : CallOk P gf) (hg : evM m g = some (.func (.func gf) #[] lb.toArray))
    (H : ∀ (r : Loop) (D Lk : Nat) (w1 : World), r.params = ps → r.assign = assign → r.body = body → r.state = .ready → r.pending = none → Fr X.n ⟨r.tmps, []⟩ m → X.w0.heap.size ≤ D → X.w0.heap.size ≤ Lk → Inv X w1 (l ++ [rDef D, rLoop Lk r]) →
      Calls P gf (.func (.yield Lk) #[] #[] :: lb).toArray w1 fun e w2 => (∃ v, e = .returned v) ∧ ∃ z st j, st ≠ .busy ∧ p z j ∧ Inv X w2 (R z ++ [rDef D, rLoop Lk { r with state := st, pending := j }]))
    (K : ∀ D z j, X.w0.heap.size ≤ D → p z j → JP P ⟨Z.l, markD D :: Z.ds⟩ X Q m (R z ++ [rDef D]) j) : SI P Z X (.rangeFunc g ps assign body) Q m l := fun a w hf hI => by
  refine wpIn_rangeFunc fun fn _ => ?_
  have hr : Z.F.round = none := hl
  rw [hr]
  have he := run_enterLoop_outer (P := P) (w := w) fn (sh Z a).tmps ps assign body
  obtain ⟨W1, hW1⟩ : ∃ W1, W1 = (w.alloc (.deferred (some []))).alloc (.loop (mkLoop fn (sh Z a).tmps ps assign body w.heap.size .ready none)) := ⟨_, rfl⟩
  rw [← hW1] at he
  have hI1 : Inv X ((w.alloc (.deferred (some []))).alloc (.loop (mkLoop fn (sh Z a).tmps ps assign body w.heap.size .ready none))) (l ++ [rDef w.heap.size, rLoop (w.heap.size + 1) (mkLoop fn (sh Z a).tmps ps assign body w.heap.size .ready none)]) := by
    have h1 := (hI.addObj (.deferred (some []))).addObj (.loop (mkLoop fn (sh Z a).tmps ps assign body w.heap.size .ready none))
    rw [World.size_alloc, List.append_assoc] at h1
    exact h1
  rw [← hW1] at hI1
  obtain ⟨fnn, hf1, hf2, hf3⟩ := hok
  have h2' : ¬ fnn.body = none := by cases hfb : fnn.body <;> simp_all
  have h3' : ¬ fnn.name = "runtime.NumGoroutine" := by simpa using hf3
  refine ⟨w.heap.size + 1, [markD w.heap.size], W1, { target := .fn (.func gf) lb.toArray, args := #[.func (.yield (w.heap.size + 1)) #[] #[]] }, W1, gf, (.func (.yield (w.heap.size + 1)) #[] #[] :: lb).toArray, W1, he, ?_, fun _ _ => trivial, ?_, fun hd => (by cases hd), callsIn_Z ?_⟩
  · have hev := sh_ev (Z := Z) hf hg
    have h0 : (sh Z a).eval (.const (.func (.yield (w.heap.size + 1)) #[] #[])) = .func (.yield (w.heap.size + 1)) #[] #[] := rfl
    simp only [resolve, rangeCall, hev, Deferred.ofValue, List.map_toArray, List.map_cons, List.map_nil, h0]
    rfl
  · simp [invoke, callFunc, hf1, h2', h3', Sem.run_bind, Result.andThen]
  refine (H (mkLoop fn (sh Z a).tmps ps assign body w.heap.size .ready none) w.heap.size (w.heap.size + 1) _ rfl rfl rfl rfl rfl ⟨rfl, hf.2.1, hf.2.2⟩ hI.2.size (Nat.le_trans hI.2.size (Nat.le_succ _)) hI1).mono fun e w2 => ?_
  rintro ⟨⟨v, rfl⟩, z, st, j, hst, hp, hI2⟩
  have hlen : (R z ++ [rDef w.heap.size, rLoop (w.heap.size + 1) (mkLoop fn (sh Z a).tmps ps assign body w.heap.size st j)])[(R z).length + 1]? = some (rLoop (w.heap.size + 1) (mkLoop fn (sh Z a).tmps ps assign body w.heap.size st j)) := by
    rw [List.getElem?_append_right (by omega), show (R z).length + 1 - (R z).length = 1 by omega]; rfl
  have hk := K w.heap.size z j hI.2.size hp
  have hIe := hI2.putObj (.loop { mkLoop fn (sh Z a).tmps ps assign body w.heap.size st j with state := .exhausted }) hlen (.inr (Nat.le_trans hI.2.size (Nat.le_succ _)))
  have hIl : Inv X (w2.putObj (w.heap.size + 1) (.loop { mkLoop fn (sh Z a).tmps ps assign body w.heap.size st j with state := .exhausted })) (R z ++ [rDef w.heap.size]) := by
    refine Inv.left (l' := [rLoop (w.heap.size + 1) { mkLoop fn (sh Z a).tmps ps assign body w.heap.size st j with state := .exhausted }]) ?_
    rw [List.append_assoc]
    refine cast (congrArg (Inv X _) ?_) hIe
    rw [List.set_append_right _ _ (by omega), show (R z).length + 1 - (R z).length = 1 by omega]; rfl
  have hsh : ({ sh Z a with defers := [markD w.heap.size] ++ (sh Z a).defers } : Act) = sh ⟨Z.l, markD w.heap.size :: Z.ds⟩ a := by
    unfold sh; rw [hf.1]; rfl
  refine ⟨j, _, run_endLoop (hI2.1.get hlen) hst, ?_⟩
  rw [hsh]
  cases j with
  | none => exact hk a _ hf hIl
  | some c => exact hk a _ hf hIl
end
end Go.Proofs.Ytcilikkljkdceaa

/-
  Resources in bundles, in another order; a function value with one captured place. No program is named here.
-/
namespace Go.Proofs.Ytcilikkljkdceaa
open Go.RowKit
section
variable {P : Program} {X : Cx} {Q : Exit → Act → World → Prop} {m : List (Nat × Value)} {l l1 l2 : List Res} {w w' : World}
theorem SF.keep {e : Exit} (j : Nat) (h : SE X Q e m (l.take j)) : SE X Q e m l := fun a w hf hI => h a w hf ⟨⟨fun s hs => hI.1.1 s (List.mem_of_mem_take hs), hI.1.2.sublist (List.take_sublist _ _)⟩, hI.2⟩
def rPk (ls : List Res) : Res where
  ok w := Sep w ls
  fp b := ∃ r ∈ ls, r.fp b
  lt w h b hb := by obtain ⟨r, hr, hb⟩ := hb; exact r.lt w (h.1 r hr) b hb
  st w w' h hw := ⟨fun r hr => r.st w w' (h.1 r hr) (fun b hb => hw b ⟨r, hr, hb⟩), h.2⟩
theorem Sep.pack {ls : List Res} (h : Sep w (l1 ++ ls)) : Sep w (l1 ++ [rPk ls]) := by
  have hp := List.pairwise_append.1 h.2
  refine ⟨fun s hs => ?_, List.pairwise_append.2 ⟨hp.1, List.pairwise_singleton _ _, fun a ha b hb k h1 h2 => ?_⟩⟩
  · rcases List.mem_append.1 hs with hs | hs
    · exact h.1 s (List.mem_append_left _ hs)
    · simp at hs; subst hs
      exact ⟨fun r hr => h.1 r (List.mem_append_right _ hr), hp.2.1⟩
  · simp at hb; subst hb
    obtain ⟨r, hr, hk⟩ := h2
    exact hp.2.2 a ha r hr k h1 hk
theorem Sep.unpack {ls : List Res} (h : Sep w (l1 ++ [rPk ls])) : Sep w (l1 ++ ls) := by
  have hp := List.pairwise_append.1 h.2
  have hs : Sep w ls := h.1 (rPk ls) (by simp)
  refine ⟨fun s hm => ?_, List.pairwise_append.2 ⟨hp.1, hs.2, fun a ha b hb k h1 h2 => hp.2.2 a ha (rPk ls) (by simp) k h1 ⟨b, hb, h2⟩⟩⟩
  rcases List.mem_append.1 hm with hm | hm
  · exact h.1 s (List.mem_append_left _ hm)
  · exact hs.1 s hm
theorem Sep.reo {js : List Nat} (h : Sep w l) (hn : js.Nodup) : Sep w (js.filterMap (l[·]?)) := by
  have hp := List.pairwise_iff_getElem.1 h.2
  have dis : ∀ (i j : Nat) (x y : Res), i ≠ j → l[i]? = some x → l[j]? = some y → ∀ b, x.fp b → ¬ y.fp b := by
    intro i j x y hij hx hy b h1 h2
    obtain ⟨hi, rfl⟩ := List.getElem?_eq_some_iff.1 hx
    obtain ⟨hj, rfl⟩ := List.getElem?_eq_some_iff.1 hy
    rcases Nat.lt_or_gt_of_ne hij with hlt | hlt
    · exact hp i j hi hj hlt b h1 h2
    · exact hp j i hj hi hlt b h2 h1
  refine ⟨fun r hr => ?_, ?_⟩
  · obtain ⟨j, _, hj⟩ := List.mem_filterMap.1 hr
    exact h.1 r (List.mem_of_getElem? hj)
  · rw [List.pairwise_filterMap]
    refine hn.imp ?_
    intro i j hij x hx y hy
    exact dis i j x y hij hx hy
theorem Inv.pack {ls : List Res} (h : Inv X w (l1 ++ ls)) : Inv X w (l1 ++ [rPk ls]) := ⟨h.1.pack, h.2⟩
theorem Inv.unpack {ls : List Res} (h : Inv X w (l1 ++ [rPk ls])) : Inv X w (l1 ++ ls) := ⟨h.1.unpack, h.2⟩
theorem Inv.reo (js : List Nat) (h : Inv X w l) (hn : js.Nodup) : Inv X w (js.filterMap (l[·]?)) := ⟨h.1.reo hn, h.2⟩
theorem Inv.nilRow (e size : Nat) (h : Inv X w l) : Inv X w (l ++ [rRowN (.slice none 0 0) [] e size]) := by
  refine ⟨⟨fun s hs => ?_, List.pairwise_append.2 ⟨h.1.2, List.pairwise_singleton _ _, fun a _ b hb k _ h2 => ?_⟩⟩, h.2⟩
  · rcases List.mem_append.1 hs with hs | hs
    · exact h.1.1 s hs
    · simp at hs; subst hs; exact rowN_nil w e size
  · simp at hb; subst hb; simp [rRowN, Value.ownBlock] at h2
theorem Inv.up {S : Nat → Prop} {w1 : World} {n : Nat} (h : Inv X w1 l1) (hI : Inv ⟨n, w1, S⟩ w l) (hS : ∀ b, S b → X.S b ∨ X.w0.heap.size ≤ b) : Inv X w l := ⟨hI.1, h.2.trans' hI.2 hS⟩
def fb : Value → Nat
  | .func _ _ cs => vb (cs.getD 0 undef)
  | _ => 0
def Mk.fnc (X : Cx) (f : FuncId) (cs : List Value) (T : TypeId) : Mk := ⟨fun u => ∃ b, X.w0.heap.size ≤ b ∧ u = .func (.func f) #[] #[pt b 0], fun u _ => [rBlk (fb u) cs T], ⟨.func (.func f) #[] #[pt X.w0.heap.size 0], _, Nat.le_refl _, rfl⟩, [], fun _ _ _ _ => rfl⟩
theorem Fr.param {n : Nat} {T : Array Value} {m : List (Nat × Value)} (h : Fr n ⟨T, []⟩ m) {k : Nat} (hk : k < n) (v : Value) : Fr n ⟨T.setIfInBounds k v, []⟩ ((k, v) :: m) := h.put (d := k) hk v
end
end Go.Proofs.Ytcilikkljkdceaa

/-
  What a wire's calls do, as plain functions; what a call leaves of it in memory.
-/
namespace Go.Proofs.Ytcilikkljkdceaa
open Go.RowKit
theorem ne_t {a b : Int} (h : (a != b) = true) : a ≠ b := by simpa using h
theorem ne_f {a b : Int} (h : (a != b) = false) : ¬ (a ≠ b) := by simpa using h
theorem eq_t {a b : Int} (h : (a == b) = true) : a = b := by simpa using h
theorem not_t {b : Bool} (h : b = false) : ¬ (b = true) := by rw [h]; simp
def Wi.L (S : Wi) (b : Bool) : List Fm := if b then S.L1 else S.L0
def Wi.A (S : Wi) (b : Bool) : NicA := if b then S.A1 else S.A0
def Wi.setL (S : Wi) (b : Bool) (l : List Fm) : Wi := if b then { S with L1 := l } else { S with L0 := l }
def Wi.setA (S : Wi) (b : Bool) (A : NicA) : Wi := if b then { S with A1 := A } else { S with A0 := A }
def isD (dir : Int) : Bool := (dir == 0) || (dir == 1)
def oldB (now tick : Int) : Bool := decide ((8 : Int) ≤ IntKind.i64.wrap (now - tick))
def fm0 : Fm := ⟨[], false, 0⟩
def thereF {α : Type} (l : List α) (k : Int) : Int := if (decide (k < 0) || decide ((l.length : Int) ≤ k)) = true then 7 else 0
def outF {α : Type} (l : List α) (k : Int) : List α := l.take k.toNat ++ l.drop (k.toNat + 1)
def pullF (S : Wi) (b : Bool) : Int × Wi :=
  let r := takeR (S.A b)
  if ((r.1.2 == 0) && !oldB S.now r.1.1.2) = true then (r.1.2, (S.setA b r.2).setL b (S.L b ++ [⟨r.1.1.1, false, r.1.1.2⟩])) else (r.1.2, S.setA b r.2)
def dropF (S : Wi) (b : Bool) (k : Int) : Int × Wi := if (thereF (S.L b) k == 0) = true then (thereF (S.L b) k, S.setL b (outF (S.L b) k)) else (thereF (S.L b) k, S)
def doubleF (S : Wi) (b : Bool) (k : Int) : Int × Wi := if (thereF (S.L b) k == 0) = true then (thereF (S.L b) k, S.setL b (S.L b ++ [(S.L b).getD k.toNat fm0])) else (thereF (S.L b) k, S)
def insF {α : Type} (l : List α) (to : Int) (x : α) : List α := l.take to.toNat ++ x :: l.drop to.toNat
def moveF (S : Wi) (b : Bool) (k to : Int) : Int × Wi :=
  if (thereF (S.L b) k != 0) = true then (thereF (S.L b) k, S)
  else if (decide (to < 0) || decide (((S.L b).length : Int) ≤ to)) = true then (1, S)
  else (0, S.setL b (insF (outF (S.L b) k) to ((S.L b).getD k.toNat fm0)))
def damF (f : List UInt8) (bit : Int) : List UInt8 := f.set (bit.toNat / 8) (f.getD (bit.toNat / 8) 0 ^^^ UInt8.ofNat (2 ^ (bit.toNat % 8)))
def damageF (S : Wi) (b : Bool) (k bit : Int) : Int × Wi :=
  if (thereF (S.L b) k != 0) = true then (thereF (S.L b) k, S)
  else if (decide (bit < 0) || decide ((((S.L b).getD k.toNat fm0).f.length : Int) ≤ bit / 8)) = true then (1, S)
  else (0, S.setL b ((S.L b).set k.toNat ⟨damF ((S.L b).getD k.toNat fm0).f bit, true, ((S.L b).getD k.toNat fm0).tick⟩))
def deliverF (S : Wi) (b : Bool) (k : Int) : Int × Wi :=
  if (thereF (S.L b) k != 0) = true then (thereF (S.L b) k, S)
  else ((giveF (S.A !b) ((S.L b).getD k.toNat fm0).f ((S.L b).getD k.toNat fm0).bad).1, (S.setL b (outF (S.L b) k)).setA (!b) (giveF (S.A !b) ((S.L b).getD k.toNat fm0).f ((S.L b).getD k.toNat fm0).bad).2)
def drainF (now : Int) : Nat → NicA → NicA
  | 0, A => A
  | n + 1, A => if ((oldF A).2 && oldB now (oldF A).1) = true then (if ((takeR A).1.2 != 0) = true then (takeR A).2 else drainF now n (takeR A).2) else A
def ageF (now : Int) (l : List Fm) : List Fm := l.filter fun x => !oldB now x.tick
def tick1 (S : Wi) (b : Bool) : Wi := (S.setA b (drainF S.now 16 (tickF (S.A b)))).setL b (ageF S.now (S.L b))
def tickW (S : Wi) : Wi := tick1 (tick1 { S with now := inc S.now } false) true
def dirF {α : Type} (dir : Int) (f : Bool → α) (e : α) : α := if dir = 0 then f false else if dir = 1 then f true else e
theorem there_map {α β : Type} (f : α → β) (l : List α) (k : Int) : thereF (l.map f) k = thereF l k := by unfold thereF; rw [List.length_map]
theorem there_get {α : Type} {l : List α} {k : Int} (h : thereF l k = 0) : 0 ≤ k ∧ k < l.length ∧ ∃ x, l[k.toNat]? = some x := by
  unfold thereF at h
  split at h
  · cases h
  · rename_i h1
    simp only [Bool.or_eq_true, decide_eq_true_eq, not_or] at h1
    exact ⟨by omega, by omega, _, List.getElem?_eq_getElem (by omega)⟩
theorem map_out {α β : Type} (f : α → β) (l : List α) (k : Int) : (outF l k).map f = outF (l.map f) k := by unfold outF; rw [List.map_append, List.map_take, List.map_drop]
theorem map_ins {α β : Type} (f : α → β) (l : List α) (k : Int) (x : α) : (insF l k x).map f = insF (l.map f) k (f x) := by unfold insF; rw [List.map_append, List.map_take, List.map_cons, List.map_drop]
theorem out_len {α : Type} {l : List α} {k : Int} (h0 : 0 ≤ k) (h1 : k < l.length) : (outF l k).length = l.length - 1 := by unfold outF; rw [List.length_append, List.length_take, List.length_drop]; omega
theorem ins_len {α : Type} {l : List α} {k : Int} {x : α} (h0 : 0 ≤ k) (h1 : k ≤ l.length) : (insF l k x).length = l.length + 1 := by unfold insF; rw [List.length_append, List.length_take, List.length_cons, List.length_drop]; omega
theorem mem_out {α : Type} {l : List α} {k : Int} {x : α} (h : x ∈ outF l k) : x ∈ l := by
  rcases List.mem_append.1 h with h | h
  · exact List.mem_of_mem_take h
  · exact List.mem_of_mem_drop h
theorem mem_ins {α : Type} {l : List α} {k : Int} {x y : α} (h : x ∈ insF l k y) : x ∈ l ∨ x = y := by
  rcases List.mem_append.1 h with h | h
  · exact .inl (List.mem_of_mem_take h)
  · rcases List.mem_cons.1 h with h | h
    · exact .inr h
    · exact .inl (List.mem_of_mem_drop h)
structure WM where
  q0 : Option Addr
  c0 : Nat
  q1 : Option Addr
  c1 : Nat
  F : Nat → Prop
  fs : Value → List UInt8 → Prop
  ps0 : List FmV
  ps1 : List FmV
abbrev WLm (T TW TO : TypeId) (wd d0 d1 : Nat) (M : WM) (A0 A1 : NicA) (now : Int) : List Res := WL T TW TO wd d0 d1 M.q0 M.c0 M.q1 M.c1 M.F M.fs A0 A1 M.ps0 M.ps1 now
structure WM.Ok (M : WM) (S : Wi) : Prop where
  f0 : ∀ x ∈ M.ps0, M.fs x.v x.fr.f
  f1 : ∀ x ∈ M.ps1, M.fs x.v x.fr.f
  l0 : M.ps0.map FmV.fr = S.L0
  l1 : M.ps1.map FmV.fr = S.L1
def WM.K (M : WM) (b : Nat) : Prop := M.F b ∨ (Value.slice M.q0 M.ps0.length M.c0).ownBlock = some b ∨ (Value.slice M.q1 M.ps1.length M.c1).ownBlock = some b
def WM.G (wd d0 d1 : Nat) (M : WM) (b : Nat) : Prop := b = wd ∨ b = d0 ∨ b = d1 ∨ (Value.slice M.q0 M.ps0.length M.c0).ownBlock = some b ∨ (Value.slice M.q1 M.ps1.length M.c1).ownBlock = some b
structure WTo (T TW TO : TypeId) (w : World) (wd d0 d1 : Nat) (M : WM) (M' : WM) (S' : Wi) (w' : World) : Prop where
  sep : Sep w' (WLm T TW TO wd d0 d1 M' S'.A0 S'.A1 S'.now)
  ok : M'.Ok S'
  fs : ∀ v f, M.fs v f → M'.fs v f
  K : ∀ b, M'.K b → (b = wd ∨ b = d0 ∨ b = d1 ∨ M.K b) ∨ w.heap.size ≤ b
  only : Only (M.G wd d0 d1) w w'
section
variable {T TW TO : TypeId} {w w' : World} {wd d0 d1 : Nat} {M M' : WM} {S S' : Wi} {A0 A1 : NicA} {now : Int}
theorem own_eqw (q : Option Addr) (n c m e : Nat) : (Value.slice q n c).ownBlock = (Value.slice q m e).ownBlock := by cases q <;> rfl
theorem wl_fp {b : Nat} : (∃ r ∈ WLm T TW TO wd d0 d1 M A0 A1 now, r.fp b) ↔ b = wd ∨ b = d0 ∨ b = d1 ∨ M.K b := by
  constructor
  · rintro ⟨r, hr, hb⟩
    simp only [WLm, WL, List.mem_cons, List.not_mem_nil, or_false] at hr
    rcases hr with rfl | rfl | rfl | rfl | rfl | rfl
    · exact .inl hb
    · exact .inr (.inl hb)
    · exact .inr (.inr (.inl hb))
    · exact .inr (.inr (.inr (.inr (.inl hb))))
    · exact .inr (.inr (.inr (.inr (.inr hb))))
    · exact .inr (.inr (.inr (.inl hb)))
  · rintro (hb | hb | hb | hb | hb | hb)
    · exact ⟨_, List.mem_cons_self, hb⟩
    · exact ⟨_, List.mem_cons_of_mem _ List.mem_cons_self, hb⟩
    · exact ⟨_, List.mem_cons_of_mem _ (List.mem_cons_of_mem _ List.mem_cons_self), hb⟩
    · exact ⟨rZ M.F M.fs, by simp [WLm, WL], hb⟩
    · exact ⟨rRowN (.slice M.q0 M.ps0.length M.c0) (oRows M.ps0) TO 3, by simp [WLm, WL], hb⟩
    · exact ⟨rRowN (.slice M.q1 M.ps1.length M.c1) (oRows M.ps1) TO 3, by simp [WLm, WL], hb⟩
theorem WM.G.fp {b : Nat} (h : M.G wd d0 d1 b) : ∃ r ∈ WLm T TW TO wd d0 d1 M A0 A1 now, r.fp b := wl_fp.2 (by
  rcases h with h | h | h | h | h
  · exact .inl h
  · exact .inr (.inl h)
  · exact .inr (.inr (.inl h))
  · exact .inr (.inr (.inr (.inr (.inl h))))
  · exact .inr (.inr (.inr (.inr (.inr h)))))
theorem WM.G.sub {b : Nat} (h : M.G wd d0 d1 b) : b = wd ∨ b = d0 ∨ b = d1 ∨ M.K b := by
  rcases h with h | h | h | h | h
  · exact .inl h
  · exact .inr (.inl h)
  · exact .inr (.inr (.inl h))
  · exact .inr (.inr (.inr (.inr (.inl h))))
  · exact .inr (.inr (.inr (.inr (.inr h))))
theorem WTo.same (h : Sep w' (WLm T TW TO wd d0 d1 M S.A0 S.A1 S.now)) (hM : M.Ok S) (hO : Only (M.G wd d0 d1) w w') : WTo T TW TO w wd d0 d1 M M S w' := ⟨h, hM, fun _ _ h => h, fun _ hb => .inl (.inr (.inr (.inr hb))), hO⟩
theorem WM.Ok.app0 (hM : M.Ok S) {F : Nat → Prop} {fs : Value → List UInt8 → Prop} (hf : ∀ v f, M.fs v f → fs v f) (q : Option Addr) (c : Nat) {y : FmV} (hy : fs y.v y.fr.f) : WM.Ok { M with q0 := q, c0 := c, F := F, fs := fs, ps0 := M.ps0 ++ [y] } (S.setL false (S.L0 ++ [y.fr])) := by
  refine ⟨fun x hx => ?_, fun x hx => hf _ _ (hM.f1 x hx), by rw [← hM.l0]; exact List.map_append, hM.l1⟩
  rcases List.mem_append.1 hx with hx | hx
  · exact hf _ _ (hM.f0 x hx)
  · obtain rfl : x = y := by simpa using hx
    exact hy
theorem WM.Ok.app1 (hM : M.Ok S) {F : Nat → Prop} {fs : Value → List UInt8 → Prop} (hf : ∀ v f, M.fs v f → fs v f) (q : Option Addr) (c : Nat) {y : FmV} (hy : fs y.v y.fr.f) : WM.Ok { M with q1 := q, c1 := c, F := F, fs := fs, ps1 := M.ps1 ++ [y] } (S.setL true (S.L1 ++ [y.fr])) := by
  refine ⟨fun x hx => hf _ _ (hM.f0 x hx), fun x hx => ?_, hM.l0, by rw [← hM.l1]; exact List.map_append⟩
  rcases List.mem_append.1 hx with hx | hx
  · exact hf _ _ (hM.f1 x hx)
  · obtain rfl : x = y := by simpa using hx
    exact hy
theorem WM.K.new0 {b n0 n : Nat} {F : Nat → Prop} {fs : Value → List UInt8 → Prop} {q : Option Addr} {c : Nat} {l : List FmV} (h : WM.K { M with q0 := q, c0 := c, F := F, fs := fs, ps0 := l } b) (hF : ∀ b, F b → M.F b ∨ n0 ≤ b) (hq : ∀ b, (Value.slice q n c).ownBlock = some b → M.G wd d0 d1 b ∨ n0 ≤ b) : (b = wd ∨ b = d0 ∨ b = d1 ∨ M.K b) ∨ n0 ≤ b := by
  rcases h with h | h | h
  · exact (hF b h).imp (fun h => .inr (.inr (.inr (.inl h)))) id
  · exact (hq b ((own_eqw q n c l.length c).trans h)).imp (fun h => h.sub) id
  · exact .inl (.inr (.inr (.inr (.inr (.inr h)))))
theorem WM.K.new1 {b n0 n : Nat} {F : Nat → Prop} {fs : Value → List UInt8 → Prop} {q : Option Addr} {c : Nat} {l : List FmV} (h : WM.K { M with q1 := q, c1 := c, F := F, fs := fs, ps1 := l } b) (hF : ∀ b, F b → M.F b ∨ n0 ≤ b) (hq : ∀ b, (Value.slice q n c).ownBlock = some b → M.G wd d0 d1 b ∨ n0 ≤ b) : (b = wd ∨ b = d0 ∨ b = d1 ∨ M.K b) ∨ n0 ≤ b := by
  rcases h with h | h | h
  · exact (hF b h).imp (fun h => .inr (.inr (.inr (.inl h)))) id
  · exact .inl (.inr (.inr (.inr (.inr (.inl h)))))
  · exact (hq b ((own_eqw q n c l.length c).trans h)).imp (fun h => h.sub) id
theorem WM.Ok.set0 (hM : M.Ok S) {F : Nat → Prop} {fs : Value → List UInt8 → Prop} (hf : ∀ v f, M.fs v f → fs v f) {y : FmV} (hy : fs y.v y.fr.f) (k : Int) : WM.Ok { M with F := F, fs := fs, ps0 := M.ps0.set k.toNat y } (S.setL false (S.L0.set k.toNat y.fr)) := by
  refine ⟨fun x hx => ?_, fun x hx => hf _ _ (hM.f1 x hx), by rw [← hM.l0]; exact List.map_set, hM.l1⟩
  rcases List.mem_or_eq_of_mem_set hx with hx | rfl
  · exact hf _ _ (hM.f0 x hx)
  · exact hy
theorem WM.Ok.set1 (hM : M.Ok S) {F : Nat → Prop} {fs : Value → List UInt8 → Prop} (hf : ∀ v f, M.fs v f → fs v f) {y : FmV} (hy : fs y.v y.fr.f) (k : Int) : WM.Ok { M with F := F, fs := fs, ps1 := M.ps1.set k.toNat y } (S.setL true (S.L1.set k.toNat y.fr)) := by
  refine ⟨fun x hx => hf _ _ (hM.f0 x hx), fun x hx => ?_, hM.l0, by rw [← hM.l1]; exact List.map_set⟩
  rcases List.mem_or_eq_of_mem_set hx with hx | rfl
  · exact hf _ _ (hM.f1 x hx)
  · exact hy
theorem WM.Ok.ins0 (hM : M.Ok S) (q : Option Addr) (c : Nat) {y : FmV} (hy : M.fs y.v y.fr.f) (k to : Int) : WM.Ok { M with q0 := q, c0 := c, ps0 := insF (outF M.ps0 k) to y } (S.setL false (insF (outF S.L0 k) to y.fr)) := by
  refine ⟨fun x hx => ?_, hM.f1, by rw [← hM.l0, ← map_out]; exact map_ins _ _ _ _, hM.l1⟩
  rcases mem_ins hx with hx | rfl
  · exact hM.f0 x (mem_out hx)
  · exact hy
theorem WM.Ok.ins1 (hM : M.Ok S) (q : Option Addr) (c : Nat) {y : FmV} (hy : M.fs y.v y.fr.f) (k to : Int) : WM.Ok { M with q1 := q, c1 := c, ps1 := insF (outF M.ps1 k) to y } (S.setL true (insF (outF S.L1 k) to y.fr)) := by
  refine ⟨hM.f0, fun x hx => ?_, hM.l0, by rw [← hM.l1, ← map_out]; exact map_ins _ _ _ _⟩
  rcases mem_ins hx with hx | rfl
  · exact hM.f1 x (mem_out hx)
  · exact hy
theorem row_cap {q : Option Addr} {n c e size : Nat} {rs : List (List Value)} (h : RowsN w (.slice q n c) rs e size) (h0 : 0 < n) : n ≤ c := by
  obtain ⟨h1, h2⟩ := rowN_form h
  obtain ⟨_, _, _, _, h3, _⟩ := h2 (by omega)
  omega
theorem WM.K.frz {b n0 : Nat} {F : Nat → Prop} {fs : Value → List UInt8 → Prop} {M' : WM} (h : WM.K { M' with F := F, fs := fs } b) (hs : ∀ b, M'.K b → b = wd ∨ b = d0 ∨ b = d1 ∨ M.K b) (hF : ∀ b, F b → M.F b ∨ n0 ≤ b) : (b = wd ∨ b = d0 ∨ b = d1 ∨ M.K b) ∨ n0 ≤ b := by
  rcases h with h | h | h
  · exact (hF b h).imp (fun h => .inr (.inr (.inr (.inl h)))) id
  · exact .inl (hs b (.inr (.inl h)))
  · exact .inl (hs b (.inr (.inr h)))
theorem WTo.turned (k : WTo T TW TO w wd d0 d1 M M' S' w') : Turned (M.G wd d0 d1) (WLm T TW TO wd d0 d1 M A0 A1 now) (WLm T TW TO wd d0 d1 M' S'.A0 S'.A1 S'.now) w w' :=
  ⟨k.sep, k.only, fun r' hr b hb => by
    rcases wl_fp.1 ⟨r', hr, hb⟩ with h | h | h | h
    · exact .inl (wl_fp.2 (.inl h))
    · exact .inl (wl_fp.2 (.inr (.inl h)))
    · exact .inl (wl_fp.2 (.inr (.inr (.inl h))))
    · exact (k.K b h).imp (fun h => wl_fp.2 h) id⟩
theorem ow_one {ps : List FmV} (hv : ∀ x ∈ ps, ∃ a n c, x.v = Value.slice a n c) : ∀ r ∈ oRows ps, ∀ u ∈ r, u.oneCell' = true := by
  intro r hr u hu
  obtain ⟨x, hx, rfl⟩ := List.mem_map.1 hr
  obtain ⟨a, n, c, e⟩ := hv x hx
  simp only [FmV.row, List.mem_cons, List.not_mem_nil, or_false] at hu
  rcases hu with rfl | rfl | rfl
  · rw [e]; rfl
  · rfl
  · rfl
theorem WM.Ok.sl0 (hM : M.Ok S) (hs : Sep w (WLm T TW TO wd d0 d1 M A0 A1 now)) : ∀ x ∈ M.ps0, ∃ a n c, x.v = Value.slice a n c := fun x hx => by
  obtain ⟨a, c, e⟩ := ((hs.get (i := 5) rfl).2 _ _ (hM.f0 x hx)).1.form
  exact ⟨a, _, c, e⟩
theorem WM.Ok.sl1 (hM : M.Ok S) (hs : Sep w (WLm T TW TO wd d0 d1 M A0 A1 now)) : ∀ x ∈ M.ps1, ∃ a n c, x.v = Value.slice a n c := fun x hx => by
  obtain ⟨a, c, e⟩ := ((hs.get (i := 5) rfl).2 _ _ (hM.f1 x hx)).1.form
  exact ⟨a, _, c, e⟩
theorem WM.Ok.out0 (hM : M.Ok S) (k : Int) : WM.Ok { M with ps0 := outF M.ps0 k } (S.setL false (outF S.L0 k)) := ⟨fun x hx => hM.f0 x (mem_out hx), hM.f1, by rw [← hM.l0]; exact map_out _ _ _, hM.l1⟩
theorem WM.Ok.out1 (hM : M.Ok S) (k : Int) : WM.Ok { M with ps1 := outF M.ps1 k } (S.setL true (outF S.L1 k)) := ⟨hM.f0, fun x hx => hM.f1 x (mem_out hx), hM.l0, by rw [← hM.l1]; exact map_out _ _ _⟩
theorem WM.K.same0 {b : Nat} {l : List FmV} (h : WM.K { M with ps0 := l } b) : b = wd ∨ b = d0 ∨ b = d1 ∨ M.K b := by
  refine .inr (.inr (.inr ?_))
  rcases h with h | h | h
  · exact .inl h
  · exact .inr (.inl (by rw [own_eqw _ _ _ l.length M.c0]; exact h))
  · exact .inr (.inr h)
theorem WM.K.same1 {b : Nat} {l : List FmV} (h : WM.K { M with ps1 := l } b) : b = wd ∨ b = d0 ∨ b = d1 ∨ M.K b := by
  refine .inr (.inr (.inr ?_))
  rcases h with h | h | h
  · exact .inl h
  · exact .inr (.inl h)
  · exact .inr (.inr (by rw [own_eqw _ _ _ l.length M.c1]; exact h))
theorem Inv.wto {X : Cx} {l : List Res} (h : Inv X w (WLm T TW TO wd d0 d1 M A0 A1 now ++ l)) (k : WTo T TW TO w wd d0 d1 M M' S' w') (hG : ∀ b, M.G wd d0 d1 b → X.S b ∨ X.w0.heap.size ≤ b) : Inv X w' (WLm T TW TO wd d0 d1 M' S'.A0 S'.A1 S'.now ++ l) :=
  h.turned k.turned (fun b hb => hb.fp) hG
theorem WM.Ok.form0 (hM : M.Ok S) (hs : Sep w (WLm T TW TO wd d0 d1 M A0 A1 now)) : ∀ x ∈ M.ps0, BytesAt w x.v x.fr.f ∧ sliceIn x.v M.F ∧ ∃ a c, x.v = .slice a x.fr.f.length c := fun x hx => by
  have h := (hs.get (i := 5) rfl).2 _ _ (hM.f0 x hx)
  exact ⟨h.1, h.2, h.1.form⟩
theorem WM.Ok.form1 (hM : M.Ok S) (hs : Sep w (WLm T TW TO wd d0 d1 M A0 A1 now)) : ∀ x ∈ M.ps1, BytesAt w x.v x.fr.f ∧ sliceIn x.v M.F ∧ ∃ a c, x.v = .slice a x.fr.f.length c := fun x hx => by
  have h := (hs.get (i := 5) rfl).2 _ _ (hM.f1 x hx)
  exact ⟨h.1, h.2, h.1.form⟩
theorem Inv.freeze {X : Cx} {l : List Res} {q0 q1 : Option Addr} {c0 c1 : Nat} {F : Nat → Prop} {fs : Value → List UInt8 → Prop} {ps0 ps1 : List FmV} {v : Value} {f : List UInt8} {U : TypeId} (h : Inv X w (WL T TW TO wd d0 d1 q0 c0 q1 c1 F fs A0 A1 ps0 ps1 now ++ rMine v f U :: l)) (hf : f.length ≤ 1000000) :
    Inv X w (WL T TW TO wd d0 d1 q0 c0 q1 c1 (fun b => F b ∨ v.ownBlock = some b) (fun v' f' => fs v' f' ∨ v' = v ∧ f' = f) A0 A1 ps0 ps1 now ++ l) := by
  have hp := List.pairwise_append.1 h.1.2
  have hp2 := List.pairwise_cons.1 hp.2.1
  have hb : Sep w (WL T TW TO wd d0 d1 q0 c0 q1 c1 F fs A0 A1 ps0 ps1 now ++ l) := ⟨fun s hs => h.1.1 s (by
    rcases List.mem_append.1 hs with hs | hs
    · exact List.mem_append_left _ hs
    · exact List.mem_append_right _ (List.mem_cons_of_mem _ hs)), List.pairwise_append.2 ⟨hp.1, hp2.2, fun a ha b hb => hp.2.2 a ha b (List.mem_cons_of_mem _ hb)⟩⟩
  have hm : OwnBytes w 0 U v f := h.1.1 (rMine v f U) (List.mem_append_right _ List.mem_cons_self)
  have hz : (rZ F fs).ok w := h.1.get (i := 5) rfl
  have hN : ∀ r ∈ WL T TW TO wd d0 d1 q0 c0 q1 c1 F fs A0 A1 ps0 ps1 now ++ l, ∀ b, r.fp b → ¬ v.ownBlock = some b := by
    intro r hr b hrb hvb
    rcases List.mem_append.1 hr with hr | hr
    · exact hp.2.2 r hr _ List.mem_cons_self b hrb hvb
    · exact hp2.1 r hr b hvb hrb
  refine ⟨Sep.re (fun b => v.ownBlock = some b) 5 hb hN (fun r hr => ?_) (fun i r' hi => ?_), h.2⟩
  · obtain ⟨i, hi⟩ := List.mem_iff_getElem?.1 hr
    match i, hi with
    | 0, hi => cases hi; exact hb.get (i := 0) rfl
    | 1, hi => cases hi; exact rDv_mono (fun _ _ h => .inl h) (hb.get (i := 1) rfl)
    | 2, hi => cases hi; exact rDv_mono (fun _ _ h => .inl h) (hb.get (i := 2) rfl)
    | 3, hi => cases hi; exact hb.get (i := 3) rfl
    | 4, hi => cases hi; exact hb.get (i := 4) rfl
    | 5, hi =>
      cases hi
      refine ⟨fun b hb => hb.elim (hz.1 b) (fun hb => (rMine v f U).lt w hm b hb), fun v' f' hv => ?_⟩
      rcases hv with hv | ⟨rfl, rfl⟩
      · exact ⟨(hz.2 v' f' hv).1, fun b o n c e hn => .inl ((hz.2 v' f' hv).2 b o n c e hn)⟩
      · exact ⟨OwnBytes.bytes hm (by omega), fun b o n c e hn => .inr (by rw [e]; rfl)⟩
    | i + 6, hi => exact hb.get (i := i + 6) hi
  · match i, hi with
    | 0, hi => cases hi; exact ⟨_, rfl, fun b hb => .inl hb⟩
    | 1, hi => cases hi; exact ⟨_, rfl, fun b hb => .inl hb⟩
    | 2, hi => cases hi; exact ⟨_, rfl, fun b hb => .inl hb⟩
    | 3, hi => cases hi; exact ⟨_, rfl, fun b hb => .inl hb⟩
    | 4, hi => cases hi; exact ⟨_, rfl, fun b hb => .inl hb⟩
    | 5, hi => cases hi; exact ⟨_, rfl, fun b hb => hb.imp id fun e => ⟨rfl, e⟩⟩
    | i + 6, hi => exact ⟨r', hi, fun b hb => .inl hb⟩
theorem NicAt.wide {d : Nat} {F F1 : Nat → Prop} {A : NicA} (h : NicAt T w d F A) (h1 : ∀ b, F b → F1 b) (h2 : ¬ F1 d) (h3 : ∀ b, F1 b → b < w.heap.size) : NicAt T w d F1 A := by
  obtain ⟨tv, cv, k1, k2, k3⟩ := h
  exact ⟨tv, cv, k1, h2, h3, fun i hi => ⟨(k3.2.1 i hi).1, fun b o n c e hn => h1 _ ((k3.2.1 i hi).2 b o n c e hn)⟩, fun i hi => ⟨(k3.2.2 i hi).1, fun b o n c e hn => h1 _ ((k3.2.2 i hi).2 b o n c e hn)⟩⟩
theorem out_frz {U : TypeId} {d : Nat} {F : Nat → Prop} {A : NicA} {v : Value} {f : List UInt8} (h : NicAt T w' d F A) (hd : d < w.heap.size) (ho : Out U w w' v f) (hl : f.length ≤ 1000000) :
    ∃ F1, NicAt T w' d F1 A ∧ (∀ b, F1 b → F b ∨ w.heap.size ≤ b) ∧ BytesAt w' v f ∧ sliceIn v F1 ∧ ∃ a c, v = .slice a f.length c := by
  rcases ho with ⟨rfl, rfl⟩ | ⟨g, hg, rfl, hb⟩
  · exact ⟨F, h, fun b hb => .inl hb, .inl ⟨none, 0, rfl, fun _ => rfl, rfl⟩, fun b o n c e _ => (by simp at e), none, 0, rfl⟩
  · obtain ⟨tv, cv, k1, k2, k3⟩ := h
    refine ⟨fun b => F b ∨ b = g, NicAt.wide ⟨tv, cv, k1, k2, k3⟩ (fun b h => .inl h) (fun h => h.elim k2 (fun e => by omega)) (fun b hb' => by rcases hb' with hb' | rfl; exact k3.1 b hb'; exact hb.lt), fun b hb => by rcases hb with hb | rfl; exact .inl hb; exact .inr hg, hb.bytes (by omega), fun b o n c e hn => ?_, _, _, rfl⟩
    simp only [Value.slice.injEq, Option.some.injEq, Addr.mk.injEq] at e
    exact .inr e.1.1.symm
theorem takeR_len {A : NicA} (h : NicOk A) : (takeR A).1.1.1.length ≤ 274 := by
  unfold takeR
  split
  · simp
  · split
    · simp
    · exact h.tl _
end
abbrev rB (wd d0 d1 : Nat) (M : WM) (now : Int) (T : TypeId) : Res := rBlk wd [pt d0 0, pt d1 0, Value.slice M.q0 M.ps0.length M.c0, Value.slice M.q1 M.ps1.length M.c1, iw now] T
abbrev rR0 (M : WM) (T : TypeId) : Res := rRowN (.slice M.q0 M.ps0.length M.c0) (oRows M.ps0) T 3
abbrev rR1 (M : WM) (T : TypeId) : Res := rRowN (.slice M.q1 M.ps1.length M.c1) (oRows M.ps1) T 3
end Go.Proofs.Ytcilikkljkdceaa

/-
  Facts on the types and functions of this seat's program.
-/
namespace Go.Proofs.Ytcilikkljkdceaa
open Go.RowKit
set_option maxRecDepth 100000
set_option maxHeartbeats 4000000
theorem ts3 : TySc Try.prog 3 (iw 0) := ⟨⟨_, Try.underlying3, rfl⟩, by kernel_rfl, rfl⟩
theorem ts4 : TySc Try.prog 4 (bo false) := ⟨⟨_, Try.underlying4, rfl⟩, by kernel_rfl, rfl⟩
theorem ts5 : TySc Try.prog 5 (Value.int .u8 0) := ⟨⟨_, Try.underlying5, rfl⟩, by kernel_rfl, rfl⟩
theorem ts28 : TySc Try.prog 28 (Value.slice none 0 0) := ⟨⟨_, Try.underlying28, rfl⟩, by kernel_rfl, rfl⟩
theorem ts33 : TySc Try.prog 33 (Value.pointer none) := ⟨⟨_, Try.underlying33, rfl⟩, by kernel_rfl, rfl⟩
theorem ts35 : TySc Try.prog 35 (Value.pointer none) := ⟨⟨_, Try.underlying35, rfl⟩, by kernel_rfl, rfl⟩
theorem ts36 : TySc Try.prog 36 (Value.pointer none) := ⟨⟨_, Try.underlying36, rfl⟩, by kernel_rfl, rfl⟩
theorem ts38 : TySc Try.prog 38 (Value.pointer none) := ⟨⟨_, Try.underlying38, rfl⟩, by kernel_rfl, rfl⟩
theorem ts56 : TySc Try.prog 56 (Value.slice none 0 0) := ⟨⟨_, Try.underlying56, rfl⟩, by kernel_rfl, rfl⟩
theorem ta30 : TyAg Try.prog 30 [iw 0, iw 0, iw 0, iw 0, Value.slice none 0 0] := ⟨⟨_, Try.underlying30, rfl⟩, by kernel_rfl, rfl⟩
theorem ta34 : TyAg Try.prog 34 [Value.pointer none, Value.pointer none] := ⟨⟨_, Try.underlying34, rfl⟩, by kernel_rfl, rfl⟩
theorem ta46 : TyAg Try.prog 46 [Value.slice none 0 0, bo false, iw 0] := ⟨⟨_, Try.underlying46, rfl⟩, by kernel_rfl, rfl⟩
theorem ta71 : TyAg Try.prog 71 [iw 0, bo false, Value.slice none 0 0, bo false] := ⟨⟨_, Try.underlying71, rfl⟩, by kernel_rfl, rfl⟩
theorem ta74 : TyAg Try.prog 74 [iw 0, iw 0, iw 0, iw 0, iw 0, iw 0, iw 0, iw 0, Value.slice none 0 0, iw 0, Value.slice none 0 0, iw 0, Value.slice none 0 0, iw 0, Value.slice none 0 0, iw 0, Value.slice none 0 0, iw 0, Value.slice none 0 0, iw 0, Value.slice none 0 0, iw 0, Value.slice none 0 0, iw 0, Value.slice none 0 0, iw 0, Value.slice none 0 0, iw 0, Value.slice none 0 0, iw 0, Value.slice none 0 0, iw 0, Value.slice none 0 0, iw 0, Value.slice none 0 0, iw 0, Value.slice none 0 0, iw 0, Value.slice none 0 0, iw 0, iw 0, bo false, Value.slice none 0 0, bo false, iw 0, bo false, Value.slice none 0 0, bo false, iw 0, bo false, Value.slice none 0 0, bo false, iw 0, bo false, Value.slice none 0 0, bo false, iw 0, bo false, Value.slice none 0 0, bo false, iw 0, bo false, Value.slice none 0 0, bo false, iw 0, bo false, Value.slice none 0 0, bo false, iw 0, bo false, Value.slice none 0 0, bo false, iw 0, bo false, Value.slice none 0 0, bo false, iw 0, bo false, Value.slice none 0 0, bo false, iw 0, bo false, Value.slice none 0 0, bo false, iw 0, bo false, Value.slice none 0 0, bo false, iw 0, bo false, Value.slice none 0 0, bo false, iw 0, bo false, Value.slice none 0 0, bo false, iw 0, bo false, Value.slice none 0 0, bo false, iw 0, bo false, Value.slice none 0 0, bo false, iw 0] := ⟨⟨_, Try.underlying74, rfl⟩, by kernel_rfl, rfl⟩
theorem ta100 : TyAg Try.prog 100 [iw 0, iw 0, iw 0, iw 0, iw 0, iw 0, iw 0, iw 0, Value.slice none 0 0, iw 0, Value.slice none 0 0, iw 0, Value.slice none 0 0, iw 0, Value.slice none 0 0, iw 0, Value.slice none 0 0, iw 0, Value.slice none 0 0, iw 0, Value.slice none 0 0, iw 0, Value.slice none 0 0, iw 0, Value.slice none 0 0, iw 0, Value.slice none 0 0, iw 0, Value.slice none 0 0, iw 0, Value.slice none 0 0, iw 0, Value.slice none 0 0, iw 0, Value.slice none 0 0, iw 0, Value.slice none 0 0, iw 0, Value.slice none 0 0, iw 0, iw 0, bo false, Value.slice none 0 0, bo false, iw 0, bo false, Value.slice none 0 0, bo false, iw 0, bo false, Value.slice none 0 0, bo false, iw 0, bo false, Value.slice none 0 0, bo false, iw 0, bo false, Value.slice none 0 0, bo false, iw 0, bo false, Value.slice none 0 0, bo false, iw 0, bo false, Value.slice none 0 0, bo false, iw 0, bo false, Value.slice none 0 0, bo false, iw 0, bo false, Value.slice none 0 0, bo false, iw 0, bo false, Value.slice none 0 0, bo false, iw 0, bo false, Value.slice none 0 0, bo false, iw 0, bo false, Value.slice none 0 0, bo false, iw 0, bo false, Value.slice none 0 0, bo false, iw 0, bo false, Value.slice none 0 0, bo false, iw 0, bo false, Value.slice none 0 0, bo false, iw 0, bo false, Value.slice none 0 0, bo false, iw 0] := ⟨⟨_, Try.underlying100, rfl⟩, by kernel_rfl, rfl⟩
theorem fd30_0 : FldIs Try.prog 30 0 0 := ⟨_, _, Try.underlying30, rfl, rfl, by kernel_rfl⟩
theorem fd30_1 : FldIs Try.prog 30 1 1 := ⟨_, _, Try.underlying30, rfl, rfl, by kernel_rfl⟩
theorem fd30_2 : FldIs Try.prog 30 2 2 := ⟨_, _, Try.underlying30, rfl, rfl, by kernel_rfl⟩
theorem fd30_3 : FldIs Try.prog 30 3 3 := ⟨_, _, Try.underlying30, rfl, rfl, by kernel_rfl⟩
theorem fd30_4 : FldIs Try.prog 30 4 4 := ⟨_, _, Try.underlying30, rfl, rfl, by kernel_rfl⟩
theorem fd41_0 : FldIs Try.prog 41 0 0 := ⟨_, _, Try.underlying41, rfl, rfl, by kernel_rfl⟩
theorem fd41_1 : FldIs Try.prog 41 1 2 := ⟨_, _, Try.underlying41, rfl, rfl, by kernel_rfl⟩
theorem fd41_2 : FldIs Try.prog 41 2 3 := ⟨_, _, Try.underlying41, rfl, rfl, by kernel_rfl⟩
theorem fd41_3 : FldIs Try.prog 41 3 5 := ⟨_, _, Try.underlying41, rfl, rfl, by kernel_rfl⟩
theorem fd41_4 : FldIs Try.prog 41 4 6 := ⟨_, _, Try.underlying41, rfl, rfl, by kernel_rfl⟩
theorem fd41_5 : FldIs Try.prog 41 5 8 := ⟨_, _, Try.underlying41, rfl, rfl, by kernel_rfl⟩
theorem fd46_0 : FldIs Try.prog 46 0 0 := ⟨_, _, Try.underlying46, rfl, rfl, by kernel_rfl⟩
theorem fd46_1 : FldIs Try.prog 46 1 1 := ⟨_, _, Try.underlying46, rfl, rfl, by kernel_rfl⟩
theorem fd46_2 : FldIs Try.prog 46 2 2 := ⟨_, _, Try.underlying46, rfl, rfl, by kernel_rfl⟩
theorem fd67_0 : FldIs Try.prog 67 0 0 := ⟨_, _, Try.underlying67, rfl, rfl, by kernel_rfl⟩
theorem fd67_1 : FldIs Try.prog 67 1 1 := ⟨_, _, Try.underlying67, rfl, rfl, by kernel_rfl⟩
theorem fd71_0 : FldIs Try.prog 71 0 0 := ⟨_, _, Try.underlying71, rfl, rfl, by kernel_rfl⟩
theorem fd71_1 : FldIs Try.prog 71 1 1 := ⟨_, _, Try.underlying71, rfl, rfl, by kernel_rfl⟩
theorem fd71_2 : FldIs Try.prog 71 2 2 := ⟨_, _, Try.underlying71, rfl, rfl, by kernel_rfl⟩
theorem fd71_3 : FldIs Try.prog 71 3 3 := ⟨_, _, Try.underlying71, rfl, rfl, by kernel_rfl⟩
theorem fd74_0 : FldIs Try.prog 74 0 0 := ⟨_, _, Try.underlying74, rfl, rfl, by kernel_rfl⟩
theorem fd74_1 : FldIs Try.prog 74 1 8 := ⟨_, _, Try.underlying74, rfl, rfl, by kernel_rfl⟩
theorem fd74_2 : FldIs Try.prog 74 2 40 := ⟨_, _, Try.underlying74, rfl, rfl, by kernel_rfl⟩
theorem fd74_3 : FldIs Try.prog 74 3 104 := ⟨_, _, Try.underlying74, rfl, rfl, by kernel_rfl⟩
theorem fd77_0 : FldIs Try.prog 77 0 0 := ⟨_, _, Try.underlying77, rfl, rfl, by kernel_rfl⟩
theorem fd77_1 : FldIs Try.prog 77 1 2 := ⟨_, _, Try.underlying77, rfl, rfl, by kernel_rfl⟩
theorem fd77_2 : FldIs Try.prog 77 2 4 := ⟨_, _, Try.underlying77, rfl, rfl, by kernel_rfl⟩
theorem fd92_0 : FldIs Try.prog 92 0 0 := ⟨_, _, Try.underlying92, rfl, rfl, by kernel_rfl⟩
theorem fd94_0 : FldIs Try.prog 94 0 0 := ⟨_, _, Try.underlying94, rfl, rfl, by kernel_rfl⟩
theorem fd94_1 : FldIs Try.prog 94 1 1 := ⟨_, _, Try.underlying94, rfl, rfl, by kernel_rfl⟩
theorem fd100_0 : FldIs Try.prog 100 0 0 := ⟨_, _, Try.underlying100, rfl, rfl, by kernel_rfl⟩
theorem fd100_1 : FldIs Try.prog 100 1 8 := ⟨_, _, Try.underlying100, rfl, rfl, by kernel_rfl⟩
theorem fd100_3 : FldIs Try.prog 100 3 104 := ⟨_, _, Try.underlying100, rfl, rfl, by kernel_rfl⟩
theorem ar34 : ArrIs Try.prog 34 2 33 1 := ⟨Try.underlying34, by kernel_rfl⟩
theorem ar37 : ArrIs Try.prog 37 2 36 1 := ⟨Try.underlying37, by kernel_rfl⟩
theorem ar39 : ArrIs Try.prog 39 2 3 1 := ⟨Try.underlying39, by kernel_rfl⟩
theorem ar68 : ArrIs Try.prog 68 8 3 1 := ⟨Try.underlying68, by kernel_rfl⟩
theorem ar69 : ArrIs Try.prog 69 16 67 2 := ⟨Try.underlying69, by kernel_rfl⟩
theorem ar72 : ArrIs Try.prog 72 16 71 4 := ⟨Try.underlying72, by kernel_rfl⟩
theorem ar75 : ArrIs Try.prog 75 2 56 1 := ⟨Try.underlying75, by kernel_rfl⟩
theorem ar95 : ArrIs Try.prog 95 16 94 2 := ⟨Try.underlying95, by kernel_rfl⟩
theorem si22 : SliIs Try.prog 22 30 5 := ⟨Try.underlying22, by kernel_rfl⟩
theorem si26 : SliIs Try.prog 26 3 1 := ⟨Try.underlying26, by kernel_rfl⟩
theorem si27 : SliIs Try.prog 27 28 1 := ⟨Try.underlying27, by kernel_rfl⟩
theorem si28 : SliIs Try.prog 28 5 1 := ⟨Try.underlying28, by kernel_rfl⟩
theorem si56 : SliIs Try.prog 56 46 3 := ⟨Try.underlying56, by kernel_rfl⟩
theorem co7 : CallOk Try.prog 7 := ⟨_, Try.func7, rfl, rfl⟩
theorem co8 : CallOk Try.prog 8 := ⟨_, Try.func8, rfl, rfl⟩
theorem co9 : CallOk Try.prog 9 := ⟨_, Try.func9, rfl, rfl⟩
theorem co10 : CallOk Try.prog 10 := ⟨_, Try.func10, rfl, rfl⟩
theorem co11 : CallOk Try.prog 11 := ⟨_, Try.func11, rfl, rfl⟩
theorem co12 : CallOk Try.prog 12 := ⟨_, Try.func12, rfl, rfl⟩
theorem co13 : CallOk Try.prog 13 := ⟨_, Try.func13, rfl, rfl⟩
theorem co14 : CallOk Try.prog 14 := ⟨_, Try.func14, rfl, rfl⟩
theorem co15 : CallOk Try.prog 15 := ⟨_, Try.func15, rfl, rfl⟩
theorem co16 : CallOk Try.prog 16 := ⟨_, Try.func16, rfl, rfl⟩
theorem co18 : CallOk Try.prog 18 := ⟨_, Try.func18, rfl, rfl⟩
theorem co19 : CallOk Try.prog 19 := ⟨_, Try.func19, rfl, rfl⟩
theorem co20 : CallOk Try.prog 20 := ⟨_, Try.func20, rfl, rfl⟩
theorem co21 : CallOk Try.prog 21 := ⟨_, Try.func21, rfl, rfl⟩
theorem co22 : CallOk Try.prog 22 := ⟨_, Try.func22, rfl, rfl⟩
theorem co23 : CallOk Try.prog 23 := ⟨_, Try.func23, rfl, rfl⟩
theorem co25 : CallOk Try.prog 25 := ⟨_, Try.func25, rfl, rfl⟩
theorem co26 : CallOk Try.prog 26 := ⟨_, Try.func26, rfl, rfl⟩
theorem co27 : CallOk Try.prog 27 := ⟨_, Try.func27, rfl, rfl⟩
theorem co28 : CallOk Try.prog 28 := ⟨_, Try.func28, rfl, rfl⟩
theorem co29 : CallOk Try.prog 29 := ⟨_, Try.func29, rfl, rfl⟩
theorem co30 : CallOk Try.prog 30 := ⟨_, Try.func30, rfl, rfl⟩
theorem co31 : CallOk Try.prog 31 := ⟨_, Try.func31, rfl, rfl⟩
theorem co32 : CallOk Try.prog 32 := ⟨_, Try.func32, rfl, rfl⟩
theorem co33 : CallOk Try.prog 33 := ⟨_, Try.func33, rfl, rfl⟩
theorem co34 : CallOk Try.prog 34 := ⟨_, Try.func34, rfl, rfl⟩
theorem co35 : CallOk Try.prog 35 := ⟨_, Try.func35, rfl, rfl⟩
theorem co36 : CallOk Try.prog 36 := ⟨_, Try.func36, rfl, rfl⟩
theorem co37 : CallOk Try.prog 37 := ⟨_, Try.func37, rfl, rfl⟩
theorem co38 : CallOk Try.prog 38 := ⟨_, Try.func38, rfl, rfl⟩
theorem co39 : CallOk Try.prog 39 := ⟨_, Try.func39, rfl, rfl⟩
theorem co49 : CallOk Try.prog 49 := ⟨_, Try.func49, rfl, rfl⟩
theorem co50 : CallOk Try.prog 50 := ⟨_, Try.func50, rfl, rfl⟩
theorem co51 : CallOk Try.prog 51 := ⟨_, Try.func51, rfl, rfl⟩
theorem co52 : CallOk Try.prog 52 := ⟨_, Try.func52, rfl, rfl⟩
theorem co53 : CallOk Try.prog 53 := ⟨_, Try.func53, rfl, rfl⟩
theorem co54 : CallOk Try.prog 54 := ⟨_, Try.func54, rfl, rfl⟩
theorem co55 : CallOk Try.prog 55 := ⟨_, Try.func55, rfl, rfl⟩
theorem co57 : CallOk Try.prog 57 := ⟨_, Try.func57, rfl, rfl⟩
theorem co58 : CallOk Try.prog 58 := ⟨_, Try.func58, rfl, rfl⟩
theorem co67 : CallOk Try.prog 67 := ⟨_, Try.func67, rfl, rfl⟩
theorem co68 : CallOk Try.prog 68 := ⟨_, Try.func68, rfl, rfl⟩
theorem co69 : CallOk Try.prog 69 := ⟨_, Try.func69, rfl, rfl⟩
theorem co72 : CallOk Try.prog 72 := ⟨_, Try.func72, rfl, rfl⟩
end Go.Proofs.Ytcilikkljkdceaa

/-
  Small functions of the wire.
-/
namespace Go.Proofs.Ytcilikkljkdceaa
open Go.RowKit
set_option maxRecDepth 100000
set_option maxHeartbeats 4000000
theorem is_any {w : World} (dir : Int) : Calls Try.prog 53 #[iw dir] w fun e w' => e = .returned (bo (isD dir)) ∧ Only (fun _ => False) w w' := by
  refine calls_sc (l0 := []) (args := [iw dir]) (fun _ => False) Try.func53 rfl 9 Try.ntmps53 (le_b rfl) ⟨⟨by simp, List.Pairwise.nil⟩, Only.refl _ _⟩ ?_
  show SC _ _ _ _ [(0, iw dir)] []
  refine SC.sr ?_
  refine SL.as ?_
  refine SL.nl ?_
  refine SC.sr ?_
  refine SL.mv ?_
  refine SL.uu (ru_eq (b := ((dir : Int) == 0)) rfl rfl rfl rfl) ?_
  refine SL.mv ?_
  refine SL.join 3 [(0, iw dir), (2, bo false), (3, iw dir), (4, bo ((dir : Int) == 0)), (5, bo ((dir : Int) == 0)), (8, bo (((dir : Int) == 0) || ((dir : Int) == 1)))] [] ?_ ?_
  rotate_left
  · intro K hK
    rcases tf ((dir : Int) == 0) with h1 | h1
    · skip
      refine SL.norm [(0, iw dir), (2, bo false), (3, iw dir), (4, bo true), (5, bo true)] _ ⟨rfl, rfl, rfl, (congrArg (fun x => some (Value.bool x)) h1), (congrArg (fun x => some (Value.bool x)) h1), trivial⟩ rfl ?_
      refine SL.oo ?_
      refine SL.oo ?_
      refine SL.pk (bo true) (undef) ?_
      exact SL.joined hK ⟨rfl, rfl, rfl, (congrArg (fun x => some (Value.bool x)) h1.symm), (congrArg (fun x => some (Value.bool x)) h1.symm), (congrArg (fun bx => some (Value.bool (bx || ((dir : Int) == 1)))) h1.symm), trivial⟩ rfl
    refine SL.norm [(0, iw dir), (2, bo false), (3, iw dir), (4, bo false), (5, bo false)] _ ⟨rfl, rfl, rfl, (congrArg (fun x => some (Value.bool x)) h1), (congrArg (fun x => some (Value.bool x)) h1), trivial⟩ rfl ?_
    refine SL.gg (ru_move rfl rfl) ?_
    refine SL.gg (ru_eq (b := ((dir : Int) == 1)) rfl rfl rfl rfl) ?_
    refine SL.pk (bo true) (bo ((dir : Int) == 1)) ?_
    exact SL.joined hK ⟨rfl, rfl, rfl, (congrArg (fun x => some (Value.bool x)) h1.symm), (congrArg (fun x => some (Value.bool x)) h1.symm), (congrArg (fun bx => some (Value.bool (bx || ((dir : Int) == 1)))) h1.symm), trivial⟩ rfl
  skip
  refine SL.as ?_
  refine SL.nl ?_
  refine SC.ret ?_
  refine SE.res (.inl rfl) (res1 Try.results53 rfl) fun w1 hI => ⟨rfl, hI.2⟩
theorem old_any {w : World} {wd d0 d1 : Nat} {M : WM} {S : Wi} (tick : Int) (h : Sep w (WLm 74 77 46 wd d0 d1 M S.A0 S.A1 S.now)) : Calls Try.prog 51 #[pt wd 0, iw tick] w fun e w' => e = .returned (bo (oldB S.now tick)) ∧ Only (fun _ => False) w w' := by
  refine calls_sc (l0 := (WLm 74 77 46 wd d0 d1 M S.A0 S.A1 S.now)) (args := [pt wd 0, iw tick]) (fun _ => False) Try.func51 rfl 12 Try.ntmps51 (le_b rfl) ⟨h, Only.refl _ _⟩ ?_
  show SC _ _ _ _ [(0, pt wd 0), (1, iw tick)] (WLm 74 77 46 wd d0 d1 M S.A0 S.A1 S.now)
  refine SC.sr ?_
  refine SL.as ?_
  refine SL.nl ?_
  refine SC.sr ?_
  refine SL.mv ?_
  refine SL.nk ?_
  refine SL.fa 4 fd77_2 ?_
  refine SL.ld 0 ts3 ?_
  refine SL.mv ?_
  refine SL.uu (ru_sub (r := (IntKind.i64.wrap (S.now - tick))) rfl rfl rfl rfl) ?_
  refine SL.uu (ru_ge (b := (decide ((8 : Int) ≤ (IntKind.i64.wrap (S.now - tick))))) rfl rfl rfl rfl) ?_
  refine SL.as ?_
  refine SL.nl ?_
  refine SC.ret ?_
  refine SE.res (.inl rfl) (res1 Try.results51 rfl) fun w1 hI => ⟨rfl, hI.2⟩
theorem now_any {w : World} {wd d0 d1 : Nat} {M : WM} {S : Wi} (h : Sep w (WLm 74 77 46 wd d0 d1 M S.A0 S.A1 S.now)) : Calls Try.prog 12 #[pt wd 0] w fun e w' => e = .returned (iw S.now) ∧ Only (fun _ => False) w w' := by
  refine calls_sc (l0 := (WLm 74 77 46 wd d0 d1 M S.A0 S.A1 S.now)) (args := [pt wd 0]) (fun _ => False) Try.func12 rfl 7 Try.ntmps12 (le_b rfl) ⟨h, Only.refl _ _⟩ ?_
  show SC _ _ _ _ [(0, pt wd 0)] (WLm 74 77 46 wd d0 d1 M S.A0 S.A1 S.now)
  refine SC.sr ?_
  refine SL.as ?_
  refine SL.nl ?_
  refine SC.sr ?_
  refine SL.mv ?_
  refine SL.nk ?_
  refine SL.fa 4 fd77_2 ?_
  refine SL.ld 0 ts3 ?_
  refine SL.as ?_
  refine SL.nl ?_
  refine SC.ret ?_
  refine SE.res (.inl rfl) (res1 Try.results12 rfl) fun w1 hI => ⟨rfl, hI.2⟩
theorem len0_any {w : World} {wd d0 d1 : Nat} {M : WM} {S : Wi} (h : Sep w (WLm 74 77 46 wd d0 d1 M S.A0 S.A1 S.now)) : Calls Try.prog 20 #[pt wd 0, iw 0] w fun e w' => e = .returned (iw (M.ps0.length : Int)) ∧ Only (fun _ => False) w w' := by
  refine calls_sc (l0 := (WLm 74 77 46 wd d0 d1 M S.A0 S.A1 S.now)) (args := [pt wd 0, iw 0]) (fun _ => False) Try.func20 rfl 15 Try.ntmps20 (le_b rfl) ⟨h, Only.refl _ _⟩ ?_
  show SC _ _ _ _ [(0, pt wd 0), (1, iw 0)] (WLm 74 77 46 wd d0 d1 M S.A0 S.A1 S.now)
  refine SC.sr ?_
  refine SL.as ?_
  refine SL.nl ?_
  refine SC.seq ?_
  refine SC.sr ?_
  refine SL.mv ?_
  refine SL.callv (bo true) rfl rfl co53 rfl rfl rfl (lt_b rfl) (fun w hI => H_only hI (is_any _)) ?_
  refine SL.uu (ru_not (c := false) rfl rfl rfl) ?_
  refine SL.nl ?_
  refine SC.no rfl ?_
  refine SC.skip ?_
  refine SC.of_SE ?_
  refine SC.sr ?_
  refine SL.mv ?_
  refine SL.mv ?_
  refine SL.nk ?_
  refine SL.fa 2 fd77_1 ?_
  refine SL.ia 2 ar75 ?_
  refine SL.ld 0 ts56 ?_
  refine SL.uu (ru_len Try.underlying56 rfl rfl) ?_
  refine SL.as ?_
  refine SL.nl ?_
  refine SC.ret ?_
  refine SE.res (.inl rfl) (res1 Try.results20 rfl) fun w1 hI => ⟨rfl, hI.2⟩
theorem len1_any {w : World} {wd d0 d1 : Nat} {M : WM} {S : Wi} (h : Sep w (WLm 74 77 46 wd d0 d1 M S.A0 S.A1 S.now)) : Calls Try.prog 20 #[pt wd 0, iw 1] w fun e w' => e = .returned (iw (M.ps1.length : Int)) ∧ Only (fun _ => False) w w' := by
  refine calls_sc (l0 := (WLm 74 77 46 wd d0 d1 M S.A0 S.A1 S.now)) (args := [pt wd 0, iw 1]) (fun _ => False) Try.func20 rfl 15 Try.ntmps20 (le_b rfl) ⟨h, Only.refl _ _⟩ ?_
  show SC _ _ _ _ [(0, pt wd 0), (1, iw 1)] (WLm 74 77 46 wd d0 d1 M S.A0 S.A1 S.now)
  refine SC.sr ?_
  refine SL.as ?_
  refine SL.nl ?_
  refine SC.seq ?_
  refine SC.sr ?_
  refine SL.mv ?_
  refine SL.callv (bo true) rfl rfl co53 rfl rfl rfl (lt_b rfl) (fun w hI => H_only hI (is_any _)) ?_
  refine SL.uu (ru_not (c := false) rfl rfl rfl) ?_
  refine SL.nl ?_
  refine SC.no rfl ?_
  refine SC.skip ?_
  refine SC.of_SE ?_
  refine SC.sr ?_
  refine SL.mv ?_
  refine SL.mv ?_
  refine SL.nk ?_
  refine SL.fa 2 fd77_1 ?_
  refine SL.ia 3 ar75 ?_
  refine SL.ld 0 ts56 ?_
  refine SL.uu (ru_len Try.underlying56 rfl rfl) ?_
  refine SL.as ?_
  refine SL.nl ?_
  refine SC.ret ?_
  refine SE.res (.inl rfl) (res1 Try.results20 rfl) fun w1 hI => ⟨rfl, hI.2⟩
theorem lenX_any {w : World} {wd : Nat} {dir : Int} (hd : isD dir = false) : Calls Try.prog 20 #[pt wd 0, iw dir] w fun e w' => e = .returned (iw 0) ∧ Only (fun _ => False) w w' := by
  refine calls_sc (l0 := []) (args := [pt wd 0, iw dir]) (fun _ => False) Try.func20 rfl 15 Try.ntmps20 (le_b rfl) ⟨⟨by simp, List.Pairwise.nil⟩, Only.refl _ _⟩ ?_
  show SC _ _ _ _ [(0, pt wd 0), (1, iw dir)] []
  refine SC.sr ?_
  refine SL.as ?_
  refine SL.nl ?_
  refine SC.seq ?_
  refine SC.sr ?_
  refine SL.mv ?_
  refine SL.callv (bo false) rfl rfl co53 rfl rfl rfl (lt_b rfl) (fun w hI => H_only hI ((is_any dir).mono fun e w2 ⟨h1, h2⟩ => ⟨h1.trans (by rw [hd]), h2⟩)) ?_
  refine SL.uu (ru_not (c := true) rfl rfl rfl) ?_
  refine SL.nl ?_
  refine SC.yes rfl ?_
  refine SC.sr ?_
  refine SL.as ?_
  refine SL.nl ?_
  refine SC.ret ?_
  refine SE.passr ?_
  refine SE.res (.inl rfl) (res1 Try.results20 rfl) fun w1 hI => ⟨rfl, hI.2⟩
def thereP {α : Type} (q : Option Addr) (l : List α) (k : Int) : Value := if thereF l k = 0 then .pointer (some ⟨rowB q, k.toNat * 3, none⟩) else .pointer none
theorem there0_any {w : World} {wd d0 d1 : Nat} {M : WM} {S : Wi} {k : Int} (h : Sep w (WLm 74 77 46 wd d0 d1 M S.A0 S.A1 S.now)) : Calls Try.prog 34 #[pt wd 0, iw 0, iw k] w fun e w' => e = .returned (.tuple #[thereP M.q0 M.ps0 k, iw (thereF M.ps0 k)]) ∧ Only (fun _ => False) w w' := by
  refine calls_sc (l0 := (WLm 74 77 46 wd d0 d1 M S.A0 S.A1 S.now)) (args := [pt wd 0, iw 0, iw k]) (fun _ => False) Try.func34 rfl 34 Try.ntmps34 (le_b rfl) ⟨h, Only.refl _ _⟩ ?_
  show SC _ _ _ _ [(0, pt wd 0), (1, iw 0), (2, iw k)] (WLm 74 77 46 wd d0 d1 M S.A0 S.A1 S.now)
  refine SC.sr ?_
  refine SL.as ?_
  refine SL.as ?_
  refine SL.nl ?_
  refine SC.seq ?_
  refine SC.block ?_
  refine SC.sr ?_
  refine SL.mv ?_
  refine SL.callv (bo true) rfl rfl co53 rfl rfl rfl (lt_b rfl) (fun w hI => H_only hI (is_any _)) ?_
  refine SL.uu (ru_not (c := false) rfl rfl rfl) ?_
  refine SL.as ?_
  refine SL.nl ?_
  refine SC.no rfl ?_
  refine SC.sr ?_
  refine SL.mv ?_
  refine SL.uu (ru_lt (b := (decide ((k : Int) < 0))) rfl rfl rfl rfl) ?_
  refine SL.mv ?_
  refine SL.join 10 [(0, pt wd 0), (1, iw 0), (2, iw k), (6, Value.pointer none), (7, iw 0), (8, bo false), (13, iw k), (14, bo (decide ((k : Int) < 0))), (15, bo (decide ((k : Int) < 0))), (25, bo ((decide ((k : Int) < 0)) || (decide (((M.ps0.length : Int) : Int) ≤ k))))] [rB wd d0 d1 M S.now 77, rDv 74 d0 M.fs S.A0, rDv 74 d1 M.fs S.A1, rR0 M 46, rR1 M 46, rZ M.F M.fs] ?_ ?_
  rotate_left
  · intro K hK
    rcases tf (decide ((k : Int) < 0)) with h1 | h1
    · skip
      refine SL.norm [(0, pt wd 0), (1, iw 0), (2, iw k), (6, Value.pointer none), (7, iw 0), (8, bo false), (13, iw k), (14, bo true), (15, bo true)] _ ⟨rfl, rfl, rfl, rfl, rfl, rfl, rfl, (congrArg (fun x => some (Value.bool x)) h1), (congrArg (fun x => some (Value.bool x)) h1), trivial⟩ rfl ?_
      refine SL.oo ?_
      refine SL.oo ?_
      refine SL.oo ?_
      refine SL.oo ?_
      refine SL.oo ?_
      refine SL.oo ?_
      refine SL.oo ?_
      refine SL.oo ?_
      refine SL.oo ?_
      refine SL.pk (bo true) (undef) ?_
      exact SL.joined hK ⟨rfl, rfl, rfl, rfl, rfl, rfl, rfl, (congrArg (fun x => some (Value.bool x)) h1.symm), (congrArg (fun x => some (Value.bool x)) h1.symm), (congrArg (fun bx => some (Value.bool (bx || (decide (((M.ps0.length : Int) : Int) ≤ k))))) h1.symm), trivial⟩ rfl
    refine SL.norm [(0, pt wd 0), (1, iw 0), (2, iw k), (6, Value.pointer none), (7, iw 0), (8, bo false), (13, iw k), (14, bo false), (15, bo false)] _ ⟨rfl, rfl, rfl, rfl, rfl, rfl, rfl, (congrArg (fun x => some (Value.bool x)) h1), (congrArg (fun x => some (Value.bool x)) h1), trivial⟩ rfl ?_
    refine SL.gg (ru_move rfl rfl) ?_
    refine SL.gg (ru_move rfl rfl) ?_
    refine SL.gg (ru_move rfl rfl) ?_
    refine SL.gg (ru_nilCheck rfl rfl) ?_
    refine SL.gg (ru_fieldAddr (o2 := 2) fd77_1 rfl rfl rfl) ?_
    refine SL.gg (ru_indexA (o2 := 2) ar75 rfl rfl rfl (by decide) (by decide) rfl) ?_
    refine SL.gg (ru_load (i := 0) ts56 rfl rfl rfl rfl) ?_
    refine SL.gg (ru_len Try.underlying56 rfl rfl) ?_
    refine SL.gg (ru_ge (b := (decide (((M.ps0.length : Int) : Int) ≤ k))) rfl rfl rfl rfl) ?_
    refine SL.pk (bo true) (bo (decide (((M.ps0.length : Int) : Int) ≤ k))) ?_
    exact SL.joined hK ⟨rfl, rfl, rfl, rfl, rfl, rfl, rfl, (congrArg (fun x => some (Value.bool x)) h1.symm), (congrArg (fun x => some (Value.bool x)) h1.symm), (congrArg (fun bx => some (Value.bool (bx || (decide (((M.ps0.length : Int) : Int) ≤ k))))) h1.symm), trivial⟩ rfl
  skip
  refine SL.as ?_
  refine SL.nl ?_
  refine SC.both ((decide ((k : Int) < 0)) || (decide (((M.ps0.length : Int) : Int) ≤ k))) rfl (fun h2 => ?_) (fun h2 => ?_)
  · skip
    refine SC.sr ?_
    refine SL.as ?_
    refine SL.as ?_
    refine SL.nl ?_
    refine SC.ret ?_
    refine SE.blkr ?_
    refine SE.passr ?_
    refine SE.res (.inl rfl) (res2 Try.results34 rfl rfl) fun w1 hI => ⟨?_, hI.2⟩
    have e : thereF M.ps0 k = 7 := by unfold thereF; rw [if_pos h2]
    unfold thereP; rw [e]; rfl
  have hk : 0 ≤ k ∧ k < (M.ps0.length : Int) := by simp only [Bool.or_eq_false_iff, decide_eq_false_iff_not] at h2; omega
  refine SC.skip ?_
  refine SE.blkn ?_
  refine SC.of_SE ?_
  refine SC.sr ?_
  refine SL.mv ?_
  refine SL.mv ?_
  refine SL.nk ?_
  refine SL.fa 2 fd77_1 ?_
  refine SL.ia 2 ar75 ?_
  refine SL.ld 0 ts56 ?_
  refine SL.mv ?_
  refine SL.uu (ru_index_rowN (ri := 3) si56 rfl rfl rfl rfl (by omega) (by omega)) ?_
  refine SL.as ?_
  refine SL.as ?_
  refine SL.nl ?_
  refine SC.ret ?_
  refine SE.res (.inl rfl) (res2 Try.results34 rfl rfl) fun w1 hI => ⟨?_, hI.2⟩
  have e : thereF M.ps0 k = 0 := by unfold thereF; rw [if_neg (not_t h2)]
  unfold thereP; rw [e]; rfl
theorem there1_any {w : World} {wd d0 d1 : Nat} {M : WM} {S : Wi} {k : Int} (h : Sep w (WLm 74 77 46 wd d0 d1 M S.A0 S.A1 S.now)) : Calls Try.prog 34 #[pt wd 0, iw 1, iw k] w fun e w' => e = .returned (.tuple #[thereP M.q1 M.ps1 k, iw (thereF M.ps1 k)]) ∧ Only (fun _ => False) w w' := by
  refine calls_sc (l0 := (WLm 74 77 46 wd d0 d1 M S.A0 S.A1 S.now)) (args := [pt wd 0, iw 1, iw k]) (fun _ => False) Try.func34 rfl 34 Try.ntmps34 (le_b rfl) ⟨h, Only.refl _ _⟩ ?_
  show SC _ _ _ _ [(0, pt wd 0), (1, iw 1), (2, iw k)] (WLm 74 77 46 wd d0 d1 M S.A0 S.A1 S.now)
  refine SC.sr ?_
  refine SL.as ?_
  refine SL.as ?_
  refine SL.nl ?_
  refine SC.seq ?_
  refine SC.block ?_
  refine SC.sr ?_
  refine SL.mv ?_
  refine SL.callv (bo true) rfl rfl co53 rfl rfl rfl (lt_b rfl) (fun w hI => H_only hI (is_any _)) ?_
  refine SL.uu (ru_not (c := false) rfl rfl rfl) ?_
  refine SL.as ?_
  refine SL.nl ?_
  refine SC.no rfl ?_
  refine SC.sr ?_
  refine SL.mv ?_
  refine SL.uu (ru_lt (b := (decide ((k : Int) < 0))) rfl rfl rfl rfl) ?_
  refine SL.mv ?_
  refine SL.join 10 [(0, pt wd 0), (1, iw 1), (2, iw k), (6, Value.pointer none), (7, iw 0), (8, bo false), (13, iw k), (14, bo (decide ((k : Int) < 0))), (15, bo (decide ((k : Int) < 0))), (25, bo ((decide ((k : Int) < 0)) || (decide (((M.ps1.length : Int) : Int) ≤ k))))] [rB wd d0 d1 M S.now 77, rDv 74 d0 M.fs S.A0, rDv 74 d1 M.fs S.A1, rR0 M 46, rR1 M 46, rZ M.F M.fs] ?_ ?_
  rotate_left
  · intro K hK
    rcases tf (decide ((k : Int) < 0)) with h1 | h1
    · skip
      refine SL.norm [(0, pt wd 0), (1, iw 1), (2, iw k), (6, Value.pointer none), (7, iw 0), (8, bo false), (13, iw k), (14, bo true), (15, bo true)] _ ⟨rfl, rfl, rfl, rfl, rfl, rfl, rfl, (congrArg (fun x => some (Value.bool x)) h1), (congrArg (fun x => some (Value.bool x)) h1), trivial⟩ rfl ?_
      refine SL.oo ?_
      refine SL.oo ?_
      refine SL.oo ?_
      refine SL.oo ?_
      refine SL.oo ?_
      refine SL.oo ?_
      refine SL.oo ?_
      refine SL.oo ?_
      refine SL.oo ?_
      refine SL.pk (bo true) (undef) ?_
      exact SL.joined hK ⟨rfl, rfl, rfl, rfl, rfl, rfl, rfl, (congrArg (fun x => some (Value.bool x)) h1.symm), (congrArg (fun x => some (Value.bool x)) h1.symm), (congrArg (fun bx => some (Value.bool (bx || (decide (((M.ps1.length : Int) : Int) ≤ k))))) h1.symm), trivial⟩ rfl
    refine SL.norm [(0, pt wd 0), (1, iw 1), (2, iw k), (6, Value.pointer none), (7, iw 0), (8, bo false), (13, iw k), (14, bo false), (15, bo false)] _ ⟨rfl, rfl, rfl, rfl, rfl, rfl, rfl, (congrArg (fun x => some (Value.bool x)) h1), (congrArg (fun x => some (Value.bool x)) h1), trivial⟩ rfl ?_
    refine SL.gg (ru_move rfl rfl) ?_
    refine SL.gg (ru_move rfl rfl) ?_
    refine SL.gg (ru_move rfl rfl) ?_
    refine SL.gg (ru_nilCheck rfl rfl) ?_
    refine SL.gg (ru_fieldAddr (o2 := 2) fd77_1 rfl rfl rfl) ?_
    refine SL.gg (ru_indexA (o2 := 3) ar75 rfl rfl rfl (by decide) (by decide) rfl) ?_
    refine SL.gg (ru_load (i := 0) ts56 rfl rfl rfl rfl) ?_
    refine SL.gg (ru_len Try.underlying56 rfl rfl) ?_
    refine SL.gg (ru_ge (b := (decide (((M.ps1.length : Int) : Int) ≤ k))) rfl rfl rfl rfl) ?_
    refine SL.pk (bo true) (bo (decide (((M.ps1.length : Int) : Int) ≤ k))) ?_
    exact SL.joined hK ⟨rfl, rfl, rfl, rfl, rfl, rfl, rfl, (congrArg (fun x => some (Value.bool x)) h1.symm), (congrArg (fun x => some (Value.bool x)) h1.symm), (congrArg (fun bx => some (Value.bool (bx || (decide (((M.ps1.length : Int) : Int) ≤ k))))) h1.symm), trivial⟩ rfl
  skip
  refine SL.as ?_
  refine SL.nl ?_
  refine SC.both ((decide ((k : Int) < 0)) || (decide (((M.ps1.length : Int) : Int) ≤ k))) rfl (fun h2 => ?_) (fun h2 => ?_)
  · skip
    refine SC.sr ?_
    refine SL.as ?_
    refine SL.as ?_
    refine SL.nl ?_
    refine SC.ret ?_
    refine SE.blkr ?_
    refine SE.passr ?_
    refine SE.res (.inl rfl) (res2 Try.results34 rfl rfl) fun w1 hI => ⟨?_, hI.2⟩
    have e : thereF M.ps1 k = 7 := by unfold thereF; rw [if_pos h2]
    unfold thereP; rw [e]; rfl
  have hk : 0 ≤ k ∧ k < (M.ps1.length : Int) := by simp only [Bool.or_eq_false_iff, decide_eq_false_iff_not] at h2; omega
  refine SC.skip ?_
  refine SE.blkn ?_
  refine SC.of_SE ?_
  refine SC.sr ?_
  refine SL.mv ?_
  refine SL.mv ?_
  refine SL.nk ?_
  refine SL.fa 2 fd77_1 ?_
  refine SL.ia 3 ar75 ?_
  refine SL.ld 0 ts56 ?_
  refine SL.mv ?_
  refine SL.uu (ru_index_rowN (ri := 4) si56 rfl rfl rfl rfl (by omega) (by omega)) ?_
  refine SL.as ?_
  refine SL.as ?_
  refine SL.nl ?_
  refine SC.ret ?_
  refine SE.res (.inl rfl) (res2 Try.results34 rfl rfl) fun w1 hI => ⟨?_, hI.2⟩
  have e : thereF M.ps1 k = 0 := by unfold thereF; rw [if_neg (not_t h2)]
  unfold thereP; rw [e]; rfl
theorem thereX_any {w : World} {wd : Nat} {dir k : Int} (hd : isD dir = false) : Calls Try.prog 34 #[pt wd 0, iw dir, iw k] w fun e w' => e = .returned (.tuple #[.pointer none, iw 1]) ∧ Only (fun _ => False) w w' := by
  refine calls_sc (l0 := []) (args := [pt wd 0, iw dir, iw k]) (fun _ => False) Try.func34 rfl 34 Try.ntmps34 (le_b rfl) ⟨⟨by simp, List.Pairwise.nil⟩, Only.refl _ _⟩ ?_
  show SC _ _ _ _ [(0, pt wd 0), (1, iw dir), (2, iw k)] []
  refine SC.sr ?_
  refine SL.as ?_
  refine SL.as ?_
  refine SL.nl ?_
  refine SC.seq ?_
  refine SC.block ?_
  refine SC.sr ?_
  refine SL.mv ?_
  refine SL.callv (bo false) rfl rfl co53 rfl rfl rfl (lt_b rfl) (fun w hI => H_only hI ((is_any dir).mono fun e w2 ⟨h1, h2⟩ => ⟨h1.trans (by rw [hd]), h2⟩)) ?_
  refine SL.uu (ru_not (c := true) rfl rfl rfl) ?_
  refine SL.as ?_
  refine SL.nl ?_
  refine SC.yes rfl ?_
  refine SC.sr ?_
  refine SL.as ?_
  refine SL.as ?_
  refine SL.nl ?_
  refine SC.ret ?_
  refine SE.blkr ?_
  refine SE.passr ?_
  refine SE.res (.inl rfl) (res2 Try.results34 rfl rfl) fun w1 hI => ⟨rfl, hI.2⟩

end Go.Proofs.Ytcilikkljkdceaa

/-
  The light machine: append of several elements to a row of one's own; slices.Grow and slices.Concat. No program is named here.
-/
namespace Go.Proofs.Ytcilikkljkdceaa
open Go.RowKit
def CellsAt (w : World) (x : Value) (ys : List Value) : Prop :=
  (∃ a c, x = .slice a 0 c ∧ ys = []) ∨ ∃ (b o cap : Nat), x = .slice (some ⟨b, o, none⟩) ys.length cap ∧ ∀ j u, ys[j]? = some u → w.cell? ⟨b, o + j, none⟩ = some u
theorem BytesAt.cells {w : World} {v : Value} {f : List UInt8} (h : BytesAt w v f) : CellsAt w v (f.map bv) := by
  rcases h with ⟨a, c, h1, _, rfl⟩ | ⟨b, o, cap, rfl, h1, h2, h3⟩
  · exact .inl ⟨a, c, h1, rfl⟩
  · refine .inr ⟨b, o, cap, by simp, fun j u hj => ?_⟩
    have hjl : j < f.length := by have := (List.getElem?_eq_some_iff.1 hj).1; simpa using this
    rw [h3 j hjl]
    simp only [List.getElem?_map, List.getElem?_eq_getElem hjl, Option.map_some] at hj
    exact hj
section
variable {P : Program} {X : Cx} {ops : Array Oper} {Q : Exit → Act → World → Prop} {rest : List Oper} {o : Oper} {m : List (Nat × Value)} {l : List Res} {v : Value} {d k : Nat} {x y : Operand} {t t' : TypeId}
theorem run_app0_none {w : World} {e ty : TypeId} {v x : Value} {xs : List Value} {i : TypeInfo} (ht : P.underlying t = some (.slice e)) (hi : P.info? e = some i) (hv : w.ownsRow 0 e 1 v xs.length xs) {a : Option Addr} {c : Nat} (hx : x = .slice a 0 c) :
    ∃ w', (Builtin.append_ #[t, t] ty #[v, x]).run P w = .ok v w' ∧ w = w' := by
  subst hx
  refine ⟨w, ?_, rfl⟩
  rcases hv.2 with ⟨rfl, h0⟩ | ⟨g, cap, cur, rfl, _, hg, hnc, _⟩
  · cases a <;> simp [Builtin.append_, run_underlying ht, sizeOf, typeInfo, hi, Builtin.lenOf, Builtin.firstCells, loadCells, loadCellsFrom]
  · cases a <;> simp [Builtin.append_, run_underlying ht, sizeOf, typeInfo, hi, Builtin.lenOf, Builtin.firstCells, loadCells, loadCellsFrom, hnc, storeCells]
theorem run_appOwn {w : World} {e ty : TypeId} {v x z : Value} {xs ys : List Value} {bytes : Nat} (ht : P.underlying t = some (.slice e)) (hz : (P.info? e).map (fun i => (i.zero, i.size, i.bytes)) = some (some z, 1, bytes)) (hzs : z.cells.size = 1) (hu : ∀ u ∈ ys, u.oneCell' = true)
    (hv : w.ownsRow 0 e 1 v xs.length xs) (hx : CellsAt w x ys) (hb : (xs.length + ys.length) * bytes ≤ 140737488355328) (hn : xs.length + ys.length ≤ maxLen) :
    ∃ v' w', (Builtin.append_ #[t, t] ty #[v, x]).run P w = .ok v' w' ∧ w'.ownsRow 0 e 1 v' (xs ++ ys).length (xs ++ ys) ∧ Only (fun k => v.ownBlock = some k) w w' ∧ (∀ b, v'.ownBlock = some b → v.ownBlock = some b ∨ w.heap.size ≤ b) := by
  obtain ⟨i, hi, h3⟩ := map_some hz
  simp only [Prod.mk.injEq] at h3
  obtain ⟨z0, z1, z2⟩ := h3
  by_cases hys : ys = []
  · subst hys
    have hx' : ∃ a c, x = .slice a 0 c := by
      rcases hx with ⟨a, c, h, _⟩ | ⟨b, o, cap, h, _⟩
      · exact ⟨a, c, h⟩
      · exact ⟨_, _, h⟩
    obtain ⟨a, c, rfl⟩ := hx'
    obtain ⟨w', hr, rfl⟩ := run_app0_none (P := P) (ty := ty) ht hi hv rfl
    exact ⟨v, w, hr, by simpa using hv, Only.refl _ _, fun b hb => .inl hb⟩
  · have hpos : 0 < ys.length := by cases ys with | nil => exact absurd rfl hys | cons a b => simp
    rcases hx with ⟨a, c, h, h0⟩ | ⟨g2, o2, c2, rfl, hcell⟩
    · exact absurd h0 hys
    have hnews : ∀ j q, ys[j]? = some q → w.cell? ((⟨g2, o2, none⟩ : Addr).add j) = some q := by
      intro j q hj
      rw [add_at]; exact hcell j q hj
    obtain ⟨v', w', hr, hO, hG, _⟩ := run_append_own (P := P) w 0 t ty e i z 1 bytes ht hi z0 z1 z2 hzs (by decide) v xs.length xs hv ⟨g2, o2, none⟩ ys.length c2 ys (by simp) hnews hu hn hb (Nat.zero_le _)
    refine ⟨v', w', hr, by simpa using hO, grown_only hG _ (fun k h => h), ?_⟩
    rcases hv.2 with ⟨rfl, h0⟩ | ⟨g, cap, cur, rfl, _, hg, hnc, hcm, hcs, htake⟩
    · have hxs : xs = [] := List.eq_nil_of_length_eq_zero h0
      subst hxs
      have h2 := run_append_nil (P := P) w t ty e i z ht hi z0 ⟨g2, o2, none⟩ ys.length c2 ys (by simp [z1]) hnews (by omega) (by unfold maxLen at hn; simp at hn; omega) (by rw [z2]; simp at hb; omega)
      rw [hr] at h2
      injection h2 with e1
      subst e1
      exact fun b hb => .inr (by simp [Value.ownBlock] at hb; omega)
    · by_cases hroom : xs.length + ys.length ≤ cap
      · have h2 := run_append_room (P := P) w t ty e i ht hi g xs.length cap cur hg ⟨g2, o2, none⟩ ys.length c2 ys (by simp [z1]) hnews hu hroom (by rw [z1]; simp; omega)
        rw [hr] at h2
        injection h2 with e1
        subst e1
        exact fun b hb => .inl (by simpa [Value.ownBlock] using hb)
      · have holds : ∀ j q, xs[j]? = some q → w.cell? ((⟨g, 0, none⟩ : Addr).add j) = some q := World.ownsRow.cells hv (g := g) rfl
        have h2 := run_append_grow (P := P) w t ty e i z ht hi z0 ⟨g, 0, none⟩ xs.length cap xs (by simp [z1]) holds ⟨g2, o2, none⟩ ys.length c2 ys (by simp [z1]) hnews (by omega) (by unfold maxLen at hn; omega) (growslice_fits (by omega) (by rw [z2]; exact hb))
        rw [hr] at h2
        injection h2 with e1
        subst e1
        exact fun b hb => .inr (by simp [Value.ownBlock] at hb; omega)
end
end Go.Proofs.Ytcilikkljkdceaa

/-
  The light machine: pieces of bytes; what the memory tells. No program is named here.
-/
namespace Go.Proofs.Ytcilikkljkdceaa
open Go.RowKit
abbrev cutV (q : Option Addr) (n c k : Nat) : Value := .slice (if c = k then q else q.map (·.add (k * 1))) (n - k) (c - k)
section
variable {P : Program} {Z : Rd} {X : Cx} {Q : Exit → Act → World → Prop} {m : List (Nat × Value)} {l : List Res} {p : Prop}
variable {ops : Array Oper} {rest : List Oper} {o : Oper} {d : Nat} {t : TypeId}
theorem SL.append_mineB {e ri : Nat} {a1 a2 : Operand} {vx : Value} {f h : List UInt8} {q : Option Addr} {n c : Nat} (hg : o.guard = none) (hd : o.dst = some d) (hn : d < X.n) (ho : o.op = .call { callee := .builtin .append, args := #[a1, a2], argTypes := #[t, t] })
    (ht : P.underlying t = some (.slice e)) (hz : (P.info? e).map (fun i => (i.zero, i.size, i.bytes)) = some (some (.int .u8 0), 1, 1)) (h1 : evM m a1 = some (.slice q n c)) (h2 : evM m a2 = some vx) (hi : l[ri]? = some (rMine (.slice q n c) f e)) (hx : ∀ w, Inv X w l → BytesAt w vx h)
    (hl : f.length + h.length ≤ 1000000) (hS : ∀ b, (Value.slice q n c).ownBlock = some b → X.S b ∨ X.w0.heap.size ≤ b)
    (k : ∀ (q' : Option Addr) (c' : Nat), (∀ b, (Value.slice q' (f ++ h).length c').ownBlock = some b → (Value.slice q n c).ownBlock = some b ∨ X.w0.heap.size ≤ b) → SL P X ops Q rest ((d, .slice q' (f ++ h).length c') :: m) (l.set ri (rMine (.slice q' (f ++ h).length c') (f ++ h) e))) : SL P X ops Q (o :: rest) m l := fun a w hf hI =>
  wpList_plain hg fun K' hK => by
    have hM : OwnBytes w 0 e (.slice q n c) f := hI.1.get hi
    have hM' : w.ownsRow 0 e 1 (.slice q n c) (f.map bv).length (f.map bv) := by unfold OwnBytes at hM; simpa using hM
    obtain ⟨v', w', hr, hO, hU, hN⟩ := run_appOwn (P := P) (ty := o.type) ht hz rfl (ys := h.map bv) (fun u hu => by obtain ⟨x, _, rfl⟩ := List.mem_map.1 hu; rfl) hM' (hx w hI).cells (by simp; omega) (by unfold maxLen; simp; omega)
    unfold Oper.wp
    rw [run_call_app ho (hf.ev h1) (hf.ev h2) hr]
    simp only [Oper.upon_value, hd]
    have hO' : OwnBytes w' 0 e v' (f ++ h) := by unfold OwnBytes; simpa using hO
    obtain ⟨q', c', rfl⟩ : ∃ q' c', v' = .slice q' (f ++ h).length c' := by
      obtain ⟨a', c', e1, _⟩ := hO'.form
      exact ⟨a', c', e1⟩
    refine hK _ _ (k q' c' (fun b hb => ?_) _ _ (hf.put hn _) (hI.upd hi hU hS hO' (fun b hb => hN b hb)))
    rcases hN b hb with h | h
    · exact .inl h
    · exact .inr (Nat.le_trans hI.2.size h)
end
abbrev cut2V (q : Option Addr) (n c k h : Nat) : Value := .slice (if c - k = 0 then (if c = k then q else q.map (·.add (k * 1))) else (if c = k then q else q.map (·.add (k * 1))).map (·.add (0 * 1))) (h - 0) (c - k - 0)
end Go.Proofs.Ytcilikkljkdceaa

/-
  The light machine: shifts, exclusive or; bytes of one's own as a row; a slice that is compared with none. No program is named here.
-/
namespace Go.Proofs.Ytcilikkljkdceaa
open Go.RowKit
section
variable {P : Program} {X : Cx} {ops : Array Oper} {Q : Exit → Act → World → Prop} {rest : List Oper} {o : Oper} {m : List (Nat × Value)} {l : List Res} {t t' : TypeId} {x y : Operand}
theorem ru_shl {k k' : IntKind} {p q r : Int} (h0 : 0 ≤ q) (ho : o.op = .binOp .shl t x y t') (hx : evM m x = some (.int k p)) (hy : evM m y = some (.int k' q)) (hv : k.wrap (p * 2 ^ min q.toNat k.bits) = r) : Ru P X o m l (.int k r) :=
  ru_binv ho hx hy (fun w => by unfold eqGuard; rfl) fun w _ => by subst hv; simp [binOp, shift_shl_any k k' p q h0]
theorem ru_xor {k : IntKind} {p q r : Int} (ho : o.op = .binOp .xor t x y t') (hx : evM m x = some (.int k p)) (hy : evM m y = some (.int k q)) (hv : bits .xor k p q = r) : Ru P X o m l (.int k r) := ru_bin ho hx hy fun w => by subst hv; simp [binOp, Op.intBits, bits]
theorem ru_slnil {e : TypeId} {q : Option Addr} {n c : Nat} {b : Bool} (hu : P.underlying t = some (.slice e)) (ho : o.op = .binOp .eql t x y t') (hx : evM m x = some (.slice q n c)) (hy : evM m y = some (.slice none 0 0)) (hv : q.isNone = b) : Ru P X o m l (.bool b) :=
  ru_binv ho hx hy (fun w => by unfold eqGuard; rfl) fun w _ => by
    subst hv
    simp only [binOp]
    simp [run_equal_slice_nil (w := w) t e q n c hu]
theorem SL.weak {i : Nat} {r : Res} (r' : Res) (hi : l[i]? = some r) (hr : ∀ w, r.ok w → r'.ok w) (hf : ∀ b, r'.fp b → r.fp b) (h : SL P X ops Q rest m (l.set i r')) : SL P X ops Q rest m l := fun a w hfr hI => h a w hfr (hI.weak hi (hr w) hf)
end
abbrev bRows (f : List UInt8) : List (List Value) := f.map fun b => [bv b]
theorem bRows_flat (f : List UInt8) : (bRows f).flatten = f.map bv := by
  induction f with
  | nil => rfl
  | cons b f ih =>
    show [bv b] ++ (bRows f).flatten = bv b :: f.map bv
    rw [ih]; rfl
theorem mine_rows {w : World} {v : Value} {f : List UInt8} {U : TypeId} : OwnBytes w 0 U v f ↔ RowsN w v (bRows f) U 1 := by
  unfold OwnBytes RowsN
  rw [bRows_flat, List.length_map]
  exact ⟨fun h => ⟨fun r hr => by obtain ⟨b, _, rfl⟩ := List.mem_map.1 hr; rfl, h⟩, fun h => h.2⟩
theorem bRows_set (f : List UInt8) (i : Nat) (b : UInt8) : (bRows f).set i [bv b] = bRows (f.set i b) := List.map_set.symm
theorem own_empty {w : World} {b : Nat} {U : TypeId} (h : Blk w b [] U) : OwnBytes w 0 U (sl b 0 0 0) [] :=
  ⟨rfl, .inr ⟨b, 0, #[], rfl, Nat.zero_le _, h, Nat.le_refl _, by unfold maxLen; omega, rfl, rfl⟩⟩
end Go.Proofs.Ytcilikkljkdceaa

/-
  Bytes laid down anew.
-/
namespace Go.Proofs.Ytcilikkljkdceaa
open Go.RowKit
set_option maxRecDepth 100000
set_option maxHeartbeats 4000000
theorem clone_some {w : World} {g : Addr} {c : Nat} {f : List UInt8} (hb : BytesAt w (.slice (some g) f.length c) f) (hl : f.length ≤ 1000000) : Calls Try.prog 35 #[.slice (some g) f.length c] w fun e w' => ∃ q' c', e = .returned (.slice q' f.length c') ∧ OwnBytes w' 0 5 (.slice q' f.length c') f ∧ (∀ b, (Value.slice q' f.length c').ownBlock = some b → w.heap.size ≤ b) ∧ Only (fun _ => False) w w' := by
  refine calls_sc (l0 := []) (args := [Value.slice (some g) f.length c]) (fun _ => False) Try.func35 rfl 8 Try.ntmps35 (le_b rfl) ⟨⟨by simp, List.Pairwise.nil⟩, Only.refl _ _⟩ ?_
  show SC _ _ _ _ [(0, Value.slice (some g) f.length c)] []
  refine SC.sr ?_
  refine SL.as ?_
  refine SL.nl ?_
  refine SC.seq ?_
  refine SC.sr ?_
  refine SL.mv ?_
  refine SL.uu (ru_slnil (b := false) Try.underlying28 rfl rfl rfl rfl) ?_
  refine SL.nl ?_
  refine SC.no rfl ?_
  refine SC.skip ?_
  refine SC.of_SE ?_
  refine SC.sr ?_
  refine SL.buildSlice (size := 1) (vals := []) (z := [Value.int .u8 0]) (cs := []) rfl rfl (lt_b rfl) rfl Try.underlying28 (by kernel_rfl) rfl rfl (by kernel_rfl) fun b1 hb1 => ?_
  refine SL.weak (i := 0) (rMine (sl b1 0 0 0) [] 5) rfl (fun w h => own_empty h) (fun b hb => by cases hb; rfl) ?_
  refine SL.mv ?_
  refine SL.append_mineB (ri := 0) (h := f) rfl rfl (lt_b rfl) rfl Try.underlying28 (by kernel_rfl) rfl rfl rfl (fun w hI => hb.only hI.2 (fun b _ _ _ _ _ h => h)) (by simp; omega) (fun b hb => .inr (by cases hb; exact hb1)) fun q2 c3 hq4 => ?_
  refine SL.as ?_
  refine SL.nl ?_
  refine SC.ret ?_
  refine SE.res (.inl rfl) (res1 Try.results35 rfl) fun w1 hI => ⟨q2, c3, rfl, hI.1.get (i := 0) rfl, fun b hb => (hq4 b hb).elim (fun h => by cases h; exact hb1) id, hI.2⟩
theorem clone_none {w : World} : Calls Try.prog 35 #[.slice none 0 0] w fun e w' => e = .returned (.slice none 0 0) ∧ Only (fun _ => False) w w' := by
  refine calls_sc (l0 := []) (args := [Value.slice none 0 0]) (fun _ => False) Try.func35 rfl 8 Try.ntmps35 (le_b rfl) ⟨⟨by simp, List.Pairwise.nil⟩, Only.refl _ _⟩ ?_
  show SC _ _ _ _ [(0, Value.slice none 0 0)] []
  refine SC.sr ?_
  refine SL.as ?_
  refine SL.nl ?_
  refine SC.seq ?_
  refine SC.sr ?_
  refine SL.mv ?_
  refine SL.uu (ru_slnil (b := true) Try.underlying28 rfl rfl rfl rfl) ?_
  refine SL.nl ?_
  refine SC.yes rfl ?_
  refine SC.sr ?_
  refine SL.as ?_
  refine SL.nl ?_
  refine SC.ret ?_
  refine SE.passr ?_
  refine SE.res (.inl rfl) (res1 Try.results35 rfl) fun w1 hI => ⟨rfl, hI.2⟩

theorem clone_any {w : World} {q : Option Addr} {c : Nat} {f : List UInt8} (hb : BytesAt w (.slice q f.length c) f) (hl : f.length ≤ 1000000) : Calls Try.prog 35 #[.slice q f.length c] w fun e w' => ∃ q' c', e = .returned (.slice q' f.length c') ∧ OwnBytes w' 0 5 (.slice q' f.length c') f ∧ (∀ b, (Value.slice q' f.length c').ownBlock = some b → w.heap.size ≤ b) ∧ Only (fun _ => False) w w' := by
  cases q with
  | some g => exact clone_some hb hl
  | none =>
    have hf : f = [] ∧ c = 0 := by
      rcases hb with ⟨a, c', e, hn, hf⟩ | ⟨b, o, cap, e, h1, _⟩
      · simp only [Value.slice.injEq] at e
        exact ⟨hf, by rw [e.2.2]; exact hn e.1.symm⟩
      · simp only [Value.slice.injEq] at e; cases e.1
    obtain ⟨rfl, rfl⟩ := hf
    exact clone_none.mono fun e w' ⟨h1, h2⟩ => ⟨none, 0, h1, ⟨rfl, .inl ⟨rfl, rfl⟩⟩, fun b hb => (by cases hb), h2⟩

end Go.Proofs.Ytcilikkljkdceaa

/-
  A function's answer that lies in a place of its own. No program is named here.
-/
namespace Go.Proofs.Ytcilikkljkdceaa
open Go.RowKit
section
variable {P : Program} {X : Cx} {m : List (Nat × Value)} {l : List Res}
theorem resC {fn : Func} {t b i : Nat} {T : TypeId} {vs z : List Value} {T' : TypeId} (h : fn.results = #[.cell t T]) (ht : look m t = some (pt b 0)) (hT : TyAg P T z) (hi : l[i]? = some (rBlk b vs T')) (hz : z.length = vs.length) : ∀ a w, Fr X.n a m → Inv X w l → (results fn a.tmps).run P w = .ok (.agg vs.toArray) w := fun a w hf hI => by
  obtain ⟨⟨d, hd, hdb⟩, hsz, _⟩ := hT
  obtain ⟨inf, hinf, hz'⟩ := map_some hsz
  simp only [Prod.mk.injEq] at hz'
  have hb : Blk w b vs T' := hI.1.get hi
  have e : a.tmps.getD t undef = pt b 0 := look_tmps hf ht
  have hl := run_loadVar_at (P := P) w b 0 T vs d (fun j hj => by rw [Nat.zero_add]; exact hb.cell j) hd (by cases d <;> simp_all [isAggD]) (by rw [hinf]; simp [hz'.1, hz])
  have hl' : (loadVar T ⟨b, 0, none⟩).run P w = .ok (.agg vs.toArray) w := hl
  unfold results
  rw [h]
  simp only [List.mapM_toArray, List.mapM_cons, List.mapM_nil, e, asAddr, pt, Sem.run_bind, Sem.run_pure, Result.andThen_ok, bind_pure_comp, map_pure, pure_bind]
  simp [Sem.run_bind, hl', Result.andThen]
theorem resCT {fn : Func} {t u b i : Nat} {T : TypeId} {vs z : List Value} {T' : TypeId} {v2 : Value} (h : fn.results = #[.cell t T, .tmp u]) (ht : look m t = some (pt b 0)) (hu : look m u = some v2) (hT : TyAg P T z) (hi : l[i]? = some (rBlk b vs T')) (hz : z.length = vs.length) : ∀ a w, Fr X.n a m → Inv X w l → (results fn a.tmps).run P w = .ok (.tuple #[.agg vs.toArray, v2]) w := fun a w hf hI => by
  obtain ⟨⟨d, hd, hdb⟩, hsz, _⟩ := hT
  obtain ⟨inf, hinf, hz'⟩ := map_some hsz
  simp only [Prod.mk.injEq] at hz'
  have hb : Blk w b vs T' := hI.1.get hi
  have e : a.tmps.getD t undef = pt b 0 := look_tmps hf ht
  have e2 : a.tmps.getD u undef = v2 := look_tmps hf hu
  have hl := run_loadVar_at (P := P) w b 0 T vs d (fun j hj => by rw [Nat.zero_add]; exact hb.cell j) hd (by cases d <;> simp_all [isAggD]) (by rw [hinf]; simp [hz'.1, hz])
  have hl' : (loadVar T ⟨b, 0, none⟩).run P w = .ok (.agg vs.toArray) w := hl
  unfold results
  rw [h]
  simp only [List.mapM_toArray, List.mapM_cons, List.mapM_nil, e, e2, asAddr, pt, Sem.run_bind, Sem.run_pure, Result.andThen_ok, bind_pure_comp, map_pure, pure_bind]
  simp [Sem.run_bind, hl', Result.andThen]
end
end Go.Proofs.Ytcilikkljkdceaa

/-
  Seeing a frame.
-/
namespace Go.Proofs.Ytcilikkljkdceaa
open Go.RowKit
set_option maxRecDepth 100000
set_option maxHeartbeats 4000000
def seeW (S : Wi) (b : Bool) (k : Int) : Fm := if thereF (S.L b) k = 0 then (S.L b).getD k.toNat fm0 else fm0
theorem see0_any {w : World} {wd d0 d1 : Nat} {M : WM} {S : Wi} {k : Int} (hM : M.Ok S) (hfr : ∀ x ∈ S.L0, x.f.length ≤ 274) (h : Sep w (WLm 74 77 46 wd d0 d1 M S.A0 S.A1 S.now)) : Calls Try.prog 13 #[pt wd 0, iw 0, iw k] w fun e w' => ∃ q c, e = .returned (.tuple #[.agg #[.slice q (seeW S false k).f.length c, bo (seeW S false k).bad, iw (seeW S false k).tick], iw (thereF (S.L false) k)]) ∧ OwnBytes w' 0 5 (.slice q (seeW S false k).f.length c) (seeW S false k).f ∧ (∀ b, (Value.slice q (seeW S false k).f.length c).ownBlock = some b → w.heap.size ≤ b) ∧ Only (fun _ => False) w w' := by
  refine calls_sc (l0 := (WLm 74 77 46 wd d0 d1 M S.A0 S.A1 S.now)) (args := [pt wd 0, iw 0, iw k]) (fun _ => False) Try.func13 rfl 35 Try.ntmps13 (le_b rfl) ⟨h, Only.refl _ _⟩ ?_
  show SC _ _ _ _ [(0, pt wd 0), (1, iw 0), (2, iw k)] (WLm 74 77 46 wd d0 d1 M S.A0 S.A1 S.now)
  refine SC.sr ?_
  refine SL.alloca rfl rfl (lt_b rfl) ta46 rfl fun b1 hb1 => ?_
  refine SL.as ?_
  refine SL.nl ?_
  refine SC.sr ?_
  refine SL.mv ?_
  refine SL.mv ?_
  refine SL.mv ?_
  refine SL.callv (Value.tuple #[thereP M.q0 M.ps0 k, iw (thereF M.ps0 k)]) rfl rfl co34 rfl rfl rfl (lt_b rfl) (fun w hI => H_only hI (there0_any ((hI.keep 6).1))) ?_
  refine SL.mv ?_
  refine SL.uu (ru_extract rfl rfl rfl) ?_
  refine SL.uu (ru_extract rfl rfl rfl) ?_
  refine SL.as ?_
  refine SL.as ?_
  refine SL.nl ?_
  refine SC.seq ?_
  refine SC.sr ?_
  refine SL.mv ?_
  refine SL.uu (ru_ne (b := (((thereF M.ps0 k) : Int) != 0)) rfl rfl rfl rfl) ?_
  refine SL.nl ?_
  refine SC.both (((thereF M.ps0 k) : Int) != 0) rfl (fun h2 => ?_) (fun h2 => ?_)
  · skip
    refine SC.sr ?_
    refine SL.uu (ru_build (vals := []) (cells := [Value.slice none 0 0, bo false, iw 0]) rfl rfl (by kernel_rfl)) ?_
    refine SL.mv ?_
    refine SL.storea (i := 6) (vs := [Value.slice none 0 0, bo false, iw 0]) (c' := [Value.slice none 0 0, bo false, iw 0]) rfl rfl ta46 rfl rfl rfl rfl rfl rfl (le_b rfl) (.inr hb1) rfl ?_
    refine SL.as ?_
    refine SL.nl ?_
    refine SC.ret ?_
    refine SE.passr ?_
    have eT : thereF (S.L false) k = thereF M.ps0 k := by show thereF S.L0 k = _; rw [← hM.l0, there_map]
    refine SE.res (.inl rfl) (resCT (i := 6) Try.results13 rfl rfl ta46 rfl rfl) fun w1 hI => ?_
    have ew : seeW S false k = fm0 := by unfold seeW; rw [eT, if_neg (ne_t h2)]
    rw [ew, eT]
    exact ⟨none, 0, rfl, ⟨rfl, .inl ⟨rfl, rfl⟩⟩, fun b hb => (by cases hb), hI.2⟩
  have hth : thereF M.ps0 k = 0 := Classical.byContradiction (fun hc => ne_f h2 hc)
  obtain ⟨hk0, hk1, ⟨⟨vx, x⟩, hx⟩⟩ := there_get hth
  have hk : 0 ≤ k ∧ k < (M.ps0.length : Int) := ⟨hk0, hk1⟩
  obtain ⟨hxb, hxF, xa, xc, hxv⟩ := hM.form0 h _ (List.mem_of_getElem? hx)
  have hxf : M.fs vx x.f := hM.f0 _ (List.mem_of_getElem? hx)
  dsimp only at hxv hxb hxF
  subst hxv
  have ex : (S.L false).getD k.toNat fm0 = x := by show S.L0.getD k.toNat fm0 = x; rw [← hM.l0, List.getD_eq_getElem?_getD, List.getElem?_map, hx]; rfl
  refine SC.norm [(6, pt b1 0), (7, iw 0), (8, Value.pointer (some ⟨rowB M.q0, k.toNat * 3, none⟩)), (9, iw (thereF M.ps0 k)), (18, bo (((thereF M.ps0 k) : Int) != 0))] _ ⟨rfl, rfl, (congrArg some (show thereP M.q0 M.ps0 k = _ from if_pos hth)), rfl, rfl, trivial⟩ rfl ?_
  have hxl : x.f.length ≤ 1000000 := by have := hfr x (by rw [← hM.l0]; exact List.mem_map.2 ⟨_, List.mem_of_getElem? hx, rfl⟩); omega
  refine SC.skip ?_
  refine SC.of_SE ?_
  refine SC.seq ?_
  refine SC.region_mk_tail 13 [(4, Mk.mine ⟨35, w, fun _ => False⟩ x.f 5)] [] rfl rfl (by kernel_rfl) (by kernel_rfl) (by kernel_rfl) ?_
  refine SM.uu (ru_move rfl rfl) ?_
  refine SM.uu (ru_nilCheck rfl rfl) ?_
  refine SM.uu (ru_fieldAddr (o2 := k.toNat * 3 + 0) fd46_0 rfl rfl rfl) ?_
  refine SM.uu (ru_load_rowN (ri := 3) (i := k.toNat) (k := 0) (r := [Value.slice xa x.f.length xc, bo x.bad, iw x.tick]) ts28 rfl rfl rfl (by show (M.ps0.map FmV.row)[_]? = _; rw [List.getElem?_map, hx]; rfl) (by decide) rfl) ?_
  refine SM.mkcall (s := Mk.mine ⟨35, w, fun _ => False⟩ x.f 5) rfl rfl rfl rfl (w_all rfl) rfl (lt_b rfl) rfl rfl rfl co35 rfl rfl (fun l' w hI => (clone_any ((hI.1.get (i := 5) rfl).2 _ _ hxf).1 hxl).mono fun e w2 ⟨q, c, h1, h2, h3, h4⟩ => ⟨_, h1, ⟨q, c, fun b hb => Nat.le_trans hI.2.size (h3 b hb), rfl⟩, hI.add (r := rMine (.slice q x.f.length c) x.f 5) h4 h2 h3⟩) ?_
  rintro _ ⟨q3, c4, hq3, rfl⟩
  refine SM.uu (ru_move rfl rfl) ?_
  refine SM.uu (ru_nilCheck rfl rfl) ?_
  refine SM.uu (ru_fieldAddr (o2 := k.toNat * 3 + 1) fd46_1 rfl rfl rfl) ?_
  refine SM.uu (ru_load_rowN (ri := 3) (i := k.toNat) (k := 1) (r := [Value.slice xa x.f.length xc, bo x.bad, iw x.tick]) ts4 rfl rfl rfl (by show (M.ps0.map FmV.row)[_]? = _; rw [List.getElem?_map, hx]; rfl) (by decide) rfl) ?_
  refine SM.uu (ru_move rfl rfl) ?_
  refine SM.uu (ru_nilCheck rfl rfl) ?_
  refine SM.uu (ru_fieldAddr (o2 := k.toNat * 3 + 2) fd46_2 rfl rfl rfl) ?_
  refine SM.uu (ru_load_rowN (ri := 3) (i := k.toNat) (k := 2) (r := [Value.slice xa x.f.length xc, bo x.bad, iw x.tick]) ts3 rfl rfl rfl (by show (M.ps0.map FmV.row)[_]? = _; rw [List.getElem?_map, hx]; rfl) (by decide) rfl) ?_
  refine SM.nilL (l' := [rB wd d0 d1 M S.now 77, rDv 74 d0 M.fs S.A0, rDv 74 d1 M.fs S.A1, rR0 M 46, rR1 M 46, rZ M.F M.fs, rBlk b1 [Value.slice none 0 0, bo false, iw 0] 46, rMine (.slice q3 x.f.length c4) x.f 5]) rfl ?_
  refine SL.uu (ru_build (vals := [(0, Value.slice q3 x.f.length c4), (1, bo x.bad), (2, iw x.tick)]) (cells := [Value.slice q3 x.f.length c4, bo x.bad, iw x.tick]) rfl rfl (by kernel_rfl)) ?_
  refine SL.storea (i := 6) (vs := [Value.slice q3 x.f.length c4, bo x.bad, iw x.tick]) (c' := [Value.slice q3 x.f.length c4, bo x.bad, iw x.tick]) rfl rfl ta46 rfl rfl rfl rfl rfl rfl (le_b rfl) (.inr hb1) rfl ?_
  refine SL.as ?_
  refine SL.nl ?_
  refine SC.ret ?_
  have eT : thereF (S.L false) k = thereF M.ps0 k := by show thereF S.L0 k = _; rw [← hM.l0, there_map]
  refine SE.res (.inl rfl) (resCT (i := 6) Try.results13 rfl rfl ta46 rfl rfl) fun w1 hI => ?_
  have ew : seeW S false k = x := by unfold seeW; rw [eT, if_pos hth, ex]
  rw [ew, eT, hth]
  exact ⟨q3, c4, rfl, hI.1.get (i := 7) rfl, hq3, hI.2⟩
theorem see1_any {w : World} {wd d0 d1 : Nat} {M : WM} {S : Wi} {k : Int} (hM : M.Ok S) (hfr : ∀ x ∈ S.L1, x.f.length ≤ 274) (h : Sep w (WLm 74 77 46 wd d0 d1 M S.A0 S.A1 S.now)) : Calls Try.prog 13 #[pt wd 0, iw 1, iw k] w fun e w' => ∃ q c, e = .returned (.tuple #[.agg #[.slice q (seeW S true k).f.length c, bo (seeW S true k).bad, iw (seeW S true k).tick], iw (thereF (S.L true) k)]) ∧ OwnBytes w' 0 5 (.slice q (seeW S true k).f.length c) (seeW S true k).f ∧ (∀ b, (Value.slice q (seeW S true k).f.length c).ownBlock = some b → w.heap.size ≤ b) ∧ Only (fun _ => False) w w' := by
  refine calls_sc (l0 := (WLm 74 77 46 wd d0 d1 M S.A0 S.A1 S.now)) (args := [pt wd 0, iw 1, iw k]) (fun _ => False) Try.func13 rfl 35 Try.ntmps13 (le_b rfl) ⟨h, Only.refl _ _⟩ ?_
  show SC _ _ _ _ [(0, pt wd 0), (1, iw 1), (2, iw k)] (WLm 74 77 46 wd d0 d1 M S.A0 S.A1 S.now)
  refine SC.sr ?_
  refine SL.alloca rfl rfl (lt_b rfl) ta46 rfl fun b1 hb1 => ?_
  refine SL.as ?_
  refine SL.nl ?_
  refine SC.sr ?_
  refine SL.mv ?_
  refine SL.mv ?_
  refine SL.mv ?_
  refine SL.callv (Value.tuple #[thereP M.q1 M.ps1 k, iw (thereF M.ps1 k)]) rfl rfl co34 rfl rfl rfl (lt_b rfl) (fun w hI => H_only hI (there1_any ((hI.keep 6).1))) ?_
  refine SL.mv ?_
  refine SL.uu (ru_extract rfl rfl rfl) ?_
  refine SL.uu (ru_extract rfl rfl rfl) ?_
  refine SL.as ?_
  refine SL.as ?_
  refine SL.nl ?_
  refine SC.seq ?_
  refine SC.sr ?_
  refine SL.mv ?_
  refine SL.uu (ru_ne (b := (((thereF M.ps1 k) : Int) != 0)) rfl rfl rfl rfl) ?_
  refine SL.nl ?_
  refine SC.both (((thereF M.ps1 k) : Int) != 0) rfl (fun h2 => ?_) (fun h2 => ?_)
  · skip
    refine SC.sr ?_
    refine SL.uu (ru_build (vals := []) (cells := [Value.slice none 0 0, bo false, iw 0]) rfl rfl (by kernel_rfl)) ?_
    refine SL.mv ?_
    refine SL.storea (i := 6) (vs := [Value.slice none 0 0, bo false, iw 0]) (c' := [Value.slice none 0 0, bo false, iw 0]) rfl rfl ta46 rfl rfl rfl rfl rfl rfl (le_b rfl) (.inr hb1) rfl ?_
    refine SL.as ?_
    refine SL.nl ?_
    refine SC.ret ?_
    refine SE.passr ?_
    have eT : thereF (S.L true) k = thereF M.ps1 k := by show thereF S.L1 k = _; rw [← hM.l1, there_map]
    refine SE.res (.inl rfl) (resCT (i := 6) Try.results13 rfl rfl ta46 rfl rfl) fun w1 hI => ?_
    have ew : seeW S true k = fm0 := by unfold seeW; rw [eT, if_neg (ne_t h2)]
    rw [ew, eT]
    exact ⟨none, 0, rfl, ⟨rfl, .inl ⟨rfl, rfl⟩⟩, fun b hb => (by cases hb), hI.2⟩
  have hth : thereF M.ps1 k = 0 := Classical.byContradiction (fun hc => ne_f h2 hc)
  obtain ⟨hk0, hk1, ⟨⟨vx, x⟩, hx⟩⟩ := there_get hth
  have hk : 0 ≤ k ∧ k < (M.ps1.length : Int) := ⟨hk0, hk1⟩
  obtain ⟨hxb, hxF, xa, xc, hxv⟩ := hM.form1 h _ (List.mem_of_getElem? hx)
  have hxf : M.fs vx x.f := hM.f1 _ (List.mem_of_getElem? hx)
  dsimp only at hxv hxb hxF
  subst hxv
  have ex : (S.L true).getD k.toNat fm0 = x := by show S.L1.getD k.toNat fm0 = x; rw [← hM.l1, List.getD_eq_getElem?_getD, List.getElem?_map, hx]; rfl
  refine SC.norm [(6, pt b1 0), (7, iw 0), (8, Value.pointer (some ⟨rowB M.q1, k.toNat * 3, none⟩)), (9, iw (thereF M.ps1 k)), (18, bo (((thereF M.ps1 k) : Int) != 0))] _ ⟨rfl, rfl, (congrArg some (show thereP M.q1 M.ps1 k = _ from if_pos hth)), rfl, rfl, trivial⟩ rfl ?_
  have hxl : x.f.length ≤ 1000000 := by have := hfr x (by rw [← hM.l1]; exact List.mem_map.2 ⟨_, List.mem_of_getElem? hx, rfl⟩); omega
  refine SC.skip ?_
  refine SC.of_SE ?_
  refine SC.seq ?_
  refine SC.region_mk_tail 13 [(4, Mk.mine ⟨35, w, fun _ => False⟩ x.f 5)] [] rfl rfl (by kernel_rfl) (by kernel_rfl) (by kernel_rfl) ?_
  refine SM.uu (ru_move rfl rfl) ?_
  refine SM.uu (ru_nilCheck rfl rfl) ?_
  refine SM.uu (ru_fieldAddr (o2 := k.toNat * 3 + 0) fd46_0 rfl rfl rfl) ?_
  refine SM.uu (ru_load_rowN (ri := 4) (i := k.toNat) (k := 0) (r := [Value.slice xa x.f.length xc, bo x.bad, iw x.tick]) ts28 rfl rfl rfl (by show (M.ps1.map FmV.row)[_]? = _; rw [List.getElem?_map, hx]; rfl) (by decide) rfl) ?_
  refine SM.mkcall (s := Mk.mine ⟨35, w, fun _ => False⟩ x.f 5) rfl rfl rfl rfl (w_all rfl) rfl (lt_b rfl) rfl rfl rfl co35 rfl rfl (fun l' w hI => (clone_any ((hI.1.get (i := 5) rfl).2 _ _ hxf).1 hxl).mono fun e w2 ⟨q, c, h1, h2, h3, h4⟩ => ⟨_, h1, ⟨q, c, fun b hb => Nat.le_trans hI.2.size (h3 b hb), rfl⟩, hI.add (r := rMine (.slice q x.f.length c) x.f 5) h4 h2 h3⟩) ?_
  rintro _ ⟨q3, c4, hq3, rfl⟩
  refine SM.uu (ru_move rfl rfl) ?_
  refine SM.uu (ru_nilCheck rfl rfl) ?_
  refine SM.uu (ru_fieldAddr (o2 := k.toNat * 3 + 1) fd46_1 rfl rfl rfl) ?_
  refine SM.uu (ru_load_rowN (ri := 4) (i := k.toNat) (k := 1) (r := [Value.slice xa x.f.length xc, bo x.bad, iw x.tick]) ts4 rfl rfl rfl (by show (M.ps1.map FmV.row)[_]? = _; rw [List.getElem?_map, hx]; rfl) (by decide) rfl) ?_
  refine SM.uu (ru_move rfl rfl) ?_
  refine SM.uu (ru_nilCheck rfl rfl) ?_
  refine SM.uu (ru_fieldAddr (o2 := k.toNat * 3 + 2) fd46_2 rfl rfl rfl) ?_
  refine SM.uu (ru_load_rowN (ri := 4) (i := k.toNat) (k := 2) (r := [Value.slice xa x.f.length xc, bo x.bad, iw x.tick]) ts3 rfl rfl rfl (by show (M.ps1.map FmV.row)[_]? = _; rw [List.getElem?_map, hx]; rfl) (by decide) rfl) ?_
  refine SM.nilL (l' := [rB wd d0 d1 M S.now 77, rDv 74 d0 M.fs S.A0, rDv 74 d1 M.fs S.A1, rR0 M 46, rR1 M 46, rZ M.F M.fs, rBlk b1 [Value.slice none 0 0, bo false, iw 0] 46, rMine (.slice q3 x.f.length c4) x.f 5]) rfl ?_
  refine SL.uu (ru_build (vals := [(0, Value.slice q3 x.f.length c4), (1, bo x.bad), (2, iw x.tick)]) (cells := [Value.slice q3 x.f.length c4, bo x.bad, iw x.tick]) rfl rfl (by kernel_rfl)) ?_
  refine SL.storea (i := 6) (vs := [Value.slice q3 x.f.length c4, bo x.bad, iw x.tick]) (c' := [Value.slice q3 x.f.length c4, bo x.bad, iw x.tick]) rfl rfl ta46 rfl rfl rfl rfl rfl rfl (le_b rfl) (.inr hb1) rfl ?_
  refine SL.as ?_
  refine SL.nl ?_
  refine SC.ret ?_
  have eT : thereF (S.L true) k = thereF M.ps1 k := by show thereF S.L1 k = _; rw [← hM.l1, there_map]
  refine SE.res (.inl rfl) (resCT (i := 6) Try.results13 rfl rfl ta46 rfl rfl) fun w1 hI => ?_
  have ew : seeW S true k = x := by unfold seeW; rw [eT, if_pos hth, ex]
  rw [ew, eT, hth]
  exact ⟨q3, c4, rfl, hI.1.get (i := 7) rfl, hq3, hI.2⟩
theorem seeX_any {w : World} {wd : Nat} {dir k : Int} (hd : isD dir = false) : Calls Try.prog 13 #[pt wd 0, iw dir, iw k] w fun e w' => e = .returned (.tuple #[.agg #[.slice none 0 0, bo false, iw 0], iw 1]) ∧ Only (fun _ => False) w w' := by
  refine calls_sc (l0 := []) (args := [pt wd 0, iw dir, iw k]) (fun _ => False) Try.func13 rfl 35 Try.ntmps13 (le_b rfl) ⟨⟨by simp, List.Pairwise.nil⟩, Only.refl _ _⟩ ?_
  show SC _ _ _ _ [(0, pt wd 0), (1, iw dir), (2, iw k)] []
  refine SC.sr ?_
  refine SL.alloca rfl rfl (lt_b rfl) ta46 rfl fun b1 hb1 => ?_
  refine SL.as ?_
  refine SL.nl ?_
  refine SC.sr ?_
  refine SL.mv ?_
  refine SL.mv ?_
  refine SL.mv ?_
  refine SL.callv (Value.tuple #[Value.pointer none, iw 1]) rfl rfl co34 rfl rfl rfl (lt_b rfl) (fun w hI => H_only hI (thereX_any hd)) ?_
  refine SL.mv ?_
  refine SL.uu (ru_extract rfl rfl rfl) ?_
  refine SL.uu (ru_extract rfl rfl rfl) ?_
  refine SL.as ?_
  refine SL.as ?_
  refine SL.nl ?_
  refine SC.seq ?_
  refine SC.sr ?_
  refine SL.mv ?_
  refine SL.uu (ru_ne (b := true) rfl rfl rfl rfl) ?_
  refine SL.nl ?_
  refine SC.yes rfl ?_
  refine SC.sr ?_
  refine SL.uu (ru_build (vals := []) (cells := [Value.slice none 0 0, bo false, iw 0]) rfl rfl (by kernel_rfl)) ?_
  refine SL.mv ?_
  refine SL.storea (i := 0) (vs := [Value.slice none 0 0, bo false, iw 0]) (c' := [Value.slice none 0 0, bo false, iw 0]) rfl rfl ta46 rfl rfl rfl rfl rfl rfl (le_b rfl) (.inr hb1) rfl ?_
  refine SL.as ?_
  refine SL.nl ?_
  refine SC.ret ?_
  refine SE.passr ?_
  refine SE.res (.inl rfl) (resCT (i := 0) Try.results13 rfl rfl ta46 rfl rfl) fun w1 hI => ⟨rfl, hI.2⟩

end Go.Proofs.Ytcilikkljkdceaa

/-
  A wire as one thing in memory; the law's two wires. No program is named here but by its types.
-/
namespace Go.Proofs.Ytcilikkljkdceaa
open Go.RowKit
def rWi (T TW TO : TypeId) (wd d0 d1 : Nat) (G : Nat → Prop) (S : Wi) : Res where
  ok w := (∃ M : WM, M.Ok S ∧ Sep w (WLm T TW TO wd d0 d1 M S.A0 S.A1 S.now) ∧ ∀ b, (b = wd ∨ b = d0 ∨ b = d1 ∨ M.K b) → G b) ∧ ∀ b, G b → b < w.heap.size
  fp := G
  lt w h b hb := h.2 b hb
  st w w' h hw := by
    obtain ⟨⟨M, h1, h2, h3⟩, h4⟩ := h
    refine ⟨⟨M, h1, ⟨fun r hr => r.st w w' (h2.1 r hr) fun b hb => hw b (h3 b (wl_fp.1 ⟨r, hr, hb⟩)), h2.2⟩, h3⟩, fun b hb => ?_⟩
    have h5 := h4 b hb
    have h6 := hw b hb
    rw [Array.getElem?_eq_getElem h5] at h6
    exact (Array.getElem?_eq_some_iff.1 h6).1
def RTo (T TW TO : TypeId) (w : World) (wd d0 d1 : Nat) (G : Nat → Prop) (S' : Wi) (w' : World) : Prop := ∃ G', (rWi T TW TO wd d0 d1 G' S').ok w' ∧ (∀ b, G' b → G b ∨ w.heap.size ≤ b) ∧ Only G w w'
section
variable {T TW TO : TypeId} {w w' : World} {wd d0 d1 : Nat} {M M' : WM} {S S' : Wi} {G : Nat → Prop} {X : Cx} {l : List Res}
theorem RTo.of (h3 : ∀ b, (b = wd ∨ b = d0 ∨ b = d1 ∨ M.K b) → G b) (k : WTo T TW TO w wd d0 d1 M M' S' w') : RTo T TW TO w wd d0 d1 G S' w' := by
  refine ⟨fun b => b = wd ∨ b = d0 ∨ b = d1 ∨ M'.K b, ⟨⟨M', k.ok, k.sep, fun b hb => hb⟩, fun b hb => ?_⟩, fun b hb => ?_, k.only.mono (fun b hb => .inl (h3 b hb.sub))⟩
  · obtain ⟨r, hr, hb⟩ := wl_fp.2 hb
    exact r.lt w' (k.sep.1 r hr) b hb
  · rcases hb with hb | hb | hb | hb
    · exact .inl (h3 b (.inl hb))
    · exact .inl (h3 b (.inr (.inl hb)))
    · exact .inl (h3 b (.inr (.inr (.inl hb))))
    · exact (k.K b hb).imp (h3 b) id
theorem RTo.same (h : (rWi T TW TO wd d0 d1 G S).ok w) (hO : Only (fun _ => False) w w') : RTo T TW TO w wd d0 d1 G S w' :=
  ⟨G, (rWi T TW TO wd d0 d1 G S).st w w' h (fun b hb => hO.block b ((rWi T TW TO wd d0 d1 G S).lt w h b hb) id), fun b hb => .inl hb, hO.mono (fun b hb => hb.elim)⟩
theorem Inv.rto {i : Nat} (h : Inv X w l) (hi : l[i]? = some (rWi T TW TO wd d0 d1 G S)) (hS : ∀ b, G b → X.S b ∨ X.w0.heap.size ≤ b) (k : RTo T TW TO w wd d0 d1 G S' w') : ∃ G', Inv X w' (l.set i (rWi T TW TO wd d0 d1 G' S')) ∧ ∀ b, G' b → X.S b ∨ X.w0.heap.size ≤ b := by
  obtain ⟨G', k1, k2, k3⟩ := k
  exact ⟨G', h.upd hi k3 hS k1 k2, fun b hb => (k2 b hb).elim (hS b) (fun e => .inr (Nat.le_trans h.2.size e))⟩
theorem sep_inv {Z : Nat → Prop} (n : Nat) (h : Sep w l) : Inv ⟨n, w, Z⟩ w (l ++ []) := ⟨by rw [List.append_nil]; exact h, Only.refl _ _⟩
theorem rwi_dev0 (h : (rWi T TW TO wd d0 d1 G S).ok w) : ∃ F, NicAt T w d0 F S.A0 ∧ (∀ b, F b → G b) ∧ G d0 ∧ ∀ A' w', NicTo T w d0 F A' w' → RTo T TW TO w wd d0 d1 G (S.setA false A') w' := by
  obtain ⟨⟨M, hM, hs, hg⟩, hlt⟩ := h
  have hI := sep_inv (Z := G) 0 hs
  have hd : G d0 := hg d0 (.inr (.inl rfl))
  refine ⟨M.F, WL.nic0 hI, fun b hb => hg b (.inr (.inr (.inr (.inl hb)))), hd, fun A' w' k => ?_⟩
  obtain ⟨F1, k1, k2, k3⟩ := k
  obtain ⟨F', fs', g1, g2, g3⟩ := WL.turn0 (g := fun _ _ => False) hI (.inl hd) k1 k2 k3 (fun _ _ hv => hv.elim)
  have hsp := (g2.keep 6).1
  refine ⟨fun b => b = wd ∨ b = d0 ∨ b = d1 ∨ WM.K { M with F := F', fs := fs' } b, ⟨⟨{ M with F := F', fs := fs' }, ⟨fun y hy => g1 _ _ (.inl (hM.f0 y hy)), fun y hy => g1 _ _ (.inl (hM.f1 y hy)), hM.l0, hM.l1⟩, hsp, fun b hb => hb⟩, fun b hb => ?_⟩, fun b hb => ?_, k3.mono (fun b hb => .inl (hb ▸ hd))⟩
  · obtain ⟨r, hr, hb⟩ := (wl_fp (T := T) (TW := TW) (TO := TO) (A0 := A') (A1 := S.A1) (now := S.now)).2 hb
    exact r.lt w' (hsp.1 r hr) b hb
  · rcases hb with hb | hb | hb | hb
    · exact .inl (hg b (.inl hb))
    · exact .inl (hg b (.inr (.inl hb)))
    · exact .inl (hg b (.inr (.inr (.inl hb))))
    · exact (WM.K.frz (M := M) (M' := M) (wd := wd) (d0 := d0) (d1 := d1) hb (fun b hb => .inr (.inr (.inr hb))) g3).imp (hg b) id
theorem rwi_dev1 (h : (rWi T TW TO wd d0 d1 G S).ok w) : ∃ F, NicAt T w d1 F S.A1 ∧ (∀ b, F b → G b) ∧ G d1 ∧ ∀ A' w', NicTo T w d1 F A' w' → RTo T TW TO w wd d0 d1 G (S.setA true A') w' := by
  obtain ⟨⟨M, hM, hs, hg⟩, hlt⟩ := h
  have hI := sep_inv (Z := G) 0 hs
  have hd : G d1 := hg d1 (.inr (.inr (.inl rfl)))
  refine ⟨M.F, WL.nic1 hI, fun b hb => hg b (.inr (.inr (.inr (.inl hb)))), hd, fun A' w' k => ?_⟩
  obtain ⟨F1, k1, k2, k3⟩ := k
  obtain ⟨F', fs', g1, g2, g3⟩ := WL.turn1 (g := fun _ _ => False) hI (.inl hd) k1 k2 k3 (fun _ _ hv => hv.elim)
  have hsp := (g2.keep 6).1
  refine ⟨fun b => b = wd ∨ b = d0 ∨ b = d1 ∨ WM.K { M with F := F', fs := fs' } b, ⟨⟨{ M with F := F', fs := fs' }, ⟨fun y hy => g1 _ _ (.inl (hM.f0 y hy)), fun y hy => g1 _ _ (.inl (hM.f1 y hy)), hM.l0, hM.l1⟩, hsp, fun b hb => hb⟩, fun b hb => ?_⟩, fun b hb => ?_, k3.mono (fun b hb => .inl (hb ▸ hd))⟩
  · obtain ⟨r, hr, hb⟩ := (wl_fp (T := T) (TW := TW) (TO := TO) (A0 := S.A0) (A1 := A') (now := S.now)).2 hb
    exact r.lt w' (hsp.1 r hr) b hb
  · rcases hb with hb | hb | hb | hb
    · exact .inl (hg b (.inl hb))
    · exact .inl (hg b (.inr (.inl hb)))
    · exact .inl (hg b (.inr (.inr (.inl hb))))
    · exact (WM.K.frz (M := M) (M' := M) (wd := wd) (d0 := d0) (d1 := d1) hb (fun b hb => .inr (.inr (.inr hb))) g3).imp (hg b) id
theorem rwi_new {F0 F1 : Nat → Prop} {A0 A1 : NicA} (h : Inv X w (rBlk wd [pt d0 0, pt d1 0, .slice none 0 0, .slice none 0 0, iw 0] TW :: rNic T d0 F0 A0 :: rNic T d1 F1 A1 :: l)) :
    Inv X w (rWi T TW TO wd d0 d1 (fun b => b = wd ∨ (b = d0 ∨ F0 b) ∨ b = d1 ∨ F1 b) ⟨A0, A1, [], [], 0⟩ :: l) := by
  have hb : Blk w wd [pt d0 0, pt d1 0, .slice none 0 0, .slice none 0 0, iw 0] TW := h.1.1 _ List.mem_cons_self
  have n0 : NicAt T w d0 F0 A0 := h.1.1 (rNic T d0 F0 A0) (by simp)
  have n1 : NicAt T w d1 F1 A1 := h.1.1 (rNic T d1 F1 A1) (by simp)
  obtain ⟨p0, p1⟩ := List.pairwise_cons.1 h.1.2
  obtain ⟨p2, p3⟩ := List.pairwise_cons.1 p1
  obtain ⟨p4, p5⟩ := List.pairwise_cons.1 p3
  have q0 := p0 (rNic T d0 F0 A0) (by simp)
  have q1 := p0 (rNic T d1 F1 A1) (by simp)
  have q2 := p2 (rNic T d1 F1 A1) (by simp)
  obtain ⟨tv0, cv0, k0, m0, z0⟩ := n0
  obtain ⟨tv1, cv1, k1, m1, z1⟩ := n1
  have e01 : wd ≠ d0 := fun e => q0 wd rfl (.inl e)
  have e02 : wd ≠ d1 := fun e => q1 wd rfl (.inl e)
  have e12 : d0 ≠ d1 := fun e => q2 d0 (.inl rfl) (.inl e)
  refine ⟨⟨fun r hr => ?_, List.pairwise_cons.2 ⟨fun s hs b hb1 hb2 => ?_, p5⟩⟩, h.2⟩
  · rcases List.mem_cons.1 hr with rfl | hr
    · refine ⟨⟨⟨none, 0, none, 0, fun b => F0 b ∨ F1 b, fun v f => ∃ i, i < 16 ∧ ((v = tv0 i ∧ f = A0.tb i ∨ v = cv0 i ∧ f = A0.cb i) ∨ (v = tv1 i ∧ f = A1.tb i ∨ v = cv1 i ∧ f = A1.cb i)), [], []⟩, ⟨by simp, by simp, rfl, rfl⟩, ⟨fun r hr => ?_, ?_⟩, fun b hb => ?_⟩, fun b hb => ?_⟩
      · simp only [WLm, WL, List.mem_cons, List.not_mem_nil, or_false] at hr
        rcases hr with rfl | rfl | rfl | rfl | rfl | rfl
        · exact hb
        · exact ⟨tv0, cv0, k0, fun i hi => ⟨⟨i, hi, .inl (.inl ⟨rfl, rfl⟩)⟩, ⟨i, hi, .inl (.inr ⟨rfl, rfl⟩)⟩⟩⟩
        · exact ⟨tv1, cv1, k1, fun i hi => ⟨⟨i, hi, .inr (.inl ⟨rfl, rfl⟩)⟩, ⟨i, hi, .inr (.inr ⟨rfl, rfl⟩)⟩⟩⟩
        · exact rowN_nil w _ _
        · exact rowN_nil w _ _
        · refine ⟨fun b hb => hb.elim (z0.1 b) (z1.1 b), fun v f hv => ?_⟩
          obtain ⟨i, hi, (⟨rfl, rfl⟩ | ⟨rfl, rfl⟩) | (⟨rfl, rfl⟩ | ⟨rfl, rfl⟩)⟩ := hv
          · exact ⟨(z0.2.1 i hi).1, fun b o n c e hn => .inl ((z0.2.1 i hi).2 b o n c e hn)⟩
          · exact ⟨(z0.2.2 i hi).1, fun b o n c e hn => .inl ((z0.2.2 i hi).2 b o n c e hn)⟩
          · exact ⟨(z1.2.1 i hi).1, fun b o n c e hn => .inr ((z1.2.1 i hi).2 b o n c e hn)⟩
          · exact ⟨(z1.2.2 i hi).1, fun b o n c e hn => .inr ((z1.2.2 i hi).2 b o n c e hn)⟩
      · have no : ∀ (n c : Nat) (b : Nat), ¬ (Value.slice none n c).ownBlock = some b := fun n c b e => by cases e
        simp only [WLm, WL, List.pairwise_cons, List.mem_cons, List.not_mem_nil, or_false, forall_eq_or_imp, forall_eq, List.Pairwise.nil, and_true, false_imp_iff, implies_true]
        refine ⟨⟨fun b e1 e2 => e01 (e1.symm.trans e2), fun b e1 e2 => e02 (e1.symm.trans e2), fun b _ e2 => no _ _ b e2, fun b _ e2 => no _ _ b e2, fun b e1 e2 => e2.elim (fun e => q0 b e1 (.inr e)) (fun e => q1 b e1 (.inr e))⟩,
          ⟨fun b e1 e2 => e12 (e1.symm.trans e2), fun b _ e2 => no _ _ b e2, fun b _ e2 => no _ _ b e2, fun b e1 e2 => e2.elim (fun e => m0 (show F0 d0 from (show b = d0 from e1) ▸ e)) (fun e => q2 b (.inl e1) (.inr e))⟩,
          ⟨fun b _ e2 => no _ _ b e2, fun b _ e2 => no _ _ b e2, fun b e1 e2 => e2.elim (fun e => q2 b (.inr e) (.inl e1)) (fun e => m1 (show F1 d1 from (show b = d1 from e1) ▸ e))⟩,
          ⟨fun b e1 _ => no _ _ b e1, fun b e1 _ => no _ _ b e1⟩, fun b e1 _ => no _ _ b e1⟩
      · rcases hb with hb | hb | hb | (hb | hb) | hb | hb
        · exact .inl hb
        · exact .inr (.inl (.inl hb))
        · exact .inr (.inr (.inl hb))
        · exact .inr (.inl (.inr hb))
        · exact .inr (.inr (.inr hb))
        · cases hb
        · cases hb
      · rcases hb with hb | (hb | hb) | hb | hb
        · rw [hb]; exact Blk.lt ‹_›
        · rw [hb]; exact k0.lt
        · exact z0.1 b hb
        · rw [hb]; exact k1.lt
        · exact z1.1 b hb
    · exact h.1.1 r (by simp [hr])
  · rcases hb1 with hb1 | hb1 | hb1
    · exact p0 s (by simp [hs]) b hb1 hb2
    · exact p2 s (by simp [hs]) b hb1 hb2
    · exact p4 s hs b hb1 hb2
end
structure Rg where
  S : Wi
  V : Wi
  t0 : Int
  t1 : Int
  f0 : Int
  f1 : Int
abbrev rWp (wd d0 d1 : Nat) (G : Nat → Prop) (S : Wi) : Res := rWi 74 77 46 wd d0 d1 G S
abbrev rWq (wd d0 d1 : Nat) (G : Nat → Prop) (S : Wi) : Res := rWi 100 92 46 wd d0 d1 G S
abbrev RgL (g wd d0 d1 vd e0 e1 : Nat) (G1 G2 : Nat → Prop) (R : Rg) : List Res := [rBlk g [pt d0 0, pt d1 0, pt wd 0, pt e0 0, pt e1 0, pt vd 0, iw R.t0, iw R.t1, iw R.f0, iw R.f1] 41, rWp wd d0 d1 G1 R.S, rWq vd e0 e1 G2 R.V]
def RgZ (g : Nat) (G1 G2 : Nat → Prop) (b : Nat) : Prop := b = g ∨ G1 b ∨ G2 b
def RgTo (w : World) (g wd d0 d1 vd e0 e1 : Nat) (G1 G2 : Nat → Prop) (R' : Rg) (w' : World) : Prop :=
  ∃ H1 H2, Sep w' (RgL g wd d0 d1 vd e0 e1 H1 H2 R') ∧ (∀ b, H1 b → RgZ g G1 G2 b ∨ w.heap.size ≤ b) ∧ (∀ b, H2 b → RgZ g G1 G2 b ∨ w.heap.size ≤ b) ∧ Only (RgZ g G1 G2) w w'
section
variable {w w' : World} {g wd d0 d1 vd e0 e1 n : Nat} {G1 G2 H1 H2 : Nat → Prop} {R R' : Rg} {X : Cx} {l : List Res}
theorem RgTo.of (h : Inv ⟨n, w, RgZ g G1 G2⟩ w' (RgL g wd d0 d1 vd e0 e1 H1 H2 R' ++ l)) (h1 : ∀ b, H1 b → RgZ g G1 G2 b ∨ w.heap.size ≤ b) (h2 : ∀ b, H2 b → RgZ g G1 G2 b ∨ w.heap.size ≤ b) : RgTo w g wd d0 d1 vd e0 e1 G1 G2 R' w' :=
  ⟨H1, H2, (h.keep 3).1, h1, h2, h.2⟩
theorem rgl_fp {b : Nat} : (∃ r ∈ RgL g wd d0 d1 vd e0 e1 G1 G2 R, r.fp b) ↔ RgZ g G1 G2 b := by
  constructor
  · rintro ⟨r, hr, hb⟩
    simp only [RgL, List.mem_cons, List.not_mem_nil, or_false] at hr
    rcases hr with rfl | rfl | rfl
    · exact .inl hb
    · exact .inr (.inl hb)
    · exact .inr (.inr hb)
  · rintro (hb | hb | hb)
    · exact ⟨_, List.mem_cons_self, hb⟩
    · exact ⟨rWp wd d0 d1 G1 R.S, by simp [RgL], hb⟩
    · exact ⟨rWq vd e0 e1 G2 R.V, by simp [RgL], hb⟩
theorem Inv.rgto (h : Inv X w (RgL g wd d0 d1 vd e0 e1 G1 G2 R ++ l)) (hS : ∀ b, RgZ g G1 G2 b → X.S b ∨ X.w0.heap.size ≤ b) (k : RgTo w g wd d0 d1 vd e0 e1 G1 G2 R' w') :
    ∃ H1 H2, Inv X w' (RgL g wd d0 d1 vd e0 e1 H1 H2 R' ++ l) ∧ (∀ b, H1 b → X.S b ∨ X.w0.heap.size ≤ b) ∧ ∀ b, H2 b → X.S b ∨ X.w0.heap.size ≤ b := by
  obtain ⟨H1, H2, k1, k2, k3, k4⟩ := k
  have up : ∀ b, RgZ g G1 G2 b ∨ w.heap.size ≤ b → X.S b ∨ X.w0.heap.size ≤ b := fun b hb => hb.elim (hS b) (fun e => .inr (Nat.le_trans h.2.size e))
  refine ⟨H1, H2, h.turned (Z := RgZ g G1 G2) ⟨k1, k4, fun r hr b hb => ?_⟩ (fun b hb => rgl_fp.2 hb) hS, fun b hb => up b (k2 b hb), fun b hb => up b (k3 b hb)⟩
  rcases rgl_fp.1 ⟨r, hr, hb⟩ with e | e | e
  · exact .inl (rgl_fp.2 (.inl e))
  · exact (k2 b e).imp (fun e => rgl_fp.2 e) id
  · exact (k3 b e).imp (fun e => rgl_fp.2 e) id
end
abbrev rG (g d0 d1 wd e0 e1 vd : Nat) (t0 t1 f0 f1 : Int) (T : TypeId) : Res := rBlk g [pt d0 0, pt d1 0, pt wd 0, pt e0 0, pt e1 0, pt vd 0, iw t0, iw t1, iw f0, iw f1] T
end Go.Proofs.Ytcilikkljkdceaa

/-
  A tick of a wire: what its walk knows, as plain facts.
-/
namespace Go.Proofs.Ytcilikkljkdceaa
open Go.RowKit
theorem len_two {α : Type} {l : List α} (h : l.length = 2) : ∃ a b, l = [a, b] := by
  match l, h with
  | [a, b], _ => exact ⟨a, b, rfl⟩
def lfF (now : Int) (ps : List FmV) : List FmV := ps.filter fun x => !oldB now x.fr.tick
theorem lf_no {now : Int} {ps : List FmV} {k : Nat} {v : Value} {x : Fm} (h : ps[k]? = some ⟨v, x⟩) (ho : oldB now x.tick = true) : lfF now (ps.take (k + 1)) = lfF now (ps.take k) := by
  unfold lfF
  rw [List.take_add_one, h, List.filter_append]
  simp [ho]
theorem lf_yes {now : Int} {ps : List FmV} {k : Nat} {v : Value} {x : Fm} (h : ps[k]? = some ⟨v, x⟩) (ho : oldB now x.tick = false) : lfF now (ps.take (k + 1)) = lfF now (ps.take k) ++ [⟨v, x⟩] := by
  unfold lfF
  rw [List.take_add_one, h, List.filter_append]
  simp [ho]
theorem lf_len (now : Int) (ps : List FmV) : (lfF now ps).length ≤ ps.length := List.length_filter_le _ _
theorem lf_map (now : Int) (ps : List FmV) : (lfF now ps).map FmV.fr = ageF now (ps.map FmV.fr) := by
  unfold lfF ageF
  rw [List.filter_map]
  rfl
def tkS (S : Wi) : Nat → Wi
  | 0 => tickW S
  | 1 => tick1 { S with now := inc S.now } false
  | _ => { S with now := inc S.now }
structure TkP (w : World) (wd d0 d1 : Nat) (M : WM) (S : Wi) (n : Nat) (g : List Nat × WM × Wi) : Prop where
  dl : g.1.length + n = 2
  dn : ∀ D ∈ g.1, w.heap.size ≤ D
  ok : g.2.1.Ok g.2.2
  st : g.2.2 = tkS S n
  a0 : NicOk g.2.2.A0
  a1 : NicOk g.2.2.A1
  l0 : g.2.2.L0.length ≤ 3000000000000
  l1 : g.2.2.L1.length ≤ 3000000000000
  fs : ∀ v f, M.fs v f → g.2.1.fs v f
  K : ∀ b, g.2.1.K b → (b = wd ∨ b = d0 ∨ b = d1 ∨ M.K b) ∨ w.heap.size ≤ b
section
variable {w : World} {wd d0 d1 : Nat} {M M1 M2 : WM} {S S1 S2 : Wi} {D : Nat} {ds : List Nat}
theorem TkP.start (hM : M.Ok S) (h0 : NicOk S.A0) (h1 : NicOk S.A1) (hl0 : S.L0.length ≤ 3000000000000) (hl1 : S.L1.length ≤ 3000000000000) : TkP w wd d0 d1 M S 2 ([], M, { S with now := inc S.now }) :=
  ⟨rfl, fun D hD => by simp at hD, ⟨hM.f0, hM.f1, hM.l0, hM.l1⟩, rfl, h0, h1, hl0, hl1, fun _ _ h => h, fun b hb => .inl (.inr (.inr (.inr hb)))⟩
theorem age_len (now : Int) (l : List Fm) : (ageF now l).length ≤ l.length := List.length_filter_le _ _
theorem TkP.next0 (h : TkP w wd d0 d1 M S 2 (ds, M1, S1)) (hD : w.heap.size ≤ D) (hO : M2.Ok S2) (hs : S2 = tick1 S1 false) (hA : NicOk S2.A0) (hf : ∀ v f, M1.fs v f → M2.fs v f) (hK : ∀ b, M2.K b → (b = wd ∨ b = d0 ∨ b = d1 ∨ M.K b) ∨ w.heap.size ≤ b) : TkP w wd d0 d1 M S 1 (D :: ds, M2, S2) := by
  have hst : S1 = tkS S 2 := h.st
  refine ⟨by have := h.dl; simp only [List.length_cons] at *; omega, fun E hE => ?_, hO, ?_, hA, ?_, ?_, ?_, fun v f hv => hf v f (h.fs v f hv), hK⟩
  · rcases List.mem_cons.1 hE with rfl | hE
    · exact hD
    · exact h.dn E hE
  · show S2 = _; rw [hs, hst]; rfl
  · show NicOk S2.A1; rw [hs]; exact h.a1
  · show S2.L0.length ≤ _; rw [hs]; exact Nat.le_trans (age_len _ _) h.l0
  · show S2.L1.length ≤ _; rw [hs]; exact h.l1
theorem TkP.next1 (h : TkP w wd d0 d1 M S 1 (ds, M1, S1)) (hD : w.heap.size ≤ D) (hO : M2.Ok S2) (hs : S2 = tick1 S1 true) (hA : NicOk S2.A1) (hf : ∀ v f, M1.fs v f → M2.fs v f) (hK : ∀ b, M2.K b → (b = wd ∨ b = d0 ∨ b = d1 ∨ M.K b) ∨ w.heap.size ≤ b) : TkP w wd d0 d1 M S 0 (D :: ds, M2, S2) := by
  have hst : S1 = tkS S 1 := h.st
  refine ⟨by have := h.dl; simp only [List.length_cons] at *; omega, fun E hE => ?_, hO, ?_, ?_, hA, ?_, ?_, fun v f hv => hf v f (h.fs v f hv), hK⟩
  · rcases List.mem_cons.1 hE with rfl | hE
    · exact hD
    · exact h.dn E hE
  · show S2 = _; rw [hs, hst]; rfl
  · show NicOk S2.A0; rw [hs]; exact h.a0
  · show S2.L0.length ≤ _; rw [hs]; exact h.l0
  · show S2.L1.length ≤ _; rw [hs]; exact Nat.le_trans (age_len _ _) h.l1
theorem WM.Ok.age0 (hM : M1.Ok S1) (now : Int) (q : Option Addr) (c : Nat) (F : Nat → Prop) (fs : Value → List UInt8 → Prop) {A : NicA} (hf : ∀ v f, M1.fs v f → fs v f) : WM.Ok { M1 with F := F, fs := fs, q0 := q, c0 := c, ps0 := lfF now M1.ps0 } ((S1.setA false A).setL false (ageF now S1.L0)) :=
  ⟨fun x hx => hf _ _ (hM.f0 x (List.mem_filter.1 hx).1), fun x hx => hf _ _ (hM.f1 x hx), by rw [lf_map, hM.l0]; rfl, hM.l1⟩
theorem WM.Ok.age1 (hM : M1.Ok S1) (now : Int) (q : Option Addr) (c : Nat) (F : Nat → Prop) (fs : Value → List UInt8 → Prop) {A : NicA} (hf : ∀ v f, M1.fs v f → fs v f) : WM.Ok { M1 with F := F, fs := fs, q1 := q, c1 := c, ps1 := lfF now M1.ps1 } ((S1.setA true A).setL true (ageF now S1.L1)) :=
  ⟨fun x hx => hf _ _ (hM.f0 x hx), fun x hx => hf _ _ (hM.f1 x (List.mem_filter.1 hx).1), hM.l0, by rw [lf_map, hM.l1]; rfl⟩
theorem WM.K.age0 {b n0 : Nat} {P : Nat → Prop} {F : Nat → Prop} {fs : Value → List UInt8 → Prop} {q : Option Addr} {c : Nat} {l : List FmV} (h : WM.K { M1 with F := F, fs := fs, q0 := q, c0 := c, ps0 := l } b) (hK : ∀ b, M1.K b → P b ∨ n0 ≤ b) (hF : ∀ b, F b → M1.F b ∨ n0 ≤ b) (hq : ∀ b, (Value.slice q l.length c).ownBlock = some b → n0 ≤ b) : P b ∨ n0 ≤ b := by
  rcases h with h | h | h
  · exact (hF b h).elim (fun h => hK b (.inl h)) .inr
  · exact .inr (hq b h)
  · exact hK b (.inr (.inr h))
theorem WM.K.age1 {b n0 : Nat} {P : Nat → Prop} {F : Nat → Prop} {fs : Value → List UInt8 → Prop} {q : Option Addr} {c : Nat} {l : List FmV} (h : WM.K { M1 with F := F, fs := fs, q1 := q, c1 := c, ps1 := l } b) (hK : ∀ b, M1.K b → P b ∨ n0 ≤ b) (hF : ∀ b, F b → M1.F b ∨ n0 ≤ b) (hq : ∀ b, (Value.slice q l.length c).ownBlock = some b → n0 ≤ b) : P b ∨ n0 ≤ b := by
  rcases h with h | h | h
  · exact (hF b h).elim (fun h => hK b (.inl h)) .inr
  · exact hK b (.inr (.inl h))
  · exact .inr (hq b h)
theorem Inv.two9 {X : Cx} {w w2 : World} {l : List Res} {b c : Nat} {cb cc : List Value} {Tb Tc : TypeId} (h : Inv X w l) (hO : Only (fun _ => False) w w2) (h1 : Blk w2 b cb Tb) (h2 : Blk w2 c cc Tc) (hb : w.heap.size ≤ b) (hc : w.heap.size ≤ c) (hne : b ≠ c) : Inv X w2 (l ++ [rBlk b cb Tb, rBlk c cc Tc]) := by
  have k1 : Inv X w2 (l ++ [rBlk b cb Tb]) := h.add (r := rBlk b cb Tb) hO h1 (fun k hk => by cases hk; exact hb)
  have hp := List.pairwise_append.1 k1.1.2
  have e : l ++ [rBlk b cb Tb, rBlk c cc Tc] = (l ++ [rBlk b cb Tb]) ++ [rBlk c cc Tc] := by rw [List.append_assoc]; rfl
  rw [e]
  refine ⟨⟨fun s hs => ?_, List.pairwise_append.2 ⟨k1.1.2, by simp, fun r hr s hs k hk1 hk2 => ?_⟩⟩, k1.2⟩
  · rcases List.mem_append.1 hs with hs | hs
    · exact k1.1.1 s hs
    · obtain rfl := by simpa using hs
      exact h2
  · obtain rfl := by simpa using hs
    have hk : k = c := hk2
    subst hk
    rcases List.mem_append.1 hr with hr | hr
    · have := r.lt w (h.1.1 r hr) k hk1; omega
    · obtain rfl := by simpa using hr
      exact hne hk1.symm
end
section
variable {now : Int} {A : NicA} {n : Nat}
theorem take_okR (h : NicOk A) : NicOk (takeR A).2 := by
  unfold takeR
  split
  · exact h
  · split
    · exact h
    · exact take_ok h
theorem old_none (hA : NicOk A) (h : (A.r 5 - A.r 4) % 16 ≤ 0) : (oldF A).2 = false := by
  have h4 := hA.h4; have h5 := hA.h5
  unfold oldF
  rw [if_pos (by omega)]
theorem drain_go (hA : NicOk A) (hfu : (A.r 5 - A.r 4) % 16 ≤ (n : Int)) (h : ((oldF A).2 && oldB now (oldF A).1) = true) (h2 : ((takeR A).1.2 != 0) = false) :
    ∃ n', n' < n ∧ drainF now n A = drainF now n' (takeR A).2 ∧ ((takeR A).2.r 5 - (takeR A).2.r 4) % 16 ≤ (n' : Int) ∧ NicOk (takeR A).2 := by
  cases n with
  | zero => rw [old_none hA (by simpa using hfu)] at h; cases h
  | succ n =>
    refine ⟨n, Nat.lt_succ_self _, ?_, ?_, take_okR hA⟩
    · conv => lhs; unfold drainF
      rw [if_pos h, if_neg (not_t h2)]
    · have h4 := hA.h4; have h5 := hA.h5
      have e : (takeR A).1.2 = 0 := by simpa using h2
      unfold takeR at e ⊢
      split
      · rename_i c; rw [if_pos c] at e; cases e
      · rename_i c; rw [if_neg c] at e
        split
        · rename_i c2; rw [if_pos c2] at e; cases e
        · rename_i c2
          show (up (up A.r 4 (nx (A.r 4))) 6 (ev (A.r 6) 2) 5 - up (up A.r 4 (nx (A.r 4))) 6 (ev (A.r 6) 2) 4) % 16 ≤ _
          rw [up_ne _ _ (by decide), up_ne _ _ (by decide), up_ne _ _ (by decide), up_same]
          unfold nx
          omega
theorem drain_stop (hA : NicOk A) (hfu : (A.r 5 - A.r 4) % 16 ≤ (n : Int)) (h : ((oldF A).2 && oldB now (oldF A).1) = true) (h2 : ((takeR A).1.2 != 0) = true) : drainF now n A = (takeR A).2 := by
  cases n with
  | zero => rw [old_none hA (by simpa using hfu)] at h; cases h
  | succ n => unfold drainF; rw [if_pos h, if_pos h2]
theorem drain_end (h : ((oldF A).2 && oldB now (oldF A).1) = false) : drainF now n A = A := by
  cases n with
  | zero => rfl
  | succ n => unfold drainF; rw [if_neg (not_t h)]
end
end Go.Proofs.Ytcilikkljkdceaa

/-
  The bounds that a wire keeps to: plain.
-/
namespace Go.Proofs.Ytcilikkljkdceaa
open Go.RowKit
structure Db (now : Int) (A : NicA) : Prop where
  ok : NicOk A
  clk : A.clk = now
  tp : ∀ i, 0 ≤ A.tp i ∧ A.tp i ≤ now
def Lb (n : Nat) (now : Int) (l : List Fm) : Prop := l.length ≤ n ∧ ∀ x ∈ l, x.f.length ≤ 274 ∧ 0 ≤ x.tick ∧ x.tick ≤ now
structure Wb (n : Nat) (S : Wi) : Prop where
  now : 0 ≤ S.now ∧ S.now ≤ n
  d0 : Db S.now S.A0
  d1 : Db S.now S.A1
  l0 : Lb n S.now S.L0
  l1 : Lb n S.now S.L1
section
variable {n m : Nat} {now : Int} {S : Wi} {A A' : NicA} {ls : List Fm} {b : Bool}
theorem Wb.d (h : Wb n S) (b : Bool) : Db S.now (S.A b) := by cases b; exact h.d0; exact h.d1
theorem Wb.l (h : Wb n S) (b : Bool) : Lb n S.now (S.L b) := by cases b; exact h.l0; exact h.l1
theorem Lb.le (h : Lb n now ls) (hm : n ≤ m) : Lb m now ls := ⟨Nat.le_trans h.1 hm, h.2⟩
theorem Wb.le (h : Wb n S) (hm : n ≤ m) : Wb m S := ⟨⟨h.now.1, by have := h.now.2; omega⟩, h.d0, h.d1, h.l0.le hm, h.l1.le hm⟩
theorem Wb.setA (h : Wb n S) (b : Bool) (hd : Db S.now A) : Wb n (S.setA b A) := by
  cases b
  · exact ⟨h.now, hd, h.d1, h.l0, h.l1⟩
  · exact ⟨h.now, h.d0, hd, h.l0, h.l1⟩
theorem Wb.setL (h : Wb n S) (b : Bool) (hd : Lb n S.now ls) : Wb n (S.setL b ls) := by
  cases b
  · exact ⟨h.now, h.d0, h.d1, hd, h.l1⟩
  · exact ⟨h.now, h.d0, h.d1, h.l0, hd⟩
theorem Lb.sub {l' : List Fm} (h : Lb n now ls) (h1 : l'.length ≤ ls.length) (h2 : ∀ x ∈ l', x ∈ ls) : Lb n now l' := ⟨Nat.le_trans h1 h.1, fun x hx => h.2 x (h2 x hx)⟩
theorem Lb.app {x : Fm} (h : Lb n now ls) (hx : x.f.length ≤ 274 ∧ 0 ≤ x.tick ∧ x.tick ≤ now) : Lb (n + 1) now (ls ++ [x]) := by
  refine ⟨by rw [List.length_append]; have := h.1; show _ + 1 ≤ _; omega, fun y hy => ?_⟩
  rcases List.mem_append.1 hy with hy | hy
  · exact h.2 y hy
  · obtain rfl : y = x := by simpa using hy
    exact hx
theorem Db.same (h : Db now A) (h1 : NicOk A') (h2 : A'.clk = A.clk) (h3 : ∀ i, A'.tp i = A.tp i) : Db now A' := ⟨h1, h2.trans h.clk, fun i => by rw [h3]; exact h.tp i⟩
theorem takeR_okw (h : NicOk A) : NicOk (takeR A).2 := by
  unfold takeR
  split
  · exact h
  · split
    · exact h
    · exact take_ok h
theorem Db.write (h : Db now A) (hn : 0 ≤ now) (reg v : Int) : Db now (writeF A reg v).2 := by
  refine ⟨write_ok h.ok reg v, ?_, ?_⟩
  · unfold writeF
    split
    · exact h.clk
    · split
      · exact h.clk
      · split
        · exact h.clk
        · split
          · exact h.clk
          · split
            · exact h.clk
            · exact h.clk
  · intro i
    unfold writeF
    split
    · simp only [resetA, newA]; exact ⟨Int.le_refl _, hn⟩
    · split
      · exact h.tp i
      · split
        · exact h.tp i
        · split
          · simp only [posts]
            split
            · rw [h.clk]; exact ⟨hn, Int.le_refl _⟩
            · exact h.tp i
          · split
            · exact h.tp i
            · exact h.tp i
theorem setTx_same (A : NicA) (i : Int) (f : List UInt8) : (setTxF A i f).2.clk = A.clk ∧ (setTxF A i f).2.tp = A.tp ∧ (setTxF A i f).2.r = A.r := by
  unfold setTxF
  split
  · exact ⟨rfl, rfl, rfl⟩
  · split
    · exact ⟨rfl, rfl, rfl⟩
    · split <;> exact ⟨rfl, rfl, rfl⟩
theorem setRx_same (A : NicA) (i r : Int) : (setRxF A i r).2.clk = A.clk ∧ (setRxF A i r).2.tp = A.tp ∧ (setRxF A i r).2.r = A.r ∧ (setRxF A i r).2.tb = A.tb := by
  unfold setRxF; split <;> exact ⟨rfl, rfl, rfl, rfl⟩
theorem Db.setTx (h : Db now A) (i : Int) (f : List UInt8) : Db now (setTxF A i f).2 := h.same (setTx_ok h.ok i f) (setTx_same A i f).1 fun j => congrFun (setTx_same A i f).2.1 j
theorem Db.setRx (h : Db now A) (i r : Int) : Db now (setRxF A i r).2 := h.same (setRx_ok h.ok i r) (setRx_same A i r).1 fun j => congrFun (setRx_same A i r).2.1 j
theorem takeR_same (A : NicA) : (takeR A).2.clk = A.clk ∧ (takeR A).2.tp = A.tp ∧ (takeR A).2.tb = A.tb ∧ (takeR A).2.r 0 = A.r 0 ∧ (takeR A).2.r 1 = A.r 1 ∧ (takeR A).2.r 5 = A.r 5 := by
  unfold takeR
  split
  · exact ⟨rfl, rfl, rfl, rfl, rfl, rfl⟩
  · split
    · exact ⟨rfl, rfl, rfl, rfl, rfl, rfl⟩
    · exact ⟨rfl, rfl, rfl, by simp [takeF, up], by simp [takeF, up], by simp [takeF, up]⟩
theorem Db.take (h : Db now A) : Db now (takeR A).2 := h.same (takeR_okw h.ok) (takeR_same A).1 fun j => congrFun (takeR_same A).2.1 j
theorem give_same (A : NicA) (f : List UInt8) (bad : Bool) : (giveF A f bad).2.clk = A.clk ∧ (giveF A f bad).2.tp = A.tp ∧ (giveF A f bad).2.tb = A.tb ∧ (giveF A f bad).2.r 0 = A.r 0 ∧ (giveF A f bad).2.r 1 = A.r 1 ∧ (giveF A f bad).2.r 4 = A.r 4 ∧ (giveF A f bad).2.r 5 = A.r 5 := by
  unfold giveF
  split
  · exact ⟨rfl, rfl, rfl, rfl, rfl, rfl, rfl⟩
  · split
    · exact ⟨rfl, rfl, rfl, by simp [missA, up], by simp [missA, up], by simp [missA, up], by simp [missA, up]⟩
    · split
      · exact ⟨rfl, rfl, rfl, by simp [missA, up], by simp [missA, up], by simp [missA, up], by simp [missA, up]⟩
      · exact ⟨rfl, rfl, rfl, by simp [comeA, up], by simp [comeA, up], by simp [comeA, up], by simp [comeA, up]⟩
theorem Db.give (h : Db now A) (f : List UInt8) (bad : Bool) : Db now (giveF A f bad).2 := h.same (give_ok h.ok f bad) (give_same A f bad).1 fun j => congrFun (give_same A f bad).2.1 j
theorem takeR_fr (h : Db now A) (hn : 0 ≤ now) : (takeR A).1.1.1.length ≤ 274 ∧ 0 ≤ (takeR A).1.1.2 ∧ (takeR A).1.1.2 ≤ now := by
  refine ⟨takeR_len h.ok, ?_⟩
  unfold takeR
  split
  · exact ⟨Int.le_refl _, hn⟩
  · split
    · exact ⟨Int.le_refl _, hn⟩
    · exact h.tp _
theorem Wb.pull (h : Wb n S) (b : Bool) : Wb (n + 1) (pullF S b).2 := by
  unfold pullF
  simp only
  have h1 : Wb n (S.setA b (takeR (S.A b)).2) := h.setA b (h.d b).take
  split
  · exact (h1.le (Nat.le_succ n)).setL b (by have := ((h.l b).app (x := ⟨(takeR (S.A b)).1.1.1, false, (takeR (S.A b)).1.1.2⟩) (takeR_fr (h.d b) h.now.1)); cases b <;> exact this)
  · exact h1.le (Nat.le_succ n)
theorem Lb.get (h : Lb n now ls) {k : Int} (hk : thereF ls k = 0) : ls.getD k.toNat fm0 ∈ ls ∧ (ls.getD k.toNat fm0).f.length ≤ 274 ∧ 0 ≤ (ls.getD k.toNat fm0).tick ∧ (ls.getD k.toNat fm0).tick ≤ now := by
  obtain ⟨h0, h1, x, hx⟩ := there_get hk
  have e : ls.getD k.toNat fm0 = x := by rw [List.getD_eq_getElem?_getD, hx]; rfl
  rw [e]
  exact ⟨List.mem_of_getElem? hx, h.2 x (List.mem_of_getElem? hx)⟩
theorem out_le (l : List Fm) (k : Int) : (outF l k).length ≤ l.length := by unfold outF; rw [List.length_append, List.length_take, List.length_drop]; omega
theorem Lb.out (h : Lb n now ls) (k : Int) : Lb n now (outF ls k) := h.sub (out_le ls k) fun x hx => mem_out hx
theorem Wb.drop (h : Wb n S) (b : Bool) (k : Int) : Wb n (dropF S b k).2 := by
  unfold dropF
  split
  · exact h.setL b ((h.l b).out k)
  · exact h
theorem Wb.double (h : Wb n S) (b : Bool) (k : Int) : Wb (n + 1) (doubleF S b k).2 := by
  unfold doubleF
  split
  · rename_i e
    exact (h.le (Nat.le_succ n)).setL b ((h.l b).app ((h.l b).get (eq_t e)).2)
  · exact h.le (Nat.le_succ n)
theorem Wb.move (h : Wb n S) (b : Bool) (k to : Int) : Wb n (moveF S b k to).2 := by
  unfold moveF
  split
  · exact h
  · split
    · exact h
    · rename_i e1 e2
      have e : thereF (S.L b) k = 0 := Classical.byContradiction fun hc => e1 (by simpa using hc)
      have e3 : 0 ≤ to ∧ to < ((S.L b).length : Int) := by simp only [Bool.or_eq_true, decide_eq_true_eq, not_or] at e2; omega
      obtain ⟨h0, h1, _⟩ := there_get e
      refine h.setL b ((h.l b).sub ?_ fun x hx => ?_)
      · have e4 := out_len (l := S.L b) h0 h1
        rw [ins_len e3.1 (by rw [e4]; omega), e4]; omega
      · rcases mem_ins hx with hx | rfl
        · exact mem_out hx
        · exact ((h.l b).get e).1
theorem dam_len (f : List UInt8) (bit : Int) : (damF f bit).length = f.length := List.length_set
theorem Wb.damage (h : Wb n S) (b : Bool) (k bit : Int) : Wb n (damageF S b k bit).2 := by
  unfold damageF
  split
  · exact h
  · split
    · exact h
    · rename_i e1 e2
      have e : thereF (S.L b) k = 0 := Classical.byContradiction fun hc => e1 (by simpa using hc)
      have h2 := (h.l b).get e
      refine h.setL b ⟨by rw [List.length_set]; exact (h.l b).1, fun x hx => ?_⟩
      rcases List.mem_or_eq_of_mem_set hx with hx | rfl
      · exact (h.l b).2 x hx
      · exact ⟨by rw [dam_len]; exact h2.2.1, h2.2.2⟩
theorem Wb.deliver (h : Wb n S) (b : Bool) (k : Int) : Wb n (deliverF S b k).2 := by
  unfold deliverF
  split
  · exact h
  · have h1 := h.setL b ((h.l b).out k)
    refine h1.setA (!b) ?_
    have := (h.d !b).give ((S.L b).getD k.toNat fm0).f ((S.L b).getD k.toNat fm0).bad
    cases b <;> exact this
theorem Db.drain : ∀ (m : Nat) {A : NicA}, Db now A → Db now (drainF now m A)
  | 0, _, h => h
  | m + 1, A, h => by
    unfold drainF
    split
    · split
      · exact h.take
      · exact Db.drain m h.take
    · exact h
theorem inc_lt {x : Int} (h : 0 ≤ x ∧ x < 9223372036854775807) : inc x = x + 1 := by unfold inc; rw [IntKind.wrap_i64]; omega
theorem Lb.age (h : Lb n now ls) (now' : Int) : Lb n now (ageF now' ls) := h.sub (List.length_filter_le _ _) fun x hx => (List.mem_filter.1 hx).1
theorem Wb.tick (h : Wb n S) (hn : n ≤ 3000000000000) : Wb (n + 1) (tickW S) ∧ (tickW S).now = S.now + 1 := by
  have e : inc S.now = S.now + 1 := inc_lt ⟨h.now.1, by have := h.now.2; omega⟩
  have hd : ∀ {A : NicA}, Db S.now A → Db (S.now + 1) (tickF A) := fun {A} hA => ⟨tick_ok hA.ok, by show inc A.clk = _; rw [hA.clk]; exact e, fun i => ⟨(hA.tp i).1, by have := (hA.tp i).2; show A.tp i ≤ _; omega⟩⟩
  have hl : ∀ {l : List Fm}, Lb n S.now l → Lb (n + 1) (S.now + 1) (ageF (S.now + 1) l) := fun {l} hl => Lb.age ⟨by have := hl.1; omega, fun x hx => ⟨(hl.2 x hx).1, (hl.2 x hx).2.1, by have := (hl.2 x hx).2.2; omega⟩⟩ _
  refine ⟨?_, e⟩
  show Wb (n + 1) ⟨drainF (inc S.now) 16 (tickF S.A0), drainF (inc S.now) 16 (tickF S.A1), ageF (inc S.now) S.L0, ageF (inc S.now) S.L1, inc S.now⟩
  rw [e]
  exact ⟨⟨by have := h.now.1; show 0 ≤ S.now + 1; omega, by have := h.now.2; show S.now + 1 ≤ ((n + 1 : Nat) : Int); omega⟩, (hd h.d0).drain 16, (hd h.d1).drain 16, hl h.l0, hl h.l1⟩
end
end Go.Proofs.Ytcilikkljkdceaa

/-
  The light machine, for loops over functions: a loop whose rounds leave marks behind; a function that ends with two of them. No program is named here.
-/
namespace Go.Proofs.Ytcilikkljkdceaa
open Go.RowKit
section
variable {P : Program} {Z : Rd} {X : Cx} {Q : Exit → Act → World → Prop} {m : List (Nat × Value)} {l : List Res} {v : Value}
theorem SI.loopZ {c : Code} {γ : Type} (ds : γ → List Nat) (M : Nat → γ → List (Nat × Value)) (R : Nat → γ → List Res) (p : Nat → γ → Prop) (n0 : Nat) (g0 : γ) (hp : p n0 g0) (hz : Z = ⟨none, (ds g0).map markD⟩) (h0 : Subs m (M n0 g0)) (hl : l = R n0 g0)
    (round : ∀ n g, p n g → SI P ⟨none, (ds g).map markD⟩ X c (Exit.then (fun a w => ∃ n', n' < n ∧ ∃ a0 g', a = sh ⟨none, (ds g').map markD⟩ a0 ∧ p n' g' ∧ Fr X.n a0 (M n' g') ∧ Inv X w (R n' g')) Q) (M n g) (R n g)) : SI P Z X (.loop c) Q m l := fun a w hf hi => by
  subst hz
  exact wpIn_loop_ghost (fun n a w => ∃ a0 g, a = sh ⟨none, (ds g).map markD⟩ a0 ∧ p n g ∧ Fr X.n a0 (M n g) ∧ Inv X w (R n g)) n0 ⟨a, g0, rfl, hp, hf.sub h0, hl ▸ hi⟩ fun n a w ⟨a0, g, h0, h1, h2, h3⟩ => by subst h0; exact round n g h1 a0 w h2 h3
theorem SF.againZ {γ : Type} {ds : γ → List Nat} {M : Nat → γ → List (Nat × Value)} {R : Nat → γ → List Res} {p : Nat → γ → Prop} {n : Nat} (n' : Nat) (g' : γ) (hn : n' < n) (hz : Z = ⟨none, (ds g').map markD⟩) (hp : p n' g') (hm : Subs m (M n' g')) (hl : l = R n' g') :
    SE X (shQ Z (Exit.then (fun a w => ∃ n', n' < n ∧ ∃ a0 g', a = sh ⟨none, (ds g').map markD⟩ a0 ∧ p n' g' ∧ Fr X.n a0 (M n' g') ∧ Inv X w (R n' g')) Q)) .normal m l := fun a w hf hi => ⟨n', hn, a, g', by rw [hz], hp, hf.sub hm, hl ▸ hi⟩
theorem SF.resD2 {F : Fence} {fn : Func} {R : Ending → World → Prop} {e : Exit} {D D' j j' : Nat} (hz : Z.ds = [markD D', markD D]) (he : e = .ret ∨ e = .normal) (hj : l[j]? = some (rDef D)) (hj' : l[j']? = some (rDef D')) (hjj : j ≠ j') (hD : X.w0.heap.size ≤ D) (hD' : X.w0.heap.size ≤ D')
    (hr : ∀ a w, Fr X.n a m → Inv X w ((l.set j' (rObj D' (.deferred none))).set j (rObj D (.deferred none))) → (results fn a.tmps).run P w = .ok v w) (hR : ∀ w, Inv X w ((l.set j' (rObj D' (.deferred none))).set j (rObj D (.deferred none))) → R (.returned v) w) : SE X (shQ Z (bodyPostM F 0 P fn R)) e m l := fun a w hf hI => by
  have hd : (sh Z a).defers = [markD D', markD D] := by show a.defers ++ Z.ds = _; rw [hz, hf.1]; rfl
  have hI1 := hI.putObj (.deferred none) hj' (.inr hD')
  have hj1 : (l.set j' (rObj D' (.deferred none)))[j]? = some (rDef D) := by rw [List.getElem?_set_ne (Ne.symm hjj)]; exact hj
  have hI2 := hI1.putObj (.deferred none) hj1 (.inr hD)
  have : LeavesInM F 0 P fn a.tmps R (sh Z a).defers .returning w := by
    rw [hd]
    exact ⟨by simp, .inl ⟨D', _, rfl, run_takeDeferred (hI.1.get hj'), by simp, .inl ⟨D, _, rfl, run_takeDeferred (hI1.1.get hj1), v, hr a _ hf hI2, hR _ hI2⟩⟩⟩
  rcases he with rfl | rfl <;> exact this
theorem SF.reo {e : Exit} (js : List Nat) (hn : js.Nodup) (h : SE X Q e m (js.filterMap (l[·]?))) : SE X Q e m l := fun a w hf hI => h a w hf (hI.reo js hn)
theorem SI.scope {c : Code} (hz : Z.l = none) (h : SI P Z X c (Exit.noGoto Q) m l) : SI P Z X (.scope c) Q m l := fun a w hf hi => by
  have hF : Z.F = Fence.wide := by unfold Rd.F; rw [hz]; rfl
  have h1 : c.wpIn Z.F 0 P (Exit.noGoto Q) (sh Z a) w := h a w hf hi
  show (Code.scope c).wpIn Z.F 0 P Q (sh Z a) w
  rw [hF] at h1 ⊢
  exact wpIn_wide.2 (wp_scope_straight (wpIn_wide.1 h1))
theorem SI.label {k : Nat} (h : SE X (shQ Z Q) .normal m l) : SI P Z X (.label k) Q m l := fun a w hf hi => wpIn_label (h a w hf hi)
theorem SF.scopen (h : SE X (shQ Z Q) .normal m l) : SE X (shQ Z (Exit.noGoto Q)) .normal m l := h
theorem fold1 (p1 : Nat) (v1 : Value) (T : Array Value) : (#[p1].zip #[v1]).foldl (fun t (x : Nat × Value) => t.setIfInBounds x.1 x.2) T = T.setIfInBounds p1 v1 := by simp
theorem round_si1 {Lk : Nat} {r : Loop} {w : World} {R : Ending → World → Prop} {l0 : List Res} {p1 : Nat} {v1 : Value} {assign body : Code} (S : Nat → Prop) (n : Nat) (hp : r.params = #[p1]) (ha : r.assign = assign) (hb : r.body = body) (hT : Fr n ⟨r.tmps, []⟩ m) (h1 : p1 < n) (hI : Sep w l0)
    (h : SI P ⟨some Lk, []⟩ ⟨n, w, S⟩ assign (Exit.then (fun a₁ w₁ => ∃ w₂, (Instr.beginRound Lk).run P w₁ = .ok () w₂ ∧ body.wpIn (Fence.wide.inRound Lk) 0 P (roundPost P Lk R) a₁ w₂) (fun _ _ _ => False)) ((p1, v1) :: m) l0) :
    RoundIn Fence.wide 0 P Lk r.fn ((r.params.zip #[v1]).foldl (fun t (p, v) => t.setIfInBounds p v) r.tmps) r.assign r.body w R := by
  rw [hp, show (#[p1].zip #[v1]).foldl (fun t (p, v) => t.setIfInBounds p v) r.tmps = _ from fold1 p1 v1 r.tmps, ha, hb]
  exact round_si S n (hT.param h1 v1) ⟨hI, Only.refl _ _⟩ h
theorem ru_index {o : Oper} {t e : TypeId} {x ix : Operand} {n : Nat} {cs : Array Value} {i : Int} {u : Value} (ht : P.underlying t = some (.array n e)) (he : P.underlying e = some (.pointer 0) ∨ ∃ k, P.underlying e = some (.pointer k)) (hs : P.cellsOf e = 1) (hi' : ∃ inf, P.info? e = some inf) (ho : o.op = .index t x ix) (hx : evM m x = some (.agg cs)) (hix : evM m ix = some (iw i)) (h0 : 0 ≤ i) (h1 : i < n) (hc : cs[i.toNat]? = some u) : Ru P X o m l u := fun a w hf' _ => by
  obtain ⟨inf, hinf⟩ := hi'
  obtain ⟨k, hk⟩ : ∃ k, P.underlying e = some (.pointer k) := he.elim (fun h => ⟨0, h⟩) id
  unfold execOp; rw [ho]
  have hsz : inf.size = 1 := by simpa [Program.cellsOf, hinf] using hs
  simp [hf'.ev hx, hf'.ev hix, Instr.index, run_underlying ht, asIntOf, h0, h1, sizeOf, typeInfo, hinf, hsz, part, isAgg, run_underlying hk, asAgg, hc]
end
end Go.Proofs.Ytcilikkljkdceaa

/-
  The frames that are not too old, one by one.
-/
namespace Go.Proofs.Ytcilikkljkdceaa
open Go.RowKit
set_option maxRecDepth 100000
set_option maxHeartbeats 4000000
theorem youngc_any {w : World} {wd : Nat} {dir : Int} : Calls Try.prog 50 #[pt wd 0, iw dir] w fun e w' => ∃ b c, e = .returned (.func (.func 67) #[] #[pt b 0, pt c 0]) ∧ w.heap.size ≤ b ∧ w.heap.size ≤ c ∧ b ≠ c ∧ Blk w' b [pt wd 0] 35 ∧ Blk w' c [iw dir] 3 ∧ Only (fun _ => False) w w' := by
  refine calls_sc (l0 := []) (args := [pt wd 0, iw dir]) (fun _ => False) Try.func50 rfl 6 Try.ntmps50 (le_b rfl) ⟨⟨by simp, List.Pairwise.nil⟩, Only.refl _ _⟩ ?_
  show SC _ _ _ _ [(0, pt wd 0), (1, iw dir)] []
  refine SC.sr ?_
  refine SL.box (c := [pt wd 0]) rfl rfl (lt_b rfl) rfl rfl rfl fun b1 hb1 => ?_
  refine SL.box (c := [iw dir]) rfl rfl (lt_b rfl) rfl rfl rfl fun b2 hb2 => ?_
  refine SL.as ?_
  refine SL.nl ?_
  refine SC.sr ?_
  refine SL.uu (ru_makeFunc (v1 := []) (v2 := [pt b1 0, pt b2 0]) rfl rfl rfl) ?_
  refine SL.as ?_
  refine SL.nl ?_
  refine SC.ret ?_
  refine SE.res (.inl rfl) (res1 Try.results50 rfl) fun w1 hI => ⟨b1, b2, rfl, hb1, hb2, fun e => (List.pairwise_cons.1 hI.1.2).1 _ List.mem_cons_self b1 rfl e, hI.1.get (i := 0) rfl, hI.1.get (i := 1) rfl, hI.2⟩
abbrev youngR (b : Int) (by9 cy9 Lk wd d0 d1 : Nat) (M : WM) (S : Wi) (r : Loop) (ls : List Res) : List Res := [rBlk by9 [pt wd 0] 35, rBlk cy9 [iw b] 3] ++ WLm 74 77 46 wd d0 d1 M S.A0 S.A1 S.now ++ [rLoop Lk r, rPk ls]
theorem young0_any {γ : Type} {w : World} {Sx : Nat → Prop} {by9 cy9 Lk wd d0 d1 : Nat} {M : WM} {S : Wi} {r : Loop} (G : Nat → γ → List Res) (p : Nat → γ → Prop) (g0 : γ) (hn : M.ps0.length ≤ 3000000000000) (hps : 1 = r.params.size) (hM : M.Ok S) (h : Sep w (youngR 0 by9 cy9 Lk wd d0 d1 M S r (G 0 g0))) (hp : p 0 g0)
    (hskip : ∀ (k : Nat) (g : γ) (x : Fm) {v : Value}, M.ps0[k]? = some ⟨v, x⟩ → oldB S.now x.tick = true → p k g → G (k + 1) g = G k g ∧ p (k + 1) g)
    (round : ∀ (k : Nat) (g : γ) (x : Fm) (v : Value) (W : World), k < M.ps0.length → M.ps0[k]? = some ⟨v, x⟩ → oldB S.now x.tick = false → p k g → Inv ⟨26, w, Sx⟩ W (youngR 0 by9 cy9 Lk wd d0 d1 M S r (G k g)) →
      RoundIn Fence.wide 0 Try.prog Lk r.fn ((r.params.zip #[.agg #[v, bo x.bad, iw x.tick]]).foldl (fun t (p, v) => t.setIfInBounds p v) r.tmps) r.assign r.body W fun e W' => ∃ g', e = .returned (.bool true) ∧ Inv ⟨26, w, Sx⟩ W' (youngR 0 by9 cy9 Lk wd d0 d1 M S r (G (k + 1) g')) ∧ p (k + 1) g') :
    Calls Try.prog 67 #[.func (.yield Lk) #[] #[], pt by9 0, pt cy9 0] w fun e w' => (∃ v, e = .returned v) ∧ ∃ g, p M.ps0.length g ∧ Inv ⟨26, w, Sx⟩ w' (youngR 0 by9 cy9 Lk wd d0 d1 M S r (G M.ps0.length g)) := by
  have hform := hM.form0 (w := w) (T := 74) (TW := 77) (TO := 46) (wd := wd) (d0 := d0) (d1 := d1) (A0 := S.A0) (A1 := S.A1) (now := S.now) ((Inv.reo [2, 3, 4, 5, 6, 7] (show Inv ⟨26, w, Sx⟩ w (youngR 0 by9 cy9 Lk wd d0 d1 M S r (G 0 g0)) from ⟨h, Only.refl _ _⟩) (by decide)).1)
  refine calls_si (l0 := (youngR 0 by9 cy9 Lk wd d0 d1 M S r (G 0 g0))) (args := [.func (.yield Lk) #[] #[], pt by9 0, pt cy9 0]) Sx Try.func67 rfl 26 Try.ntmps67 (le_b rfl) ⟨h, Only.refl _ _⟩ (fun _ h => by obtain ⟨⟨_, h⟩, _⟩ := h; cases h) fun ho => ?_
  show SI _ _ _ _ _ [(0, .func (.yield Lk) #[] #[]), (1, pt by9 0), (2, pt cy9 0)] _
  refine SI.scope rfl ?_
  refine SI.seq ?_
  refine SI.label ?_
  refine SI.of_SE ?_
  refine SI.seq ?_
  refine SI.of_SG (by exact fun a w h => ho a w h) (by kernel_rfl) (SG.region_quiet (by kernel_rfl) (by kernel_rfl) ?_)
  refine SQ.ld 0 ts35 ?_
  refine SQ.ld 1 ts3 ?_
  refine SQ.nk ?_
  refine SQ.fa 2 fd77_1 ?_
  refine SQ.ia 2 ar75 ?_
  refine SQ.ld 2 ts56 ?_
  refine SQ.uu (ru_len Try.underlying56 rfl rfl) ?_
  refine SQ.mv ?_
  refine SQ.nilE ?_
  refine SI.of_SE ?_
  refine SI.block ?_
  refine SI.loop (γ := γ) (fun nn _ => [(0, Value.func (.yield Lk) #[] #[]), (1, pt by9 0), (11, Value.slice M.q0 M.ps0.length M.c0), (12, iw (M.ps0.length : Int)), (13, iw ((M.ps0.length : Int) - (nn : Int)))]) (fun nn g => [rBlk by9 [pt wd 0] 35, rBlk cy9 [iw 0] 3, rB wd d0 d1 M S.now 77, rDv 74 d0 M.fs S.A0, rDv 74 d1 M.fs S.A1, rR0 M 46, rR1 M 46, rZ M.F M.fs, rLoop Lk r, rPk (G (M.ps0.length - nn) g)]) (fun nn g => nn ≤ M.ps0.length ∧ p (M.ps0.length - nn) g) M.ps0.length g0 ⟨Nat.le_refl _, by rw [Nat.sub_self]; exact hp⟩ ⟨rfl, rfl, rfl, rfl, (congrArg (fun x => some (iw x)) (show (0 : Int) = (M.ps0.length : Int) - ((M.ps0.length : Nat) : Int) by omega)), trivial⟩ (by rw [Nat.sub_self]; first | done | rfl) ?_
  rintro nn g ⟨hn9, hg⟩
  rcases Nat.eq_zero_or_pos nn with h0 | h0
  · skip
    refine SI.seq ?_
    refine SI.of_SG (by exact fun a w h => ho a w h) (by kernel_rfl) (SG.region ?_)
    refine SL.uu (ru_lt (b := (decide ((((M.ps0.length : Int) - (nn : Int)) : Int) < (M.ps0.length : Int)))) rfl rfl rfl rfl) ?_
    refine SL.nil ?_
    refine SI.of_SE ?_
    refine SI.seq ?_
    refine SI.no (show some (Value.bool (decide ((((M.ps0.length : Int) - (nn : Int)) : Int) < (M.ps0.length : Int)))) = some (Value.bool false) from congrArg (fun x => some (Value.bool x)) (decide_eq_false (by omega))) ?_
    refine SI.exit ?_
    refine SF.passe ?_
    refine SF.passe ?_
    refine SF.blke ?_
    refine SF.scopen ?_
    have e : (M.ps0.length - nn) = M.ps0.length := by omega
    rw [e] at hg
    refine SF.res rfl (.inr rfl) (res0 Try.results67) fun w1 hI => ⟨⟨_, rfl⟩, g, hg, by rw [e] at hI; exact hI⟩
  obtain ⟨⟨vx, x⟩, hx⟩ : ∃ x, M.ps0[(M.ps0.length - nn)]? = some x := ⟨_, List.getElem?_eq_getElem (by omega)⟩
  obtain ⟨hxb, hxF, xa, xc, hxv⟩ := hform _ (List.mem_of_getElem? hx)
  dsimp only at hxv hxb hxF
  subst hxv
  have ei : ((M.ps0.length : Int) - (nn : Int)).toNat = (M.ps0.length - nn) := by omega
  refine SI.seq ?_
  refine SI.of_SG (by exact fun a w h => ho a w h) (by kernel_rfl) (SG.region ?_)
  refine SL.uu (ru_lt (b := (decide ((((M.ps0.length : Int) - (nn : Int)) : Int) < (M.ps0.length : Int)))) rfl rfl rfl rfl) ?_
  refine SL.nil ?_
  refine SI.of_SE ?_
  refine SI.seq ?_
  refine SI.yes (show some (Value.bool (decide ((((M.ps0.length : Int) - (nn : Int)) : Int) < (M.ps0.length : Int)))) = some (Value.bool true) from congrArg (fun x => some (Value.bool x)) (decide_eq_true (by omega))) ?_
  refine SI.skip ?_
  refine SI.of_SE ?_
  refine SI.seq ?_
  refine SI.block ?_
  refine SI.seq ?_
  refine SI.of_SG (by exact fun a w h => ho a w h) (by kernel_rfl) (SG.region ?_)
  refine SL.uu (ru_index_rowN (ri := 5) si56 rfl rfl rfl rfl (by omega) (by omega)) ?_
  refine SL.uu (ru_loada_rowN (ri := 5) (i := ((M.ps0.length : Int) - (nn : Int)).toNat) (r := [Value.slice xa x.f.length xc, bo x.bad, iw x.tick]) ta46 rfl rfl rfl (by show (M.ps0.map FmV.row)[_]? = _; rw [List.getElem?_map, ei, hx]; rfl) rfl rfl) ?_
  refine SL.alloca rfl rfl (lt_b rfl) ta46 rfl fun b1 hb1 => ?_
  refine SL.storea (i := 10) (vs := [Value.slice xa x.f.length xc, bo x.bad, iw x.tick]) (c' := [Value.slice xa x.f.length xc, bo x.bad, iw x.tick]) rfl rfl ta46 rfl rfl rfl rfl rfl rfl (le_b rfl) (.inr hb1) rfl ?_
  refine SL.nil ?_
  refine SI.of_SE ?_
  refine SI.seq ?_
  refine SI.seq ?_
  refine SI.of_SG (by exact fun a w h => ho a w h) (by kernel_rfl) (SG.region ?_)
  refine SL.ld 0 ts35 ?_
  refine SL.fa 2 fd46_2 ?_
  refine SL.ld 10 ts3 ?_
  refine SL.callv (bo (oldB S.now x.tick)) rfl rfl co51 rfl rfl rfl (lt_b rfl) (fun w hI => H_only hI (old_any (M := M) (S := S) _ ((hI.reo [2, 3, 4, 5, 6, 7] (by decide)).1))) ?_
  refine SL.nil ?_
  refine SI.of_SE ?_
  refine SI.both (oldB S.now x.tick) rfl (fun h2 => ?_) (fun h2 => ?_)
  · skip
    refine SI.exit ?_
    refine SF.passe ?_
    refine SF.blke ?_
    refine SI.of_SE ?_
    refine SI.of_SG (by exact fun a w h => ho a w h) (by kernel_rfl) (SG.region ?_)
    refine SL.uu (ru_add (r := (IntKind.i64.wrap (((M.ps0.length : Int) - (nn : Int)) + 1))) rfl rfl rfl rfl) ?_
    refine SL.mv ?_
    refine SL.nil ?_
    refine SF.keep 10 ?_
    have e9 : M.ps0.length - (nn - 1) = (M.ps0.length - nn) + 1 := by omega
    have hsk9 := hskip (M.ps0.length - nn) g x hx h2 hg
    refine SF.again (nn - 1) g (by omega) ⟨by omega, by rw [e9]; exact hsk9.2⟩ ⟨rfl, rfl, rfl, rfl, (congrArg (fun x => some (iw x)) (show IntKind.i64.wrap (((M.ps0.length : Int) - (nn : Int)) + 1) = (M.ps0.length : Int) - ((nn - 1 : Nat) : Int) by rw [IntKind.wrap_i64]; omega)), trivial⟩ (by rw [e9, hsk9.1]; rfl)
  refine SI.skip ?_
  refine SI.of_SE ?_
  refine SI.seq ?_
  refine SI.region_list ?_
  refine SLI.head 2 (by exact fun a w h => ho a w h) (by kernel_rfl) ?_
  refine SL.mv ?_
  refine SL.uu (ru_loada (i := 10) (vs := [Value.slice xa x.f.length xc, bo x.bad, iw x.tick]) ta46 rfl rfl rfl rfl (le_b rfl)) ?_
  refine SL.nil ?_
  refine SF.list ?_
  refine SLI.yield (ζ := γ) (fun g2 => bo true) (fun g2 => [rBlk by9 [pt wd 0] 35, rBlk cy9 [iw 0] 3, rB wd d0 d1 M S.now 77, rDv 74 d0 M.fs S.A0, rDv 74 d1 M.fs S.A1, rR0 M 46, rR1 M 46, rZ M.F M.fs, rLoop Lk r, rPk (G ((M.ps0.length - nn) + 1) g2)]) (fun g2 => p ((M.ps0.length - nn) + 1) g2) (j := 8) rfl rfl rfl rfl rfl rfl hps rfl (lt_b rfl) (fun w hI => (round (M.ps0.length - nn) g x _ w (by omega) hx h2 hg (hI.keep 10)).mono fun e w2 ⟨g2, h1, h2, h3⟩ => ⟨g2, h1, h2, h3⟩) ?_
  intro g2 hg2
  refine SLI.head 1 (by exact fun a w h => ho a w h) (by kernel_rfl) ?_
  refine SL.uu (ru_not (c := false) rfl rfl rfl) ?_
  refine SL.nil ?_
  refine SF.list ?_
  refine SLI.nil ?_
  refine SI.of_SE ?_
  refine SI.no rfl ?_
  refine SI.skip ?_
  refine SF.blkn ?_
  refine SI.of_SE ?_
  refine SI.of_SG (by exact fun a w h => ho a w h) (by kernel_rfl) (SG.region ?_)
  refine SL.uu (ru_add (r := (IntKind.i64.wrap (((M.ps0.length : Int) - (nn : Int)) + 1))) rfl rfl rfl rfl) ?_
  refine SL.mv ?_
  refine SL.nil ?_
  refine SF.keep 10 ?_
  have e9 : M.ps0.length - (nn - 1) = (M.ps0.length - nn) + 1 := by omega
  refine SF.again (nn - 1) g2 (by omega) ⟨by omega, by rw [e9]; exact hg2⟩ ⟨rfl, rfl, rfl, rfl, (congrArg (fun x => some (iw x)) (show IntKind.i64.wrap (((M.ps0.length : Int) - (nn : Int)) + 1) = (M.ps0.length : Int) - ((nn - 1 : Nat) : Int) by rw [IntKind.wrap_i64]; omega)), trivial⟩ (by rw [e9]; rfl)
theorem young1_any {γ : Type} {w : World} {Sx : Nat → Prop} {by9 cy9 Lk wd d0 d1 : Nat} {M : WM} {S : Wi} {r : Loop} (G : Nat → γ → List Res) (p : Nat → γ → Prop) (g0 : γ) (hn : M.ps1.length ≤ 3000000000000) (hps : 1 = r.params.size) (hM : M.Ok S) (h : Sep w (youngR 1 by9 cy9 Lk wd d0 d1 M S r (G 0 g0))) (hp : p 0 g0)
    (hskip : ∀ (k : Nat) (g : γ) (x : Fm) {v : Value}, M.ps1[k]? = some ⟨v, x⟩ → oldB S.now x.tick = true → p k g → G (k + 1) g = G k g ∧ p (k + 1) g)
    (round : ∀ (k : Nat) (g : γ) (x : Fm) (v : Value) (W : World), k < M.ps1.length → M.ps1[k]? = some ⟨v, x⟩ → oldB S.now x.tick = false → p k g → Inv ⟨26, w, Sx⟩ W (youngR 1 by9 cy9 Lk wd d0 d1 M S r (G k g)) →
      RoundIn Fence.wide 0 Try.prog Lk r.fn ((r.params.zip #[.agg #[v, bo x.bad, iw x.tick]]).foldl (fun t (p, v) => t.setIfInBounds p v) r.tmps) r.assign r.body W fun e W' => ∃ g', e = .returned (.bool true) ∧ Inv ⟨26, w, Sx⟩ W' (youngR 1 by9 cy9 Lk wd d0 d1 M S r (G (k + 1) g')) ∧ p (k + 1) g') :
    Calls Try.prog 67 #[.func (.yield Lk) #[] #[], pt by9 0, pt cy9 0] w fun e w' => (∃ v, e = .returned v) ∧ ∃ g, p M.ps1.length g ∧ Inv ⟨26, w, Sx⟩ w' (youngR 1 by9 cy9 Lk wd d0 d1 M S r (G M.ps1.length g)) := by
  have hform := hM.form1 (w := w) (T := 74) (TW := 77) (TO := 46) (wd := wd) (d0 := d0) (d1 := d1) (A0 := S.A0) (A1 := S.A1) (now := S.now) ((Inv.reo [2, 3, 4, 5, 6, 7] (show Inv ⟨26, w, Sx⟩ w (youngR 1 by9 cy9 Lk wd d0 d1 M S r (G 0 g0)) from ⟨h, Only.refl _ _⟩) (by decide)).1)
  refine calls_si (l0 := (youngR 1 by9 cy9 Lk wd d0 d1 M S r (G 0 g0))) (args := [.func (.yield Lk) #[] #[], pt by9 0, pt cy9 0]) Sx Try.func67 rfl 26 Try.ntmps67 (le_b rfl) ⟨h, Only.refl _ _⟩ (fun _ h => by obtain ⟨⟨_, h⟩, _⟩ := h; cases h) fun ho => ?_
  show SI _ _ _ _ _ [(0, .func (.yield Lk) #[] #[]), (1, pt by9 0), (2, pt cy9 0)] _
  refine SI.scope rfl ?_
  refine SI.seq ?_
  refine SI.label ?_
  refine SI.of_SE ?_
  refine SI.seq ?_
  refine SI.of_SG (by exact fun a w h => ho a w h) (by kernel_rfl) (SG.region_quiet (by kernel_rfl) (by kernel_rfl) ?_)
  refine SQ.ld 0 ts35 ?_
  refine SQ.ld 1 ts3 ?_
  refine SQ.nk ?_
  refine SQ.fa 2 fd77_1 ?_
  refine SQ.ia 3 ar75 ?_
  refine SQ.ld 2 ts56 ?_
  refine SQ.uu (ru_len Try.underlying56 rfl rfl) ?_
  refine SQ.mv ?_
  refine SQ.nilE ?_
  refine SI.of_SE ?_
  refine SI.block ?_
  refine SI.loop (γ := γ) (fun nn _ => [(0, Value.func (.yield Lk) #[] #[]), (1, pt by9 0), (11, Value.slice M.q1 M.ps1.length M.c1), (12, iw (M.ps1.length : Int)), (13, iw ((M.ps1.length : Int) - (nn : Int)))]) (fun nn g => [rBlk by9 [pt wd 0] 35, rBlk cy9 [iw 1] 3, rB wd d0 d1 M S.now 77, rDv 74 d0 M.fs S.A0, rDv 74 d1 M.fs S.A1, rR0 M 46, rR1 M 46, rZ M.F M.fs, rLoop Lk r, rPk (G (M.ps1.length - nn) g)]) (fun nn g => nn ≤ M.ps1.length ∧ p (M.ps1.length - nn) g) M.ps1.length g0 ⟨Nat.le_refl _, by rw [Nat.sub_self]; exact hp⟩ ⟨rfl, rfl, rfl, rfl, (congrArg (fun x => some (iw x)) (show (0 : Int) = (M.ps1.length : Int) - ((M.ps1.length : Nat) : Int) by omega)), trivial⟩ (by rw [Nat.sub_self]; first | done | rfl) ?_
  rintro nn g ⟨hn9, hg⟩
  rcases Nat.eq_zero_or_pos nn with h0 | h0
  · skip
    refine SI.seq ?_
    refine SI.of_SG (by exact fun a w h => ho a w h) (by kernel_rfl) (SG.region ?_)
    refine SL.uu (ru_lt (b := (decide ((((M.ps1.length : Int) - (nn : Int)) : Int) < (M.ps1.length : Int)))) rfl rfl rfl rfl) ?_
    refine SL.nil ?_
    refine SI.of_SE ?_
    refine SI.seq ?_
    refine SI.no (show some (Value.bool (decide ((((M.ps1.length : Int) - (nn : Int)) : Int) < (M.ps1.length : Int)))) = some (Value.bool false) from congrArg (fun x => some (Value.bool x)) (decide_eq_false (by omega))) ?_
    refine SI.exit ?_
    refine SF.passe ?_
    refine SF.passe ?_
    refine SF.blke ?_
    refine SF.scopen ?_
    have e : (M.ps1.length - nn) = M.ps1.length := by omega
    rw [e] at hg
    refine SF.res rfl (.inr rfl) (res0 Try.results67) fun w1 hI => ⟨⟨_, rfl⟩, g, hg, by rw [e] at hI; exact hI⟩
  obtain ⟨⟨vx, x⟩, hx⟩ : ∃ x, M.ps1[(M.ps1.length - nn)]? = some x := ⟨_, List.getElem?_eq_getElem (by omega)⟩
  obtain ⟨hxb, hxF, xa, xc, hxv⟩ := hform _ (List.mem_of_getElem? hx)
  dsimp only at hxv hxb hxF
  subst hxv
  have ei : ((M.ps1.length : Int) - (nn : Int)).toNat = (M.ps1.length - nn) := by omega
  refine SI.seq ?_
  refine SI.of_SG (by exact fun a w h => ho a w h) (by kernel_rfl) (SG.region ?_)
  refine SL.uu (ru_lt (b := (decide ((((M.ps1.length : Int) - (nn : Int)) : Int) < (M.ps1.length : Int)))) rfl rfl rfl rfl) ?_
  refine SL.nil ?_
  refine SI.of_SE ?_
  refine SI.seq ?_
  refine SI.yes (show some (Value.bool (decide ((((M.ps1.length : Int) - (nn : Int)) : Int) < (M.ps1.length : Int)))) = some (Value.bool true) from congrArg (fun x => some (Value.bool x)) (decide_eq_true (by omega))) ?_
  refine SI.skip ?_
  refine SI.of_SE ?_
  refine SI.seq ?_
  refine SI.block ?_
  refine SI.seq ?_
  refine SI.of_SG (by exact fun a w h => ho a w h) (by kernel_rfl) (SG.region ?_)
  refine SL.uu (ru_index_rowN (ri := 6) si56 rfl rfl rfl rfl (by omega) (by omega)) ?_
  refine SL.uu (ru_loada_rowN (ri := 6) (i := ((M.ps1.length : Int) - (nn : Int)).toNat) (r := [Value.slice xa x.f.length xc, bo x.bad, iw x.tick]) ta46 rfl rfl rfl (by show (M.ps1.map FmV.row)[_]? = _; rw [List.getElem?_map, ei, hx]; rfl) rfl rfl) ?_
  refine SL.alloca rfl rfl (lt_b rfl) ta46 rfl fun b1 hb1 => ?_
  refine SL.storea (i := 10) (vs := [Value.slice xa x.f.length xc, bo x.bad, iw x.tick]) (c' := [Value.slice xa x.f.length xc, bo x.bad, iw x.tick]) rfl rfl ta46 rfl rfl rfl rfl rfl rfl (le_b rfl) (.inr hb1) rfl ?_
  refine SL.nil ?_
  refine SI.of_SE ?_
  refine SI.seq ?_
  refine SI.seq ?_
  refine SI.of_SG (by exact fun a w h => ho a w h) (by kernel_rfl) (SG.region ?_)
  refine SL.ld 0 ts35 ?_
  refine SL.fa 2 fd46_2 ?_
  refine SL.ld 10 ts3 ?_
  refine SL.callv (bo (oldB S.now x.tick)) rfl rfl co51 rfl rfl rfl (lt_b rfl) (fun w hI => H_only hI (old_any (M := M) (S := S) _ ((hI.reo [2, 3, 4, 5, 6, 7] (by decide)).1))) ?_
  refine SL.nil ?_
  refine SI.of_SE ?_
  refine SI.both (oldB S.now x.tick) rfl (fun h2 => ?_) (fun h2 => ?_)
  · skip
    refine SI.exit ?_
    refine SF.passe ?_
    refine SF.blke ?_
    refine SI.of_SE ?_
    refine SI.of_SG (by exact fun a w h => ho a w h) (by kernel_rfl) (SG.region ?_)
    refine SL.uu (ru_add (r := (IntKind.i64.wrap (((M.ps1.length : Int) - (nn : Int)) + 1))) rfl rfl rfl rfl) ?_
    refine SL.mv ?_
    refine SL.nil ?_
    refine SF.keep 10 ?_
    have e9 : M.ps1.length - (nn - 1) = (M.ps1.length - nn) + 1 := by omega
    have hsk9 := hskip (M.ps1.length - nn) g x hx h2 hg
    refine SF.again (nn - 1) g (by omega) ⟨by omega, by rw [e9]; exact hsk9.2⟩ ⟨rfl, rfl, rfl, rfl, (congrArg (fun x => some (iw x)) (show IntKind.i64.wrap (((M.ps1.length : Int) - (nn : Int)) + 1) = (M.ps1.length : Int) - ((nn - 1 : Nat) : Int) by rw [IntKind.wrap_i64]; omega)), trivial⟩ (by rw [e9, hsk9.1]; rfl)
  refine SI.skip ?_
  refine SI.of_SE ?_
  refine SI.seq ?_
  refine SI.region_list ?_
  refine SLI.head 2 (by exact fun a w h => ho a w h) (by kernel_rfl) ?_
  refine SL.mv ?_
  refine SL.uu (ru_loada (i := 10) (vs := [Value.slice xa x.f.length xc, bo x.bad, iw x.tick]) ta46 rfl rfl rfl rfl (le_b rfl)) ?_
  refine SL.nil ?_
  refine SF.list ?_
  refine SLI.yield (ζ := γ) (fun g2 => bo true) (fun g2 => [rBlk by9 [pt wd 0] 35, rBlk cy9 [iw 1] 3, rB wd d0 d1 M S.now 77, rDv 74 d0 M.fs S.A0, rDv 74 d1 M.fs S.A1, rR0 M 46, rR1 M 46, rZ M.F M.fs, rLoop Lk r, rPk (G ((M.ps1.length - nn) + 1) g2)]) (fun g2 => p ((M.ps1.length - nn) + 1) g2) (j := 8) rfl rfl rfl rfl rfl rfl hps rfl (lt_b rfl) (fun w hI => (round (M.ps1.length - nn) g x _ w (by omega) hx h2 hg (hI.keep 10)).mono fun e w2 ⟨g2, h1, h2, h3⟩ => ⟨g2, h1, h2, h3⟩) ?_
  intro g2 hg2
  refine SLI.head 1 (by exact fun a w h => ho a w h) (by kernel_rfl) ?_
  refine SL.uu (ru_not (c := false) rfl rfl rfl) ?_
  refine SL.nil ?_
  refine SF.list ?_
  refine SLI.nil ?_
  refine SI.of_SE ?_
  refine SI.no rfl ?_
  refine SI.skip ?_
  refine SF.blkn ?_
  refine SI.of_SE ?_
  refine SI.of_SG (by exact fun a w h => ho a w h) (by kernel_rfl) (SG.region ?_)
  refine SL.uu (ru_add (r := (IntKind.i64.wrap (((M.ps1.length : Int) - (nn : Int)) + 1))) rfl rfl rfl rfl) ?_
  refine SL.mv ?_
  refine SL.nil ?_
  refine SF.keep 10 ?_
  have e9 : M.ps1.length - (nn - 1) = (M.ps1.length - nn) + 1 := by omega
  refine SF.again (nn - 1) g2 (by omega) ⟨by omega, by rw [e9]; exact hg2⟩ ⟨rfl, rfl, rfl, rfl, (congrArg (fun x => some (iw x)) (show IntKind.i64.wrap (((M.ps1.length : Int) - (nn : Int)) + 1) = (M.ps1.length : Int) - ((nn - 1 : Nat) : Int) by rw [IntKind.wrap_i64]; omega)), trivial⟩ (by rw [e9]; rfl)

end Go.Proofs.Ytcilikkljkdceaa

/-
  The device's small functions.
-/
namespace Go.Proofs.Ytcilikkljkdceaa
open Go.RowKit
set_option maxRecDepth 100000
set_option maxHeartbeats 4000000
theorem next_any (w : World) {i : Int} (h : 0 ≤ i ∧ i < 16) : Calls Try.prog 33 #[.int .i64 i] w fun e w' => e = .returned (.int .i64 (nx i)) ∧ w = w' := by
  obtain ⟨h0, h1⟩ := h
  go_enter Try.func33, Try.ntmps33
  go_wp2
  go_ret
  exact ⟨by unfold nx; rfl, rfl⟩

theorem copied_any {w : World} {v : Value} {f : List UInt8} (hb : BytesAt w v f) : Calls Try.prog 32 #[v] w fun e w' => e = .returned (sl w.heap.size 0 f.length f.length) ∧ Blk w' w.heap.size (f.map bv) 5 ∧ Only (fun _ => False) w w' := by
  obtain ⟨a, c, rfl⟩ := hb.form
  have hl := hb.len
  have hmk := fun w => make_u8 (P := Try.prog) (n := f.length) Try.underlying28 (by kernel_rfl) (by omega) w
  have HB := Lib.hid hb
  clear hb
  go_enter Try.func32, Try.ntmps32
  go_wp2_with (at_builtin; refine wpList_room (x := .tmp 5) (y := .tmp 6) (t := 28) (e := 5) (g := w.heap.size) (n := 0) (cap := f.length) (c := (madeCells #[.int .u8 0] f.length).toList) (f := f) (by rfl) (by rfl) Try.underlying28 (by kernel_rfl) (by rfl) (by rfl) (Blk.new' w _ _) (HB.out.only ((Only.refl (fun _ => False) w).alloc _) (fun _ _ _ _ _ _ h => h)) (by omega) (by rw [made_len]; omega) ?_; intro w1 hB hO)
  have HO := Lib.hid (And.intro hB (Only.step (((Only.refl (fun _ => False) w).alloc _)) hO (by intro k hk; omega)))
  clear hB hO
  go_wp2
  go_ret
  obtain ⟨hB, hO⟩ := HO.out
  refine ⟨rfl, ?_, hO⟩
  rw [List.take_zero, List.drop_eq_nil_of_le (by rw [made_len]; omega)] at hB
  simpa using hB

theorem p_off {w : World} {d : Nat} {F : Nat → Prop} {A : NicA} (hk : NicOk A) (h : NicAt 74 w d F A)  : Calls Try.prog 68 #[pt d 0] w fun e w' => e = .returned (bo (offB A)) ∧ Only (fun _ => False) w w' := by
  have hok := hk
  obtain ⟨r2, r3, r4, r5, r6, _, _, _⟩ := hok
  obtain ⟨tv, cv, hI⟩ := h.inv 17 (fun _ => False)
  refine calls_sc (l0 := _) (args := [pt d 0]) (fun _ => False) Try.func68 rfl 17 Try.ntmps68 (le_b rfl) hI ?_
  show SC _ _ _ _ [(0, pt d 0)] [rBlk d (nc A tv cv) 74, rFrs F tv cv A.tb A.cb]
  refine SC.sr ?_
  refine SL.as ?_
  refine SL.nl ?_
  refine SC.sr ?_
  refine SL.mv ?_
  refine SL.nk ?_
  refine SL.fa 0 fd74_0 ?_
  refine SL.ia 0 ar68 ?_
  refine SL.uu (ru_load (i := 0) (v := iw (A.r 0)) ts3 rfl rfl rfl (nc_r (by decide))) ?_
  refine SL.uu (ru_ne (b := (((A.r 0) : Int) != 1)) rfl rfl rfl rfl) ?_
  refine SL.mv ?_
  refine SL.join 7 [(0, pt d 0), (2, bo false), (3, pt d 0), (4, pt d 0), (5, pt d 0), (6, pt d 0), (7, iw (A.r 0)), (8, bo (((A.r 0) : Int) != 1)), (9, bo (((A.r 0) : Int) != 1)), (16, bo ((((A.r 0) : Int) != 1) || (((A.r 1) : Int) != 1)))] [rBlk d (nc A tv cv) 74, rFrs F tv cv A.tb A.cb] ?_ ?_
  rotate_left
  · intro K hK
    rcases tf (((A.r 0) : Int) != 1) with h1 | h1
    · skip
      refine SL.norm [(0, pt d 0), (2, bo false), (3, pt d 0), (4, pt d 0), (5, pt d 0), (6, pt d 0), (7, iw (A.r 0)), (8, bo true), (9, bo true)] _ ⟨rfl, rfl, rfl, rfl, rfl, rfl, rfl, (congrArg (fun x => some (Value.bool x)) h1), (congrArg (fun x => some (Value.bool x)) h1), trivial⟩ rfl ?_
      refine SL.oo ?_
      refine SL.oo ?_
      refine SL.oo ?_
      refine SL.oo ?_
      refine SL.oo ?_
      refine SL.oo ?_
      refine SL.pk (bo true) (undef) ?_
      exact SL.joined hK ⟨rfl, rfl, rfl, rfl, rfl, rfl, rfl, (congrArg (fun x => some (Value.bool x)) h1.symm), (congrArg (fun x => some (Value.bool x)) h1.symm), (congrArg (fun bx => some (Value.bool (bx || (((A.r 1) : Int) != 1)))) h1.symm), trivial⟩ rfl
    refine SL.norm [(0, pt d 0), (2, bo false), (3, pt d 0), (4, pt d 0), (5, pt d 0), (6, pt d 0), (7, iw (A.r 0)), (8, bo false), (9, bo false)] _ ⟨rfl, rfl, rfl, rfl, rfl, rfl, rfl, (congrArg (fun x => some (Value.bool x)) h1), (congrArg (fun x => some (Value.bool x)) h1), trivial⟩ rfl ?_
    refine SL.gg (ru_move rfl rfl) ?_
    refine SL.gg (ru_nilCheck rfl rfl) ?_
    refine SL.gg (ru_fieldAddr (o2 := 0) fd74_0 rfl rfl rfl) ?_
    refine SL.gg (ru_indexA (o2 := 1) ar68 rfl rfl rfl (by decide) (by decide) rfl) ?_
    refine SL.gg (ru_load (i := 0) (v := iw (A.r 1)) ts3 rfl rfl rfl (nc_r (by decide))) ?_
    refine SL.gg (ru_ne (b := (((A.r 1) : Int) != 1)) rfl rfl rfl rfl) ?_
    refine SL.pk (bo true) (bo (((A.r 1) : Int) != 1)) ?_
    exact SL.joined hK ⟨rfl, rfl, rfl, rfl, rfl, rfl, rfl, (congrArg (fun x => some (Value.bool x)) h1.symm), (congrArg (fun x => some (Value.bool x)) h1.symm), (congrArg (fun bx => some (Value.bool (bx || (((A.r 1) : Int) != 1)))) h1.symm), trivial⟩ rfl
  skip
  refine SL.as ?_
  refine SL.nl ?_
  refine SC.ret ?_
  refine SE.res (.inl rfl) (res1 Try.results68 rfl) fun w1 hI => ?_
  exact ⟨rfl, hI.2⟩
end Go.Proofs.Ytcilikkljkdceaa

/-
  Whose is a descriptor.
-/
namespace Go.Proofs.Ytcilikkljkdceaa
open Go.RowKit
set_option maxRecDepth 100000
set_option maxHeartbeats 4000000
theorem p_hosttx {w : World} {d : Nat} {F : Nat → Prop} {A : NicA} (hk : NicOk A) (h : NicAt 74 w d F A) (i : Int) : Calls Try.prog 31 #[pt d 0, iw i, iw 4, iw 5] w fun e w' => e = .returned (bo (hostB i (A.r 4) (A.r 5))) ∧ Only (fun _ => False) w w' := by
  have hok := hk
  obtain ⟨r2, r3, r4, r5, r6, _, _, _⟩ := hok
  obtain ⟨tv, cv, hI⟩ := h.inv 35 (fun _ => False)
  refine calls_sc (l0 := _) (args := [pt d 0, iw i, iw 4, iw 5]) (fun _ => False) Try.func31 rfl 35 Try.ntmps31 (le_b rfl) hI ?_
  show SC _ _ _ _ [(0, pt d 0), (1, iw i), (2, iw 4), (3, iw 5)] [rBlk d (nc A tv cv) 74, rFrs F tv cv A.tb A.cb]
  refine SC.sr ?_
  refine SL.as ?_
  refine SL.nl ?_
  refine SC.scope ?_
  refine SC.seq ?_
  refine SC.sr ?_
  refine SL.mv ?_
  refine SL.uu (ru_lt (b := (decide ((i : Int) < 0))) rfl rfl rfl rfl) ?_
  refine SL.mv ?_
  refine SL.join 3 [(0, pt d 0), (1, iw i), (2, iw 4), (3, iw 5), (8, bo false), (10, iw i), (11, bo (decide ((i : Int) < 0))), (12, bo (decide ((i : Int) < 0))), (15, bo ((decide ((i : Int) < 0)) || (decide ((16 : Int) ≤ i))))] [rBlk d (nc A tv cv) 74, rFrs F tv cv A.tb A.cb] ?_ ?_
  rotate_left
  · intro K hK
    rcases tf (decide ((i : Int) < 0)) with h1 | h1
    · skip
      refine SL.norm [(0, pt d 0), (1, iw i), (2, iw 4), (3, iw 5), (8, bo false), (10, iw i), (11, bo true), (12, bo true)] _ ⟨rfl, rfl, rfl, rfl, rfl, rfl, (congrArg (fun x => some (Value.bool x)) h1), (congrArg (fun x => some (Value.bool x)) h1), trivial⟩ rfl ?_
      refine SL.oo ?_
      refine SL.oo ?_
      refine SL.pk (bo true) (undef) ?_
      exact SL.joined hK ⟨rfl, rfl, rfl, rfl, rfl, rfl, (congrArg (fun x => some (Value.bool x)) h1.symm), (congrArg (fun x => some (Value.bool x)) h1.symm), (congrArg (fun bx => some (Value.bool (bx || (decide ((16 : Int) ≤ i))))) h1.symm), trivial⟩ rfl
    refine SL.norm [(0, pt d 0), (1, iw i), (2, iw 4), (3, iw 5), (8, bo false), (10, iw i), (11, bo false), (12, bo false)] _ ⟨rfl, rfl, rfl, rfl, rfl, rfl, (congrArg (fun x => some (Value.bool x)) h1), (congrArg (fun x => some (Value.bool x)) h1), trivial⟩ rfl ?_
    refine SL.gg (ru_move rfl rfl) ?_
    refine SL.gg (ru_ge (b := (decide ((16 : Int) ≤ i))) rfl rfl rfl rfl) ?_
    refine SL.pk (bo true) (bo (decide ((16 : Int) ≤ i))) ?_
    exact SL.joined hK ⟨rfl, rfl, rfl, rfl, rfl, rfl, (congrArg (fun x => some (Value.bool x)) h1.symm), (congrArg (fun x => some (Value.bool x)) h1.symm), (congrArg (fun bx => some (Value.bool (bx || (decide ((16 : Int) ≤ i))))) h1.symm), trivial⟩ rfl
  skip
  refine SL.nl ?_
  refine SC.both ((decide ((i : Int) < 0)) || (decide ((16 : Int) ≤ i))) rfl (fun h2 => ?_) (fun h2 => ?_)
  · skip
    refine SC.sr ?_
    refine SL.as ?_
    refine SL.nl ?_
    refine SC.ret ?_
    refine SE.passr ?_
    refine SE.scoper ?_
    refine SE.res (.inl rfl) (res1 Try.results31 rfl) fun w1 hI => ⟨ret_bo ?_, hI.2⟩
    exact host_out h2
  have hi := host_in h2
  refine SC.skip ?_
  refine SC.of_SE ?_
  refine SC.seq ?_
  refine SC.label ?_
  refine SC.of_SE ?_
  refine SC.seq ?_
  refine SC.sr ?_
  refine SL.mv ?_
  refine SL.mv ?_
  refine SL.nk ?_
  refine SL.fa 0 fd74_0 ?_
  refine SL.ia 4 ar68 ?_
  refine SL.uu (ru_load (i := 0) (v := iw (A.r 4)) ts3 rfl rfl rfl (nc_r (by decide))) ?_
  refine SL.as ?_
  refine SL.nl ?_
  refine SC.block ?_
  refine SC.loop (γ := Unit) (fun n _ => [(0, pt d 0), (1, iw i), (3, iw 5), (8, bo false), (9, iw (((A.r 5) - (n : Int)) % 16))]) (fun n _ => [rBlk d (nc A tv cv) 74, rFrs F tv cv A.tb A.cb]) (fun n _ => n ≤ (((A.r 5) - (A.r 4)) % 16).toNat ∧ ∀ j : Nat, n < j → j ≤ (((A.r 5) - (A.r 4)) % 16).toNat → ((A.r 5) - (j : Int)) % 16 ≠ i) ((((A.r 5) - (A.r 4)) % 16).toNat) () ⟨Nat.le_refl _, fun j h1 h2 => by omega⟩ ⟨rfl, rfl, rfl, rfl, (congrArg (fun x => some (iw x)) (show A.r 4 = ((A.r 5) - ((((((A.r 5) - (A.r 4)) % 16).toNat : Nat) : Int) : Int)) % 16 by omega)), trivial⟩ rfl ?_
  rintro n ⟨⟩ ⟨hn, hne⟩
  rcases Nat.eq_zero_or_pos n with h0 | h0
  · skip
    refine SC.seq ?_
    refine SC.sr ?_
    refine SL.mv ?_
    refine SL.mv ?_
    refine SL.mv ?_
    refine SL.nk ?_
    refine SL.fa 0 fd74_0 ?_
    refine SL.ia 5 ar68 ?_
    refine SL.uu (ru_load (i := 0) (v := iw (A.r 5)) ts3 rfl rfl rfl (nc_r (by decide))) ?_
    refine SL.uu (ru_ne (b := (((((A.r 5) - (n : Int)) % 16) : Int) != (A.r 5))) rfl rfl rfl rfl) ?_
    refine SL.nl ?_
    refine SC.no (show some (Value.bool (((((A.r 5) - (n : Int)) % 16) : Int) != (A.r 5))) = some (Value.bool false) from congrArg (fun x => some (Value.bool x)) (bne_f (by omega))) ?_
    refine SC.exit ?_
    refine SE.passe ?_
    refine SE.passe ?_
    refine SE.blke ?_
    refine SC.of_SE ?_
    refine SC.sr ?_
    refine SL.as ?_
    refine SL.nl ?_
    refine SC.ret ?_
    refine SE.scoper ?_
    refine SE.res (.inl rfl) (res1 Try.results31 rfl) fun w1 hI => ⟨ret_bo ?_, hI.2⟩
    exact host_yes hi (by omega) (fun j h1 h2 => hne j (by omega) h2)
  refine SC.seq ?_
  refine SC.sr ?_
  refine SL.mv ?_
  refine SL.mv ?_
  refine SL.mv ?_
  refine SL.nk ?_
  refine SL.fa 0 fd74_0 ?_
  refine SL.ia 5 ar68 ?_
  refine SL.uu (ru_load (i := 0) (v := iw (A.r 5)) ts3 rfl rfl rfl (nc_r (by decide))) ?_
  refine SL.uu (ru_ne (b := (((((A.r 5) - (n : Int)) % 16) : Int) != (A.r 5))) rfl rfl rfl rfl) ?_
  refine SL.nl ?_
  refine SC.yes (show some (Value.bool (((((A.r 5) - (n : Int)) % 16) : Int) != (A.r 5))) = some (Value.bool true) from congrArg (fun x => some (Value.bool x)) (bne_t (by omega))) ?_
  refine SC.skip ?_
  refine SC.of_SE ?_
  refine SC.seq ?_
  refine SC.block ?_
  refine SC.seq ?_
  refine SC.sr ?_
  refine SL.mv ?_
  refine SL.mv ?_
  refine SL.uu (ru_ne (b := (((((A.r 5) - (n : Int)) % 16) : Int) != i)) rfl rfl rfl rfl) ?_
  refine SL.nl ?_
  refine SC.both (((((A.r 5) - (n : Int)) % 16) : Int) != i) rfl (fun h3 => ?_) (fun h3 => ?_)
  · skip
    have hq := h3
    refine SC.exit ?_
    refine SE.passe ?_
    refine SE.blke ?_
    refine SC.of_SE ?_
    refine SC.region ?_
    refine SL.mv ?_
    refine SL.callv (iw (nx (((A.r 5) - (n : Int)) % 16))) rfl rfl co33 rfl rfl rfl (lt_b rfl) (fun w hI => H_same hI (next_any w (by omega))) ?_
    refine SL.as ?_
    refine SL.nil ?_
    refine SE.again (n - 1) () (by omega) ⟨by omega, fun j h1 h2 => ?_⟩ ⟨rfl, rfl, rfl, rfl, (congrArg (fun x => some (iw x)) (show nx (((A.r 5) - (n : Int)) % 16) = ((A.r 5) - (((n - 1 : Nat) : Int) : Int)) % 16 by unfold nx; omega)), trivial⟩ rfl
    by_cases e : j = n
    · subst e; simpa using hq
    · exact hne j (by omega) h2
  have hq := h3
  refine SC.skip ?_
  refine SC.of_SE ?_
  refine SC.sr ?_
  refine SL.as ?_
  refine SL.nl ?_
  refine SC.ret ?_
  refine SE.blkr ?_
  refine SE.passr ?_
  refine SE.passr ?_
  refine SE.blkr ?_
  refine SE.passr ?_
  refine SE.scoper ?_
  refine SE.res (.inl rfl) (res1 Try.results31 rfl) fun w1 hI => ⟨ret_bo ?_, hI.2⟩
  exact host_no h0 hn hq

theorem p_hostrx {w : World} {d : Nat} {F : Nat → Prop} {A : NicA} (hk : NicOk A) (h : NicAt 74 w d F A) (i : Int) : Calls Try.prog 31 #[pt d 0, iw i, iw 2, iw 3] w fun e w' => e = .returned (bo (hostB i (A.r 2) (A.r 3))) ∧ Only (fun _ => False) w w' := by
  have hok := hk
  obtain ⟨r2, r3, r4, r5, r6, _, _, _⟩ := hok
  obtain ⟨tv, cv, hI⟩ := h.inv 35 (fun _ => False)
  refine calls_sc (l0 := _) (args := [pt d 0, iw i, iw 2, iw 3]) (fun _ => False) Try.func31 rfl 35 Try.ntmps31 (le_b rfl) hI ?_
  show SC _ _ _ _ [(0, pt d 0), (1, iw i), (2, iw 2), (3, iw 3)] [rBlk d (nc A tv cv) 74, rFrs F tv cv A.tb A.cb]
  refine SC.sr ?_
  refine SL.as ?_
  refine SL.nl ?_
  refine SC.scope ?_
  refine SC.seq ?_
  refine SC.sr ?_
  refine SL.mv ?_
  refine SL.uu (ru_lt (b := (decide ((i : Int) < 0))) rfl rfl rfl rfl) ?_
  refine SL.mv ?_
  refine SL.join 3 [(0, pt d 0), (1, iw i), (2, iw 2), (3, iw 3), (8, bo false), (10, iw i), (11, bo (decide ((i : Int) < 0))), (12, bo (decide ((i : Int) < 0))), (15, bo ((decide ((i : Int) < 0)) || (decide ((16 : Int) ≤ i))))] [rBlk d (nc A tv cv) 74, rFrs F tv cv A.tb A.cb] ?_ ?_
  rotate_left
  · intro K hK
    rcases tf (decide ((i : Int) < 0)) with h1 | h1
    · skip
      refine SL.norm [(0, pt d 0), (1, iw i), (2, iw 2), (3, iw 3), (8, bo false), (10, iw i), (11, bo true), (12, bo true)] _ ⟨rfl, rfl, rfl, rfl, rfl, rfl, (congrArg (fun x => some (Value.bool x)) h1), (congrArg (fun x => some (Value.bool x)) h1), trivial⟩ rfl ?_
      refine SL.oo ?_
      refine SL.oo ?_
      refine SL.pk (bo true) (undef) ?_
      exact SL.joined hK ⟨rfl, rfl, rfl, rfl, rfl, rfl, (congrArg (fun x => some (Value.bool x)) h1.symm), (congrArg (fun x => some (Value.bool x)) h1.symm), (congrArg (fun bx => some (Value.bool (bx || (decide ((16 : Int) ≤ i))))) h1.symm), trivial⟩ rfl
    refine SL.norm [(0, pt d 0), (1, iw i), (2, iw 2), (3, iw 3), (8, bo false), (10, iw i), (11, bo false), (12, bo false)] _ ⟨rfl, rfl, rfl, rfl, rfl, rfl, (congrArg (fun x => some (Value.bool x)) h1), (congrArg (fun x => some (Value.bool x)) h1), trivial⟩ rfl ?_
    refine SL.gg (ru_move rfl rfl) ?_
    refine SL.gg (ru_ge (b := (decide ((16 : Int) ≤ i))) rfl rfl rfl rfl) ?_
    refine SL.pk (bo true) (bo (decide ((16 : Int) ≤ i))) ?_
    exact SL.joined hK ⟨rfl, rfl, rfl, rfl, rfl, rfl, (congrArg (fun x => some (Value.bool x)) h1.symm), (congrArg (fun x => some (Value.bool x)) h1.symm), (congrArg (fun bx => some (Value.bool (bx || (decide ((16 : Int) ≤ i))))) h1.symm), trivial⟩ rfl
  skip
  refine SL.nl ?_
  refine SC.both ((decide ((i : Int) < 0)) || (decide ((16 : Int) ≤ i))) rfl (fun h2 => ?_) (fun h2 => ?_)
  · skip
    refine SC.sr ?_
    refine SL.as ?_
    refine SL.nl ?_
    refine SC.ret ?_
    refine SE.passr ?_
    refine SE.scoper ?_
    refine SE.res (.inl rfl) (res1 Try.results31 rfl) fun w1 hI => ⟨ret_bo ?_, hI.2⟩
    exact host_out h2
  have hi := host_in h2
  refine SC.skip ?_
  refine SC.of_SE ?_
  refine SC.seq ?_
  refine SC.label ?_
  refine SC.of_SE ?_
  refine SC.seq ?_
  refine SC.sr ?_
  refine SL.mv ?_
  refine SL.mv ?_
  refine SL.nk ?_
  refine SL.fa 0 fd74_0 ?_
  refine SL.ia 2 ar68 ?_
  refine SL.uu (ru_load (i := 0) (v := iw (A.r 2)) ts3 rfl rfl rfl (nc_r (by decide))) ?_
  refine SL.as ?_
  refine SL.nl ?_
  refine SC.block ?_
  refine SC.loop (γ := Unit) (fun n _ => [(0, pt d 0), (1, iw i), (3, iw 3), (8, bo false), (9, iw (((A.r 3) - (n : Int)) % 16))]) (fun n _ => [rBlk d (nc A tv cv) 74, rFrs F tv cv A.tb A.cb]) (fun n _ => n ≤ (((A.r 3) - (A.r 2)) % 16).toNat ∧ ∀ j : Nat, n < j → j ≤ (((A.r 3) - (A.r 2)) % 16).toNat → ((A.r 3) - (j : Int)) % 16 ≠ i) ((((A.r 3) - (A.r 2)) % 16).toNat) () ⟨Nat.le_refl _, fun j h1 h2 => by omega⟩ ⟨rfl, rfl, rfl, rfl, (congrArg (fun x => some (iw x)) (show A.r 2 = ((A.r 3) - ((((((A.r 3) - (A.r 2)) % 16).toNat : Nat) : Int) : Int)) % 16 by omega)), trivial⟩ rfl ?_
  rintro n ⟨⟩ ⟨hn, hne⟩
  rcases Nat.eq_zero_or_pos n with h0 | h0
  · skip
    refine SC.seq ?_
    refine SC.sr ?_
    refine SL.mv ?_
    refine SL.mv ?_
    refine SL.mv ?_
    refine SL.nk ?_
    refine SL.fa 0 fd74_0 ?_
    refine SL.ia 3 ar68 ?_
    refine SL.uu (ru_load (i := 0) (v := iw (A.r 3)) ts3 rfl rfl rfl (nc_r (by decide))) ?_
    refine SL.uu (ru_ne (b := (((((A.r 3) - (n : Int)) % 16) : Int) != (A.r 3))) rfl rfl rfl rfl) ?_
    refine SL.nl ?_
    refine SC.no (show some (Value.bool (((((A.r 3) - (n : Int)) % 16) : Int) != (A.r 3))) = some (Value.bool false) from congrArg (fun x => some (Value.bool x)) (bne_f (by omega))) ?_
    refine SC.exit ?_
    refine SE.passe ?_
    refine SE.passe ?_
    refine SE.blke ?_
    refine SC.of_SE ?_
    refine SC.sr ?_
    refine SL.as ?_
    refine SL.nl ?_
    refine SC.ret ?_
    refine SE.scoper ?_
    refine SE.res (.inl rfl) (res1 Try.results31 rfl) fun w1 hI => ⟨ret_bo ?_, hI.2⟩
    exact host_yes hi (by omega) (fun j h1 h2 => hne j (by omega) h2)
  refine SC.seq ?_
  refine SC.sr ?_
  refine SL.mv ?_
  refine SL.mv ?_
  refine SL.mv ?_
  refine SL.nk ?_
  refine SL.fa 0 fd74_0 ?_
  refine SL.ia 3 ar68 ?_
  refine SL.uu (ru_load (i := 0) (v := iw (A.r 3)) ts3 rfl rfl rfl (nc_r (by decide))) ?_
  refine SL.uu (ru_ne (b := (((((A.r 3) - (n : Int)) % 16) : Int) != (A.r 3))) rfl rfl rfl rfl) ?_
  refine SL.nl ?_
  refine SC.yes (show some (Value.bool (((((A.r 3) - (n : Int)) % 16) : Int) != (A.r 3))) = some (Value.bool true) from congrArg (fun x => some (Value.bool x)) (bne_t (by omega))) ?_
  refine SC.skip ?_
  refine SC.of_SE ?_
  refine SC.seq ?_
  refine SC.block ?_
  refine SC.seq ?_
  refine SC.sr ?_
  refine SL.mv ?_
  refine SL.mv ?_
  refine SL.uu (ru_ne (b := (((((A.r 3) - (n : Int)) % 16) : Int) != i)) rfl rfl rfl rfl) ?_
  refine SL.nl ?_
  refine SC.both (((((A.r 3) - (n : Int)) % 16) : Int) != i) rfl (fun h3 => ?_) (fun h3 => ?_)
  · skip
    have hq := h3
    refine SC.exit ?_
    refine SE.passe ?_
    refine SE.blke ?_
    refine SC.of_SE ?_
    refine SC.region ?_
    refine SL.mv ?_
    refine SL.callv (iw (nx (((A.r 3) - (n : Int)) % 16))) rfl rfl co33 rfl rfl rfl (lt_b rfl) (fun w hI => H_same hI (next_any w (by omega))) ?_
    refine SL.as ?_
    refine SL.nil ?_
    refine SE.again (n - 1) () (by omega) ⟨by omega, fun j h1 h2 => ?_⟩ ⟨rfl, rfl, rfl, rfl, (congrArg (fun x => some (iw x)) (show nx (((A.r 3) - (n : Int)) % 16) = ((A.r 3) - (((n - 1 : Nat) : Int) : Int)) % 16 by unfold nx; omega)), trivial⟩ rfl
    by_cases e : j = n
    · subst e; simpa using hq
    · exact hne j (by omega) h2
  have hq := h3
  refine SC.skip ?_
  refine SC.of_SE ?_
  refine SC.sr ?_
  refine SL.as ?_
  refine SL.nl ?_
  refine SC.ret ?_
  refine SE.blkr ?_
  refine SE.passr ?_
  refine SE.passr ?_
  refine SE.blkr ?_
  refine SE.passr ?_
  refine SE.scoper ?_
  refine SE.res (.inl rfl) (res1 Try.results31 rfl) fun w1 hI => ⟨ret_bo ?_, hI.2⟩
  exact host_no h0 hn hq

theorem dev_q {a b : Int} (h : (a == b) = false) : (a != b) = true := by simpa using h
theorem dev_e {a b : Int} (h : (a == b) = true) : (a != b) = false := by simpa using h
theorem dev_nx {t : Int} {n : Nat} (h : 0 < n) : Int.tmod (IntKind.i64.wrap ((t - (n : Int)) % 16 + 1)) 16 = (t - ((n - 1 : Nat) : Int)) % 16 := by
  rw [IntKind.wrap_i64, Int.tmod_eq_emod_of_nonneg (by omega)]; omega
theorem devices_any {w : World} {i h t : Int} (hi : 0 ≤ i ∧ i < 16) (hh : 0 ≤ h ∧ h < 16) (ht : 0 ≤ t ∧ t < 16) : Calls Try.prog 72 #[.int .i64 i, .int .i64 h, .int .i64 t] w fun e w' => e = .returned (bo (!hostB i h t)) ∧ Only (fun _ => False) w w' := by
  refine calls_sc (l0 := []) (args := [iw i, iw h, iw t]) (fun _ => False) Try.func72 rfl 18 Try.ntmps72 (le_b rfl) ⟨⟨by simp, List.Pairwise.nil⟩, Only.refl _ _⟩ ?_
  show SC _ _ _ _ [(0, iw i), (1, iw h), (2, iw t)] []
  refine SC.sr ?_
  refine SL.as ?_
  refine SL.nl ?_
  refine SC.seq ?_
  refine SC.sr ?_
  refine SL.mv ?_
  refine SL.as ?_
  refine SL.nl ?_
  refine SC.block ?_
  refine SC.loop (γ := Unit) (fun n _ => [(0, iw i), (2, iw t), (6, bo false), (7, iw ((t - (n : Int)) % 16))]) (fun n _ => []) (fun n _ => n ≤ ((t - h) % 16).toNat ∧ ∀ j : Nat, n < j → j ≤ ((t - h) % 16).toNat → (t - (j : Int)) % 16 ≠ i) (((t - h) % 16).toNat) () ⟨Nat.le_refl _, fun j h1 h2 => by omega⟩ ⟨rfl, rfl, rfl, (congrArg (fun x => some (iw x)) (show h = (t - (((((t - h) % 16).toNat : Nat) : Int) : Int)) % 16 by omega)), trivial⟩ rfl ?_
  rintro n ⟨⟩ ⟨hn, hne⟩
  rcases Nat.eq_zero_or_pos n with h0 | h0
  · skip
    refine SC.seq ?_
    refine SC.sr ?_
    refine SL.mv ?_
    refine SL.mv ?_
    refine SL.uu (ru_ne (b := ((((t - (n : Int)) % 16) : Int) != t)) rfl rfl rfl rfl) ?_
    refine SL.nl ?_
    refine SC.no (show some (Value.bool ((((t - (n : Int)) % 16) : Int) != t)) = some (Value.bool false) from congrArg (fun x => some (Value.bool x)) (bne_f (by omega))) ?_
    refine SC.exit ?_
    refine SE.passe ?_
    refine SE.passe ?_
    refine SE.blke ?_
    refine SC.of_SE ?_
    refine SC.sr ?_
    refine SL.as ?_
    refine SL.nl ?_
    refine SC.ret ?_
    refine SE.res (.inl rfl) (res1 Try.results72 rfl) fun w1 hI => ⟨ret_bo ?_, hI.2⟩
    exact congrArg (!·) (host_yes hi ht (fun j h1 h2 => hne j (by omega) h2))
  refine SC.seq ?_
  refine SC.sr ?_
  refine SL.mv ?_
  refine SL.mv ?_
  refine SL.uu (ru_ne (b := ((((t - (n : Int)) % 16) : Int) != t)) rfl rfl rfl rfl) ?_
  refine SL.nl ?_
  refine SC.yes (show some (Value.bool ((((t - (n : Int)) % 16) : Int) != t)) = some (Value.bool true) from congrArg (fun x => some (Value.bool x)) (bne_t (by omega))) ?_
  refine SC.skip ?_
  refine SC.of_SE ?_
  refine SC.seq ?_
  refine SC.block ?_
  refine SC.sr ?_
  refine SL.mv ?_
  refine SL.mv ?_
  refine SL.uu (ru_eq (b := ((((t - (n : Int)) % 16) : Int) == i)) rfl rfl rfl rfl) ?_
  refine SL.nl ?_
  refine SC.both ((((t - (n : Int)) % 16) : Int) == i) rfl (fun h1 => ?_) (fun h1 => ?_)
  · skip
    have hq := dev_e h1
    refine SC.sr ?_
    refine SL.as ?_
    refine SL.nl ?_
    refine SC.ret ?_
    refine SE.blkr ?_
    refine SE.passr ?_
    refine SE.passr ?_
    refine SE.blkr ?_
    refine SE.passr ?_
    refine SE.res (.inl rfl) (res1 Try.results72 rfl) fun w1 hI => ⟨ret_bo ?_, hI.2⟩
    exact congrArg (!·) (host_no h0 hn hq)
  have hq := dev_q h1
  refine SC.skip ?_
  refine SE.blkn ?_
  refine SC.of_SE ?_
  refine SC.region ?_
  refine SL.mv ?_
  refine SL.uu (ru_add (r := (IntKind.i64.wrap (((t - (n : Int)) % 16) + 1))) rfl rfl rfl rfl) ?_
  refine SL.uu (ru_rem (r := (Int.tmod (IntKind.i64.wrap (((t - (n : Int)) % 16) + 1)) 16)) rfl rfl rfl (by decide) rfl) ?_
  refine SL.as ?_
  refine SL.nil ?_
  refine SE.again (n - 1) () (by omega) ⟨by omega, fun j h1 h2 => ?_⟩ ⟨rfl, rfl, rfl, (congrArg (fun x => some (iw x)) (show Int.tmod (IntKind.i64.wrap (((t - (n : Int)) % 16) + 1)) 16 = (t - (((n - 1 : Nat) : Int) : Int)) % 16 from dev_nx (by omega))), trivial⟩ rfl
  by_cases e : j = n
  · subst e; simpa using hq
  · exact hne j (by omega) h2

end Go.Proofs.Ytcilikkljkdceaa

/-
  A device's ends where a frame was laid down in bytes of one's own; its events.
-/
namespace Go.Proofs.Ytcilikkljkdceaa
open Go.RowKit

theorem appV_new {t : World} {e : TypeId} {n k : Nat} (h : k ≤ t.heap.size) : ∀ b, (appV t e n).ownBlock = some b → k ≤ b := fun b hb => by have := appV_own hb; omega
theorem mine_in {v : Value} {S : Nat → Prop} (h : ∀ b, v.ownBlock = some b → S b) : sliceIn v S := fun b o n c e _ => h b (by rw [e]; rfl)
theorem NicAt.fin_txM {T U : TypeId} {w w' : World} {d n i : Nat} {F : Nat → Prop} {A : NicA} {tv cv : Nat → Value} {f : List UInt8} {v : Value} (hf : f.length ≤ 140737488351232) (hg : ∀ b, v.ownBlock = some b → w.heap.size ≤ b)
    (h : Inv ⟨n, w, fun b => b = d⟩ w' [rBlk d (nc A (up tv i v) cv) T, rFrs F tv cv A.tb A.cb, rMine v f U]) : NicTo T w d F { A with tb := up A.tb i f } w' := by
  have hd := h.1.2
  simp only [List.pairwise_cons] at hd
  have h1 : Blk w' d (nc A (up tv i v) cv) T := h.1.1 (rBlk d (nc A (up tv i v) cv) T) (by simp)
  have h2 : FrsAt w' F tv cv A.tb A.cb := h.1.1 (rFrs F tv cv A.tb A.cb) (by simp)
  have h3 : OwnBytes w' 0 U v f := h.1.1 (rMine v f U) (by simp)
  refine ⟨fun b => F b ∨ v.ownBlock = some b, ⟨up tv i v, cv, h1, ?_, ?_, ?_, ?_⟩, fun b hb => hb.imp id (fun e => hg b e), h.2⟩
  · rintro (hF | e)
    · exact hd.1 (rFrs F tv cv A.tb A.cb) (by simp) d rfl hF
    · exact hd.1 (rMine v f U) (by simp) d rfl e
  · rintro b (hF | e)
    · exact h2.1 b hF
    · exact (World.ownsRow.lt h3 b e).2
  · intro j hj
    by_cases e : j = i
    · subst e
      show BytesAt w' (up tv j _ j) (up A.tb j f j) ∧ sliceIn (up tv j _ j) _
      rw [up_same, up_same]
      exact ⟨h3.bytes hf, mine_in fun b hb => .inr hb⟩
    · show BytesAt w' (up tv i _ j) (up A.tb i f j) ∧ sliceIn (up tv i _ j) _
      rw [up_ne _ _ e, up_ne _ _ e]
      exact ⟨(h2.2.1 j hj).1, fun b o n c hv hn => .inl ((h2.2.1 j hj).2 b o n c hv hn)⟩
  · intro j hj
    exact ⟨(h2.2.2 j hj).1, fun b o n c hv hn => .inl ((h2.2.2 j hj).2 b o n c hv hn)⟩
section
variable {x : Int} (h : 0 ≤ x ∧ x < 8)
include h
end
end Go.Proofs.Ytcilikkljkdceaa

/-
  What a device's other calls do (the program's).
-/
namespace Go.Proofs.Ytcilikkljkdceaa
open Go.RowKit
set_option maxRecDepth 100000
set_option maxHeartbeats 4000000
theorem p_settx {w : World} {d : Nat} {F : Nat → Prop} {A : NicA} (hk : NicOk A) (h : NicAt 74 w d F A) {v : Value} {f : List UInt8} (hb : BytesAt w v f) (hs : sliceIn v (fun b => ¬ b = d)) (i : Int) : Calls Try.prog 10 #[pt d 0, iw i, v] w fun e w' => e = .returned (iw (setTxF A i f).1) ∧ NicTo 74 w d F (setTxF A i f).2 w' := by
  have hok := hk
  obtain ⟨r2, r3, r4, r5, r6, _, _, _⟩ := hok
  obtain ⟨a, c, rfl⟩ := hb.form
  have hbl := hb.len
  obtain ⟨tv, cv, hI⟩ := h.inv 28 (fun b => b = d)
  refine calls_sc (l0 := _) (args := [pt d 0, iw i, Value.slice a f.length c]) (fun b => b = d) Try.func10 rfl 28 Try.ntmps10 (le_b rfl) hI ?_
  show SC _ _ _ _ [(0, pt d 0), (1, iw i), (2, Value.slice a f.length c)] [rBlk d (nc A tv cv) 74, rFrs F tv cv A.tb A.cb]
  refine SC.sr ?_
  refine SL.as ?_
  refine SL.nl ?_
  refine SC.seq ?_
  refine SC.block ?_
  refine SC.sr ?_
  refine SL.mv ?_
  refine SL.mv ?_
  refine SL.callv (bo (hostB i (A.r 4) (A.r 5))) rfl rfl co31 rfl rfl rfl (lt_b rfl) (fun w hI => H_only hI (p_hosttx hk (NicAt.of hI) i)) ?_
  refine SL.uu (ru_not (c := (!(hostB i (A.r 4) (A.r 5)))) rfl rfl rfl) ?_
  refine SL.as ?_
  refine SL.nl ?_
  refine SC.both (!(hostB i (A.r 4) (A.r 5))) rfl (fun h1 => ?_) (fun h1 => ?_)
  · skip
    refine SC.sr ?_
    refine SL.as ?_
    refine SL.nl ?_
    refine SC.ret ?_
    refine SE.blkr ?_
    refine SE.passr ?_
    refine SE.res (.inl rfl) (res1 Try.results10 rfl) fun w1 hI => ?_
    have e : setTxF A i f = (1, A) := by
      try simp at h1
      unfold setTxF
      (repeat' split) <;> first | rfl | (exfalso; omega) | (exfalso; simp_all; done) | (exfalso; simp_all; omega)
    rw [e]
    exact ⟨rfl, NicAt.fin hI⟩
  have hi := host_bd1 h1
  refine SC.sr ?_
  refine SL.mv ?_
  refine SL.uu (ru_len Try.underlying28 rfl rfl) ?_
  refine SL.uu (ru_eq (b := (((f.length : Int) : Int) == 0)) rfl rfl rfl rfl) ?_
  refine SL.as ?_
  refine SL.nl ?_
  refine SC.both (((f.length : Int) : Int) == 0) rfl (fun h2 => ?_) (fun h2 => ?_)
  · skip
    refine SC.sr ?_
    refine SL.as ?_
    refine SL.nl ?_
    refine SC.ret ?_
    refine SE.blkr ?_
    refine SE.passr ?_
    refine SE.res (.inl rfl) (res1 Try.results10 rfl) fun w1 hI => ?_
    have e : setTxF A i f = (3, A) := by
      try simp at h1 h2
      unfold setTxF
      (repeat' split) <;> first | rfl | (exfalso; omega) | (exfalso; simp_all; done) | (exfalso; simp_all; omega)
    rw [e]
    exact ⟨rfl, NicAt.fin hI⟩
  refine SC.sr ?_
  refine SL.mv ?_
  refine SL.uu (ru_len Try.underlying28 rfl rfl) ?_
  refine SL.uu (ru_gt (b := (decide ((274 : Int) < (f.length : Int)))) rfl rfl rfl rfl) ?_
  refine SL.as ?_
  refine SL.nl ?_
  refine SC.both (decide ((274 : Int) < (f.length : Int))) rfl (fun h3 => ?_) (fun h3 => ?_)
  · skip
    refine SC.sr ?_
    refine SL.as ?_
    refine SL.nl ?_
    refine SC.ret ?_
    refine SE.blkr ?_
    refine SE.passr ?_
    refine SE.res (.inl rfl) (res1 Try.results10 rfl) fun w1 hI => ?_
    have e : setTxF A i f = (2, A) := by
      try simp at h1 h2 h3
      unfold setTxF
      (repeat' split) <;> first | rfl | (exfalso; omega) | (exfalso; simp_all; done) | (exfalso; simp_all; omega)
    rw [e]
    exact ⟨rfl, NicAt.fin hI⟩
  refine SC.skip ?_
  refine SE.blkn ?_
  refine SC.of_SE ?_
  refine SC.seq ?_
  refine SC.region_alloc 8 3 (fun b4 => rBlk b4 (f.map bv) 5) (by kernel_rfl) (by kernel_rfl) rfl (fun b4 hb4 => ?_)
  refine SS.ru _ CA.base rfl rfl rfl (lt_b rfl) (ru_move rfl rfl) ?_
  refine SS.ru _ CA.base rfl rfl rfl (lt_b rfl) (ru_move rfl rfl) ?_
  refine SS.ru _ CA.base rfl rfl rfl (lt_b rfl) (ru_move rfl rfl) ?_
  refine SS.newcall (sl b4 0 f.length f.length) rfl rfl co32 rfl rfl rfl (lt_b rfl) (fun w hI hz => (copied_any (hb.only hI.2 hs)).mono fun e w2 ⟨h1, h2, h3⟩ => ⟨by rw [h1, hz], hI.add h3 (hz ▸ h2) (fun q hq => by cases hq; rw [hz]; exact Nat.le_refl _)⟩) ?_
  refine SS.ru _ CA.base rfl rfl rfl (lt_b rfl) (ru_nilCheck rfl rfl) ?_
  refine SS.ru _ CA.base rfl rfl rfl (lt_b rfl) (ru_fieldAddr (o2 := 8) fd74_1 rfl rfl rfl) ?_
  refine SS.ru _ CA.base rfl rfl rfl (lt_b rfl) (ru_indexA (o2 := 8 + i.toNat * 2) ar69 rfl rfl rfl (by omega) (by omega) rfl) ?_
  refine SS.ru _ CA.base rfl rfl rfl (lt_b rfl) (ru_fieldAddr (o2 := (8 + i.toNat * 2)) fd67_0 rfl rfl rfl) ?_
  refine SS.nilA ?_
  refine SL.store (i := 0) (c' := (nc A (up tv i.toNat (sl b4 0 f.length f.length)) cv)) rfl rfl ts28 rfl rfl rfl rfl rfl (by rw [nc_len]; omega) (.inl rfl) (set_tv (by omega) (sl b4 0 f.length f.length)) ?_
  refine SL.nl ?_
  refine SC.sr ?_
  refine SL.as ?_
  refine SL.nl ?_
  refine SC.ret ?_
  refine SE.res (.inl rfl) (res1 Try.results10 rfl) fun w1 hI => ?_
  have e : setTxF A i f = (0, { A with tb := up A.tb i.toNat f }) := by
    try simp at h1 h2 h3
    unfold setTxF
    (repeat' split) <;> first | rfl | (exfalso; omega) | (exfalso; simp_all; done) | (exfalso; simp_all; omega)
  rw [e]
  exact ⟨rfl, NicAt.fin_tx hbl hb4 hI⟩

theorem p_setrx {w : World} {d : Nat} {F : Nat → Prop} {A : NicA} (hk : NicOk A) (h : NicAt 74 w d F A) (i room : Int) : Calls Try.prog 37 #[pt d 0, iw i, iw room] w fun e w' => e = .returned (iw (setRxF A i room).1) ∧ NicTo 74 w d F (setRxF A i room).2 w' := by
  have hok := hk
  obtain ⟨r2, r3, r4, r5, r6, _, _, _⟩ := hok
  obtain ⟨tv, cv, hI⟩ := h.inv 26 (fun b => b = d)
  refine calls_sc (l0 := _) (args := [pt d 0, iw i, iw room]) (fun b => b = d) Try.func37 rfl 26 Try.ntmps37 (le_b rfl) hI ?_
  show SC _ _ _ _ [(0, pt d 0), (1, iw i), (2, iw room)] [rBlk d (nc A tv cv) 74, rFrs F tv cv A.tb A.cb]
  refine SC.sr ?_
  refine SL.as ?_
  refine SL.nl ?_
  refine SC.seq ?_
  refine SC.sr ?_
  refine SL.mv ?_
  refine SL.mv ?_
  refine SL.callv (bo (hostB i (A.r 2) (A.r 3))) rfl rfl co31 rfl rfl rfl (lt_b rfl) (fun w hI => H_only hI (p_hostrx hk (NicAt.of hI) i)) ?_
  refine SL.uu (ru_not (c := (!(hostB i (A.r 2) (A.r 3)))) rfl rfl rfl) ?_
  refine SL.mv ?_
  refine SL.join 3 [(0, pt d 0), (1, iw i), (2, iw room), (6, iw 0), (7, pt d 0), (8, iw i), (9, bo (hostB i (A.r 2) (A.r 3))), (10, bo (!(hostB i (A.r 2) (A.r 3)))), (11, bo (!(hostB i (A.r 2) (A.r 3)))), (14, bo ((!(hostB i (A.r 2) (A.r 3))) || (decide ((room : Int) < 0))))] [rBlk d (nc A tv cv) 74, rFrs F tv cv A.tb A.cb] ?_ ?_
  rotate_left
  · intro K hK
    rcases tf (!(hostB i (A.r 2) (A.r 3))) with h1 | h1
    · skip
      refine SL.norm [(0, pt d 0), (1, iw i), (2, iw room), (6, iw 0), (7, pt d 0), (8, iw i), (9, bo (hostB i (A.r 2) (A.r 3))), (10, bo true), (11, bo true)] _ ⟨rfl, rfl, rfl, rfl, rfl, rfl, rfl, (congrArg (fun x => some (Value.bool x)) h1), (congrArg (fun x => some (Value.bool x)) h1), trivial⟩ rfl ?_
      refine SL.oo ?_
      refine SL.oo ?_
      refine SL.pk (bo true) (undef) ?_
      exact SL.joined hK ⟨rfl, rfl, rfl, rfl, rfl, rfl, rfl, (congrArg (fun x => some (Value.bool x)) h1.symm), (congrArg (fun x => some (Value.bool x)) h1.symm), (congrArg (fun bx => some (Value.bool (bx || (decide ((room : Int) < 0))))) h1.symm), trivial⟩ rfl
    refine SL.norm [(0, pt d 0), (1, iw i), (2, iw room), (6, iw 0), (7, pt d 0), (8, iw i), (9, bo (hostB i (A.r 2) (A.r 3))), (10, bo false), (11, bo false)] _ ⟨rfl, rfl, rfl, rfl, rfl, rfl, rfl, (congrArg (fun x => some (Value.bool x)) h1), (congrArg (fun x => some (Value.bool x)) h1), trivial⟩ rfl ?_
    refine SL.gg (ru_move rfl rfl) ?_
    refine SL.gg (ru_lt (b := (decide ((room : Int) < 0))) rfl rfl rfl rfl) ?_
    refine SL.pk (bo true) (bo (decide ((room : Int) < 0))) ?_
    exact SL.joined hK ⟨rfl, rfl, rfl, rfl, rfl, rfl, rfl, (congrArg (fun x => some (Value.bool x)) h1.symm), (congrArg (fun x => some (Value.bool x)) h1.symm), (congrArg (fun bx => some (Value.bool (bx || (decide ((room : Int) < 0))))) h1.symm), trivial⟩ rfl
  skip
  refine SL.mv ?_
  refine SL.join 3 [(0, pt d 0), (1, iw i), (2, iw room), (6, iw 0), (7, pt d 0), (8, iw i), (9, bo (hostB i (A.r 2) (A.r 3))), (10, bo (!(hostB i (A.r 2) (A.r 3)))), (11, bo (!(hostB i (A.r 2) (A.r 3)))), (14, bo ((!(hostB i (A.r 2) (A.r 3))) || (decide ((room : Int) < 0)))), (15, bo ((!(hostB i (A.r 2) (A.r 3))) || (decide ((room : Int) < 0)))), (18, bo (((!(hostB i (A.r 2) (A.r 3))) || (decide ((room : Int) < 0))) || (decide ((65535 : Int) < room))))] [rBlk d (nc A tv cv) 74, rFrs F tv cv A.tb A.cb] ?_ ?_
  rotate_left
  · intro K hK
    rcases tf ((!(hostB i (A.r 2) (A.r 3))) || (decide ((room : Int) < 0))) with h2 | h2
    · skip
      refine SL.norm [(0, pt d 0), (1, iw i), (2, iw room), (6, iw 0), (7, pt d 0), (8, iw i), (9, bo (hostB i (A.r 2) (A.r 3))), (10, bo (!(hostB i (A.r 2) (A.r 3)))), (11, bo (!(hostB i (A.r 2) (A.r 3)))), (14, bo true), (15, bo true)] _ ⟨rfl, rfl, rfl, rfl, rfl, rfl, rfl, rfl, rfl, (congrArg (fun x => some (Value.bool x)) h2), (congrArg (fun x => some (Value.bool x)) h2), trivial⟩ rfl ?_
      refine SL.oo ?_
      refine SL.oo ?_
      refine SL.pk (bo true) (undef) ?_
      exact SL.joined hK ⟨rfl, rfl, rfl, rfl, rfl, rfl, rfl, rfl, rfl, (congrArg (fun x => some (Value.bool x)) h2.symm), (congrArg (fun x => some (Value.bool x)) h2.symm), (congrArg (fun bx => some (Value.bool (bx || (decide ((65535 : Int) < room))))) h2.symm), trivial⟩ rfl
    refine SL.norm [(0, pt d 0), (1, iw i), (2, iw room), (6, iw 0), (7, pt d 0), (8, iw i), (9, bo (hostB i (A.r 2) (A.r 3))), (10, bo (!(hostB i (A.r 2) (A.r 3)))), (11, bo (!(hostB i (A.r 2) (A.r 3)))), (14, bo false), (15, bo false)] _ ⟨rfl, rfl, rfl, rfl, rfl, rfl, rfl, rfl, rfl, (congrArg (fun x => some (Value.bool x)) h2), (congrArg (fun x => some (Value.bool x)) h2), trivial⟩ rfl ?_
    refine SL.gg (ru_move rfl rfl) ?_
    refine SL.gg (ru_gt (b := (decide ((65535 : Int) < room))) rfl rfl rfl rfl) ?_
    refine SL.pk (bo true) (bo (decide ((65535 : Int) < room))) ?_
    exact SL.joined hK ⟨rfl, rfl, rfl, rfl, rfl, rfl, rfl, rfl, rfl, (congrArg (fun x => some (Value.bool x)) h2.symm), (congrArg (fun x => some (Value.bool x)) h2.symm), (congrArg (fun bx => some (Value.bool (bx || (decide ((65535 : Int) < room))))) h2.symm), trivial⟩ rfl
  skip
  refine SL.nl ?_
  refine SC.both (((!(hostB i (A.r 2) (A.r 3))) || (decide ((room : Int) < 0))) || (decide ((65535 : Int) < room))) rfl (fun h3 => ?_) (fun h3 => ?_)
  · skip
    refine SC.sr ?_
    refine SL.as ?_
    refine SL.nl ?_
    refine SC.ret ?_
    refine SE.passr ?_
    refine SE.res (.inl rfl) (res1 Try.results37 rfl) fun w1 hI => ?_
    have e : setRxF A i room = (1, A) := by
      try simp at h3
      unfold setRxF
      (repeat' split) <;> first | rfl | (exfalso; omega) | (exfalso; simp_all; done) | (exfalso; simp_all; omega)
    rw [e]
    exact ⟨rfl, NicAt.fin hI⟩
  have hi := host_bd3 h3
  refine SC.skip ?_
  refine SC.of_SE ?_
  refine SC.sr ?_
  refine SL.mv ?_
  refine SL.mv ?_
  refine SL.mv ?_
  refine SL.uu (ru_build (vals := [(0, iw room)]) (cells := [iw room, bo false, Value.slice none 0 0, bo false]) rfl rfl (by kernel_rfl)) ?_
  refine SL.nk ?_
  refine SL.fa 40 fd74_2 ?_
  refine SL.uu (ru_indexA (o2 := 40 + i.toNat * 4) ar72 rfl rfl rfl (by omega) (by omega) rfl) ?_
  refine SL.storea (i := 0) (vs := [iw room, bo false, Value.slice none 0 0, bo false]) (c' := (nc { A with room := up A.room i.toNat room, has := up A.has i.toNat false, bad := up A.bad i.toNat false } tv (up cv i.toNat (Value.slice none 0 0)))) rfl rfl ta71 rfl rfl rfl rfl rfl rfl (by rw [nc_len]; simp; omega) (.inl rfl) (set_rx (by omega) room false false (Value.slice none 0 0)) ?_
  refine SL.nl ?_
  refine SC.sr ?_
  refine SL.as ?_
  refine SL.nl ?_
  refine SC.ret ?_
  refine SE.res (.inl rfl) (res1 Try.results37 rfl) fun w1 hI => ?_
  have e : setRxF A i room = (0, { A with cb := up A.cb i.toNat [], room := up A.room i.toNat room, has := up A.has i.toNat false, bad := up A.bad i.toNat false }) := by
    try simp at h3
    unfold setRxF
    (repeat' split) <;> first | rfl | (exfalso; omega) | (exfalso; simp_all; done) | (exfalso; simp_all; omega)
  rw [e]
  exact ⟨rfl, NicAt.fin_no hI⟩

theorem p_give {w : World} {d : Nat} {F : Nat → Prop} {A : NicA} (hk : NicOk A) (h : NicAt 74 w d F A) {v : Value} {f : List UInt8} (hb : BytesAt w v f) (hs : sliceIn v (fun b => ¬ b = d)) (bad : Bool) : Calls Try.prog 58 #[pt d 0, v, bo bad] w fun e w' => e = .returned (iw (giveF A f bad).1) ∧ NicTo 74 w d F (giveF A f bad).2 w' := by
  have hok := hk
  obtain ⟨r2, r3, r4, r5, r6, _, _, _⟩ := hok
  obtain ⟨a, c, rfl⟩ := hb.form
  have hbl := hb.len
  obtain ⟨tv, cv, hI⟩ := h.inv 84 (fun b => b = d)
  refine calls_sc (l0 := _) (args := [pt d 0, Value.slice a f.length c, bo bad]) (fun b => b = d) Try.func58 rfl 84 Try.ntmps58 (le_b rfl) hI ?_
  show SC _ _ _ _ [(0, pt d 0), (1, Value.slice a f.length c), (2, bo bad)] [rBlk d (nc A tv cv) 74, rFrs F tv cv A.tb A.cb]
  refine SC.sr ?_
  refine SL.as ?_
  refine SL.nl ?_
  refine SC.sr ?_
  refine SL.mv ?_
  refine SL.nk ?_
  refine SL.fa 0 fd74_0 ?_
  refine SL.ia 2 ar68 ?_
  refine SL.uu (ru_load (i := 0) (v := iw (A.r 2)) ts3 rfl rfl rfl (nc_r (by decide))) ?_
  refine SL.as ?_
  refine SL.nl ?_
  refine SC.seq ?_
  refine SC.block ?_
  refine SC.sr ?_
  refine SL.mv ?_
  refine SL.callv (bo (offB A)) rfl rfl co68 rfl rfl rfl (lt_b rfl) (fun w hI => H_only hI (p_off hk (NicAt.of hI))) ?_
  refine SL.as ?_
  refine SL.nl ?_
  refine SC.both (offB A) rfl (fun h1 => ?_) (fun h1 => ?_)
  · skip
    refine SC.sr ?_
    refine SL.as ?_
    refine SL.nl ?_
    refine SC.ret ?_
    refine SE.blkr ?_
    refine SE.passr ?_
    refine SE.res (.inl rfl) (res1 Try.results58 rfl) fun w1 hI => ?_
    have e : giveF A f bad = (20, A) := by
      try simp at h1
      unfold giveF
      (repeat' split) <;> first | rfl | (exfalso; omega) | (exfalso; simp_all; done) | (exfalso; simp_all; omega)
    rw [e]
    exact ⟨rfl, NicAt.fin hI⟩
  refine SC.sr ?_
  refine SL.mv ?_
  refine SL.mv ?_
  refine SL.nk ?_
  refine SL.fa 0 fd74_0 ?_
  refine SL.ia 3 ar68 ?_
  refine SL.uu (ru_load (i := 0) (v := iw (A.r 3)) ts3 rfl rfl rfl (nc_r (by decide))) ?_
  refine SL.uu (ru_eq (b := (((A.r 2) : Int) == (A.r 3))) rfl rfl rfl rfl) ?_
  refine SL.as ?_
  refine SL.nl ?_
  refine SC.both (((A.r 2) : Int) == (A.r 3)) rfl (fun h2 => ?_) (fun h2 => ?_)
  · skip
    refine SC.seq ?_
    refine SC.region_tail 9 (by kernel_rfl) (by kernel_rfl) ?_
    refine SQ.mv ?_
    refine SQ.nk ?_
    refine SQ.fa 0 fd74_0 ?_
    refine SQ.ia 7 ar68 ?_
    refine SQ.uu (ru_load (i := 0) (v := iw (A.r 7)) ts3 rfl rfl rfl (nc_r (by decide))) ?_
    refine SQ.uu (ru_add (r := (IntKind.i64.wrap ((A.r 7) + 1))) rfl rfl rfl rfl) ?_
    refine SQ.nk ?_
    refine SQ.fa 0 fd74_0 ?_
    refine SQ.ia 7 ar68 ?_
    refine SQ.nilL ?_
    refine SL.store (i := 0) (c' := (nc { A with r := up A.r 7 (IntKind.i64.wrap ((A.r 7) + 1)) } tv cv)) rfl rfl ts3 rfl rfl rfl rfl rfl (by rw [nc_len]; omega) (.inl rfl) (set_r (by decide) (IntKind.i64.wrap ((A.r 7) + 1))) ?_
    refine SL.nl ?_
    refine SC.sr ?_
    refine SL.as ?_
    refine SL.nl ?_
    refine SC.ret ?_
    refine SE.blkr ?_
    refine SE.passr ?_
    refine SE.res (.inl rfl) (res1 Try.results58 rfl) fun w1 hI => ?_
    have e : giveF A f bad = (21, { A with r := up A.r 7 (IntKind.i64.wrap ((A.r 7) + 1)) }) := by
      try simp at h1 h2
      unfold giveF
      (repeat' split) <;> first | rfl | (exfalso; omega) | (exfalso; simp_all; done) | (exfalso; simp_all; omega)
    rw [e]
    exact ⟨rfl, NicAt.fin hI⟩
  refine SC.sr ?_
  refine SL.mv ?_
  refine SL.uu (ru_len Try.underlying28 rfl rfl) ?_
  refine SL.mv ?_
  refine SL.mv ?_
  refine SL.nk ?_
  refine SL.fa 40 fd74_2 ?_
  refine SL.uu (ru_indexA (o2 := 40 + ((A.r 2).toNat) * 4) ar72 rfl rfl rfl (by omega) (by omega) rfl) ?_
  refine SL.fa (40 + ((A.r 2).toNat) * 4) fd71_0 ?_
  refine SL.uu (ru_load (i := 0) (v := iw (A.room ((A.r 2).toNat))) ts3 rfl rfl rfl (nc_room (by omega))) ?_
  refine SL.uu (ru_gt (b := (decide (((A.room ((A.r 2).toNat)) : Int) < (f.length : Int)))) rfl rfl rfl rfl) ?_
  refine SL.as ?_
  refine SL.nl ?_
  refine SC.both (decide (((A.room ((A.r 2).toNat)) : Int) < (f.length : Int))) rfl (fun h3 => ?_) (fun h3 => ?_)
  · skip
    refine SC.seq ?_
    refine SC.region_tail 9 (by kernel_rfl) (by kernel_rfl) ?_
    refine SQ.mv ?_
    refine SQ.nk ?_
    refine SQ.fa 0 fd74_0 ?_
    refine SQ.ia 7 ar68 ?_
    refine SQ.uu (ru_load (i := 0) (v := iw (A.r 7)) ts3 rfl rfl rfl (nc_r (by decide))) ?_
    refine SQ.uu (ru_add (r := (IntKind.i64.wrap ((A.r 7) + 1))) rfl rfl rfl rfl) ?_
    refine SQ.nk ?_
    refine SQ.fa 0 fd74_0 ?_
    refine SQ.ia 7 ar68 ?_
    refine SQ.nilL ?_
    refine SL.store (i := 0) (c' := (nc { A with r := up A.r 7 (IntKind.i64.wrap ((A.r 7) + 1)) } tv cv)) rfl rfl ts3 rfl rfl rfl rfl rfl (by rw [nc_len]; omega) (.inl rfl) (set_r (by decide) (IntKind.i64.wrap ((A.r 7) + 1))) ?_
    refine SL.nn [(0, pt d 0), (1, Value.slice a f.length c), (2, bo bad), (6, iw 0), (7, iw (A.r 2))] _ ⟨rfl, rfl, rfl, rfl, rfl, trivial⟩ ?_
    refine SC.sr ?_
    refine SL.as ?_
    refine SL.nl ?_
    refine SC.ret ?_
    refine SE.blkr ?_
    refine SE.passr ?_
    refine SE.res (.inl rfl) (res1 Try.results58 rfl) fun w1 hI => ?_
    have e : giveF A f bad = (2, { A with r := up A.r 7 (IntKind.i64.wrap ((A.r 7) + 1)) }) := by
      try simp at h1 h2 h3
      unfold giveF
      (repeat' split) <;> first | rfl | (exfalso; omega) | (exfalso; simp_all; done) | (exfalso; simp_all; omega)
    rw [e]
    exact ⟨rfl, NicAt.fin hI⟩
  refine SC.skip ?_
  refine SE.blkn ?_
  refine SC.of_SE ?_
  refine SC.seq ?_
  refine SC.region_alloc 16 10 (fun b4 => rBlk b4 (f.map bv) 5) (by kernel_rfl) (by kernel_rfl) rfl (fun b4 hb4 => ?_)
  refine SS.ru _ CA.base rfl rfl rfl (lt_b rfl) (ru_move rfl rfl) ?_
  refine SS.ru _ CA.base rfl rfl rfl (lt_b rfl) (ru_move rfl rfl) ?_
  refine SS.ru _ CA.base rfl rfl rfl (lt_b rfl) (ru_move rfl rfl) ?_
  refine SS.ru _ CA.base rfl rfl rfl (lt_b rfl) (ru_move rfl rfl) ?_
  refine SS.ru _ CA.base rfl rfl rfl (lt_b rfl) (ru_nilCheck rfl rfl) ?_
  refine SS.ru _ CA.base rfl rfl rfl (lt_b rfl) (ru_fieldAddr (o2 := 40) fd74_2 rfl rfl rfl) ?_
  refine SS.ru _ CA.base rfl rfl rfl (lt_b rfl) (ru_indexA (o2 := 40 + ((A.r 2).toNat) * 4) ar72 rfl rfl rfl (by omega) (by omega) rfl) ?_
  refine SS.ru _ CA.base rfl rfl rfl (lt_b rfl) (ru_fieldAddr (o2 := (40 + ((A.r 2).toNat) * 4)) fd71_0 rfl rfl rfl) ?_
  refine SS.ru _ CA.base rfl rfl rfl (lt_b rfl) (ru_load (i := 0) (v := iw (A.room ((A.r 2).toNat))) ts3 rfl rfl rfl (nc_room (by omega))) ?_
  refine SS.ru _ CA.base rfl rfl rfl (lt_b rfl) (ru_move rfl rfl) ?_
  refine SS.newcall (sl b4 0 f.length f.length) rfl rfl co32 rfl rfl rfl (lt_b rfl) (fun w hI hz => (copied_any (hb.only hI.2 hs)).mono fun e w2 ⟨h1, h2, h3⟩ => ⟨by rw [h1, hz], hI.add h3 (hz ▸ h2) (fun q hq => by cases hq; rw [hz]; exact Nat.le_refl _)⟩) ?_
  refine SS.ru _ CA.base rfl rfl rfl (lt_b rfl) (ru_move rfl rfl) ?_
  refine SS.ru _ CA.base rfl rfl rfl (lt_b rfl) (ru_build (vals := [(0, iw (A.room ((A.r 2).toNat))), (1, bo true), (2, sl b4 0 f.length f.length), (3, bo bad)]) (cells := [iw (A.room ((A.r 2).toNat)), bo true, sl b4 0 f.length f.length, bo bad]) rfl rfl (by kernel_rfl)) ?_
  refine SS.ru _ CA.base rfl rfl rfl (lt_b rfl) (ru_nilCheck rfl rfl) ?_
  refine SS.ru _ CA.base rfl rfl rfl (lt_b rfl) (ru_fieldAddr (o2 := 40) fd74_2 rfl rfl rfl) ?_
  refine SS.ru _ CA.base rfl rfl rfl (lt_b rfl) (ru_indexA (o2 := 40 + ((A.r 2).toNat) * 4) ar72 rfl rfl rfl (by omega) (by omega) rfl) ?_
  refine SS.nilA ?_
  refine SL.storea (i := 0) (vs := [iw (A.room ((A.r 2).toNat)), bo true, sl b4 0 f.length f.length, bo bad]) (c' := (nc { A with room := up A.room ((A.r 2).toNat) (A.room ((A.r 2).toNat)), has := up A.has ((A.r 2).toNat) true, bad := up A.bad ((A.r 2).toNat) bad } tv (up cv ((A.r 2).toNat) (sl b4 0 f.length f.length)))) rfl rfl ta71 rfl rfl rfl rfl rfl rfl (by rw [nc_len]; simp; omega) (.inl rfl) (set_rx (by omega) (A.room ((A.r 2).toNat)) true bad (sl b4 0 f.length f.length)) ?_
  refine SL.nr [rBlk d (nc { A with room := up A.room ((A.r 2).toNat) (A.room ((A.r 2).toNat)), has := up A.has ((A.r 2).toNat) true, bad := up A.bad ((A.r 2).toNat) bad } tv (up cv ((A.r 2).toNat) (sl b4 0 f.length f.length))) 74, rFrs F tv cv A.tb A.cb, rBlk b4 (f.map bv) 5] ?_
  refine SC.seq ?_
  refine SC.region_tail 6 (by kernel_rfl) (by kernel_rfl) ?_
  refine SQ.mv ?_
  refine SQ.mv ?_
  refine SQ.call (iw (nx (A.r 2))) rfl rfl co33 rfl rfl rfl (lt_b rfl) (fun w hI => H_same hI (next_any w (by omega))) ?_
  refine SQ.nk ?_
  refine SQ.fa 0 fd74_0 ?_
  refine SQ.ia 2 ar68 ?_
  refine SQ.nilL ?_
  refine SL.store (i := 0) (c' := (nc { A with r := up A.r 2 (nx (A.r 2)), room := up A.room ((A.r 2).toNat) (A.room ((A.r 2).toNat)), has := up A.has ((A.r 2).toNat) true, bad := up A.bad ((A.r 2).toNat) bad } tv (up cv ((A.r 2).toNat) (sl b4 0 f.length f.length)))) rfl rfl ts3 rfl rfl rfl rfl rfl (by rw [nc_len]; omega) (.inl rfl) (set_r (by decide) (nx (A.r 2))) ?_
  refine SL.nl ?_
  refine SC.seq ?_
  refine SC.region_tail 9 (by kernel_rfl) (by kernel_rfl) ?_
  refine SQ.mv ?_
  refine SQ.nk ?_
  refine SQ.fa 0 fd74_0 ?_
  refine SQ.ia 6 ar68 ?_
  refine SQ.uu (ru_load (i := 0) (v := iw (A.r 6)) ts3 rfl rfl rfl (nc_r (by decide))) ?_
  refine SQ.uu (ru_or (r := (bits .or .i64 (A.r 6) 1)) rfl rfl rfl rfl) ?_
  refine SQ.nk ?_
  refine SQ.fa 0 fd74_0 ?_
  refine SQ.ia 6 ar68 ?_
  refine SQ.nilL ?_
  refine SL.store (i := 0) (c' := (nc { A with r := up (up A.r 2 (nx (A.r 2))) 6 (bits .or .i64 (A.r 6) 1), room := up A.room ((A.r 2).toNat) (A.room ((A.r 2).toNat)), has := up A.has ((A.r 2).toNat) true, bad := up A.bad ((A.r 2).toNat) bad } tv (up cv ((A.r 2).toNat) (sl b4 0 f.length f.length)))) rfl rfl ts3 rfl rfl rfl rfl rfl (by rw [nc_len]; omega) (.inl rfl) (set_r (by decide) (bits .or .i64 (A.r 6) 1)) ?_
  refine SL.nl ?_
  refine SC.sr ?_
  refine SL.as ?_
  refine SL.nl ?_
  refine SC.ret ?_
  refine SE.res (.inl rfl) (res1 Try.results58 rfl) fun w1 hI => ?_
  have e : giveF A f bad = (0, { A with cb := up A.cb (A.r 2).toNat f, r := up (up A.r 2 (nx (A.r 2))) 6 (bits .or .i64 (A.r 6) 1), room := up A.room ((A.r 2).toNat) (A.room ((A.r 2).toNat)), has := up A.has ((A.r 2).toNat) true, bad := up A.bad ((A.r 2).toNat) bad }) := by
    try simp at h1 h2 h3
    unfold giveF
    (repeat' split) <;> first | rfl | (exfalso; omega) | (exfalso; simp_all; done) | (exfalso; simp_all; omega)
  rw [e]
  exact ⟨rfl, NicAt.fin_rx hbl hb4 hI⟩

theorem p_take {w : World} {d : Nat} {F : Nat → Prop} {A : NicA} (hk : NicOk A) (h : NicAt 74 w d F A)  : Calls Try.prog 52 #[pt d 0] w fun e w' => ∃ v, e = .returned (.tuple #[.agg #[v, bo false, iw (takeR A).1.1.2], iw (takeR A).1.2]) ∧ NicAt 74 w' d F (takeR A).2 ∧ Only (fun b => b = d) w w' ∧ Out 5 w w' v (takeR A).1.1.1 := by
  have hok := hk
  obtain ⟨r2, r3, r4, r5, r6, _, _, _⟩ := hok
  obtain ⟨tv, cv, hI⟩ := h.inv 54 (fun b => b = d)
  refine calls_sc (l0 := _) (args := [pt d 0]) (fun b => b = d) Try.func52 rfl 54 Try.ntmps52 (le_b rfl) hI ?_
  show SC _ _ _ _ [(0, pt d 0)] [rBlk d (nc A tv cv) 74, rFrs F tv cv A.tb A.cb]
  refine SC.sr ?_
  refine SL.alloca rfl rfl (lt_b rfl) ta46 rfl fun b1 hb1 => ?_
  refine SL.as ?_
  refine SL.nl ?_
  refine SC.sr ?_
  refine SL.mv ?_
  refine SL.nk ?_
  refine SL.fa 0 fd74_0 ?_
  refine SL.ia 4 ar68 ?_
  refine SL.uu (ru_load (i := 0) (v := iw (A.r 4)) ts3 rfl rfl rfl (nc_r (by decide))) ?_
  refine SL.as ?_
  refine SL.nl ?_
  refine SC.seq ?_
  refine SC.block ?_
  refine SC.sr ?_
  refine SL.mv ?_
  refine SL.callv (bo (offB A)) rfl rfl co68 rfl rfl rfl (lt_b rfl) (fun w hI => H_only hI (p_off hk (NicAt.of hI))) ?_
  refine SL.as ?_
  refine SL.nl ?_
  refine SC.both (offB A) rfl (fun h2 => ?_) (fun h2 => ?_)
  · skip
    refine SC.sr ?_
    refine SL.uu (ru_build (vals := []) (cells := [Value.slice none 0 0, bo false, iw 0]) rfl rfl (by kernel_rfl)) ?_
    refine SL.storea (i := 2) (vs := [Value.slice none 0 0, bo false, iw 0]) (c' := [Value.slice none 0 0, bo false, iw 0]) rfl rfl ta46 rfl rfl rfl rfl rfl rfl (le_b rfl) (.inr hb1) rfl ?_
    refine SL.as ?_
    refine SL.nl ?_
    refine SC.ret ?_
    refine SE.blkr ?_
    refine SE.passr ?_
    refine SE.res (.inl rfl) (res_ct (z := [Value.slice none 0 0, bo false, iw 0]) (c := [Value.slice none 0 0, bo false, iw 0]) Try.results52 ta46 rfl rfl 2 rfl rfl) fun w1 hI => ?_
    have e : takeR A = ((([], 0), 20), A) := by
      try simp at h2
      unfold takeR
      (repeat' split) <;> first | rfl | (exfalso; omega) | (exfalso; simp_all; done) | (exfalso; simp_all; omega)
    rw [e]
    exact ⟨_, rfl, NicAt.of hI, hI.2, .inl ⟨rfl, rfl⟩⟩
  refine SC.sr ?_
  refine SL.mv ?_
  refine SL.mv ?_
  refine SL.nk ?_
  refine SL.fa 0 fd74_0 ?_
  refine SL.ia 5 ar68 ?_
  refine SL.uu (ru_load (i := 0) (v := iw (A.r 5)) ts3 rfl rfl rfl (nc_r (by decide))) ?_
  refine SL.uu (ru_eq (b := (((A.r 4) : Int) == (A.r 5))) rfl rfl rfl rfl) ?_
  refine SL.as ?_
  refine SL.nl ?_
  refine SC.both (((A.r 4) : Int) == (A.r 5)) rfl (fun h3 => ?_) (fun h3 => ?_)
  · skip
    refine SC.sr ?_
    refine SL.uu (ru_build (vals := []) (cells := [Value.slice none 0 0, bo false, iw 0]) rfl rfl (by kernel_rfl)) ?_
    refine SL.storea (i := 2) (vs := [Value.slice none 0 0, bo false, iw 0]) (c' := [Value.slice none 0 0, bo false, iw 0]) rfl rfl ta46 rfl rfl rfl rfl rfl rfl (le_b rfl) (.inr hb1) rfl ?_
    refine SL.as ?_
    refine SL.nl ?_
    refine SC.ret ?_
    refine SE.blkr ?_
    refine SE.passr ?_
    refine SE.res (.inl rfl) (res_ct (z := [Value.slice none 0 0, bo false, iw 0]) (c := [Value.slice none 0 0, bo false, iw 0]) Try.results52 ta46 rfl rfl 2 rfl rfl) fun w1 hI => ?_
    have e : takeR A = ((([], 0), 7), A) := by
      try simp at h2 h3
      unfold takeR
      (repeat' split) <;> first | rfl | (exfalso; omega) | (exfalso; simp_all; done) | (exfalso; simp_all; omega)
    rw [e]
    exact ⟨_, rfl, NicAt.of hI, hI.2, .inl ⟨rfl, rfl⟩⟩
  refine SC.skip ?_
  refine SE.blkn ?_
  refine SC.of_SE ?_
  refine SC.seq ?_
  refine SC.region_tail 6 (by kernel_rfl) (by kernel_rfl) ?_
  refine SQ.mv ?_
  refine SQ.mv ?_
  refine SQ.call (iw (nx (A.r 4))) rfl rfl co33 rfl rfl rfl (lt_b rfl) (fun w hI => H_same hI (next_any w (by omega))) ?_
  refine SQ.nk ?_
  refine SQ.fa 0 fd74_0 ?_
  refine SQ.ia 4 ar68 ?_
  refine SQ.nilL ?_
  refine SL.store (i := 0) (c' := (nc { A with r := up A.r 4 (nx (A.r 4)) } tv cv)) rfl rfl ts3 rfl rfl rfl rfl rfl (by rw [nc_len]; omega) (.inl rfl) (set_r (by decide) (nx (A.r 4))) ?_
  refine SL.nr [rBlk d (nc { A with r := up A.r 4 (nx (A.r 4)) } tv cv) 74, rFrs F tv cv A.tb A.cb, rBlk b1 [Value.slice none 0 0, bo false, iw 0] 46] ?_
  refine SC.seq ?_
  refine SC.region_tail 9 (by kernel_rfl) (by kernel_rfl) ?_
  refine SQ.mv ?_
  refine SQ.nk ?_
  refine SQ.fa 0 fd74_0 ?_
  refine SQ.ia 6 ar68 ?_
  refine SQ.uu (ru_load (i := 0) (v := iw (A.r 6)) ts3 rfl rfl rfl (nc_r (by decide))) ?_
  refine SQ.uu (ru_or (r := (bits .or .i64 (A.r 6) 2)) rfl rfl rfl rfl) ?_
  refine SQ.nk ?_
  refine SQ.fa 0 fd74_0 ?_
  refine SQ.ia 6 ar68 ?_
  refine SQ.nilL ?_
  refine SL.store (i := 0) (c' := (nc { A with r := up (up A.r 4 (nx (A.r 4))) 6 (bits .or .i64 (A.r 6) 2) } tv cv)) rfl rfl ts3 rfl rfl rfl rfl rfl (by rw [nc_len]; omega) (.inl rfl) (set_r (by decide) (bits .or .i64 (A.r 6) 2)) ?_
  refine SL.nl ?_
  refine SC.seq ?_
  refine SC.region_alloc 16 7 (fun b4 => rBlk b4 ((A.tb (A.r 4).toNat).map bv) 5) (by kernel_rfl) (by kernel_rfl) rfl (fun b4 hb4 => ?_)
  refine SS.ru _ CA.base rfl rfl rfl (lt_b rfl) (ru_move rfl rfl) ?_
  refine SS.ru _ CA.base rfl rfl rfl (lt_b rfl) (ru_move rfl rfl) ?_
  refine SS.ru _ CA.base rfl rfl rfl (lt_b rfl) (ru_nilCheck rfl rfl) ?_
  refine SS.ru _ CA.base rfl rfl rfl (lt_b rfl) (ru_fieldAddr (o2 := 8) fd74_1 rfl rfl rfl) ?_
  refine SS.ru _ CA.base rfl rfl rfl (lt_b rfl) (ru_indexA (o2 := 8 + ((A.r 4).toNat) * 2) ar69 rfl rfl rfl (by omega) (by omega) rfl) ?_
  refine SS.ru _ CA.base rfl rfl rfl (lt_b rfl) (ru_fieldAddr (o2 := (8 + ((A.r 4).toNat) * 2)) fd67_0 rfl rfl rfl) ?_
  refine SS.ru _ CA.base rfl rfl rfl (lt_b rfl) (ru_load (i := 0) (v := tv ((A.r 4).toNat)) ts28 rfl rfl rfl (nc_tv (by omega))) ?_
  refine SS.newcall (sl b4 0 ((A.tb (A.r 4).toNat).length) ((A.tb (A.r 4).toNat).length)) rfl rfl co32 rfl rfl rfl (lt_b rfl) (fun w hI hz => (copied_any (frs_tx hI (by omega))).mono fun e w2 ⟨h1, h2, h3⟩ => ⟨by rw [h1, hz], hI.add h3 (hz ▸ h2) (fun q hq => by cases hq; rw [hz]; exact Nat.le_refl _)⟩) ?_
  refine SS.ru _ CA.base rfl rfl rfl (lt_b rfl) (ru_move rfl rfl) ?_
  refine SS.ru _ CA.base rfl rfl rfl (lt_b rfl) (ru_move rfl rfl) ?_
  refine SS.ru _ CA.base rfl rfl rfl (lt_b rfl) (ru_nilCheck rfl rfl) ?_
  refine SS.ru _ CA.base rfl rfl rfl (lt_b rfl) (ru_fieldAddr (o2 := 8) fd74_1 rfl rfl rfl) ?_
  refine SS.ru _ CA.base rfl rfl rfl (lt_b rfl) (ru_indexA (o2 := 8 + ((A.r 4).toNat) * 2) ar69 rfl rfl rfl (by omega) (by omega) rfl) ?_
  refine SS.ru _ CA.base rfl rfl rfl (lt_b rfl) (ru_fieldAddr (o2 := (8 + ((A.r 4).toNat) * 2 + 1)) fd67_1 rfl rfl rfl) ?_
  refine SS.ru _ CA.base rfl rfl rfl (lt_b rfl) (ru_load (i := 0) (v := iw (A.tp ((A.r 4).toNat))) ts3 rfl rfl rfl (nc_tp (by omega))) ?_
  refine SS.ru _ CA.base rfl rfl rfl (lt_b rfl) (ru_build (vals := [(0, sl b4 0 ((A.tb (A.r 4).toNat).length) ((A.tb (A.r 4).toNat).length)), (2, iw (A.tp ((A.r 4).toNat)))]) (cells := [sl b4 0 ((A.tb (A.r 4).toNat).length) ((A.tb (A.r 4).toNat).length), bo false, iw (A.tp ((A.r 4).toNat))]) rfl rfl (by kernel_rfl)) ?_
  refine SS.nilA ?_
  refine SL.storea (i := 2) (vs := [sl b4 0 ((A.tb (A.r 4).toNat).length) ((A.tb (A.r 4).toNat).length), bo false, iw (A.tp ((A.r 4).toNat))]) (c' := [sl b4 0 ((A.tb (A.r 4).toNat).length) ((A.tb (A.r 4).toNat).length), bo false, iw (A.tp ((A.r 4).toNat))]) rfl rfl ta46 rfl rfl rfl rfl rfl rfl (le_b rfl) (.inr hb1) rfl ?_
  refine SL.as ?_
  refine SL.nn [(2, pt b1 0), (3, iw 0)] _ ⟨rfl, rfl, trivial⟩ ?_
  refine SC.ret ?_
  refine SE.res (.inl rfl) (res_ct (z := [Value.slice none 0 0, bo false, iw 0]) (c := [sl b4 0 ((A.tb (A.r 4).toNat).length) ((A.tb (A.r 4).toNat).length), bo false, iw (A.tp ((A.r 4).toNat))]) Try.results52 ta46 rfl rfl 2 rfl rfl) fun w1 hI => ?_
  have e : takeR A = (((A.tb (A.r 4).toNat, A.tp (A.r 4).toNat), 0), takeF A) := by
    try simp at h2 h3
    unfold takeR
    (repeat' split) <;> first | rfl | (exfalso; omega) | (exfalso; simp_all; done) | (exfalso; simp_all; omega)
  rw [e]
  exact ⟨_, rfl, NicAt.of hI, hI.2, .inr ⟨b4, hb4, rfl, hI.1.get (i := 3) rfl⟩⟩

theorem p_rx {w : World} {d : Nat} {F : Nat → Prop} {A : NicA} (hk : NicOk A) (h : NicAt 74 w d F A) (i : Int) : Calls Try.prog 38 #[pt d 0, iw i] w fun e w' => ∃ v, e = .returned (.tuple #[v, bo (rxR A i).1.2, iw (rxR A i).2]) ∧ Only (fun _ => False) w w' ∧ Out 5 w w' v (rxR A i).1.1 := by
  have hok := hk
  obtain ⟨r2, r3, r4, r5, r6, _, _, _⟩ := hok
  obtain ⟨tv, cv, hI⟩ := h.inv 38 (fun _ => False)
  refine calls_sc (l0 := _) (args := [pt d 0, iw i]) (fun _ => False) Try.func38 rfl 38 Try.ntmps38 (le_b rfl) hI ?_
  show SC _ _ _ _ [(0, pt d 0), (1, iw i)] [rBlk d (nc A tv cv) 74, rFrs F tv cv A.tb A.cb]
  refine SC.sr ?_
  refine SL.as ?_
  refine SL.as ?_
  refine SL.as ?_
  refine SL.nl ?_
  refine SC.seq ?_
  refine SC.block ?_
  refine SC.sr ?_
  refine SL.mv ?_
  refine SL.uu (ru_lt (b := (decide ((i : Int) < 0))) rfl rfl rfl rfl) ?_
  refine SL.mv ?_
  refine SL.join 3 [(0, pt d 0), (1, iw i), (4, Value.slice none 0 0), (5, bo false), (6, iw 0), (8, iw i), (9, bo (decide ((i : Int) < 0))), (10, bo (decide ((i : Int) < 0))), (13, bo ((decide ((i : Int) < 0)) || (decide ((16 : Int) ≤ i))))] [rBlk d (nc A tv cv) 74, rFrs F tv cv A.tb A.cb] ?_ ?_
  rotate_left
  · intro K hK
    rcases tf (decide ((i : Int) < 0)) with h1 | h1
    · skip
      refine SL.norm [(0, pt d 0), (1, iw i), (4, Value.slice none 0 0), (5, bo false), (6, iw 0), (8, iw i), (9, bo true), (10, bo true)] _ ⟨rfl, rfl, rfl, rfl, rfl, rfl, (congrArg (fun x => some (Value.bool x)) h1), (congrArg (fun x => some (Value.bool x)) h1), trivial⟩ rfl ?_
      refine SL.oo ?_
      refine SL.oo ?_
      refine SL.pk (bo true) (undef) ?_
      exact SL.joined hK ⟨rfl, rfl, rfl, rfl, rfl, rfl, (congrArg (fun x => some (Value.bool x)) h1.symm), (congrArg (fun x => some (Value.bool x)) h1.symm), (congrArg (fun bx => some (Value.bool (bx || (decide ((16 : Int) ≤ i))))) h1.symm), trivial⟩ rfl
    refine SL.norm [(0, pt d 0), (1, iw i), (4, Value.slice none 0 0), (5, bo false), (6, iw 0), (8, iw i), (9, bo false), (10, bo false)] _ ⟨rfl, rfl, rfl, rfl, rfl, rfl, (congrArg (fun x => some (Value.bool x)) h1), (congrArg (fun x => some (Value.bool x)) h1), trivial⟩ rfl ?_
    refine SL.gg (ru_move rfl rfl) ?_
    refine SL.gg (ru_ge (b := (decide ((16 : Int) ≤ i))) rfl rfl rfl rfl) ?_
    refine SL.pk (bo true) (bo (decide ((16 : Int) ≤ i))) ?_
    exact SL.joined hK ⟨rfl, rfl, rfl, rfl, rfl, rfl, (congrArg (fun x => some (Value.bool x)) h1.symm), (congrArg (fun x => some (Value.bool x)) h1.symm), (congrArg (fun bx => some (Value.bool (bx || (decide ((16 : Int) ≤ i))))) h1.symm), trivial⟩ rfl
  skip
  refine SL.as ?_
  refine SL.nl ?_
  refine SC.both ((decide ((i : Int) < 0)) || (decide ((16 : Int) ≤ i))) rfl (fun h2 => ?_) (fun h2 => ?_)
  · skip
    refine SC.sr ?_
    refine SL.as ?_
    refine SL.as ?_
    refine SL.as ?_
    refine SL.nl ?_
    refine SC.ret ?_
    refine SE.blkr ?_
    refine SE.passr ?_
    refine SE.res (.inl rfl) (res3 Try.results38 rfl rfl rfl) fun w1 hI => ?_
    have e : rxR A i = (([], false), 1) := by
      try simp at h2
      unfold rxR
      (repeat' split) <;> first | rfl | (exfalso; omega) | (exfalso; simp_all; done) | (exfalso; simp_all; omega)
    rw [e]
    exact ⟨_, rfl, hI.2, .inl ⟨rfl, rfl⟩⟩
  have hi := host_in h2
  refine SC.sr ?_
  refine SL.mv ?_
  refine SL.mv ?_
  refine SL.nk ?_
  refine SL.fa 40 fd74_2 ?_
  refine SL.uu (ru_indexA (o2 := 40 + i.toNat * 4) ar72 rfl rfl rfl (by omega) (by omega) rfl) ?_
  refine SL.fa (40 + i.toNat * 4 + 1) fd71_1 ?_
  refine SL.uu (ru_load (i := 0) (v := bo (A.has i.toNat)) ts4 rfl rfl rfl (nc_has (by omega))) ?_
  refine SL.uu (ru_not (c := (!(A.has i.toNat))) rfl rfl rfl) ?_
  refine SL.as ?_
  refine SL.nl ?_
  refine SC.both (!(A.has i.toNat)) rfl (fun h3 => ?_) (fun h3 => ?_)
  · skip
    refine SC.sr ?_
    refine SL.as ?_
    refine SL.as ?_
    refine SL.as ?_
    refine SL.nl ?_
    refine SC.ret ?_
    refine SE.blkr ?_
    refine SE.passr ?_
    refine SE.res (.inl rfl) (res3 Try.results38 rfl rfl rfl) fun w1 hI => ?_
    have e : rxR A i = (([], false), 7) := by
      try simp at h2 h3
      unfold rxR
      (repeat' split) <;> first | rfl | (exfalso; omega) | (exfalso; simp_all; done) | (exfalso; simp_all; omega)
    rw [e]
    exact ⟨_, rfl, hI.2, .inl ⟨rfl, rfl⟩⟩
  refine SC.skip ?_
  refine SE.blkn ?_
  refine SC.of_SE ?_
  refine SC.seq ?_
  refine SC.region_alloc0 7 (fun b4 => rBlk b4 ((A.cb i.toNat).map bv) 5) (by kernel_rfl) (by kernel_rfl) (by kernel_rfl) rfl (fun b4 hb4 => ?_)
  refine SS.ru _ CA.base rfl rfl rfl (lt_b rfl) (ru_move rfl rfl) ?_
  refine SS.ru _ CA.base rfl rfl rfl (lt_b rfl) (ru_move rfl rfl) ?_
  refine SS.ru _ CA.base rfl rfl rfl (lt_b rfl) (ru_nilCheck rfl rfl) ?_
  refine SS.ru _ CA.base rfl rfl rfl (lt_b rfl) (ru_fieldAddr (o2 := 40) fd74_2 rfl rfl rfl) ?_
  refine SS.ru _ CA.base rfl rfl rfl (lt_b rfl) (ru_indexA (o2 := 40 + i.toNat * 4) ar72 rfl rfl rfl (by omega) (by omega) rfl) ?_
  refine SS.ru _ CA.base rfl rfl rfl (lt_b rfl) (ru_fieldAddr (o2 := (40 + i.toNat * 4 + 2)) fd71_2 rfl rfl rfl) ?_
  refine SS.ru _ CA.base rfl rfl rfl (lt_b rfl) (ru_load (i := 0) (v := cv i.toNat) ts28 rfl rfl rfl (nc_cv (by omega))) ?_
  refine SS.newcall (sl b4 0 ((A.cb i.toNat).length) ((A.cb i.toNat).length)) rfl rfl co32 rfl rfl rfl (lt_b rfl) (fun w hI hz => (copied_any (frs_rx hI (by omega))).mono fun e w2 ⟨h1, h2, h3⟩ => ⟨by rw [h1, hz], hI.add h3 (hz ▸ h2) (fun q hq => by cases hq; rw [hz]; exact Nat.le_refl _)⟩) ?_
  refine SS.ru _ CA.base rfl rfl rfl (lt_b rfl) (ru_move rfl rfl) ?_
  refine SS.ru _ CA.base rfl rfl rfl (lt_b rfl) (ru_move rfl rfl) ?_
  refine SS.ru _ CA.base rfl rfl rfl (lt_b rfl) (ru_nilCheck rfl rfl) ?_
  refine SS.ru _ CA.base rfl rfl rfl (lt_b rfl) (ru_fieldAddr (o2 := 40) fd74_2 rfl rfl rfl) ?_
  refine SS.ru _ CA.base rfl rfl rfl (lt_b rfl) (ru_indexA (o2 := 40 + i.toNat * 4) ar72 rfl rfl rfl (by omega) (by omega) rfl) ?_
  refine SS.ru _ CA.base rfl rfl rfl (lt_b rfl) (ru_fieldAddr (o2 := (40 + i.toNat * 4 + 3)) fd71_3 rfl rfl rfl) ?_
  refine SS.ru _ CA.base rfl rfl rfl (lt_b rfl) (ru_load (i := 0) (v := bo (A.bad i.toNat)) ts4 rfl rfl rfl (nc_bad (by omega))) ?_
  refine SS.ru _ CA.base rfl rfl rfl (lt_b rfl) (ru_assign rfl rfl) ?_
  refine SS.ru _ CA.base rfl rfl rfl (lt_b rfl) (ru_assign rfl rfl) ?_
  refine SS.ru _ CA.base rfl rfl rfl (lt_b rfl) (ru_assign rfl rfl) ?_
  refine SS.nilE ?_
  refine SC.of_SE ?_
  refine SC.ret ?_
  refine SE.res (.inl rfl) (res3 Try.results38 rfl rfl rfl) fun w1 hI => ?_
  have e : rxR A i = ((A.cb i.toNat, A.bad i.toNat), 0) := by
    try simp at h2 h3
    unfold rxR
    (repeat' split) <;> first | rfl | (exfalso; omega) | (exfalso; simp_all; done) | (exfalso; simp_all; omega)
  rw [e]
  exact ⟨_, rfl, hI.2, .inr ⟨b4, hb4, rfl, hI.1.get (i := 2) rfl⟩⟩

end Go.Proofs.Ytcilikkljkdceaa

/-
  What a device's calls do (the program's).
-/
namespace Go.Proofs.Ytcilikkljkdceaa
open Go.RowKit
set_option maxRecDepth 100000
set_option maxHeartbeats 4000000
theorem p_old {w : World} {d : Nat} {F : Nat → Prop} {A : NicA} (hk : NicOk A) (h : NicAt 74 w d F A)  : Calls Try.prog 19 #[pt d 0] w fun e w' => e = .returned (.tuple #[iw (oldF A).1, bo (oldF A).2]) ∧ Only (fun _ => False) w w' := by
  have hok := hk
  obtain ⟨r2, r3, r4, r5, r6, _, _, _⟩ := hok
  obtain ⟨tv, cv, hI⟩ := h.inv 24 (fun _ => False)
  refine calls_sc (l0 := _) (args := [pt d 0]) (fun _ => False) Try.func19 rfl 24 Try.ntmps19 (le_b rfl) hI ?_
  show SC _ _ _ _ [(0, pt d 0)] [rBlk d (nc A tv cv) 74, rFrs F tv cv A.tb A.cb]
  refine SC.sr ?_
  refine SL.as ?_
  refine SL.as ?_
  refine SL.nl ?_
  refine SC.sr ?_
  refine SL.mv ?_
  refine SL.nk ?_
  refine SL.fa 0 fd74_0 ?_
  refine SL.ia 4 ar68 ?_
  refine SL.uu (ru_load (i := 0) (v := iw (A.r 4)) ts3 rfl rfl rfl (nc_r (by decide))) ?_
  refine SL.as ?_
  refine SL.nl ?_
  refine SC.seq ?_
  refine SC.sr ?_
  refine SL.mv ?_
  refine SL.mv ?_
  refine SL.nk ?_
  refine SL.fa 0 fd74_0 ?_
  refine SL.ia 5 ar68 ?_
  refine SL.uu (ru_load (i := 0) (v := iw (A.r 5)) ts3 rfl rfl rfl (nc_r (by decide))) ?_
  refine SL.uu (ru_eq (b := (((A.r 4) : Int) == (A.r 5))) rfl rfl rfl rfl) ?_
  refine SL.nl ?_
  refine SC.both (((A.r 4) : Int) == (A.r 5)) rfl (fun h1 => ?_) (fun h1 => ?_)
  · skip
    refine SC.sr ?_
    refine SL.as ?_
    refine SL.as ?_
    refine SL.nl ?_
    refine SC.ret ?_
    refine SE.passr ?_
    refine SE.res (.inl rfl) (res2 Try.results19 rfl rfl) fun w1 hI => ?_
    have e : oldF A = (0, false) := by
      try simp at h1
      unfold oldF
      (repeat' split) <;> first | rfl | (exfalso; omega) | (exfalso; simp_all; done) | (exfalso; simp_all; omega)
    rw [e]
    exact ⟨rfl, hI.2⟩
  refine SC.skip ?_
  refine SC.of_SE ?_
  refine SC.sr ?_
  refine SL.mv ?_
  refine SL.mv ?_
  refine SL.nk ?_
  refine SL.fa 8 fd74_1 ?_
  refine SL.uu (ru_indexA (o2 := 8 + ((A.r 4).toNat) * 2) ar69 rfl rfl rfl (by omega) (by omega) rfl) ?_
  refine SL.fa (8 + ((A.r 4).toNat) * 2 + 1) fd67_1 ?_
  refine SL.uu (ru_load (i := 0) (v := iw (A.tp ((A.r 4).toNat))) ts3 rfl rfl rfl (nc_tp (by omega))) ?_
  refine SL.as ?_
  refine SL.as ?_
  refine SL.nl ?_
  refine SC.ret ?_
  refine SE.res (.inl rfl) (res2 Try.results19 rfl rfl) fun w1 hI => ?_
  have e : oldF A = (A.tp ((A.r 4).toNat), true) := by
    try simp at h1
    unfold oldF
    (repeat' split) <;> first | rfl | (exfalso; omega) | (exfalso; simp_all; done) | (exfalso; simp_all; omega)
  rw [e]
  exact ⟨rfl, hI.2⟩
theorem p_tick {w : World} {d : Nat} {F : Nat → Prop} {A : NicA} (hk : NicOk A) (h : NicAt 74 w d F A)  : Calls Try.prog 49 #[pt d 0] w fun e w' => e = .returned (.tuple #[]) ∧ NicTo 74 w d F (tickF A) w' := by
  have hok := hk
  obtain ⟨r2, r3, r4, r5, r6, _, _, _⟩ := hok
  obtain ⟨tv, cv, hI⟩ := h.inv 9 (fun b => b = d)
  refine calls_sc (l0 := _) (args := [pt d 0]) (fun b => b = d) Try.func49 rfl 9 Try.ntmps49 (le_b rfl) hI ?_
  show SC _ _ _ _ [(0, pt d 0)] [rBlk d (nc A tv cv) 74, rFrs F tv cv A.tb A.cb]
  refine SC.region ?_
  refine SL.mv ?_
  refine SL.nk ?_
  refine SL.fa 104 fd74_3 ?_
  refine SL.uu (ru_load (i := 0) (v := iw A.clk) ts3 rfl rfl rfl nc_clk) ?_
  refine SL.uu (ru_add (r := (IntKind.i64.wrap (A.clk + 1))) rfl rfl rfl rfl) ?_
  refine SL.nk ?_
  refine SL.fa 104 fd74_3 ?_
  refine SL.store (i := 0) (c' := (nc { A with clk := IntKind.i64.wrap (A.clk + 1) } tv cv)) rfl rfl ts3 rfl rfl rfl rfl rfl (by rw [nc_len]; omega) (.inl rfl) (set_clk (IntKind.i64.wrap (A.clk + 1))) ?_
  refine SL.nil ?_
  refine SE.res (.inr rfl) (res0 Try.results49) fun w1 hI => ?_
  have e : tickF A = { A with clk := IntKind.i64.wrap (A.clk + 1) } := by
    unfold tickF
    (repeat' split) <;> first | rfl | (exfalso; omega) | (exfalso; simp_all; done) | (exfalso; simp_all; omega)
  rw [e]
  exact ⟨rfl, NicAt.fin hI⟩

end Go.Proofs.Ytcilikkljkdceaa

/-
  A tick goes by.
-/
namespace Go.Proofs.Ytcilikkljkdceaa
open Go.RowKit
set_option maxRecDepth 100000
set_option maxHeartbeats 4000000
theorem tick_any {w : World} {wd d0 d1 : Nat} {M : WM} {S : Wi} (hM : M.Ok S) (hk0 : NicOk S.A0) (hk1 : NicOk S.A1) (hn0 : S.L0.length ≤ 3000000000000) (hn1 : S.L1.length ≤ 3000000000000) (h : Sep w (WLm 74 77 46 wd d0 d1 M S.A0 S.A1 S.now)) : Calls Try.prog 18 #[pt wd 0] w fun e w' => e = .returned (.tuple #[]) ∧ ∃ M', WTo 74 77 46 w wd d0 d1 M M' (tickW S) w' := by
  refine calls_si (l0 := (WLm 74 77 46 wd d0 d1 M S.A0 S.A1 S.now)) (args := [pt wd 0]) (M.G wd d0 d1) Try.func18 rfl 65 Try.ntmps18 (le_b rfl) ⟨h, Only.refl _ _⟩ (fun _ h => by obtain ⟨h, _⟩ := h; cases h) fun ho => ?_
  show SI _ _ _ _ _ [(0, pt wd 0)] (WLm 74 77 46 wd d0 d1 M S.A0 S.A1 S.now)
  refine SI.seq ?_
  refine SI.of_SG (by exact fun a w h => ho a w h) (by kernel_rfl) (SG.region ?_)
  refine SL.mv ?_
  refine SL.nk ?_
  refine SL.fa 4 fd77_2 ?_
  refine SL.ld 0 ts3 ?_
  refine SL.uu (ru_add (r := (inc S.now)) rfl rfl rfl rfl) ?_
  refine SL.nk ?_
  refine SL.fa 4 fd77_2 ?_
  refine SL.store (i := 0) (c' := [pt d0 0, pt d1 0, Value.slice M.q0 M.ps0.length M.c0, Value.slice M.q1 M.ps1.length M.c1, iw (inc S.now)]) rfl rfl ts3 rfl rfl rfl rfl rfl (lt_b rfl) (.inl (.inl rfl)) rfl ?_
  refine SL.nil ?_
  refine SI.of_SE ?_
  refine SI.seq ?_
  refine SI.of_SG (by exact fun a w h => ho a w h) (by kernel_rfl) (SG.region ?_)
  refine SL.mv ?_
  refine SL.nk ?_
  refine SL.fa 0 fd77_0 ?_
  refine SL.uu (ru_loada (i := 0) (vs := [pt d0 0, pt d1 0]) ta34 rfl rfl rfl rfl (le_b rfl)) ?_
  refine SL.mv ?_
  refine SL.nil ?_
  refine SI.of_SE ?_
  refine SI.block ?_
  refine SI.loopZ (γ := List Nat × WM × Wi) (fun g => g.1) (fun n _ => [(0, pt wd 0), (20, Value.agg #[pt d0 0, pt d1 0]), (21, iw (2 - (n : Int)))]) (fun n g => WLm 74 77 46 wd d0 d1 g.2.1 g.2.2.A0 g.2.2.A1 g.2.2.now ++ g.1.map rDef) (TkP w wd d0 d1 M S) 2 ([], M, { S with now := inc S.now }) (TkP.start hM hk0 hk1 hn0 hn1) rfl ⟨rfl, rfl, rfl, trivial⟩ rfl ?_
  rintro n ⟨ds, M1, S1⟩ hp
  have hp9 := hp
  obtain ⟨hdl, hdn, hM1, hS1, ha0, ha1, hl0, hl1, hfs1, hK1⟩ := hp
  dsimp only at hdl hdn hM1 hS1 ha0 ha1 hl0 hl1 hfs1 hK1
  have hps0 : M1.ps0.length ≤ 3000000000000 := by rw [← hM1.l0, List.length_map] at hl0; omega
  have hps1 : M1.ps1.length ≤ 3000000000000 := by rw [← hM1.l1, List.length_map] at hl1; omega
  rcases n with _ | _ | _ | n
  · skip
    obtain ⟨D2, D1, rfl⟩ : ∃ a b, ds = [a, b] := len_two (by omega)
    refine SI.seq ?_
    refine SI.of_SG (by exact fun a w h => ho a w h) (by kernel_rfl) (SG.region ?_)
    refine SL.uu (ru_lt (b := false) rfl rfl rfl rfl) ?_
    refine SL.nil ?_
    refine SI.of_SE ?_
    refine SI.seq ?_
    refine SI.no rfl ?_
    refine SI.exit ?_
    refine SF.passe ?_
    refine SF.passe ?_
    refine SF.blke ?_
    refine SF.resD2 (D := D1) (D' := D2) (j := 7) (j' := 6) rfl (.inr rfl) rfl rfl (by decide) (hdn _ (by simp)) (hdn _ (by simp)) (res0 Try.results18) fun w3 hI => ⟨rfl, M1, ?_⟩
    have hS9 : S1 = tickW S := hS1
    subst hS9
    exact ⟨(hI.keep 6).1, hM1, hfs1, hK1, hI.2⟩
  · skip
    obtain ⟨D1, rfl⟩ : ∃ D, ds = [D] := List.length_eq_one_iff.1 (by omega)
    refine SI.seq ?_
    refine SI.of_SG (by exact fun a w h => ho a w h) (by kernel_rfl) (SG.region ?_)
    refine SL.uu (ru_lt (b := true) rfl rfl rfl rfl) ?_
    refine SL.nil ?_
    refine SI.of_SE ?_
    refine SI.seq ?_
    refine SI.yes rfl ?_
    refine SI.skip ?_
    refine SI.of_SE ?_
    refine SI.seq ?_
    refine SI.block ?_
    refine SI.seq ?_
    refine SI.of_SG (by exact fun a w h => ho a w h) (by kernel_rfl) (SG.region ?_)
    refine SL.mv ?_
    refine SL.uu (ru_index Try.underlying34 (.inr ⟨_, Try.underlying33⟩) (by kernel_rfl) ⟨_, rfl⟩ rfl rfl rfl (by decide) (by decide) rfl) ?_
    refine SL.as ?_
    refine SL.as ?_
    refine SL.nil ?_
    refine SI.of_SE ?_
    refine SI.seq ?_
    refine SI.of_SG (by exact fun a w h => ho a w h) (by kernel_rfl) (SG.region ?_)
    refine SL.mv ?_
    refine SL.call (ζ := (Nat → Prop) × (Value → List UInt8 → Prop)) (fun z => Value.tuple #[]) (fun z => [rB wd d0 d1 M1 S1.now 77, rDv 74 d0 z.2 S1.A0, rDv 74 d1 z.2 (tickF S1.A1), rR0 M1 46, rR1 M1 46, rZ z.1 z.2, rDef D1]) (fun z => (∀ v f, M1.fs v f → z.2 v f) ∧ ∀ b, z.1 b → M1.F b ∨ w.heap.size ≤ b) rfl rfl co49 rfl rfl rfl (lt_b rfl) (fun w5 hI => (p_tick ha1 (WL.nic1 (l := [rDef D1]) hI)).mono fun e w2 ⟨h1, F1, k1, k2, k3⟩ => by obtain ⟨F', fs', q1, q2, q3⟩ := WL.turn1 (g := fun _ _ => False) (l := [rDef D1]) hI (.inl (.inr (.inr (.inl rfl)))) k1 k2 k3 (fun _ _ h => h.elim); exact ⟨(F', fs'), h1, q2, fun v f h => q1 v f (.inl h), fun b hb => (q3 b hb).imp id (Nat.le_trans hI.2.size)⟩) ?_
    rintro ⟨F1, fs1⟩ ⟨hf1, hF1⟩
    dsimp only at hf1 hF1
    refine SL.nil ?_
    refine SI.of_SE ?_
    refine SI.seq ?_
    refine SI.of_SG (by exact fun a w h => ho a w h) (by kernel_rfl) (SG.region ?_)
    refine SL.alloc rfl rfl (lt_b rfl) ts56 rfl fun b1 hb1 => ?_
    refine SL.nil ?_
    refine SI.of_SE ?_
    refine SI.seq ?_
    refine SI.seq ?_
    refine SI.of_SG (by exact fun a w h => ho a w h) (by kernel_rfl) (SG.region ?_)
    refine SL.mv ?_
    refine SL.mv ?_
    refine SL.call (ζ := Nat × Nat) (fun z => Value.func (.func 67) #[] #[pt z.1 0, pt z.2 0]) (fun z => [rB wd d0 d1 M1 S1.now 77, rDv 74 d0 fs1 S1.A0, rDv 74 d1 fs1 (tickF S1.A1), rR0 M1 46, rR1 M1 46, rZ F1 fs1, rDef D1, rBlk b1 [Value.slice none 0 0] 56, rBlk z.1 [pt wd 0] 35, rBlk z.2 [iw 1] 3]) (fun z => True) rfl rfl co50 rfl rfl rfl (lt_b rfl) (fun w5 hI => youngc_any.mono fun e w2 ⟨b, c, h1, h2, h3, h4, h5, h6, h7⟩ => ⟨(b, c), h1, Inv.two9 hI h7 h5 h6 h2 h3 h4, trivial⟩) ?_
    rintro ⟨by9, cy9⟩ _
    refine SL.nil ?_
    refine SI.of_SE ?_
    refine SI.block ?_
    refine SI.range (lb := [pt by9 0, pt cy9 0]) (ζ := Option Addr × Nat) (fun z => [rB wd d0 d1 M1 S1.now 77, rDv 74 d0 fs1 S1.A0, rDv 74 d1 fs1 (tickF S1.A1), rR0 M1 46, rR1 M1 46, rZ F1 fs1, rDef D1, rBlk b1 [Value.slice z.1 ((lfF S1.now M1.ps1).length) z.2] 56, rRowN (.slice z.1 (lfF S1.now M1.ps1).length z.2) (oRows (lfF S1.now M1.ps1)) 46 3]) (fun z j => j = none ∧ ∀ b, (Value.slice z.1 (lfF S1.now M1.ps1).length z.2).ownBlock = some b → w.heap.size ≤ b) rfl co67 rfl ?_ ?_
    · intro r D Lk w1 hrp hra hrb hrs hrj hT hD hL hI
      have hI2 := (hI.nilRow 46 3).reo [8, 9, 0, 1, 2, 3, 4, 5, 11, 7, 12, 6, 10] (by decide)
      have hI3 := Inv.pack (l1 := [rBlk by9 [pt wd 0] 35, rBlk cy9 [iw 1] 3, rBlk wd [pt d0 0, pt d1 0, Value.slice M1.q0 M1.ps0.length M1.c0, Value.slice M1.q1 M1.ps1.length M1.c1, iw S1.now] 77, rDv 74 d0 fs1 S1.A0, rDv 74 d1 fs1 (tickF S1.A1), rRowN (.slice M1.q0 M1.ps0.length M1.c0) (oRows M1.ps0) 46 3, rRowN (.slice M1.q1 M1.ps1.length M1.c1) (oRows M1.ps1) 46 3, rZ F1 fs1, rLoop Lk r]) (ls := [rBlk b1 [Value.slice none ((lfF S1.now (M1.ps1.take 0)).length) 0] 56, rRowN (.slice none (lfF S1.now (M1.ps1.take 0)).length 0) (oRows (lfF S1.now (M1.ps1.take 0))) 46 3, rDef D1, rDef D]) hI2
      have hM2 : WM.Ok { M1 with F := F1, fs := fs1 } (S1.setA true (tickF S1.A1)) := ⟨fun y hy => hf1 _ _ (hM1.f0 y hy), fun y hy => hf1 _ _ (hM1.f1 y hy), hM1.l0, hM1.l1⟩
      refine (young1_any (M := { M1 with F := F1, fs := fs1 }) (S := (S1.setA true (tickF S1.A1))) (γ := Option Addr × Nat) (Sx := fun b => w.heap.size ≤ b) (fun k g => [rBlk b1 [Value.slice g.1 ((lfF S1.now (M1.ps1.take k)).length) g.2] 56, rRowN (.slice g.1 (lfF S1.now (M1.ps1.take k)).length g.2) (oRows (lfF S1.now (M1.ps1.take k))) 46 3, rDef D1, rDef D]) (fun k g => ∀ b, (Value.slice g.1 (lfF S1.now (M1.ps1.take k)).length g.2).ownBlock = some b → w.heap.size ≤ b) (none, 0) hps1 (by rw [hrp]; rfl) hM2 hI3.1 (fun b hb => by simp [Value.ownBlock] at hb) ?_ ?_).mono ?_
      · intro k g x v hx ho hg
        have e1 : lfF S1.now (M1.ps1.take (k + 1)) = lfF S1.now (M1.ps1.take k) := lf_no hx ho
        rw [e1]; exact ⟨rfl, hg⟩
      · intro k g x v W hk hx ho hg hW
        obtain ⟨q9, c9⟩ := g
        have hWw : w.heap.size ≤ W.heap.size := Nat.le_trans hI.2.size hW.2.size
        obtain ⟨xa, xc, hvx⟩ : ∃ a c, v = .slice a x.f.length c := by obtain ⟨_, _, a, c, e⟩ := hM2.form1 ((Inv.reo [2, 3, 4, 5, 6, 7] hW (by decide)).1) _ (List.mem_of_getElem? hx); exact ⟨a, c, e⟩
        subst hvx
        have e1 : lfF S1.now (M1.ps1.take (k + 1)) = lfF S1.now (M1.ps1.take k) ++ [⟨.slice xa x.f.length xc, x⟩] := lf_yes hx ho
        have hll : (lfF S1.now (M1.ps1.take k)).length ≤ 3000000000000 := Nat.le_trans (lf_len _ _) (by rw [List.length_take]; omega)
        refine round_si1 (m := [(4, pt b1 0)]) (l0 := [rBlk by9 [pt wd 0] 35, rBlk cy9 [iw 1] 3, rB wd d0 d1 M1 S1.now 77, rDv 74 d0 fs1 S1.A0, rDv 74 d1 fs1 (tickF S1.A1), rR0 M1 46, rR1 M1 46, rZ F1 fs1, rLoop Lk r, rBlk b1 [Value.slice q9 ((lfF S1.now (M1.ps1.take k)).length) c9] 56, rRowN (.slice q9 (lfF S1.now (M1.ps1.take k)).length c9) (oRows (lfF S1.now (M1.ps1.take k))) 46 3, rDef D1, rDef D]) (v1 := .agg #[Value.slice xa x.f.length xc, bo x.bad, iw x.tick]) (fun b => w.heap.size ≤ b) 65 hrp hra hrb (Fr.sub (m' := [(4, pt b1 0)]) hT ⟨rfl, trivial⟩) (by decide) (Inv.unpack (l1 := [_, _, _, _, _, _, _, _, _]) hW).1 ?_
        refine SI.of_SG (by exact fun _ _ h => h) (by kernel_rfl) (SG.region ?_)
        refine SL.alloca rfl rfl (lt_b rfl) ta46 rfl fun b2 hb2 => ?_
        refine SL.storea (i := 13) (vs := [Value.slice xa x.f.length xc, bo x.bad, iw x.tick]) (c' := [Value.slice xa x.f.length xc, bo x.bad, iw x.tick]) rfl rfl ta46 rfl rfl rfl rfl rfl rfl (le_b rfl) (.inr hb2) rfl ?_
        refine SL.nil ?_
        refine SF.begin (j := 8) rfl rfl hrs (.inl hL) ?_
        refine SI.block ?_
        refine SI.of_SG (by exact fun _ _ h => h) (by kernel_rfl) (SG.region ?_)
        refine SL.ld 9 ts56 ?_
        refine SL.uu (ru_loada (i := 13) (vs := [Value.slice xa x.f.length xc, bo x.bad, iw x.tick]) ta46 rfl rfl rfl rfl (le_b rfl)) ?_
        refine SL.buildSlice (size := 3) (vals := [(0, Value.agg #[Value.slice xa x.f.length xc, bo x.bad, iw x.tick])]) (z := [Value.slice none 0 0, bo false, iw 0]) (cs := [Value.slice xa x.f.length xc, bo x.bad, iw x.tick]) rfl rfl (lt_b rfl) rfl Try.underlying56 (by kernel_rfl) rfl rfl (by kernel_rfl) fun b3 hb3 => ?_
        refine SL.append_rowN (ri := 10) (rj := 14) (size := 3) (r := [Value.slice xa x.f.length xc, bo x.bad, iw x.tick]) (z := Value.agg #[Value.slice none 0 0, bo false, iw 0]) (bytes := 40) rfl rfl (lt_b rfl) rfl (by decide) Try.underlying56 (by kernel_rfl) rfl rfl rfl rfl rfl rfl rfl (by rw [List.length_map]; omega) (by unfold maxLen; rw [List.length_map]; omega) (fun b hb => .inl (hg b hb)) fun q4 c5 hq6 => ?_
        refine SL.store (i := 9) (c' := [Value.slice q4 ((lfF S1.now (M1.ps1.take k)).length + 1) c5]) rfl rfl ts56 rfl rfl rfl rfl rfl (lt_b rfl) (.inl hb1) rfl ?_
        refine SL.nil ?_
        refine SF.blkn ?_
        refine SF.rend (j := 8) rfl (.inl hL) fun w2 hI9 => ?_
        rw [show ({ ({ r with state := .busy } : Loop) with state := .ready, pending := none } : Loop) = r from loop_eta hrs hrj] at hI9
        have er : oRows (lfF S1.now (M1.ps1.take (k + 1))) = oRows (lfF S1.now (M1.ps1.take k)) ++ [[Value.slice xa x.f.length xc, bo x.bad, iw x.tick]] := by rw [e1]; exact List.map_append
        have el : (lfF S1.now (M1.ps1.take (k + 1))).length = (lfF S1.now (M1.ps1.take k)).length + 1 := by rw [e1, List.length_append]; rfl
        refine ⟨(q4, c5), rfl, ?_, by rw [el]; exact fun b hb => (hq6 b hb).elim id (fun h => Nat.le_trans hWw h)⟩
        dsimp only
        rw [er, el]
        exact (hW.up (hI9.keep 13) (fun b hb => .inl hb)).pack (l1 := [_, _, _, _, _, _, _, _, _])
      · rintro e w2 ⟨hv, ⟨q9, c9⟩, hq, hI9⟩
        dsimp only at hq hI9
        rw [show M1.ps1.take M1.ps1.length = M1.ps1 from List.take_of_length_le (Nat.le_refl _)] at hq hI9
        have hI8 := Inv.reo [2, 3, 4, 5, 6, 7, 11, 9, 10, 12, 8] (Inv.unpack (l1 := [rBlk by9 [pt wd 0] 35, rBlk cy9 [iw 1] 3, rBlk wd [pt d0 0, pt d1 0, Value.slice M1.q0 M1.ps0.length M1.c0, Value.slice M1.q1 M1.ps1.length M1.c1, iw S1.now] 77, rDv 74 d0 fs1 S1.A0, rDv 74 d1 fs1 (tickF S1.A1), rRowN (.slice M1.q0 M1.ps0.length M1.c0) (oRows M1.ps0) 46 3, rRowN (.slice M1.q1 M1.ps1.length M1.c1) (oRows M1.ps1) 46 3, rZ F1 fs1, rLoop Lk r]) hI9) (by decide)
        exact ⟨hv, (q9, c9), .ready, none, by simp, ⟨rfl, hq⟩, by rw [loop_eta hrs hrj]; exact hI.up hI8 (fun b hb => .inr hb)⟩
    · rintro D2 ⟨ql, cl⟩ j hD2 ⟨rfl, hql⟩
      dsimp only at hql
      refine JP.on ?_
      refine SF.norm [(0, pt wd 0), (2, iw 1), (3, pt d1 0), (4, pt b1 0), (20, Value.agg #[pt d0 0, pt d1 0]), (21, iw 1), (29, Value.func (.func 67) #[] #[pt by9 0, pt cy9 0])] [rB wd d0 d1 M1 S1.now 77, rDv 74 d0 fs1 S1.A0, rDv 74 d1 fs1 (tickF S1.A1), rR0 M1 46, rR1 M1 46, rZ F1 fs1, rDef D1, rBlk b1 [Value.slice ql ((lfF S1.now M1.ps1).length) cl] 56, rRowN (.slice ql (lfF S1.now M1.ps1).length cl) (oRows (lfF S1.now M1.ps1)) 46 3, rDef D2] ⟨rfl, rfl, rfl, rfl, rfl, rfl, rfl, trivial⟩ rfl ?_
      refine SF.blkn ?_
      refine SI.of_SE ?_
      refine SI.norm [(0, pt wd 0), (2, iw 1), (3, pt d1 0), (4, pt b1 0), (20, Value.agg #[pt d0 0, pt d1 0]), (21, iw 1)] [rB wd d0 d1 M1 S1.now 77, rDv 74 d0 fs1 S1.A0, rDv 74 d1 fs1 (tickF S1.A1), rR0 M1 46, rR1 M1 46, rZ F1 fs1, rDef D1, rBlk b1 [Value.slice ql ((lfF S1.now M1.ps1).length) cl] 56, rRowN (.slice ql (lfF S1.now M1.ps1).length cl) (oRows (lfF S1.now M1.ps1)) 46 3, rDef D2] ⟨rfl, rfl, rfl, rfl, rfl, rfl, trivial⟩ rfl ?_
      refine SI.seq ?_
      refine SI.of_SG (by exact fun a w h => ho a w h) (by kernel_rfl) (SG.region_tail 6 (by kernel_rfl) (by kernel_rfl) ?_)
      refine SQ.mv ?_
      refine SQ.mv ?_
      refine SQ.ld 7 ts56 ?_
      refine SQ.nk ?_
      refine SQ.fa 2 fd77_1 ?_
      refine SQ.ia 3 ar75 ?_
      refine SQ.nilL ?_
      refine SL.store (i := 0) (c' := [pt d0 0, pt d1 0, Value.slice M1.q0 M1.ps0.length M1.c0, Value.slice ql ((lfF S1.now M1.ps1).length) cl, iw S1.now]) rfl rfl ts56 rfl rfl rfl rfl rfl (lt_b rfl) (.inl (.inl rfl)) rfl ?_
      refine SL.nil ?_
      refine SF.reo [0, 1, 2, 3, 8, 5, 6, 9] (by decide) ?_
      refine SF.norm [(0, pt wd 0), (2, iw 1), (3, pt d1 0), (4, pt b1 0), (20, Value.agg #[pt d0 0, pt d1 0]), (21, iw 1), (35, pt wd 0), (36, iw 1), (37, Value.slice ql ((lfF S1.now M1.ps1).length) cl), (38, pt wd 0), (39, pt wd 2), (40, pt wd 3)] [rBlk wd [pt d0 0, pt d1 0, Value.slice M1.q0 M1.ps0.length M1.c0, Value.slice ql ((lfF S1.now M1.ps1).length) cl, iw S1.now] 77, rDv 74 d0 fs1 S1.A0, rDv 74 d1 fs1 (tickF S1.A1), rR0 M1 46, rRowN (.slice ql ((lfF S1.now M1.ps1).length) cl) (oRows (lfF S1.now M1.ps1)) 46 3, rZ F1 fs1, rDef D1, rDef D2] ⟨rfl, rfl, rfl, rfl, rfl, rfl, rfl, rfl, rfl, rfl, rfl, rfl, trivial⟩ rfl ?_
      refine SI.of_SE ?_
      refine SI.seq ?_
      refine SI.of_SG (by exact fun a w h => ho a w h) (by kernel_rfl) (SG.region ?_)
      refine SL.mv ?_
      refine SL.callv (Value.tuple #[iw ((oldF (tickF S1.A1)).1), bo ((oldF (tickF S1.A1)).2)]) rfl rfl co19 rfl rfl rfl (lt_b rfl) (fun w hI => H_only hI (p_old (tick_ok ha1) (WL.nic1 (l := [rDef D1, rDef D2]) hI))) ?_
      refine SL.mv ?_
      refine SL.uu (ru_extract rfl rfl rfl) ?_
      refine SL.uu (ru_extract rfl rfl rfl) ?_
      refine SL.as ?_
      refine SL.as ?_
      refine SL.nil ?_
      refine SI.of_SE ?_
      refine SI.block ?_
      refine SI.loop (γ := NicA × (Nat → Prop) × (Value → List UInt8 → Prop)) (fun n g => [(0, pt wd 0), (3, pt d1 0), (6, iw ((oldF g.1).1)), (7, bo ((oldF g.1).2)), (20, Value.agg #[pt d0 0, pt d1 0]), (21, iw 1)]) (fun n g => [rBlk wd [pt d0 0, pt d1 0, Value.slice M1.q0 M1.ps0.length M1.c0, Value.slice ql ((lfF S1.now M1.ps1).length) cl, iw S1.now] 77, rDv 74 d0 g.2.2 S1.A0, rDv 74 d1 g.2.2 g.1, rR0 M1 46, rRowN (.slice ql ((lfF S1.now M1.ps1).length) cl) (oRows (lfF S1.now M1.ps1)) 46 3, rZ g.2.1 g.2.2, rDef D1, rDef D2]) (fun n g => NicOk g.1 ∧ drainF S1.now 16 (tickF S1.A1) = drainF S1.now n g.1 ∧ (g.1.r 5 - g.1.r 4) % 16 ≤ (n : Int) ∧ (∀ v f, fs1 v f → g.2.2 v f) ∧ ∀ b, g.2.1 b → F1 b ∨ w.heap.size ≤ b) 16 (tickF S1.A1, F1, fs1) ⟨tick_ok ha1, rfl, by simp only; omega, fun _ _ h => h, fun _ h => .inl h⟩ ⟨rfl, rfl, rfl, rfl, rfl, rfl, trivial⟩ rfl ?_
      rintro fu ⟨A9, F9, fs9⟩ ⟨hA9, hdr, hfu, hfs9, hF9⟩
      dsimp only at hA9 hdr hfu hfs9 hF9
      refine SI.seq ?_
      refine SI.seq ?_
      refine SI.of_SG (by exact fun a w h => ho a w h) (by kernel_rfl) (SG.region ?_)
      refine SL.mv ?_
      refine SL.mv ?_
      refine SL.join 4 [(0, pt wd 0), (3, pt d1 0), (6, iw ((oldF A9).1)), (7, bo ((oldF A9).2)), (20, Value.agg #[pt d0 0, pt d1 0]), (21, iw 1), (46, bo ((oldF A9).2)), (47, bo ((oldF A9).2)), (51, bo (((oldF A9).2) && (oldB S1.now ((oldF A9).1))))] [rBlk wd [pt d0 0, pt d1 0, Value.slice M1.q0 M1.ps0.length M1.c0, Value.slice ql ((lfF S1.now M1.ps1).length) cl, iw S1.now] 77, rDv 74 d0 fs9 S1.A0, rDv 74 d1 fs9 A9, rR0 M1 46, rRowN (.slice ql ((lfF S1.now M1.ps1).length) cl) (oRows (lfF S1.now M1.ps1)) 46 3, rZ F9 fs9, rDef D1, rDef D2] ?_ ?_
      rotate_left
      · intro K hK
        rcases tf ((oldF A9).2) with h7 | h7
        · skip
          refine SL.norm [(0, pt wd 0), (3, pt d1 0), (6, iw ((oldF A9).1)), (7, bo true), (20, Value.agg #[pt d0 0, pt d1 0]), (21, iw 1), (46, bo true), (47, bo true)] _ ⟨rfl, rfl, rfl, (congrArg (fun x => some (Value.bool x)) h7), rfl, rfl, (congrArg (fun x => some (Value.bool x)) h7), (congrArg (fun x => some (Value.bool x)) h7), trivial⟩ rfl ?_
          refine SL.gg (ru_move rfl rfl) ?_
          refine SL.gg (ru_move rfl rfl) ?_
          refine SL.callvg (bo (oldB S1.now ((oldF A9).1))) rfl rfl rfl rfl co51 rfl rfl rfl (lt_b rfl) (fun w hI => H_only hI (old_any (M := { M1 with F := F9, fs := fs9, q1 := ql, c1 := cl, ps1 := (lfF S1.now M1.ps1) }) (S := ((S1.setA true A9).setL true (ageF S1.now S1.L1))) _ ((hI.keep 6).1))) ?_
          refine SL.pk (bo (oldB S1.now ((oldF A9).1))) (bo false) ?_
          exact SL.joined hK ⟨rfl, rfl, rfl, (congrArg (fun x => some (Value.bool x)) h7.symm), rfl, rfl, (congrArg (fun x => some (Value.bool x)) h7.symm), (congrArg (fun x => some (Value.bool x)) h7.symm), (congrArg (fun bx => some (Value.bool (bx && (oldB S1.now ((oldF A9).1))))) h7.symm), trivial⟩ rfl
        refine SL.norm [(0, pt wd 0), (3, pt d1 0), (6, iw ((oldF A9).1)), (7, bo false), (20, Value.agg #[pt d0 0, pt d1 0]), (21, iw 1), (46, bo false), (47, bo false)] _ ⟨rfl, rfl, rfl, (congrArg (fun x => some (Value.bool x)) h7), rfl, rfl, (congrArg (fun x => some (Value.bool x)) h7), (congrArg (fun x => some (Value.bool x)) h7), trivial⟩ rfl ?_
        refine SL.oo ?_
        refine SL.oo ?_
        refine SL.oo ?_
        refine SL.pk (undef) (bo false) ?_
        exact SL.joined hK ⟨rfl, rfl, rfl, (congrArg (fun x => some (Value.bool x)) h7.symm), rfl, rfl, (congrArg (fun x => some (Value.bool x)) h7.symm), (congrArg (fun x => some (Value.bool x)) h7.symm), (congrArg (fun bx => some (Value.bool (bx && (oldB S1.now ((oldF A9).1))))) h7.symm), trivial⟩ rfl
      skip
      refine SL.nil ?_
      refine SI.of_SE ?_
      refine SI.both (((oldF A9).2) && (oldB S1.now ((oldF A9).1))) rfl (fun h8 => ?_) (fun h8 => ?_)
      · skip
        refine SI.skip ?_
        refine SI.of_SE ?_
        refine SI.seq ?_
        refine SI.block ?_
        refine SI.seq ?_
        refine SI.of_SG (by exact fun a w h => ho a w h) (by kernel_rfl) (SG.region ?_)
        refine SL.mv ?_
        refine SL.call (ζ := Option Addr × Nat × (Nat → Prop) × (Value → List UInt8 → Prop)) (fun z => Value.tuple #[Value.agg #[Value.slice z.1 ((takeR A9).1.1.1.length) z.2.1, bo false, iw ((takeR A9).1.1.2)], iw ((takeR A9).1.2)]) (fun z => [rBlk wd [pt d0 0, pt d1 0, Value.slice M1.q0 M1.ps0.length M1.c0, Value.slice ql ((lfF S1.now M1.ps1).length) cl, iw S1.now] 77, rDv 74 d0 z.2.2.2 S1.A0, rDv 74 d1 z.2.2.2 ((takeR A9).2), rR0 M1 46, rRowN (.slice ql ((lfF S1.now M1.ps1).length) cl) (oRows (lfF S1.now M1.ps1)) 46 3, rZ z.2.2.1 z.2.2.2, rDef D1, rDef D2]) (fun z => (∀ v f, fs9 v f → z.2.2.2 v f) ∧ ∀ b, z.2.2.1 b → F9 b ∨ w.heap.size ≤ b) rfl rfl co52 rfl rfl rfl (lt_b rfl) (fun w5 hI => (p_take hA9 (WL.nic1 (l := [rDef D1, rDef D2]) hI)).mono fun e w2 ⟨v, h1, k1, k3, k4⟩ => by obtain ⟨F1, g1, g2, g3, g4, qa, qc, rfl⟩ := out_frz k1 (WL.nic1 (l := [rDef D1, rDef D2]) hI).lt k4 (by have := takeR_len hA9; omega); obtain ⟨F', fs', q1, q2, q3⟩ := WL.turn1 (g := fun _ _ => False) (l := [rDef D1, rDef D2]) hI (.inl (.inr (.inr (.inl rfl)))) g1 g2 k3 (fun _ _ h => h.elim); exact ⟨(qa, qc, F', fs'), h1, q2, fun v f h => q1 v f (.inl h), fun b hb => (q3 b hb).imp id (Nat.le_trans hI.2.size)⟩) ?_
        rintro ⟨q11, c12, Fz9, fz10⟩ ⟨hfz10, hFz9⟩
        dsimp only at hfz10 hFz9
        refine SL.mv ?_
        refine SL.uu (ru_extract rfl rfl rfl) ?_
        refine SL.uu (ru_extract rfl rfl rfl) ?_
        refine SL.alloca rfl rfl (lt_b rfl) ta46 rfl fun b13 hb13 => ?_
        refine SL.storea (i := 8) (vs := [Value.slice q11 ((takeR A9).1.1.1.length) c12, bo false, iw ((takeR A9).1.1.2)]) (c' := [Value.slice q11 ((takeR A9).1.1.1.length) c12, bo false, iw ((takeR A9).1.1.2)]) rfl rfl ta46 rfl rfl rfl rfl rfl rfl (le_b rfl) (.inr hb13) rfl ?_
        refine SL.as ?_
        refine SL.nil ?_
        refine SI.of_SE ?_
        refine SI.seq ?_
        refine SI.of_SG (by exact fun a w h => ho a w h) (by kernel_rfl) (SG.region ?_)
        refine SL.mv ?_
        refine SL.uu (ru_ne (b := ((((takeR A9).1.2) : Int) != 0)) rfl rfl rfl rfl) ?_
        refine SL.nil ?_
        refine SI.of_SE ?_
        refine SI.both ((((takeR A9).1.2) : Int) != 0) rfl (fun h14 => ?_) (fun h14 => ?_)
        · skip
          refine SI.exit ?_
          refine SF.blko (by decide) ?_
          refine SF.passe ?_
          refine SF.passe ?_
          refine SF.blke ?_
          refine SF.blkn ?_
          refine SI.of_SE ?_
          have hAf : NicOk (takeR A9).2 := take_okR hA9
          have hdA : drainF S1.now 16 (tickF S1.A1) = (takeR A9).2 := by rw [hdr]; exact drain_stop hA9 hfu h8 h14
          have hO2 : WM.Ok { M1 with F := Fz9, fs := fz10, q1 := ql, c1 := cl, ps1 := (lfF S1.now M1.ps1) } ((S1.setA true ((takeR A9).2)).setL true (ageF S1.now S1.L1)) := (hM1.age1 S1.now ql cl Fz9 fz10 (fun v f h => (fun v f h => hfz10 v f (hfs9 v f h)) v f (hf1 v f h)))
          have hst2 : ((S1.setA true ((takeR A9).2)).setL true (ageF S1.now S1.L1)) = tick1 S1 true := by unfold tick1; show _ = (S1.setA true (drainF S1.now 16 (tickF S1.A1))).setL _ _; rw [hdA]; rfl
          have hK2 : ∀ b, WM.K { M1 with F := Fz9, fs := fz10, q1 := ql, c1 := cl, ps1 := (lfF S1.now M1.ps1) } b → (b = wd ∨ b = d0 ∨ b = d1 ∨ M.K b) ∨ w.heap.size ≤ b := fun b hb => hb.age1 hK1 (fun b hb => (show F1 b ∨ w.heap.size ≤ b from (fun b hb => (hFz9 b hb).elim (hF9 b) .inr) b hb).elim (hF1 b) .inr) hql
          refine SI.of_SG (by exact fun a w h => ho a w h) (by kernel_rfl) (SG.region ?_)
          refine SL.uu (ru_add (r := 2) rfl rfl rfl rfl) ?_
          refine SL.mv ?_
          refine SL.nil ?_
          refine SF.reo [0, 1, 2, 3, 4, 5, 7, 6] (by decide) ?_
          refine SF.againZ 0 ([D2, D1], { M1 with F := Fz9, fs := fz10, q1 := ql, c1 := cl, ps1 := (lfF S1.now M1.ps1) }, ((S1.setA true ((takeR A9).2)).setL true (ageF S1.now S1.L1))) (by omega) rfl (TkP.next1 hp9 hD2 hO2 hst2 hAf (fun v f h => (fun v f h => hfz10 v f (hfs9 v f h)) v f (hf1 v f h)) hK2) ⟨rfl, rfl, rfl, trivial⟩ rfl
        refine SI.skip ?_
        refine SF.blkn ?_
        refine SI.of_SE ?_
        refine SI.of_SG (by exact fun a w h => ho a w h) (by kernel_rfl) (SG.region ?_)
        refine SL.mv ?_
        refine SL.callv (Value.tuple #[iw ((oldF ((takeR A9).2)).1), bo ((oldF ((takeR A9).2)).2)]) rfl rfl co19 rfl rfl rfl (lt_b rfl) (fun w hI => H_only hI (p_old (take_okR hA9) (WL.nic1 (l := [rDef D1, rDef D2, rBlk b13 [Value.slice q11 ((takeR A9).1.1.1.length) c12, bo false, iw ((takeR A9).1.1.2)] 46]) hI))) ?_
        refine SL.mv ?_
        refine SL.uu (ru_extract rfl rfl rfl) ?_
        refine SL.uu (ru_extract rfl rfl rfl) ?_
        refine SL.as ?_
        refine SL.as ?_
        refine SL.nil ?_
        have hdd := drain_go (now := S1.now) (A := A9) hA9 hfu h8 h14
        obtain ⟨f9, hfe, hd1, hd2, hd3⟩ := hdd
        refine SF.keep 8 ?_
        refine SF.again f9 ((takeR A9).2, Fz9, fz10) (by omega) ⟨hd3, by rw [hdr, hd1], hd2, fun v f h => hfz10 v f (hfs9 v f h), fun b hb => (hFz9 b hb).elim (hF9 b) .inr⟩ ⟨rfl, rfl, rfl, rfl, rfl, rfl, trivial⟩ rfl
      refine SI.exit ?_
      refine SF.passe ?_
      refine SF.passe ?_
      refine SF.blke ?_
      refine SF.blkn ?_
      refine SI.of_SE ?_
      have hAf : NicOk A9 := hA9
      have hdA : drainF S1.now 16 (tickF S1.A1) = A9 := by rw [hdr]; exact drain_end h8
      have hO2 : WM.Ok { M1 with F := F9, fs := fs9, q1 := ql, c1 := cl, ps1 := (lfF S1.now M1.ps1) } ((S1.setA true A9).setL true (ageF S1.now S1.L1)) := (hM1.age1 S1.now ql cl F9 fs9 (fun v f h => (hfs9) v f (hf1 v f h)))
      have hst2 : ((S1.setA true A9).setL true (ageF S1.now S1.L1)) = tick1 S1 true := by unfold tick1; show _ = (S1.setA true (drainF S1.now 16 (tickF S1.A1))).setL _ _; rw [hdA]; rfl
      have hK2 : ∀ b, WM.K { M1 with F := F9, fs := fs9, q1 := ql, c1 := cl, ps1 := (lfF S1.now M1.ps1) } b → (b = wd ∨ b = d0 ∨ b = d1 ∨ M.K b) ∨ w.heap.size ≤ b := fun b hb => hb.age1 hK1 (fun b hb => (show F1 b ∨ w.heap.size ≤ b from (hF9) b hb).elim (hF1 b) .inr) hql
      refine SI.of_SG (by exact fun a w h => ho a w h) (by kernel_rfl) (SG.region ?_)
      refine SL.uu (ru_add (r := 2) rfl rfl rfl rfl) ?_
      refine SL.mv ?_
      refine SL.nil ?_
      refine SF.reo [0, 1, 2, 3, 4, 5, 7, 6] (by decide) ?_
      refine SF.againZ 0 ([D2, D1], { M1 with F := F9, fs := fs9, q1 := ql, c1 := cl, ps1 := (lfF S1.now M1.ps1) }, ((S1.setA true A9).setL true (ageF S1.now S1.L1))) (by omega) rfl (TkP.next1 hp9 hD2 hO2 hst2 hAf (fun v f h => (hfs9) v f (hf1 v f h)) hK2) ⟨rfl, rfl, rfl, trivial⟩ rfl
  · skip
    obtain rfl : ds = [] := List.length_eq_zero_iff.1 (by simpa using hdl)
    refine SI.seq ?_
    refine SI.of_SG (by exact fun a w h => ho a w h) (by kernel_rfl) (SG.region ?_)
    refine SL.uu (ru_lt (b := true) rfl rfl rfl rfl) ?_
    refine SL.nil ?_
    refine SI.of_SE ?_
    refine SI.seq ?_
    refine SI.yes rfl ?_
    refine SI.skip ?_
    refine SI.of_SE ?_
    refine SI.seq ?_
    refine SI.block ?_
    refine SI.seq ?_
    refine SI.of_SG (by exact fun a w h => ho a w h) (by kernel_rfl) (SG.region ?_)
    refine SL.mv ?_
    refine SL.uu (ru_index Try.underlying34 (.inr ⟨_, Try.underlying33⟩) (by kernel_rfl) ⟨_, rfl⟩ rfl rfl rfl (by decide) (by decide) rfl) ?_
    refine SL.as ?_
    refine SL.as ?_
    refine SL.nil ?_
    refine SI.of_SE ?_
    refine SI.seq ?_
    refine SI.of_SG (by exact fun a w h => ho a w h) (by kernel_rfl) (SG.region ?_)
    refine SL.mv ?_
    refine SL.call (ζ := (Nat → Prop) × (Value → List UInt8 → Prop)) (fun z => Value.tuple #[]) (fun z => [rB wd d0 d1 M1 S1.now 77, rDv 74 d0 z.2 (tickF S1.A0), rDv 74 d1 z.2 S1.A1, rR0 M1 46, rR1 M1 46, rZ z.1 z.2]) (fun z => (∀ v f, M1.fs v f → z.2 v f) ∧ ∀ b, z.1 b → M1.F b ∨ w.heap.size ≤ b) rfl rfl co49 rfl rfl rfl (lt_b rfl) (fun w5 hI => (p_tick ha0 (WL.nic0 (l := []) hI)).mono fun e w2 ⟨h1, F1, k1, k2, k3⟩ => by obtain ⟨F', fs', q1, q2, q3⟩ := WL.turn0 (g := fun _ _ => False) (l := []) hI (.inl (.inr (.inl rfl))) k1 k2 k3 (fun _ _ h => h.elim); exact ⟨(F', fs'), h1, q2, fun v f h => q1 v f (.inl h), fun b hb => (q3 b hb).imp id (Nat.le_trans hI.2.size)⟩) ?_
    rintro ⟨F1, fs1⟩ ⟨hf1, hF1⟩
    dsimp only at hf1 hF1
    refine SL.nil ?_
    refine SI.of_SE ?_
    refine SI.seq ?_
    refine SI.of_SG (by exact fun a w h => ho a w h) (by kernel_rfl) (SG.region ?_)
    refine SL.alloc rfl rfl (lt_b rfl) ts56 rfl fun b15 hb15 => ?_
    refine SL.nil ?_
    refine SI.of_SE ?_
    refine SI.norm [(0, pt wd 0), (2, iw 0), (3, pt d0 0), (4, pt b15 0), (20, Value.agg #[pt d0 0, pt d1 0]), (21, iw 0)] [rB wd d0 d1 M1 S1.now 77, rDv 74 d0 fs1 (tickF S1.A0), rDv 74 d1 fs1 S1.A1, rR0 M1 46, rR1 M1 46, rZ F1 fs1, rBlk b15 [Value.slice none 0 0] 56] ⟨rfl, rfl, rfl, rfl, rfl, rfl, trivial⟩ rfl ?_
    refine SI.seq ?_
    refine SI.seq ?_
    refine SI.of_SG (by exact fun a w h => ho a w h) (by kernel_rfl) (SG.region ?_)
    refine SL.mv ?_
    refine SL.mv ?_
    refine SL.call (ζ := Nat × Nat) (fun z => Value.func (.func 67) #[] #[pt z.1 0, pt z.2 0]) (fun z => [rB wd d0 d1 M1 S1.now 77, rDv 74 d0 fs1 (tickF S1.A0), rDv 74 d1 fs1 S1.A1, rR0 M1 46, rR1 M1 46, rZ F1 fs1, rBlk b15 [Value.slice none 0 0] 56, rBlk z.1 [pt wd 0] 35, rBlk z.2 [iw 0] 3]) (fun z => True) rfl rfl co50 rfl rfl rfl (lt_b rfl) (fun w5 hI => youngc_any.mono fun e w2 ⟨b, c, h1, h2, h3, h4, h5, h6, h7⟩ => ⟨(b, c), h1, Inv.two9 hI h7 h5 h6 h2 h3 h4, trivial⟩) ?_
    rintro ⟨by9, cy9⟩ _
    refine SL.nil ?_
    refine SI.of_SE ?_
    refine SI.block ?_
    refine SI.range (lb := [pt by9 0, pt cy9 0]) (ζ := Option Addr × Nat) (fun z => [rB wd d0 d1 M1 S1.now 77, rDv 74 d0 fs1 (tickF S1.A0), rDv 74 d1 fs1 S1.A1, rR0 M1 46, rR1 M1 46, rZ F1 fs1, rBlk b15 [Value.slice z.1 ((lfF S1.now M1.ps0).length) z.2] 56, rRowN (.slice z.1 (lfF S1.now M1.ps0).length z.2) (oRows (lfF S1.now M1.ps0)) 46 3]) (fun z j => j = none ∧ ∀ b, (Value.slice z.1 (lfF S1.now M1.ps0).length z.2).ownBlock = some b → w.heap.size ≤ b) rfl co67 rfl ?_ ?_
    · intro r D Lk w1 hrp hra hrb hrs hrj hT hD hL hI
      have hI2 := (hI.nilRow 46 3).reo [7, 8, 0, 1, 2, 3, 4, 5, 10, 6, 11, 9] (by decide)
      have hI3 := Inv.pack (l1 := [rBlk by9 [pt wd 0] 35, rBlk cy9 [iw 0] 3, rBlk wd [pt d0 0, pt d1 0, Value.slice M1.q0 M1.ps0.length M1.c0, Value.slice M1.q1 M1.ps1.length M1.c1, iw S1.now] 77, rDv 74 d0 fs1 (tickF S1.A0), rDv 74 d1 fs1 S1.A1, rRowN (.slice M1.q0 M1.ps0.length M1.c0) (oRows M1.ps0) 46 3, rRowN (.slice M1.q1 M1.ps1.length M1.c1) (oRows M1.ps1) 46 3, rZ F1 fs1, rLoop Lk r]) (ls := [rBlk b15 [Value.slice none ((lfF S1.now (M1.ps0.take 0)).length) 0] 56, rRowN (.slice none (lfF S1.now (M1.ps0.take 0)).length 0) (oRows (lfF S1.now (M1.ps0.take 0))) 46 3, rDef D]) hI2
      have hM2 : WM.Ok { M1 with F := F1, fs := fs1 } (S1.setA false (tickF S1.A0)) := ⟨fun y hy => hf1 _ _ (hM1.f0 y hy), fun y hy => hf1 _ _ (hM1.f1 y hy), hM1.l0, hM1.l1⟩
      refine (young0_any (M := { M1 with F := F1, fs := fs1 }) (S := (S1.setA false (tickF S1.A0))) (γ := Option Addr × Nat) (Sx := fun b => w.heap.size ≤ b) (fun k g => [rBlk b15 [Value.slice g.1 ((lfF S1.now (M1.ps0.take k)).length) g.2] 56, rRowN (.slice g.1 (lfF S1.now (M1.ps0.take k)).length g.2) (oRows (lfF S1.now (M1.ps0.take k))) 46 3, rDef D]) (fun k g => ∀ b, (Value.slice g.1 (lfF S1.now (M1.ps0.take k)).length g.2).ownBlock = some b → w.heap.size ≤ b) (none, 0) hps0 (by rw [hrp]; rfl) hM2 hI3.1 (fun b hb => by simp [Value.ownBlock] at hb) ?_ ?_).mono ?_
      · intro k g x v hx ho hg
        have e1 : lfF S1.now (M1.ps0.take (k + 1)) = lfF S1.now (M1.ps0.take k) := lf_no hx ho
        rw [e1]; exact ⟨rfl, hg⟩
      · intro k g x v W hk hx ho hg hW
        obtain ⟨q9, c9⟩ := g
        have hWw : w.heap.size ≤ W.heap.size := Nat.le_trans hI.2.size hW.2.size
        obtain ⟨xa, xc, hvx⟩ : ∃ a c, v = .slice a x.f.length c := by obtain ⟨_, _, a, c, e⟩ := hM2.form0 ((Inv.reo [2, 3, 4, 5, 6, 7] hW (by decide)).1) _ (List.mem_of_getElem? hx); exact ⟨a, c, e⟩
        subst hvx
        have e1 : lfF S1.now (M1.ps0.take (k + 1)) = lfF S1.now (M1.ps0.take k) ++ [⟨.slice xa x.f.length xc, x⟩] := lf_yes hx ho
        have hll : (lfF S1.now (M1.ps0.take k)).length ≤ 3000000000000 := Nat.le_trans (lf_len _ _) (by rw [List.length_take]; omega)
        refine round_si1 (m := [(4, pt b15 0)]) (l0 := [rBlk by9 [pt wd 0] 35, rBlk cy9 [iw 0] 3, rB wd d0 d1 M1 S1.now 77, rDv 74 d0 fs1 (tickF S1.A0), rDv 74 d1 fs1 S1.A1, rR0 M1 46, rR1 M1 46, rZ F1 fs1, rLoop Lk r, rBlk b15 [Value.slice q9 ((lfF S1.now (M1.ps0.take k)).length) c9] 56, rRowN (.slice q9 (lfF S1.now (M1.ps0.take k)).length c9) (oRows (lfF S1.now (M1.ps0.take k))) 46 3, rDef D]) (v1 := .agg #[Value.slice xa x.f.length xc, bo x.bad, iw x.tick]) (fun b => w.heap.size ≤ b) 65 hrp hra hrb (Fr.sub (m' := [(4, pt b15 0)]) hT ⟨rfl, trivial⟩) (by decide) (Inv.unpack (l1 := [_, _, _, _, _, _, _, _, _]) hW).1 ?_
        refine SI.of_SG (by exact fun _ _ h => h) (by kernel_rfl) (SG.region ?_)
        refine SL.alloca rfl rfl (lt_b rfl) ta46 rfl fun b16 hb16 => ?_
        refine SL.storea (i := 12) (vs := [Value.slice xa x.f.length xc, bo x.bad, iw x.tick]) (c' := [Value.slice xa x.f.length xc, bo x.bad, iw x.tick]) rfl rfl ta46 rfl rfl rfl rfl rfl rfl (le_b rfl) (.inr hb16) rfl ?_
        refine SL.nil ?_
        refine SF.begin (j := 8) rfl rfl hrs (.inl hL) ?_
        refine SI.block ?_
        refine SI.of_SG (by exact fun _ _ h => h) (by kernel_rfl) (SG.region ?_)
        refine SL.ld 9 ts56 ?_
        refine SL.uu (ru_loada (i := 12) (vs := [Value.slice xa x.f.length xc, bo x.bad, iw x.tick]) ta46 rfl rfl rfl rfl (le_b rfl)) ?_
        refine SL.buildSlice (size := 3) (vals := [(0, Value.agg #[Value.slice xa x.f.length xc, bo x.bad, iw x.tick])]) (z := [Value.slice none 0 0, bo false, iw 0]) (cs := [Value.slice xa x.f.length xc, bo x.bad, iw x.tick]) rfl rfl (lt_b rfl) rfl Try.underlying56 (by kernel_rfl) rfl rfl (by kernel_rfl) fun b17 hb17 => ?_
        refine SL.append_rowN (ri := 10) (rj := 13) (size := 3) (r := [Value.slice xa x.f.length xc, bo x.bad, iw x.tick]) (z := Value.agg #[Value.slice none 0 0, bo false, iw 0]) (bytes := 40) rfl rfl (lt_b rfl) rfl (by decide) Try.underlying56 (by kernel_rfl) rfl rfl rfl rfl rfl rfl rfl (by rw [List.length_map]; omega) (by unfold maxLen; rw [List.length_map]; omega) (fun b hb => .inl (hg b hb)) fun q18 c19 hq20 => ?_
        refine SL.store (i := 9) (c' := [Value.slice q18 ((lfF S1.now (M1.ps0.take k)).length + 1) c19]) rfl rfl ts56 rfl rfl rfl rfl rfl (lt_b rfl) (.inl hb15) rfl ?_
        refine SL.nil ?_
        refine SF.blkn ?_
        refine SF.rend (j := 8) rfl (.inl hL) fun w2 hI9 => ?_
        rw [show ({ ({ r with state := .busy } : Loop) with state := .ready, pending := none } : Loop) = r from loop_eta hrs hrj] at hI9
        have er : oRows (lfF S1.now (M1.ps0.take (k + 1))) = oRows (lfF S1.now (M1.ps0.take k)) ++ [[Value.slice xa x.f.length xc, bo x.bad, iw x.tick]] := by rw [e1]; exact List.map_append
        have el : (lfF S1.now (M1.ps0.take (k + 1))).length = (lfF S1.now (M1.ps0.take k)).length + 1 := by rw [e1, List.length_append]; rfl
        refine ⟨(q18, c19), rfl, ?_, by rw [el]; exact fun b hb => (hq20 b hb).elim id (fun h => Nat.le_trans hWw h)⟩
        dsimp only
        rw [er, el]
        exact (hW.up (hI9.keep 12) (fun b hb => .inl hb)).pack (l1 := [_, _, _, _, _, _, _, _, _])
      · rintro e w2 ⟨hv, ⟨q9, c9⟩, hq, hI9⟩
        dsimp only at hq hI9
        rw [show M1.ps0.take M1.ps0.length = M1.ps0 from List.take_of_length_le (Nat.le_refl _)] at hq hI9
        have hI8 := Inv.reo [2, 3, 4, 5, 6, 7, 9, 10, 11, 8] (Inv.unpack (l1 := [rBlk by9 [pt wd 0] 35, rBlk cy9 [iw 0] 3, rBlk wd [pt d0 0, pt d1 0, Value.slice M1.q0 M1.ps0.length M1.c0, Value.slice M1.q1 M1.ps1.length M1.c1, iw S1.now] 77, rDv 74 d0 fs1 (tickF S1.A0), rDv 74 d1 fs1 S1.A1, rRowN (.slice M1.q0 M1.ps0.length M1.c0) (oRows M1.ps0) 46 3, rRowN (.slice M1.q1 M1.ps1.length M1.c1) (oRows M1.ps1) 46 3, rZ F1 fs1, rLoop Lk r]) hI9) (by decide)
        exact ⟨hv, (q9, c9), .ready, none, by simp, ⟨rfl, hq⟩, by rw [loop_eta hrs hrj]; exact hI.up hI8 (fun b hb => .inr hb)⟩
    · rintro D1 ⟨ql, cl⟩ j hD1 ⟨rfl, hql⟩
      dsimp only at hql
      refine JP.on ?_
      refine SF.norm [(0, pt wd 0), (2, iw 0), (3, pt d0 0), (4, pt b15 0), (20, Value.agg #[pt d0 0, pt d1 0]), (21, iw 0), (29, Value.func (.func 67) #[] #[pt by9 0, pt cy9 0])] [rB wd d0 d1 M1 S1.now 77, rDv 74 d0 fs1 (tickF S1.A0), rDv 74 d1 fs1 S1.A1, rR0 M1 46, rR1 M1 46, rZ F1 fs1, rBlk b15 [Value.slice ql ((lfF S1.now M1.ps0).length) cl] 56, rRowN (.slice ql (lfF S1.now M1.ps0).length cl) (oRows (lfF S1.now M1.ps0)) 46 3, rDef D1] ⟨rfl, rfl, rfl, rfl, rfl, rfl, rfl, trivial⟩ rfl ?_
      refine SF.blkn ?_
      refine SI.of_SE ?_
      refine SI.seq ?_
      refine SI.of_SG (by exact fun a w h => ho a w h) (by kernel_rfl) (SG.region_tail 6 (by kernel_rfl) (by kernel_rfl) ?_)
      refine SQ.mv ?_
      refine SQ.mv ?_
      refine SQ.ld 6 ts56 ?_
      refine SQ.nk ?_
      refine SQ.fa 2 fd77_1 ?_
      refine SQ.ia 2 ar75 ?_
      refine SQ.nilL ?_
      refine SL.store (i := 0) (c' := [pt d0 0, pt d1 0, Value.slice ql ((lfF S1.now M1.ps0).length) cl, Value.slice M1.q1 M1.ps1.length M1.c1, iw S1.now]) rfl rfl ts56 rfl rfl rfl rfl rfl (lt_b rfl) (.inl (.inl rfl)) rfl ?_
      refine SL.nil ?_
      refine SF.reo [0, 1, 2, 7, 4, 5, 8] (by decide) ?_
      refine SF.norm [(0, pt wd 0), (2, iw 0), (3, pt d0 0), (4, pt b15 0), (20, Value.agg #[pt d0 0, pt d1 0]), (21, iw 0), (35, pt wd 0), (36, iw 0), (37, Value.slice ql ((lfF S1.now M1.ps0).length) cl), (38, pt wd 0), (39, pt wd 2), (40, pt wd 2)] [rBlk wd [pt d0 0, pt d1 0, Value.slice ql ((lfF S1.now M1.ps0).length) cl, Value.slice M1.q1 M1.ps1.length M1.c1, iw S1.now] 77, rDv 74 d0 fs1 (tickF S1.A0), rDv 74 d1 fs1 S1.A1, rRowN (.slice ql ((lfF S1.now M1.ps0).length) cl) (oRows (lfF S1.now M1.ps0)) 46 3, rR1 M1 46, rZ F1 fs1, rDef D1] ⟨rfl, rfl, rfl, rfl, rfl, rfl, rfl, rfl, rfl, rfl, rfl, rfl, trivial⟩ rfl ?_
      refine SI.of_SE ?_
      refine SI.norm [(0, pt wd 0), (3, pt d0 0), (20, Value.agg #[pt d0 0, pt d1 0]), (21, iw 0)] [rBlk wd [pt d0 0, pt d1 0, Value.slice ql ((lfF S1.now M1.ps0).length) cl, Value.slice M1.q1 M1.ps1.length M1.c1, iw S1.now] 77, rDv 74 d0 fs1 (tickF S1.A0), rDv 74 d1 fs1 S1.A1, rRowN (.slice ql ((lfF S1.now M1.ps0).length) cl) (oRows (lfF S1.now M1.ps0)) 46 3, rR1 M1 46, rZ F1 fs1, rDef D1] ⟨rfl, rfl, rfl, rfl, trivial⟩ rfl ?_
      refine SI.seq ?_
      refine SI.of_SG (by exact fun a w h => ho a w h) (by kernel_rfl) (SG.region ?_)
      refine SL.mv ?_
      refine SL.callv (Value.tuple #[iw ((oldF (tickF S1.A0)).1), bo ((oldF (tickF S1.A0)).2)]) rfl rfl co19 rfl rfl rfl (lt_b rfl) (fun w hI => H_only hI (p_old (tick_ok ha0) (WL.nic0 (l := [rDef D1]) hI))) ?_
      refine SL.mv ?_
      refine SL.uu (ru_extract rfl rfl rfl) ?_
      refine SL.uu (ru_extract rfl rfl rfl) ?_
      refine SL.as ?_
      refine SL.as ?_
      refine SL.nil ?_
      refine SI.of_SE ?_
      refine SI.block ?_
      refine SI.loop (γ := NicA × (Nat → Prop) × (Value → List UInt8 → Prop)) (fun n g => [(0, pt wd 0), (3, pt d0 0), (6, iw ((oldF g.1).1)), (7, bo ((oldF g.1).2)), (20, Value.agg #[pt d0 0, pt d1 0]), (21, iw 0)]) (fun n g => [rBlk wd [pt d0 0, pt d1 0, Value.slice ql ((lfF S1.now M1.ps0).length) cl, Value.slice M1.q1 M1.ps1.length M1.c1, iw S1.now] 77, rDv 74 d0 g.2.2 g.1, rDv 74 d1 g.2.2 S1.A1, rRowN (.slice ql ((lfF S1.now M1.ps0).length) cl) (oRows (lfF S1.now M1.ps0)) 46 3, rR1 M1 46, rZ g.2.1 g.2.2, rDef D1]) (fun n g => NicOk g.1 ∧ drainF S1.now 16 (tickF S1.A0) = drainF S1.now n g.1 ∧ (g.1.r 5 - g.1.r 4) % 16 ≤ (n : Int) ∧ (∀ v f, fs1 v f → g.2.2 v f) ∧ ∀ b, g.2.1 b → F1 b ∨ w.heap.size ≤ b) 16 (tickF S1.A0, F1, fs1) ⟨tick_ok ha0, rfl, by simp only; omega, fun _ _ h => h, fun _ h => .inl h⟩ ⟨rfl, rfl, rfl, rfl, rfl, rfl, trivial⟩ rfl ?_
      rintro fu ⟨A9, F9, fs9⟩ ⟨hA9, hdr, hfu, hfs9, hF9⟩
      dsimp only at hA9 hdr hfu hfs9 hF9
      refine SI.seq ?_
      refine SI.seq ?_
      refine SI.of_SG (by exact fun a w h => ho a w h) (by kernel_rfl) (SG.region ?_)
      refine SL.mv ?_
      refine SL.mv ?_
      refine SL.join 4 [(0, pt wd 0), (3, pt d0 0), (6, iw ((oldF A9).1)), (7, bo ((oldF A9).2)), (20, Value.agg #[pt d0 0, pt d1 0]), (21, iw 0), (46, bo ((oldF A9).2)), (47, bo ((oldF A9).2)), (51, bo (((oldF A9).2) && (oldB S1.now ((oldF A9).1))))] [rBlk wd [pt d0 0, pt d1 0, Value.slice ql ((lfF S1.now M1.ps0).length) cl, Value.slice M1.q1 M1.ps1.length M1.c1, iw S1.now] 77, rDv 74 d0 fs9 A9, rDv 74 d1 fs9 S1.A1, rRowN (.slice ql ((lfF S1.now M1.ps0).length) cl) (oRows (lfF S1.now M1.ps0)) 46 3, rR1 M1 46, rZ F9 fs9, rDef D1] ?_ ?_
      rotate_left
      · intro K hK
        rcases tf ((oldF A9).2) with h21 | h21
        · skip
          refine SL.norm [(0, pt wd 0), (3, pt d0 0), (6, iw ((oldF A9).1)), (7, bo true), (20, Value.agg #[pt d0 0, pt d1 0]), (21, iw 0), (46, bo true), (47, bo true)] _ ⟨rfl, rfl, rfl, (congrArg (fun x => some (Value.bool x)) h21), rfl, rfl, (congrArg (fun x => some (Value.bool x)) h21), (congrArg (fun x => some (Value.bool x)) h21), trivial⟩ rfl ?_
          refine SL.gg (ru_move rfl rfl) ?_
          refine SL.gg (ru_move rfl rfl) ?_
          refine SL.callvg (bo (oldB S1.now ((oldF A9).1))) rfl rfl rfl rfl co51 rfl rfl rfl (lt_b rfl) (fun w hI => H_only hI (old_any (M := { M1 with F := F9, fs := fs9, q0 := ql, c0 := cl, ps0 := (lfF S1.now M1.ps0) }) (S := ((S1.setA false A9).setL false (ageF S1.now S1.L0))) _ ((hI.keep 6).1))) ?_
          refine SL.pk (bo (oldB S1.now ((oldF A9).1))) (bo false) ?_
          exact SL.joined hK ⟨rfl, rfl, rfl, (congrArg (fun x => some (Value.bool x)) h21.symm), rfl, rfl, (congrArg (fun x => some (Value.bool x)) h21.symm), (congrArg (fun x => some (Value.bool x)) h21.symm), (congrArg (fun bx => some (Value.bool (bx && (oldB S1.now ((oldF A9).1))))) h21.symm), trivial⟩ rfl
        refine SL.norm [(0, pt wd 0), (3, pt d0 0), (6, iw ((oldF A9).1)), (7, bo false), (20, Value.agg #[pt d0 0, pt d1 0]), (21, iw 0), (46, bo false), (47, bo false)] _ ⟨rfl, rfl, rfl, (congrArg (fun x => some (Value.bool x)) h21), rfl, rfl, (congrArg (fun x => some (Value.bool x)) h21), (congrArg (fun x => some (Value.bool x)) h21), trivial⟩ rfl ?_
        refine SL.oo ?_
        refine SL.oo ?_
        refine SL.oo ?_
        refine SL.pk (undef) (bo false) ?_
        exact SL.joined hK ⟨rfl, rfl, rfl, (congrArg (fun x => some (Value.bool x)) h21.symm), rfl, rfl, (congrArg (fun x => some (Value.bool x)) h21.symm), (congrArg (fun x => some (Value.bool x)) h21.symm), (congrArg (fun bx => some (Value.bool (bx && (oldB S1.now ((oldF A9).1))))) h21.symm), trivial⟩ rfl
      skip
      refine SL.nil ?_
      refine SI.of_SE ?_
      refine SI.both (((oldF A9).2) && (oldB S1.now ((oldF A9).1))) rfl (fun h22 => ?_) (fun h22 => ?_)
      · skip
        refine SI.skip ?_
        refine SI.of_SE ?_
        refine SI.seq ?_
        refine SI.block ?_
        refine SI.seq ?_
        refine SI.of_SG (by exact fun a w h => ho a w h) (by kernel_rfl) (SG.region ?_)
        refine SL.mv ?_
        refine SL.call (ζ := Option Addr × Nat × (Nat → Prop) × (Value → List UInt8 → Prop)) (fun z => Value.tuple #[Value.agg #[Value.slice z.1 ((takeR A9).1.1.1.length) z.2.1, bo false, iw ((takeR A9).1.1.2)], iw ((takeR A9).1.2)]) (fun z => [rBlk wd [pt d0 0, pt d1 0, Value.slice ql ((lfF S1.now M1.ps0).length) cl, Value.slice M1.q1 M1.ps1.length M1.c1, iw S1.now] 77, rDv 74 d0 z.2.2.2 ((takeR A9).2), rDv 74 d1 z.2.2.2 S1.A1, rRowN (.slice ql ((lfF S1.now M1.ps0).length) cl) (oRows (lfF S1.now M1.ps0)) 46 3, rR1 M1 46, rZ z.2.2.1 z.2.2.2, rDef D1]) (fun z => (∀ v f, fs9 v f → z.2.2.2 v f) ∧ ∀ b, z.2.2.1 b → F9 b ∨ w.heap.size ≤ b) rfl rfl co52 rfl rfl rfl (lt_b rfl) (fun w5 hI => (p_take hA9 (WL.nic0 (l := [rDef D1]) hI)).mono fun e w2 ⟨v, h1, k1, k3, k4⟩ => by obtain ⟨F1, g1, g2, g3, g4, qa, qc, rfl⟩ := out_frz k1 (WL.nic0 (l := [rDef D1]) hI).lt k4 (by have := takeR_len hA9; omega); obtain ⟨F', fs', q1, q2, q3⟩ := WL.turn0 (g := fun _ _ => False) (l := [rDef D1]) hI (.inl (.inr (.inl rfl))) g1 g2 k3 (fun _ _ h => h.elim); exact ⟨(qa, qc, F', fs'), h1, q2, fun v f h => q1 v f (.inl h), fun b hb => (q3 b hb).imp id (Nat.le_trans hI.2.size)⟩) ?_
        rintro ⟨q25, c26, Fz23, fz24⟩ ⟨hfz24, hFz23⟩
        dsimp only at hfz24 hFz23
        refine SL.mv ?_
        refine SL.uu (ru_extract rfl rfl rfl) ?_
        refine SL.uu (ru_extract rfl rfl rfl) ?_
        refine SL.alloca rfl rfl (lt_b rfl) ta46 rfl fun b27 hb27 => ?_
        refine SL.storea (i := 7) (vs := [Value.slice q25 ((takeR A9).1.1.1.length) c26, bo false, iw ((takeR A9).1.1.2)]) (c' := [Value.slice q25 ((takeR A9).1.1.1.length) c26, bo false, iw ((takeR A9).1.1.2)]) rfl rfl ta46 rfl rfl rfl rfl rfl rfl (le_b rfl) (.inr hb27) rfl ?_
        refine SL.as ?_
        refine SL.nil ?_
        refine SI.of_SE ?_
        refine SI.seq ?_
        refine SI.of_SG (by exact fun a w h => ho a w h) (by kernel_rfl) (SG.region ?_)
        refine SL.mv ?_
        refine SL.uu (ru_ne (b := ((((takeR A9).1.2) : Int) != 0)) rfl rfl rfl rfl) ?_
        refine SL.nil ?_
        refine SI.of_SE ?_
        refine SI.both ((((takeR A9).1.2) : Int) != 0) rfl (fun h28 => ?_) (fun h28 => ?_)
        · skip
          refine SI.exit ?_
          refine SF.blko (by decide) ?_
          refine SF.passe ?_
          refine SF.passe ?_
          refine SF.blke ?_
          refine SF.blkn ?_
          refine SI.of_SE ?_
          have hAf : NicOk (takeR A9).2 := take_okR hA9
          have hdA : drainF S1.now 16 (tickF S1.A0) = (takeR A9).2 := by rw [hdr]; exact drain_stop hA9 hfu h22 h28
          have hO2 : WM.Ok { M1 with F := Fz23, fs := fz24, q0 := ql, c0 := cl, ps0 := (lfF S1.now M1.ps0) } ((S1.setA false ((takeR A9).2)).setL false (ageF S1.now S1.L0)) := (hM1.age0 S1.now ql cl Fz23 fz24 (fun v f h => (fun v f h => hfz24 v f (hfs9 v f h)) v f (hf1 v f h)))
          have hst2 : ((S1.setA false ((takeR A9).2)).setL false (ageF S1.now S1.L0)) = tick1 S1 false := by unfold tick1; show _ = (S1.setA false (drainF S1.now 16 (tickF S1.A0))).setL _ _; rw [hdA]; rfl
          have hK2 : ∀ b, WM.K { M1 with F := Fz23, fs := fz24, q0 := ql, c0 := cl, ps0 := (lfF S1.now M1.ps0) } b → (b = wd ∨ b = d0 ∨ b = d1 ∨ M.K b) ∨ w.heap.size ≤ b := fun b hb => hb.age0 hK1 (fun b hb => (show F1 b ∨ w.heap.size ≤ b from (fun b hb => (hFz23 b hb).elim (hF9 b) .inr) b hb).elim (hF1 b) .inr) hql
          refine SI.of_SG (by exact fun a w h => ho a w h) (by kernel_rfl) (SG.region ?_)
          refine SL.uu (ru_add (r := 1) rfl rfl rfl rfl) ?_
          refine SL.mv ?_
          refine SL.nil ?_
          refine SF.reo [0, 1, 2, 3, 4, 5, 6] (by decide) ?_
          refine SF.againZ 1 ([D1], { M1 with F := Fz23, fs := fz24, q0 := ql, c0 := cl, ps0 := (lfF S1.now M1.ps0) }, ((S1.setA false ((takeR A9).2)).setL false (ageF S1.now S1.L0))) (by omega) rfl (TkP.next0 hp9 hD1 hO2 hst2 hAf (fun v f h => (fun v f h => hfz24 v f (hfs9 v f h)) v f (hf1 v f h)) hK2) ⟨rfl, rfl, rfl, trivial⟩ rfl
        refine SI.skip ?_
        refine SF.blkn ?_
        refine SI.of_SE ?_
        refine SI.of_SG (by exact fun a w h => ho a w h) (by kernel_rfl) (SG.region ?_)
        refine SL.mv ?_
        refine SL.callv (Value.tuple #[iw ((oldF ((takeR A9).2)).1), bo ((oldF ((takeR A9).2)).2)]) rfl rfl co19 rfl rfl rfl (lt_b rfl) (fun w hI => H_only hI (p_old (take_okR hA9) (WL.nic0 (l := [rDef D1, rBlk b27 [Value.slice q25 ((takeR A9).1.1.1.length) c26, bo false, iw ((takeR A9).1.1.2)] 46]) hI))) ?_
        refine SL.mv ?_
        refine SL.uu (ru_extract rfl rfl rfl) ?_
        refine SL.uu (ru_extract rfl rfl rfl) ?_
        refine SL.as ?_
        refine SL.as ?_
        refine SL.nil ?_
        have hdd := drain_go (now := S1.now) (A := A9) hA9 hfu h22 h28
        obtain ⟨f9, hfe, hd1, hd2, hd3⟩ := hdd
        refine SF.keep 7 ?_
        refine SF.again f9 ((takeR A9).2, Fz23, fz24) (by omega) ⟨hd3, by rw [hdr, hd1], hd2, fun v f h => hfz24 v f (hfs9 v f h), fun b hb => (hFz23 b hb).elim (hF9 b) .inr⟩ ⟨rfl, rfl, rfl, rfl, rfl, rfl, trivial⟩ rfl
      refine SI.exit ?_
      refine SF.passe ?_
      refine SF.passe ?_
      refine SF.blke ?_
      refine SF.blkn ?_
      refine SI.of_SE ?_
      have hAf : NicOk A9 := hA9
      have hdA : drainF S1.now 16 (tickF S1.A0) = A9 := by rw [hdr]; exact drain_end h22
      have hO2 : WM.Ok { M1 with F := F9, fs := fs9, q0 := ql, c0 := cl, ps0 := (lfF S1.now M1.ps0) } ((S1.setA false A9).setL false (ageF S1.now S1.L0)) := (hM1.age0 S1.now ql cl F9 fs9 (fun v f h => (hfs9) v f (hf1 v f h)))
      have hst2 : ((S1.setA false A9).setL false (ageF S1.now S1.L0)) = tick1 S1 false := by unfold tick1; show _ = (S1.setA false (drainF S1.now 16 (tickF S1.A0))).setL _ _; rw [hdA]; rfl
      have hK2 : ∀ b, WM.K { M1 with F := F9, fs := fs9, q0 := ql, c0 := cl, ps0 := (lfF S1.now M1.ps0) } b → (b = wd ∨ b = d0 ∨ b = d1 ∨ M.K b) ∨ w.heap.size ≤ b := fun b hb => hb.age0 hK1 (fun b hb => (show F1 b ∨ w.heap.size ≤ b from (hF9) b hb).elim (hF1 b) .inr) hql
      refine SI.of_SG (by exact fun a w h => ho a w h) (by kernel_rfl) (SG.region ?_)
      refine SL.uu (ru_add (r := 1) rfl rfl rfl rfl) ?_
      refine SL.mv ?_
      refine SL.nil ?_
      refine SF.reo [0, 1, 2, 3, 4, 5, 6] (by decide) ?_
      refine SF.againZ 1 ([D1], { M1 with F := F9, fs := fs9, q0 := ql, c0 := cl, ps0 := (lfF S1.now M1.ps0) }, ((S1.setA false A9).setL false (ageF S1.now S1.L0))) (by omega) rfl (TkP.next0 hp9 hD1 hO2 hst2 hAf (fun v f h => (hfs9) v f (hf1 v f h)) hK2) ⟨rfl, rfl, rfl, trivial⟩ rfl
  · exfalso; omega

end Go.Proofs.Ytcilikkljkdceaa
