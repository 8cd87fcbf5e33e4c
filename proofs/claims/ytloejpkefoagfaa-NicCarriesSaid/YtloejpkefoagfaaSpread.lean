/-
  A region that draws its order and holds operations that turn memory, each apart from the others: one walk in the order of the text serves every order. What is known of the world hangs on which of the listed operations have been.
-/
import Derived.Deep.QuietTactic
import Derived.StillTailTactics
namespace Go.Proofs.Ytloejpkefoagfaa
section
variable {P : Program} {ops : Array Oper} {md : Region.Mode} {sp : List Nat} {C : (Nat → Bool) → World → Prop}

/-- Operation i has been. -/
def doneSet (sp : List Nat) (i : Nat) (D : Nat → Bool) : Nat → Bool := if i ∈ sp then fun k => if k = i then true else D k else D

/-- What an operation may come to. -/
def spreadUpon (P : Program) (R : World → Prop) (v : Value) : Result Next → Prop
  | .ok (.value u) w' => u = v ∧ R w'
  | .ok .skip w' => v = undef ∧ R w'
  | .ok (.enter f args) w' => Calls P f args w' (fun e w'' => e = .returned v ∧ R w'')
  | _ => False

def spreadAt (P : Program) (sp : List Nat) (C : (Nat → Bool) → World → Prop) (i : Nat) (o : Oper) (a : Act) (v : Value) : Prop :=
  ∀ D w, C D w → (i ∈ sp → D i = false) → spreadUpon P (C (doneSet sp i D)) v ((execOp a.eval o).run P w)

/-- The walk in the order of the text. -/
def wpSpread (P : Program) (ops : Array Oper) (sp : List Nat) (C : (Nat → Bool) → World → Prop) (Q : Act → Prop) : Nat → List Oper → Act → Prop
  | _, [], a => Q a
  | k, o :: rest, a => if Region.wanted o (yielded ops a.tmps) then ∃ v, spreadAt P sp C k o a v ∧ wpSpread P ops sp C Q (k + 1) rest (a.put o.dst v) else wpSpread P ops sp C Q (k + 1) rest (a.put o.dst undef)

def sprOp (P : Program) (ops : Array Oper) (sp : List Nat) (C : (Nat → Bool) → World → Prop) (i : Nat) (K : Act → Prop) (a : Act) : Prop :=
  match ops[i]? with
  | none => K a
  | some o => if Region.wanted o (yielded ops a.tmps) then ∃ v, spreadAt P sp C i o a v ∧ K (a.put o.dst v) else K (a.put o.dst undef)

theorem sprOp_mono {i : Nat} {a : Act} {K K' : Act → Prop} (h : ∀ a, K a → K' a) (hh : sprOp P ops sp C i K a) : sprOp P ops sp C i K' a := by
  unfold sprOp at *
  split
  · exact h _ (by simpa [*] using hh)
  · rename_i o ho
    simp only [ho] at hh
    split
    · rename_i hw; simp only [hw, if_true] at hh; obtain ⟨v, h1, h2⟩ := hh; exact ⟨v, h1, h _ h2⟩
    · rename_i hw; simp only [hw] at hh; exact h _ hh

def wpAnySpr (P : Program) (md : Region.Mode) (ops : Array Oper) (sp : List Nat) (C : (Nat → Bool) → World → Prop) (Q : Act → Prop) : Nat → Array Bool → Act → Prop
  | 0, listed, a => Region.ready md ops listed = [] ∧ Q a
  | fuel + 1, listed, a =>
    (Region.ready md ops listed = [] → Q a) ∧
    ∀ i ∈ Region.ready md ops listed, sprOp P ops sp C i (wpAnySpr P md ops sp C Q fuel (listed.setIfInBounds i true)) a

/-- What the flags say. -/
def Flags (ops : Array Oper) (sp : List Nat) (listed : Array Bool) (D : Nat → Bool) : Prop := listed.size = ops.size ∧ ∀ i ∈ sp, i < ops.size → D i = listed.getD i true

theorem Flags.step {listed : Array Bool} {D : Nat → Bool} (h : Flags ops sp listed D) (i : Nat) : Flags ops sp (listed.setIfInBounds i true) (doneSet sp i D) := by
  refine ⟨by simp [h.1], fun j hj hlt => ?_⟩
  unfold doneSet
  by_cases hi : i ∈ sp
  · rw [if_pos hi]
    by_cases e : j = i
    · subst e; simp [h.1, hlt]
    · simp only [e, if_false]
      rw [getD_set_ne true (Ne.symm e)]; exact h.2 j hj hlt
  · rw [if_neg hi, getD_set_ne true (fun e => hi (by subst e; exact hj))]; exact h.2 j hj hlt

theorem wpAny_of_spr {Q : Act → Prop} {Q' : Exit → Act → World → Prop} (hg : ∀ i ∈ sp, ∀ o, ops[i]? = some o → o.guard = none) (hQ : ∀ a listed D w, Region.ready md ops listed = [] → Flags ops sp listed D → C D w → Q a → Q' .normal a w) :
    ∀ (fuel : Nat) (listed : Array Bool) (a : Act) (D : Nat → Bool) (w : World), Flags ops sp listed D → C D w → wpAnySpr P md ops sp C Q fuel listed a → wpAny P md ops Q' fuel listed a w
  | 0, listed, _, D, _, hf, hw, h => ⟨h.1, hQ _ listed D _ h.1 hf hw h.2⟩
  | fuel + 1, listed, a, D, w, hf, hw, h => ⟨fun h0 => hQ _ listed D _ h0 hf hw (h.1 h0), fun i hi => by
      have h2 := h.2 i hi
      have hun := (mem_ready.1 hi).1
      unfold sprOp at h2
      unfold wpOp
      split
      · rename_i ho
        obtain ⟨_, o, ho', _⟩ := mem_ready.1 hi
        rw [ho] at ho'; cases ho'
      · rename_i o ho
        simp only [ho] at h2
        have hlt : i < ops.size := (Array.getElem?_eq_some_iff.1 ho).1
        split
        · rename_i hwt
          simp only [hwt, if_true] at h2
          obtain ⟨v, h3, h4⟩ := h2
          left
          have h5 := h3 D w hw (fun hs => by rw [hf.2 i hs hlt]; exact hun)
          unfold Oper.wp
          generalize (execOp a.eval o).run P w = r at *
          cases r with
          | ok n w' =>
            cases n <;> simp only [spreadUpon] at h5 <;> simp only [Oper.upon]
            case value u => rw [h5.1]; exact wpAny_of_spr hg hQ fuel _ _ _ _ (hf.step i) h5.2 h4
            case skip => rw [← h5.1]; exact wpAny_of_spr hg hQ fuel _ _ _ _ (hf.step i) h5.2 h4
            case enter f args => exact h5.mono fun e w'' ⟨he, hc⟩ => by subst he; exact wpAny_of_spr hg hQ fuel _ _ _ _ (hf.step i) hc h4
          | halt x w' => simp only [spreadUpon] at h5
        · rename_i hwt
          simp only [hwt] at h2
          have hns : i ∉ sp := fun hs => hwt (by simp [Region.wanted, hg i hs o ho])
          have hf' := hf.step (sp := sp) i
          unfold doneSet at hf'
          rw [if_neg hns] at hf'
          exact wpAny_of_spr hg hQ fuel _ _ _ _ hf' hw h2⟩

/-- In state a, operation o (number i) comes to v. -/
def SprYields (P : Program) (ops : Array Oper) (sp : List Nat) (C : (Nat → Bool) → World → Prop) (i : Nat) (o : Oper) (v : Value) (a : Act) : Prop :=
  (Region.wanted o (yielded ops a.tmps) = true ∧ spreadAt P sp C i o a v) ∨ (Region.wanted o (yielded ops a.tmps) = false ∧ v = undef)

theorem SprYields.op {i : Nat} {o : Oper} {v : Value} {a : Act} (hi : ops[i]? = some o) (hy : SprYields P ops sp C i o v a) {K : Act → Prop} (h : K (a.put o.dst v)) : sprOp P ops sp C i K a := by
  unfold sprOp
  simp only [hi]
  rcases hy with ⟨hw, hv⟩ | ⟨hw, rfl⟩
  · simp only [hw, if_true]; exact ⟨v, hv, h⟩
  · simp only [hw, Bool.false_eq_true, if_false]; exact h

theorem SprYields.of_same {i : Nat} {o : Oper} {v : Value} {a a' : Act} (hy : SprYields P ops sp C i o v a) (he : execOp a'.eval o = execOp a.eval o)
    (hw : Region.wanted o (yielded ops a'.tmps) = Region.wanted o (yielded ops a.tmps)) : SprYields P ops sp C i o v a' := by
  unfold SprYields spreadAt at *
  rw [he, hw]
  exact hy

theorem sprYields_of_op {i : Nat} {o : Oper} {a : Act} {K : Act → Prop} (hi : ops[i]? = some o) (h : sprOp P ops sp C i K a) : ∃ v, SprYields P ops sp C i o v a ∧ K (a.put o.dst v) := by
  unfold sprOp at h
  simp only [hi] at h
  by_cases hw : Region.wanted o (yielded ops a.tmps) = true
  · simp only [hw, if_true] at h
    obtain ⟨v, h1, h2⟩ := h
    exact ⟨v, .inl ⟨hw, h1⟩, h2⟩
  · simp only [hw] at h
    exact ⟨undef, .inr ⟨by simpa using hw, rfl⟩, h⟩

theorem sprOp_put {i j : Nat} {oi oj : Oper} {v : Value} (hj : ops[j]? = some oj) (hap : oi.apart ops oj = true)
    (hsi : ∀ cs b, oi.op ≠ .select cs b) (hsj : ∀ cs b, oj.op ≠ .select cs b) {K : Act → Prop} {a : Act}
    (hy : SprYields P ops sp C i oi v a) (h : sprOp P ops sp C j K (a.put oi.dst v)) :
    sprOp P ops sp C j (fun a' => SprYields P ops sp C i oi v a' ∧ K (a'.put oi.dst v)) a := by
  obtain ⟨h1, h2, h3⟩ := Oper.apart_spec hap
  have keep : ∀ (a : Act), SprYields P ops sp C i oi v a → ∀ u, SprYields P ops sp C i oi v (a.put oj.dst u) := fun a hy u =>
    hy.of_same (execOp_put oi hsi a oj.dst u h3) (wanted_put oi a oj.dst u h3)
  unfold sprOp at *
  simp only [hj] at *
  rw [wanted_put oj a oi.dst v h1] at h
  split
  · rename_i hw
    simp only [hw, if_true] at h
    obtain ⟨u, hu, hn⟩ := h
    refine ⟨u, fun D w hD hs => ?_, keep a hy u, by rw [← Act.put_comm a v u h2]; exact hn⟩
    have := hu D w hD hs
    rwa [execOp_put oj hsj a oi.dst v h1] at this
  · rename_i hw
    simp only [hw] at h
    exact ⟨keep a hy _, by rw [← Act.put_comm a v undef h2]; exact h⟩

theorem wpAnySpr_first {Q : Act → Prop} {i : Nat} {oi : Oper} {v : Value} (hi : ops[i]? = some oi) (hsel : ∀ (j : Nat) (o : Oper) cs b, ops[j]? = some o → o.op ≠ .select cs b) :
    ∀ (fuel : Nat) (listed : Array Bool) (a : Act),
      (∀ j oj, ops[j]? = some oj → j ≠ i → listed.getD j true = false → (∀ e ∈ oj.after, Region.binds md e = true → e.on ≠ i) → oi.apart ops oj = true) →
      i ∈ Region.ready md ops listed → SprYields P ops sp C i oi v a →
      wpAnySpr P md ops sp C Q fuel (listed.setIfInBounds i true) (a.put oi.dst v) → wpAnySpr P md ops sp C Q (fuel + 1) listed a := by
  intro fuel
  induction fuel with
  | zero =>
    intro listed a _ hr hy H
    refine ⟨fun h => (by rw [h] at hr; cases hr), fun j hj => ?_⟩
    by_cases hji : j = i
    · subst hji; exact hy.op hi H
    · have := ready_mono hj hji
      rw [H.1] at this
      cases this
  | succ fuel ih =>
    intro listed a hfree hr hy H
    refine ⟨fun h => (by rw [h] at hr; cases hr), fun j hj => ?_⟩
    by_cases hji : j = i
    · subst hji; exact hy.op hi H
    · have h1 := H.2 j (ready_mono hj hji)
      obtain ⟨hjun, oj, hoj, hall⟩ := mem_ready.1 hj
      have hnot : ∀ e ∈ oj.after, Region.binds md e = true → e.on ≠ i := fun e he hb heq => by
        have h1 := hall e he hb
        have h0 := (mem_ready.1 hr).1
        rw [heq, getD_both h0] at h1
        cases h1
      have h2 := sprOp_put hoj (hfree j oj hoj hji hjun hnot) (fun cs b => hsel i oi cs b hi) (fun cs b => hsel j oj cs b hoj) hy h1
      have hfree' : ∀ k ok, ops[k]? = some ok → k ≠ i → (listed.setIfInBounds j true).getD k true = false →
          (∀ e ∈ ok.after, Region.binds md e = true → e.on ≠ i) → oi.apart ops ok = true := fun k ok hk hki hun hno => by
        refine hfree k ok hk hki ?_ hno
        by_cases hjk : j = k
        · subst hjk; exact hjun
        · rw [getD_set_ne true hjk] at hun; exact hun
      refine sprOp_mono (fun a' h3 => ih (listed.setIfInBounds j true) a' hfree' (ready_mono hr (Ne.symm hji)) h3.1 ?_) h2
      rw [Array.setIfInBounds_comm _ _ hji]
      exact h3.2

theorem wpAnySpr_lex {Q : Act → Prop} (hs : Region.noSelect ops = true) : ∀ (l : List Oper) (k : Nat) (listed : Array Bool) (a : Act), (∀ j, l[j]? = ops[k + j]?) →
    Region.lexFrom md ops l.length k listed = true → wpSpread P ops sp C Q k l a → wpAnySpr P md ops sp C Q l.length listed a
  | [], _, _, _, _, hB, h => ⟨by simpa [Region.lexFrom] using hB, h⟩
  | o :: l, k, listed, a, hl, hB, h => by
    have h0 : ops[k]? = some o := by simpa using (hl 0).symm
    simp only [List.length_cons, Region.lexFrom, Bool.and_eq_true] at hB
    obtain ⟨⟨hr, hf⟩, hB'⟩ := hB
    have hst : sprOp P ops sp C k (wpSpread P ops sp C Q (k + 1) l) a := by unfold sprOp; simp only [h0]; exact h
    obtain ⟨v, hy, hK⟩ := sprYields_of_op h0 hst
    exact wpAnySpr_first h0 (Region.noSelect_spec hs) l.length listed a (Region.free_spec h0 hf) (by simpa using hr) hy
      (wpAnySpr_lex hs l (k + 1) _ _ (fun j => by have := hl (j + 1); simpa [Nat.add_assoc, Nat.add_comm 1 j] using this) hB' hK)

/-- Each edge leads back. -/
def backB (ops : Array Oper) : Bool := (List.range ops.size).all fun i => ((ops[i]?).map (·.after.all fun e => !Region.binds .any e || decide (e.on < i))).getD false

theorem all_listed (hb : backB ops = true) {listed : Array Bool} (hs : listed.size = ops.size) (hr : Region.ready .any ops listed = []) : ∀ i, i < ops.size → listed.getD i true = true := by
  intro i
  induction i using Nat.strongRecOn with
  | _ i ih =>
    intro hi
    cases hl : listed.getD i true with
    | true => rfl
    | false =>
      have hb1 := List.all_eq_true.1 hb i (List.mem_range.2 hi)
      have ho : ops[i]? = some ops[i] := by simp [hi]
      rw [ho] at hb1
      simp only [Option.map_some, Option.getD_some, Array.all_eq_true_iff_forall_mem, Bool.or_eq_true, Bool.not_eq_true', decide_eq_true_eq] at hb1
      have : i ∈ Region.ready .any ops listed := mem_ready.2 ⟨hl, ops[i], ho, fun e he hbd => by
        rcases hb1 e he with h1 | h1
        · rw [h1] at hbd; cases hbd
        · have h2 := ih e.on h1 (by omega)
          have hlt : e.on < listed.size := by omega
          simpa [hlt] using h2⟩
      rw [hr] at this; cases this

/-- One walk, in the order of the text, serves every order: sp are the numbers of the operations that turn what C says. -/
theorem wp_region_spread {id : Nat} {Q : Exit → Act → World → Prop} {a : Act} {w : World} {l : List Oper} (sp : List Nat) (C : (Nat → Bool) → World → Prop) (hm : P.follows .mixedOrders = true) (hB : Region.lexB .any l.toArray = true) (hb : backB l.toArray = true)
    (hg : (sp.all fun i => ((l[i]?).map (fun o => o.guard.isNone)).getD false) = true) (hC : C (fun _ => false) { w with drawn := w.drawn + 1 })
    (h : wpSpread P l.toArray sp C (fun a' => ∀ D w', (∀ i ∈ sp, D i = true) → C D w' → Q .normal a' w') 0 l a) : (Code.region id l.toArray true).wp P Q a w := by
  simp only [Region.lexB, Bool.and_eq_true] at hB
  have hg' : ∀ i ∈ sp, i < l.length ∧ ∀ o, l.toArray[i]? = some o → o.guard = none := by
    intro i hi
    have := List.all_eq_true.1 hg i hi
    cases ho : l[i]? with
    | none => rw [ho] at this; simp at this
    | some o =>
      rw [ho] at this
      refine ⟨(List.getElem?_eq_some_iff.1 ho).1, fun o' ho' => ?_⟩
      have e : l[i]? = some o' := by simpa using ho'
      rw [ho] at e; cases e
      simpa using this
  refine wp_region_any hm (wpAny_of_spr (sp := sp) (C := C) (Q := fun a' => ∀ D w', (∀ i ∈ sp, D i = true) → C D w' → Q .normal a' w') (fun i hi o ho => (hg' i hi).2 o ho) (fun a' listed D w' hr hf hC' h => ?_) _ _ _ (fun _ => false) _ ?_ hC ?_)
  · refine h D w' (fun i hi => ?_) hC'
    have hlt : i < l.toArray.size := by simpa using (hg' i hi).1
    rw [hf.2 i hi hlt]
    exact all_listed hb hf.1 hr i hlt
  · refine ⟨by simp, fun i _ hlt => ?_⟩
    have hlt' : i < l.length := by simpa using hlt
    simp [hlt']
  · have := wpAnySpr_lex (sp := sp) (C := C) (md := .any) hB.1 l 0 (Array.replicate l.toArray.size false) a (by simp) (by simpa using hB.2) h
    simpa using this

/-! The same for a head of n operations; the others come behind all of them, in their order. -/
def wpAnySprL (P : Program) (md : Region.Mode) (ops : Array Oper) (sp : List Nat) (C : (Nat → Bool) → World → Prop) (n : Nat) (L : Array Bool → Act → Prop) : Nat → Array Bool → Act → Prop
  | 0, listed, a => L listed a
  | f + 1, listed, a =>
    Region.ready md ops listed ≠ [] ∧ ∀ i ∈ Region.ready md ops listed, i < n ∧ sprOp P ops sp C i (wpAnySprL P md ops sp C n L f (listed.setIfInBounds i true)) a

theorem wpAny_of_headSpr (hg : ∀ i ∈ sp, ∀ o, ops[i]? = some o → o.guard = none) {n g : Nat} {L : Array Bool → Act → Prop} {Q' : Exit → Act → World → Prop} (hL : ∀ listed a D w, Flags ops sp listed D → C D w → L listed a → wpAny P md ops Q' g listed a w) :
    ∀ (f : Nat) (listed : Array Bool) (a : Act) (D : Nat → Bool) (w : World), Flags ops sp listed D → C D w → wpAnySprL P md ops sp C n L f listed a → wpAny P md ops Q' (f + g) listed a w
  | 0, listed, a, D, w, hf, hw, h => by rw [Nat.zero_add]; exact hL _ _ _ _ hf hw h
  | f + 1, listed, a, D, w, hf, hw, h => by
    rw [show f + 1 + g = (f + g) + 1 by omega]
    refine ⟨fun h0 => absurd h0 h.1, fun i hi => ?_⟩
    have h2 := (h.2 i hi).2
    have hun := (mem_ready.1 hi).1
    unfold sprOp at h2
    unfold wpOp
    split
    · rename_i ho
      obtain ⟨_, o, ho', _⟩ := mem_ready.1 hi
      rw [ho] at ho'; cases ho'
    · rename_i o ho
      simp only [ho] at h2
      have hlt : i < ops.size := (Array.getElem?_eq_some_iff.1 ho).1
      split
      · rename_i hwt
        simp only [hwt, if_true] at h2
        obtain ⟨v, h3, h4⟩ := h2
        left
        have h5 := h3 D w hw (fun hs => by rw [hf.2 i hs hlt]; exact hun)
        unfold Oper.wp
        generalize (execOp a.eval o).run P w = r at *
        cases r with
        | ok n w' =>
          cases n <;> simp only [spreadUpon] at h5 <;> simp only [Oper.upon]
          case value u => rw [h5.1]; exact wpAny_of_headSpr hg hL f _ _ _ _ (hf.step i) h5.2 h4
          case skip => rw [← h5.1]; exact wpAny_of_headSpr hg hL f _ _ _ _ (hf.step i) h5.2 h4
          case enter f' args => exact h5.mono fun e w'' ⟨he, hc⟩ => by subst he; exact wpAny_of_headSpr hg hL f _ _ _ _ (hf.step i) hc h4
        | halt x w' => simp only [spreadUpon] at h5
      · rename_i hwt
        simp only [hwt] at h2
        have hns : i ∉ sp := fun hs => hwt (by simp [Region.wanted, hg i hs o ho])
        have hf' := hf.step (sp := sp) i
        unfold doneSet at hf'
        rw [if_neg hns] at hf'
        exact wpAny_of_headSpr hg hL f _ _ _ _ hf' hw h2

theorem wpAnySprL_first {n i : Nat} {oi : Oper} {v : Value} {L : Array Bool → Act → Prop} (hi : ops[i]? = some oi) (hsel : ∀ (j : Nat) (o : Oper) cs b, ops[j]? = some o → o.op ≠ .select cs b)
    (hs : Region.sinkB md ops n = true) (hc : Region.chainB md ops n = true) (hn : n < ops.size) (hin : i < n)
    (hdone : ∀ listed a, L listed a → ∀ j ∈ Region.ready md ops listed, n ≤ j) :
    ∀ (f : Nat) (listed : Array Bool) (a : Act), HeadInv md ops n listed →
      (∀ j oj, ops[j]? = some oj → j ≠ i → listed.getD j true = false → (∀ e ∈ oj.after, Region.binds md e = true → e.on ≠ i) → oi.apart ops oj = true) →
      i ∈ Region.ready md ops listed → SprYields P ops sp C i oi v a →
      wpAnySprL P md ops sp C n L f (listed.setIfInBounds i true) (a.put oi.dst v) → wpAnySprL P md ops sp C n L (f + 1) listed a := by
  intro f
  induction f with
  | zero =>
    intro listed a inv _ hr hy H
    have hun := (mem_ready.1 hr).1
    refine ⟨fun h => (by rw [h] at hr; cases hr), fun j hj => ?_⟩
    have hjn : j < n := by
      rcases Nat.lt_or_ge j n with h | h
      · exact h
      · exact absurd hj (tail_waits hs hc hn inv _ i rfl hin hun j h)
    refine ⟨hjn, ?_⟩
    by_cases hji : j = i
    · subst hji; exact hy.op hi H
    · have := hdone _ _ H j (ready_mono hj hji)
      omega
  | succ f ih =>
    intro listed a inv hfree hr hy H
    have hun := (mem_ready.1 hr).1
    refine ⟨fun h => (by rw [h] at hr; cases hr), fun j hj => ?_⟩
    have hjn : j < n := by
      rcases Nat.lt_or_ge j n with h | h
      · exact h
      · exact absurd hj (tail_waits hs hc hn inv _ i rfl hin hun j h)
    refine ⟨hjn, ?_⟩
    by_cases hji : j = i
    · subst hji; exact hy.op hi H
    · have h1 := (H.2 j (ready_mono hj hji)).2
      obtain ⟨hjun, oj, hoj, hall⟩ := mem_ready.1 hj
      have hnot : ∀ e ∈ oj.after, Region.binds md e = true → e.on ≠ i := fun e he hb heq => by
        have h1 := hall e he hb
        rw [heq, getD_both hun] at h1
        cases h1
      have h2 := sprOp_put hoj (hfree j oj hoj hji hjun hnot) (fun cs b => hsel i oi cs b hi) (fun cs b => hsel j oj cs b hoj) hy h1
      have hfree' : ∀ k ok, ops[k]? = some ok → k ≠ i → (listed.setIfInBounds j true).getD k true = false →
          (∀ e ∈ ok.after, Region.binds md e = true → e.on ≠ i) → oi.apart ops ok = true := fun k ok hk hki hun hno => by
        refine hfree k ok hk hki ?_ hno
        by_cases hjk : j = k
        · subst hjk; exact hjun
        · rw [getD_set_ne true hjk] at hun; exact hun
      refine sprOp_mono (fun a' h3 => ih (listed.setIfInBounds j true) a' (inv.set hj hjn) hfree' (ready_mono hr (Ne.symm hji)) h3.1 ?_) h2
      rw [Array.setIfInBounds_comm _ _ hji]
      exact h3.2

theorem wpAnySprL_lex {n g : Nat} {Lq : Act → Prop} (hsel : Region.noSelect ops = true) (hs : Region.sinkB md ops n = true) (hc : Region.chainB md ops n = true) (hn : n < ops.size) :
    ∀ (l : List Oper) (k : Nat) (listed : Array Bool) (a : Act), (∀ j, j < l.length → l[j]? = ops[k + j]?) → k + l.length = n → HeadInv md ops n listed →
    Region.lexHead md ops g l.length k listed = true → wpSpread P ops sp C Lq k l a →
    wpAnySprL P md ops sp C n (fun listed' a' => (Region.seqB md ops g n listed' = true ∧ ∀ j, j < n → listed'.getD j true = true) ∧ Lq a') l.length listed a ∨ ¬ (∀ j, j < k → listed.getD j true = true)
  | [], k, listed, a, _, hk, _, hB, h => by
    have : k = n := by simpa using hk
    subst this
    by_cases hq : ∀ j, j < k → listed.getD j true = true
    · exact .inl ⟨⟨by simpa [Region.lexHead] using hB, hq⟩, h⟩
    · exact .inr hq
  | o :: l, k, listed, a, hl, hk, inv, hB, h => by
    have h0 : ops[k]? = some o := by simpa using (hl 0 (by simp)).symm
    simp only [List.length_cons, Region.lexHead, Bool.and_eq_true] at hB
    obtain ⟨⟨hr, hf⟩, hB'⟩ := hB
    have hkn : k < n := by simp only [List.length_cons] at hk; omega
    have hr' : k ∈ Region.ready md ops listed := by simpa using hr
    have hst : sprOp P ops sp C k (wpSpread P ops sp C Lq (k + 1) l) a := by unfold sprOp; simp only [h0]; exact h
    obtain ⟨v, hy, hK⟩ := sprYields_of_op h0 hst
    by_cases hq : ∀ j, j < k → listed.getD j true = true
    · rcases wpAnySprL_lex (g := g) hsel hs hc hn l (k + 1) (listed.setIfInBounds k true) (a.put o.dst v) (fun j hj => by have := hl (j + 1) (by simp; omega); simpa [Nat.add_assoc, Nat.add_comm 1 j] using this) (by simp only [List.length_cons] at hk; omega) (inv.set hr' hkn) hB' hK with h1 | h1
      · exact .inl (wpAnySprL_first h0 (Region.noSelect_spec hsel) hs hc hn hkn (fun listed' a' hL => seqB_ready hL.1.1) l.length listed a inv (Region.free_spec h0 hf) hr' hy h1)
      · refine absurd (fun j hj => ?_) h1
        by_cases e : k = j
        · subst e
          have : k < listed.size := by rw [inv.size]; omega
          simp [this]
        · rw [getD_set_ne true e]; exact hq j (by omega)
    · exact .inr hq

theorem wp_region_spread_tail {id : Nat} {Q : Exit → Act → World → Prop} {a : Act} {w : World} {l : List Oper} (n : Nat) (sp : List Nat) (C : (Nat → Bool) → World → Prop) (hm : P.follows .mixedOrders = true) (hB : Region.lexTailB .any l.toArray n = true)
    (hg : (sp.all fun i => decide (i < n) && ((l[i]?).map (fun o => o.guard.isNone)).getD false) = true) (hC : C (fun _ => false) { w with drawn := w.drawn + 1 })
    (h : wpSpread P l.toArray sp C (fun a' => ∀ D w', (∀ i ∈ sp, D i = true) → C D w' → wpList P l.toArray Q (l.drop n) a' w') 0 (l.take n) a) : (Code.region id l.toArray true).wp P Q a w := by
  simp only [Region.lexTailB, Bool.and_eq_true, decide_eq_true_eq] at hB
  obtain ⟨⟨⟨⟨hsel, hn⟩, hs⟩, hc⟩, hlex⟩ := hB
  have hn' : n < l.length := by simpa using hn
  have htl : (l.take n).length = n := by simp; omega
  have hdl : (l.drop n).length = l.toArray.size - n := by simp
  have hg' : ∀ i ∈ sp, i < n ∧ ∀ o, l.toArray[i]? = some o → o.guard = none := by
    intro i hi
    have := List.all_eq_true.1 hg i hi
    simp only [Bool.and_eq_true, decide_eq_true_eq] at this
    refine ⟨this.1, fun o ho => ?_⟩
    have e : l[i]? = some o := by simpa using ho
    have h2 := this.2
    rw [e] at h2
    simpa using h2
  have inv0 : HeadInv .any l.toArray n (Array.replicate l.toArray.size false) :=
    ⟨by simp, fun j oj _ hl => (by rw [getD_replicate_false] at hl; cases hl), fun t _ ht => getD_in (by simpa using ht) (getD_replicate_false _ _)⟩
  have H := wpAnySprL_lex (sp := sp) (C := C) (md := .any) (g := l.toArray.size - n) hsel hs hc hn (l.take n) 0 _ a (fun j hj => by
    have hj' : j < n := by rw [htl] at hj; exact hj
    simp [hj']) (by simpa using htl) inv0 (by rw [htl]; exact hlex) h
  rcases H with H | H
  · refine wp_region_any hm ?_
    have := wpAny_of_headSpr (Q' := Q) (g := l.toArray.size - n) (fun i hi o ho => (hg' i hi).2 o ho) (fun listed a' D w' hf hw' hL => by
      have hD : ∀ i ∈ sp, D i = true := fun i hi => by
        rw [hf.2 i hi (by have := (hg' i hi).1; omega)]; exact hL.1.2 i (hg' i hi).1
      have := wpAny_of_seq (md := .any) (Q' := Q) (l.drop n) n listed a' w' (fun j => by simp [List.getElem?_drop]) (by rw [hdl]; exact hL.1.1) (hL.2 D w' hD hw')
      rwa [hdl] at this) _ _ _ (fun _ => false) _ (⟨by simp, fun i _ hlt => by
        have hlt' : i < l.length := by simpa using hlt
        simp [hlt']⟩) hC H
    rw [htl, show n + (l.toArray.size - n) = l.toArray.size by omega] at this
    exact this
  · exact absurd (fun j hj => absurd hj (Nat.not_lt_zero j)) H

/-! One operation that turns the world, at a known place: two worlds. -/
def twoW (i : Nat) (w0 w1 : World) : (Nat → Bool) → World → Prop := fun D w => w = if D i then w1 else w0

theorem two_quiet {i k : Nat} {w0 w1 : World} (hki : k ≠ i) {Q : Act → Prop} {o : Oper} {rest : List Oper} {a : Act} {v : Value} (hg : o.guard = none)
    (h0 : (execOp a.eval o).run P w0 = .ok (.value v) w0) (h1 : (execOp a.eval o).run P w1 = .ok (.value v) w1)
    (hr : wpSpread P ops [i] (twoW i w0 w1) Q (k + 1) rest (a.put o.dst v)) : wpSpread P ops [i] (twoW i w0 w1) Q k (o :: rest) a := by
  unfold wpSpread
  rw [if_pos (by simp [Region.wanted, hg])]
  refine ⟨v, fun D w hD _ => ?_, hr⟩
  have hns : k ∉ [i] := by simpa using hki
  unfold twoW at hD
  subst hD
  have e : doneSet [i] k D = D := by unfold doneSet; rw [if_neg hns]
  rw [e]
  cases hDi : D i with
  | true => simp only [if_true]; rw [h1]; exact ⟨rfl, by unfold twoW; rw [hDi]; rfl⟩
  | false => simp only [Bool.false_eq_true, if_false]; rw [h0]; exact ⟨rfl, by unfold twoW; rw [hDi]; rfl⟩

theorem two_turns {i : Nat} {w0 w1 : World} {Q : Act → Prop} {o : Oper} {rest : List Oper} {a : Act} {v : Value} (hg : o.guard = none)
    (h0 : (execOp a.eval o).run P w0 = .ok (.value v) w1)
    (hr : wpSpread P ops [i] (twoW i w0 w1) Q (i + 1) rest (a.put o.dst v)) : wpSpread P ops [i] (twoW i w0 w1) Q i (o :: rest) a := by
  unfold wpSpread
  rw [if_pos (by simp [Region.wanted, hg])]
  refine ⟨v, fun D w hD hf => ?_, hr⟩
  have hDi := hf (by simp)
  unfold twoW at hD
  rw [hDi] at hD
  simp only [Bool.false_eq_true, if_false] at hD
  subst hD
  rw [h0]
  refine ⟨rfl, ?_⟩
  unfold twoW doneSet
  simp

theorem two_skip {i k : Nat} {w0 w1 : World} (hki : k ≠ i) {Q : Act → Prop} {o : Oper} {rest : List Oper} {a : Act} (hg : o.guard = none)
    (h0 : (execOp a.eval o).run P w0 = .ok .skip w0) (h1 : (execOp a.eval o).run P w1 = .ok .skip w1)
    (hr : wpSpread P ops [i] (twoW i w0 w1) Q (k + 1) rest (a.put o.dst undef)) : wpSpread P ops [i] (twoW i w0 w1) Q k (o :: rest) a := by
  unfold wpSpread
  rw [if_pos (by simp [Region.wanted, hg])]
  refine ⟨undef, fun D w hD _ => ?_, hr⟩
  have hns : k ∉ [i] := by simpa using hki
  unfold twoW at hD
  subst hD
  have e : doneSet [i] k D = D := by unfold doneSet; rw [if_neg hns]
  rw [e]
  cases hDi : D i with
  | true => simp only [if_true]; rw [h1]; exact ⟨rfl, by unfold twoW; rw [hDi]; rfl⟩
  | false => simp only [Bool.false_eq_true, if_false]; rw [h0]; exact ⟨rfl, by unfold twoW; rw [hDi]; rfl⟩

theorem wpSpread_end {k : Nat} {Q : Act → Prop} {a : Act} (h : Q a) : wpSpread P ops sp C Q k [] a := by unfold wpSpread; exact h

theorem wp_region_two {id : Nat} {Q : Exit → Act → World → Prop} {a : Act} {w : World} {l : List Oper} (n i : Nat) (w1 : World) (hm : P.follows .mixedOrders = true) (hB : Region.lexTailB .any l.toArray n = true)
    (hg : ([i].all fun i => decide (i < n) && ((l[i]?).map (fun o => o.guard.isNone)).getD false) = true)
    (h : wpSpread P l.toArray [i] (twoW i w.drew w1) (fun a' => wpList P l.toArray Q (l.drop n) a' w1) 0 (l.take n) a) : (Code.region id l.toArray true).wp P Q a w := by
  refine wp_region_spread_tail n [i] (twoW i w.drew w1) hm hB hg (by unfold twoW; rfl) ?_
  have e : (fun a' => ∀ D w', (∀ j ∈ [i], D j = true) → twoW i w.drew w1 D w' → wpList P l.toArray Q (l.drop n) a' w') = (fun a' => wpList P l.toArray Q (l.drop n) a' w1) := by
    funext a'; apply propext
    constructor
    · intro H; exact H (fun _ => true) w1 (fun _ _ => rfl) (by unfold twoW; rfl)
    · intro H D w' hD hw
      have := hD i (by simp)
      unfold twoW at hw
      rw [this] at hw
      simp only [if_true] at hw
      subst hw; exact H
  rw [e]; exact h
end
end Go.Proofs.Ytloejpkefoagfaa
