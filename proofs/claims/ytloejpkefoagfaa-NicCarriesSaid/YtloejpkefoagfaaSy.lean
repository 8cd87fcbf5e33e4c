/-
  A light machine for walks: the frame and the world stand behind what is known of them (a list of slots, a list of resources), and each operation is one law. No program is named here.
-/
import Derived.Test.YtloejpkefoagfaaHeap
import Derived.Test.YtloejpkefoagfaaRow
import Derived.Test.YtloejpkefoagfaaRegion
import Derived.Deep.LoopGhost
namespace Go.Proofs.Ytloejpkefoagfaa
open Go.RowKit

/-- What lies in memory, on these blocks. -/
structure Res where
  ok : World → Prop
  fp : Nat → Prop
  lt : ∀ w, ok w → ∀ b, fp b → b < w.heap.size
  st : ∀ w w', ok w → (∀ b, fp b → w'.heap[b]? = w.heap[b]?) → ok w'

/-- All of these, apart from one another. -/
def Sep (w : World) (l : List Res) : Prop := (∀ r ∈ l, r.ok w) ∧ l.Pairwise (fun r s => ∀ b, r.fp b → ¬ s.fp b)

structure Cx where
  n : Nat
  w0 : World
  S : Nat → Prop

def Inv (X : Cx) (w : World) (l : List Res) : Prop := Sep w l ∧ Only X.S X.w0 w

theorem Sep.get {w : World} {l : List Res} {i : Nat} {r : Res} (h : Sep w l) (hi : l[i]? = some r) : r.ok w := h.1 r (List.mem_of_getElem? hi)

theorem Sep.add {w w' : World} {l : List Res} {r : Res} (h : Sep w l) (hw : ∀ b, b < w.heap.size → w'.heap[b]? = w.heap[b]?) (hr : r.ok w') (hf : ∀ b, r.fp b → w.heap.size ≤ b) : Sep w' (l ++ [r]) := by
  refine ⟨fun s hs => ?_, ?_⟩
  · rcases List.mem_append.1 hs with hs | hs
    · exact s.st w w' (h.1 s hs) fun b hb => hw b (s.lt w (h.1 s hs) b hb)
    · have : s = r := by simpa using hs
      rw [this]; exact hr
  · rw [List.pairwise_append]
    refine ⟨h.2, by simp, fun s hs t ht b hb hc => ?_⟩
    have : t = r := by simpa using ht
    subst this
    have h1 := s.lt w (h.1 s hs) b hb
    have h2 := hf b hc
    omega

theorem Sep.upd {w w' : World} {l : List Res} {i : Nat} {r r' : Res} (h : Sep w l) (hi : l[i]? = some r) (hw : ∀ b, ¬ r.fp b → b < w.heap.size → w'.heap[b]? = w.heap[b]?)
    (hr : r'.ok w') (hf : ∀ b, r'.fp b → r.fp b ∨ w.heap.size ≤ b) : Sep w' (l.set i r') := by
  have hil : i < l.length := (List.getElem?_eq_some_iff.1 hi).1
  have hp := List.pairwise_iff_getElem.1 h.2
  have hli : l[i] = r := (List.getElem?_eq_some_iff.1 hi).2
  refine ⟨fun s hs => ?_, ?_⟩
  · obtain ⟨j, hj, e⟩ := List.getElem_of_mem hs
    have hj' : j < l.length := by simpa using hj
    rw [List.getElem_set] at e
    by_cases hij : i = j
    · rw [if_pos hij] at e; rw [← e]; exact hr
    · rw [if_neg hij] at e
      have hsl : s ∈ l := e ▸ List.getElem_mem hj'
      refine s.st w w' (h.1 s hsl) fun b hb => hw b (fun hrb => ?_) (s.lt w (h.1 s hsl) b hb)
      subst e; subst hli
      rcases Nat.lt_or_gt_of_ne hij with hlt | hlt
      · exact hp i j hil hj' hlt b hrb hb
      · exact hp j i hj' hil hlt b hb hrb
  · rw [List.pairwise_iff_getElem]
    intro j k hj hk hjk b hb hc
    have hj' : j < l.length := by simpa using hj
    have hk' : k < l.length := by simpa using hk
    rw [List.getElem_set] at hb hc
    by_cases e1 : i = j
    · rw [if_pos e1] at hb
      rw [if_neg (by omega)] at hc
      rcases hf b hb with h1 | h1
      · subst e1; subst hli; exact hp i k hil hk' hjk b h1 hc
      · have := (l[k]).lt w (h.1 _ (List.getElem_mem hk')) b hc; omega
    · rw [if_neg e1] at hb
      by_cases e2 : i = k
      · rw [if_pos e2] at hc
        rcases hf b hc with h1 | h1
        · subst e2; subst hli; exact hp j i hj' hil hjk b hb h1
        · have := (l[j]).lt w (h.1 _ (List.getElem_mem hj')) b hb; omega
      · rw [if_neg e2] at hc
        exact hp j k hj' hk' hjk b hb hc

theorem Sep.same {w w' : World} {l : List Res} (h : Sep w l) (hw : ∀ b, b < w.heap.size → w'.heap[b]? = w.heap[b]?) : Sep w' l :=
  ⟨fun s hs => s.st w w' (h.1 s hs) fun b hb => hw b (s.lt w (h.1 s hs) b hb), h.2⟩

theorem Inv.drew {X : Cx} {w : World} {l : List Res} (h : Inv X w l) : Inv X w.drew l := ⟨h.1.same (fun _ _ => rfl), h.2.drew⟩
theorem Inv.draw1 {X : Cx} {w : World} {l : List Res} (h : Inv X w l) : Inv X { w with drawn := w.drawn + 1 } l := h.drew
theorem Inv.only {X : Cx} {w w' : World} {l : List Res} (h : Inv X w l) (hO : Only (fun _ => False) w w') : Inv X w' l :=
  ⟨h.1.same (fun b hb => hO.block b hb id), h.2.trans' hO (fun _ h => h.elim)⟩
theorem Inv.add {X : Cx} {w w' : World} {l : List Res} {r : Res} (h : Inv X w l) (hO : Only (fun _ => False) w w') (hr : r.ok w') (hf : ∀ b, r.fp b → w.heap.size ≤ b) : Inv X w' (l ++ [r]) :=
  ⟨h.1.add (fun b hb => hO.block b hb id) hr hf, h.2.trans' hO (fun _ h => h.elim)⟩
theorem Inv.upd {X : Cx} {w w' : World} {l : List Res} {i : Nat} {r r' : Res} (h : Inv X w l) (hi : l[i]? = some r) (hO : Only r.fp w w') (hS : ∀ b, r.fp b → X.S b ∨ X.w0.heap.size ≤ b)
    (hr : r'.ok w') (hf : ∀ b, r'.fp b → r.fp b ∨ w.heap.size ≤ b) : Inv X w' (l.set i r') :=
  ⟨h.1.upd hi (fun b hb hlt => hO.block b hlt hb) hr hf, h.2.trans' hO hS⟩

/-- A block known whole. -/
def rBlk (b : Nat) (c : List Value) (T : TypeId) : Res where
  ok w := Blk w b c T
  fp k := k = b
  lt w h k hk := by subst hk; exact Blk.lt h
  st w w' h hw := by unfold Blk; rw [hw b rfl]; exact h

/-! ## The frame -/

def look : List (Nat × Value) → Nat → Option Value
  | [], _ => none
  | (k, v) :: r, t => bif Nat.beq k t then some v else look r t

def Fr (n : Nat) (a : Act) (m : List (Nat × Value)) : Prop := a.defers = [] ∧ a.tmps.size = n ∧ ∀ t v, look m t = some v → a.tmps[t]? = some v

theorem Fr.put {n : Nat} {a : Act} {m : List (Nat × Value)} (h : Fr n a m) {d : Nat} (hd : d < n) (v : Value) : Fr n (a.put (some d) v) ((d, v) :: m) := by
  refine ⟨h.1, by simp [Act.put, h.2.1], fun t u hu => ?_⟩
  simp only [look] at hu
  simp only [Act.put]
  cases hb : Nat.beq d t
  · rw [hb] at hu
    have hne : d ≠ t := fun e => by subst e; simp at hb
    rw [Array.getElem?_setIfInBounds_ne hne]
    exact h.2.2 t u (by simpa using hu)
  · rw [hb] at hu
    have e : d = t := Nat.eq_of_beq_eq_true hb
    subst e
    simp at hu; subst hu
    rw [Array.getElem?_setIfInBounds_self]
    simp [h.2.1, hd]

def evM (m : List (Nat × Value)) : Operand → Option Value
  | .tmp t => look m t
  | .const v => some v
  | .global g => some (.pointer (some ⟨g, 0, none⟩))
  | .func f => some (.func (.func f) #[] #[])

theorem Fr.ev {n : Nat} {a : Act} {m : List (Nat × Value)} (h : Fr n a m) {x : Operand} {v : Value} (hx : evM m x = some v) : a.eval x = v := by
  cases x with
  | tmp t => simp only [evM] at hx; simp [Act.eval, h.2.2 t v hx]
  | const u => simpa [evM, Act.eval] using hx
  | global g => simpa [evM, Act.eval] using hx
  | func f => simpa [evM, Act.eval] using hx

/-- Every slot of the second list stands so in the first one. -/
def Subs (m : List (Nat × Value)) : List (Nat × Value) → Prop
  | [] => True
  | (t, v) :: r => look m t = some v ∧ Subs m r
theorem Subs.look {m m' : List (Nat × Value)} (h : Subs m m') : ∀ t v, look m' t = some v → look m t = some v := by
  induction m' with
  | nil => intro t v hv; simp [Proofs.Ytloejpkefoagfaa.look] at hv
  | cons x r ih =>
    obtain ⟨k, u⟩ := x
    intro t v hv
    simp only [Proofs.Ytloejpkefoagfaa.look] at hv
    cases hb : Nat.beq k t
    · rw [hb] at hv; exact ih h.2 t v (by simpa using hv)
    · rw [hb] at hv
      have e : k = t := Nat.eq_of_beq_eq_true hb
      subst e
      simp at hv; subst hv
      exact h.1
theorem Fr.sub {n : Nat} {a : Act} {m m' : List (Nat × Value)} (h : Fr n a m) (hs : Subs m m') : Fr n a m' := ⟨h.1, h.2.1, fun t v hv => h.2.2 t v (hs.look t v hv)⟩

/-! ## Judgements -/
section
variable (P : Program) (X : Cx)
def SL (ops : Array Oper) (Q : Exit → Act → World → Prop) (rest : List Oper) (m : List (Nat × Value)) (l : List Res) : Prop := ∀ a w, Fr X.n a m → Inv X w l → wpList P ops Q rest a w
def SC (c : Code) (Q : Exit → Act → World → Prop) (m : List (Nat × Value)) (l : List Res) : Prop := ∀ a w, Fr X.n a m → Inv X w l → c.wp P Q a w
def SE (Q : Exit → Act → World → Prop) (e : Exit) (m : List (Nat × Value)) (l : List Res) : Prop := ∀ a w, Fr X.n a m → Inv X w l → Q e a w
/-- A quiet walk: the resources stay. -/
def SQ (ops : Array Oper) (K : Act → Prop) (rest : List Oper) (m : List (Nat × Value)) (l : List Res) : Prop := ∀ a, Fr X.n a m → wpQuiet P ops (fun w => Inv X w l) K rest a
/-- An operation that comes to a value, and leaves the world. -/
def Ru (o : Oper) (m : List (Nat × Value)) (l : List Res) (v : Value) : Prop := ∀ a w, Fr X.n a m → Inv X w l → (execOp a.eval o).run P w = .ok (.value v) w
end

section
variable {P : Program} {X : Cx} {ops : Array Oper} {Q : Exit → Act → World → Prop} {rest : List Oper} {o : Oper} {m : List (Nat × Value)} {l : List Res} {v : Value} {d : Nat}

/-! ## Code -/
theorem SC.norm {c : Code} (m' : List (Nat × Value)) (l' : List Res) (hm : Subs m m') (hl : l = l') (h : SC P X c Q m' l') : SC P X c Q m l := fun a w hf hi => h a w (hf.sub hm) (hl ▸ hi)
theorem SE.norm {e : Exit} (m' : List (Nat × Value)) (l' : List Res) (hm : Subs m m') (hl : l = l') (h : SE X Q e m' l') : SE X Q e m l := fun a w hf hi => h a w (hf.sub hm) (hl ▸ hi)
theorem SL.norm (m' : List (Nat × Value)) (l' : List Res) (hm : Subs m m') (hl : l = l') (h : SL P X ops Q rest m' l') : SL P X ops Q rest m l := fun a w hf hi => h a w (hf.sub hm) (hl ▸ hi)
theorem SC.seq {x y : Code} (h : SC P X x (Exit.then (y.wp P Q) Q) m l) : SC P X (x.seq y) Q m l := fun a w hf hi => wp_seq (h a w hf hi)
theorem SC.block {id : Nat} {c : Code} (h : SC P X c (Exit.inBlock id Q) m l) : SC P X (.block id c) Q m l := fun a w hf hi => wp_block (h a w hf hi)
theorem SC.scope {c : Code} (h : SC P X c (Exit.noGoto Q) m l) : SC P X (.scope c) Q m l := fun a w hf hi => wp_scope_straight (h a w hf hi)
theorem SC.skip (h : SE X Q .normal m l) : SC P X .skip Q m l := fun a w hf hi => wp_skip (h a w hf hi)
theorem SC.label {k : Nat} (h : SE X Q .normal m l) : SC P X (.label k) Q m l := fun a w hf hi => wp_label (h a w hf hi)
theorem SC.exit {id : Nat} (h : SE X Q (.exit id) m l) : SC P X (.exit id) Q m l := fun a w hf hi => wp_exit (h a w hf hi)
theorem SC.ret (h : SE X Q .ret m l) : SC P X .ret Q m l := fun a w hf hi => wp_ret (h a w hf hi)
theorem SC.yes {c : Operand} {x y : Code} (hc : evM m c = some (.bool true)) (h : SC P X x Q m l) : SC P X (.cond c x y) Q m l := fun a w hf hi => wp_cond_true (hf.ev hc) (h a w hf hi)
theorem SC.no {c : Operand} {x y : Code} (hc : evM m c = some (.bool false)) (h : SC P X y Q m l) : SC P X (.cond c x y) Q m l := fun a w hf hi => wp_cond_false (hf.ev hc) (h a w hf hi)
theorem SC.both {c : Operand} {x y : Code} (b : Bool) (hc : evM m c = some (.bool b)) (ht : b = true → SC P X x Q m l) (hn : b = false → SC P X y Q m l) : SC P X (.cond c x y) Q m l := fun a w hf hi => wp_cond_split (hf.ev hc) (fun e => ht e a w hf hi) (fun e => hn e a w hf hi)
theorem SC.region {id : Nat} {L : List Oper} (h : SL P X L.toArray Q L m l) : SC P X (.region id L.toArray false) Q m l := fun a w hf hi => wp_region_lit (h a w hf hi)
theorem SC.of_SE {y : Code} {m' : List (Nat × Value)} {l' : List Res} (h : SC P X y Q m' l') : SE X (Exit.then (y.wp P Q) Q) .normal m' l' := h
theorem SE.pass {e : Exit} {K : Act → World → Prop} (he : e ≠ .normal) (h : SE X Q e m l) : SE X (Exit.then K Q) e m l := fun a w hf hi => by
  have := h a w hf hi
  cases e <;> first | exact this | exact absurd rfl he
theorem SE.passr {K : Act → World → Prop} (h : SE X Q .ret m l) : SE X (Exit.then K Q) .ret m l := h
theorem SE.passe {K : Act → World → Prop} {id : Nat} (h : SE X Q (.exit id) m l) : SE X (Exit.then K Q) (.exit id) m l := h
theorem SE.blkn {id : Nat} (h : SE X Q .normal m l) : SE X (Exit.inBlock id Q) .normal m l := h
theorem SE.blkr {id : Nat} (h : SE X Q .ret m l) : SE X (Exit.inBlock id Q) .ret m l := h
theorem SE.blke {id : Nat} (h : SE X Q .normal m l) : SE X (Exit.inBlock id Q) (.exit id) m l := fun a w hf hi => by simp only [Exit.inBlock, if_true]; exact h a w hf hi
theorem SE.blko {id id' : Nat} (hne : id' ≠ id) (h : SE X Q (.exit id') m l) : SE X (Exit.inBlock id Q) (.exit id') m l := fun a w hf hi => by simp only [Exit.inBlock, if_neg hne]; exact h a w hf hi
theorem SC.region_quiet {id : Nat} {L : List Oper} (hm : P.follows .mixedOrders = true) (hB : Region.lexB .any L.toArray = true) (h : SQ P X L.toArray (fun a' => ∀ w', Inv X w' l → Q .normal a' w') L m l) : SC P X (.region id L.toArray true) Q m l :=
  fun a w hf hi => wp_region_quiet hm hB hi.draw1 (h a hf)
theorem SC.region_tail {id : Nat} {L : List Oper} (n : Nat) (hm : P.follows .mixedOrders = true) (hB : Region.lexTailB .any L.toArray n = true)
    (h : SQ P X L.toArray (fun a' => ∀ w', Inv X w' l → wpList P L.toArray Q (L.drop n) a' w') (L.take n) m l) : SC P X (.region id L.toArray true) Q m l :=
  fun a w hf hi => wp_region_quiet_tail n hm hB hi.draw1 (h a hf)
theorem SQ.nilE (h : SE X Q .normal m l) : SQ P X ops (fun a' => ∀ w', Inv X w' l → Q .normal a' w') [] m l := fun a hf w' hi => h a w' hf hi
theorem SQ.nilL {L : List Oper} (h : SL P X ops Q L m l) : SQ P X ops (fun a' => ∀ w', Inv X w' l → wpList P ops Q L a' w') [] m l := fun a hf w' hi => h a w' hf hi

/-! ## Operations -/
theorem SL.nil (h : SE X Q .normal m l) : SL P X ops Q [] m l := fun a w hf hi => wpList_nil (h a w hf hi)
theorem SL.ru (hg : o.guard = none) (hd : o.dst = some d) (hn : d < X.n) (hr : Ru P X o m l v) (k : SL P X ops Q rest ((d, v) :: m) l) : SL P X ops Q (o :: rest) m l := fun a w hf hi =>
  wpList_plain hg fun K hK => by
    unfold Oper.wp
    rw [hr a w hf hi, Oper.upon_value, hd]
    exact hK _ _ (k _ w (hf.put hn v) hi)
theorem SQ.ru {K : Act → Prop} (hg : o.guard = none) (hd : o.dst = some d) (hn : d < X.n) (hr : Ru P X o m l v) (k : SQ P X ops K rest ((d, v) :: m) l) : SQ P X ops K (o :: rest) m l := fun a hf => by
  unfold wpQuiet
  rw [if_pos (by simp [Region.wanted, hg])]
  refine ⟨v, fun w hi => ?_, ?_⟩
  · unfold Oper.quietAt; rw [hr a w hf hi]; exact ⟨rfl, rfl⟩
  · rw [hd]; exact k _ (hf.put hn v)
theorem guard_is {j : Nat} {want : Bool} {dj : Nat} {b : Bool} {a : Act} (hf : Fr X.n a m) (hg : o.guard = some (j, want)) (hj : (ops[j]?).bind (·.dst) = some dj) (hb : look m dj = some (.bool b)) : Region.wanted o (yielded ops a.tmps) = (b == want) := by
  have h1 : yielded ops a.tmps j = some b := by
    unfold yielded
    rw [hj]
    simp [hf.2.2 dj _ hb]
  unfold Region.wanted
  rw [hg]
  simp [h1]
theorem SL.rug {j : Nat} {want : Bool} {dj : Nat} (hg : o.guard = some (j, want)) (hj : (ops[j]?).bind (·.dst) = some dj) (hb : look m dj = some (.bool want)) (hd : o.dst = some d) (hn : d < X.n) (hr : Ru P X o m l v)
    (k : SL P X ops Q rest ((d, v) :: m) l) : SL P X ops Q (o :: rest) m l := fun a w hf hi =>
  wpList_step fun K hK => by
    rw [if_pos (by rw [guard_is hf hg hj hb]; simp)]
    unfold Oper.wp
    rw [hr a w hf hi, Oper.upon_value, hd]
    exact hK _ _ (k _ w (hf.put hn v) hi)
theorem SQ.rug {K : Act → Prop} {j : Nat} {want : Bool} {dj : Nat} (hg : o.guard = some (j, want)) (hj : (ops[j]?).bind (·.dst) = some dj) (hb : look m dj = some (.bool want)) (hd : o.dst = some d) (hn : d < X.n) (hr : Ru P X o m l v)
    (k : SQ P X ops K rest ((d, v) :: m) l) : SQ P X ops K (o :: rest) m l := fun a hf => by
  unfold wpQuiet
  rw [if_pos (by rw [guard_is hf hg hj hb]; simp)]
  refine ⟨v, fun w hi => ?_, ?_⟩
  · unfold Oper.quietAt; rw [hr a w hf hi]; exact ⟨rfl, rfl⟩
  · rw [hd]; exact k _ (hf.put hn v)
/-- The guard says no. -/
theorem SL.off {j : Nat} {want b : Bool} {dj : Nat} (hg : o.guard = some (j, want)) (hj : (ops[j]?).bind (·.dst) = some dj) (hb : look m dj = some (.bool b)) (hw : (b == want) = false) (hd : o.dst = some d) (hn : d < X.n)
    (k : SL P X ops Q rest ((d, undef) :: m) l) : SL P X ops Q (o :: rest) m l := fun a w hf hi =>
  wpList_step fun K hK => by
    rw [if_neg (by rw [guard_is hf hg hj hb]; simp [hw]), hd]
    exact hK _ _ (k _ w (hf.put hn _) hi)
theorem SQ.off {K : Act → Prop} {j : Nat} {want b : Bool} {dj : Nat} (hg : o.guard = some (j, want)) (hj : (ops[j]?).bind (·.dst) = some dj) (hb : look m dj = some (.bool b)) (hw : (b == want) = false) (hd : o.dst = some d) (hn : d < X.n)
    (k : SQ P X ops K rest ((d, undef) :: m) l) : SQ P X ops K (o :: rest) m l := fun a hf => by
  unfold wpQuiet
  rw [if_neg (by rw [guard_is hf hg hj hb]; simp [hw]), hd]
  exact k _ (hf.put hn _)

theorem ru_move {x : Operand} (ho : o.op = .move x) (hx : evM m x = some v) : Ru P X o m l v := fun a w hf _ => by
  unfold execOp; rw [ho]; simp only [hf.ev hx]; rfl
theorem ru_assign {x : Operand} (ho : o.op = .assign x) (hx : evM m x = some v) : Ru P X o m l v := fun a w hf _ => by
  unfold execOp; rw [ho]; simp only [hf.ev hx]; rfl
theorem ru_pick {c x y : Operand} {b : Bool} {u v : Value} (ho : o.op = .pick c x y) (hc : evM m c = some (.bool b)) (hx : evM m x = some u) (hy : evM m y = some v) : Ru P X o m l (if b then u else v) := fun a w hf _ => by
  unfold execOp; rw [ho]; simp only [hf.ev hc, hf.ev hx, hf.ev hy]; rfl
theorem ru_extract {t : Operand} {i : Nat} {vs : Array Value} (ho : o.op = .extract t i) (ht : evM m t = some (.tuple vs)) (hv : vs[i]? = some v) : Ru P X o m l v := fun a w hf _ => by
  unfold execOp; rw [ho]; simp only [hf.ev ht, Instr.extract, hv]; rfl
theorem ru_nilCheck {x : Operand} {a : Addr} (ho : o.op = .nilCheck x) (hx : evM m x = some (.pointer (some a))) : Ru P X o m l (.pointer (some a)) := fun a w hf _ => by
  unfold execOp; rw [ho]; simp only [hf.ev hx]; rfl
theorem ru_bin {op : BinOp} {t t' : TypeId} {x y : Operand} {k : IntKind} {p q : Int} (ho : o.op = .binOp op t x y t') (hx : evM m x = some (.int k p)) (hy : evM m y = some (.int k q))
    (hr : ∀ w, (binOp op t (.int k p) (.int k q)).run P w = .ok v w) : Ru P X o m l v := fun a w hf _ => by
  unfold execOp; rw [ho]; simp only [hf.ev hx, hf.ev hy]
  have hg : (eqGuard op t x y (.int k p) (.int k q)).run P w = .ok () w := by unfold eqGuard; split <;> rfl
  rw [Sem.run_bind, Sem.run_bind, hg]
  simp only [Result.andThen_ok, hr w]
  rfl
end
end Go.Proofs.Ytloejpkefoagfaa
