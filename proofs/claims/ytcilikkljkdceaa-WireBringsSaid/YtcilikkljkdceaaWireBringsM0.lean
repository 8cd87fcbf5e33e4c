/-
  What the proof of WireBrings stands on, part 0: each theorem by itself, under the conditions that it names.
-/
import Derived.WalkKit
import Derived.WalkSpells
import Derived.Laws.CopyOwn
import Derived.Deep.Draws
import Derived.Laws.AppendOwnNone
import Derived.Laws.Rows
import Derived.Laws.Tables
import Derived.Laws.ResultCell
import Derived.Deep.QuietTactic
import Derived.StillTailTactics
import Derived.Deep.LoopGhost
import Derived.Laws.CopyRow
import Derived.Laws.MakeOwn
import Derived.Laws.BytesString
import Derived.RangeFuncLeaves
import Derived.RangeFuncRecord
import Derived.RangeFuncCalls
import Derived.OrdersIn
/-
  What is known of a block of memory, and what a call has left alone. No program is named here.
-/
namespace Go.Proofs.Ytcilikkljkdceaa
open Go.RowKit

def Blk (w : World) (b : Nat) (c : List Value) (T : TypeId) : Prop := w.heap[b]? = some (.cells c.toArray T (0, 0))

section
variable {w w' : World} {b : Nat} {c : List Value} {T : TypeId}
theorem Blk.lt (h : Blk w b c T) : b < w.heap.size := (Array.getElem?_eq_some_iff.1 h).1
theorem Blk.cell (h : Blk w b c T) (o : Nat) : w.cell? ⟨b, o, none⟩ = c[o]? := by
  unfold Blk at h; simp [World.cell?, h]
theorem Blk.fz (h : Blk w b c T) (o : Nat) : w.frozen? ⟨b, o, none⟩ = false := by
  unfold Blk at h; simp [World.frozen?, h]
theorem Blk.set (h : Blk w b c T) (o : Nat) (v : Value) : Blk (w.setCell ⟨b, o, none⟩ v) b (c.set o v) T := by
  have := heap_setCell_same w b o c.toArray T v h
  unfold Blk; rw [this]; simp
theorem Blk.new' (w : World) (c : Array Value) (T : TypeId) : Blk (w.alloc (.cells c T)) w.heap.size c.toList T := Go.heap_alloc_new w _
end

structure Only (S : Nat → Prop) (w w' : World) : Prop where
  os : w'.os = w.os
  tape : w'.tape = w.tape
  output : w'.output = w.output
  size : w.heap.size ≤ w'.heap.size
  block : ∀ k, k < w.heap.size → ¬ S k → w'.heap[k]? = w.heap[k]?

section
variable {S S' : Nat → Prop} {w w0 w1 w2 : World}
theorem Only.refl (S : Nat → Prop) (w : World) : Only S w w := ⟨rfl, rfl, rfl, Nat.le_refl _, fun _ _ _ => rfl⟩
theorem Only.trans' (h : Only S w w1) (k : Only S' w1 w2) (hs : ∀ b, S' b → S b ∨ w.heap.size ≤ b) : Only S w w2 :=
  ⟨k.os.trans h.os, k.tape.trans h.tape, k.output.trans h.output, Nat.le_trans h.size k.size, fun b hb hn =>
    (k.block b (Nat.lt_of_lt_of_le hb h.size) (fun hs' => (hs b hs').elim hn (fun hg => absurd hb (Nat.not_lt.2 hg)))).trans (h.block b hb hn)⟩
theorem Only.mono (h : Only S w w1) (hs : ∀ b, S b → S' b ∨ w.heap.size ≤ b) : Only S' w w1 :=
  ⟨h.os, h.tape, h.output, h.size, fun b hb hn => h.block b hb (fun hs' => (hs b hs').elim hn (fun hg => absurd hb (Nat.not_lt.2 hg)))⟩
theorem Only.setCell (h : Only S w0 w) {a : Addr} (ha : S a.block ∨ w0.heap.size ≤ a.block) (v : Value) : Only S w0 (w.setCell a v) :=
  ⟨h.os, h.tape, h.output, by simp; exact h.size, fun b hb hn => by
    rw [heap_setCell_other w a b v (fun e => by subst e; exact ha.elim hn (fun hg => absurd hb (Nat.not_lt.2 hg)))]; exact h.block b hb hn⟩
theorem Only.st (h : Only S w0 w) {b : Nat} (hb : S b) (o : Nat) (v : Value) : Only S w0 (w.setCell ⟨b, o, none⟩ v) := h.setCell (.inl hb) v
theorem Only.alloc (h : Only S w0 w) (o : Obj) : Only S w0 (w.alloc o) :=
  ⟨h.os, h.tape, h.output, by simp; exact Nat.le_succ_of_le h.size, fun b hb hn => by
    rw [Below.heap_alloc w o b (Nat.lt_of_lt_of_le hb h.size)]; exact h.block b hb hn⟩
theorem Only.drew (h : Only S w0 w) : Only S w0 w.drew := ⟨h.os, h.tape, h.output, h.size, h.block⟩
theorem Only.step (h : Only (fun _ => False) w w1) (k : Only S w1 w2) (hs : ∀ b, S b → w.heap.size ≤ b) : Only (fun _ => False) w w2 := h.trans' k (fun b hb => .inr (hs b hb))
theorem Only.below (h : Only S w w1) (hs : ∀ b, S b → w.heap.size ≤ b) : Below w.heap.size w w1 :=
  ⟨h.os, h.tape, h.output, h.size, fun k hk => h.block k hk (fun hk' => absurd hk (Nat.not_lt.2 (hs k hk')))⟩
theorem Only.cell (h : Only S w w1) {a : Addr} (hb : a.block < w.heap.size) (hn : ¬ S a.block) : w1.cell? a = w.cell? a :=
  World.cell?_of_block (w := w) (h.block a.block hb hn)
end
abbrev bv (x : UInt8) : Value := .int .u8 (x.toNat : Int)

def BytesAt (w : World) (v : Value) (l : List UInt8) : Prop :=
  (∃ a c, v = .slice a 0 c ∧ (a = none → c = 0) ∧ l = []) ∨
  ∃ (b o cap : Nat), v = .slice (some ⟨b, o, none⟩) l.length cap ∧ l.length ≤ cap ∧ l.length ≤ 140737488351232 ∧ ∀ j (hj : j < l.length), w.cell? ⟨b, o + j, none⟩ = some (bv l[j])

theorem BytesAt.len {w : World} {v : Value} {l : List UInt8} (h : BytesAt w v l) : l.length ≤ 140737488351232 := by
  rcases h with ⟨_, _, _, _, rfl⟩ | ⟨b, o, cap, _, h1, h2, _⟩
  · simp
  · omega

theorem BytesAt.form {w : World} {v : Value} {l : List UInt8} (h : BytesAt w v l) : ∃ a cap, v = .slice a l.length cap := by
  rcases h with ⟨a, c, rfl, _, rfl⟩ | ⟨b, o, cap, rfl, _⟩
  · exact ⟨a, c, rfl⟩
  · exact ⟨_, _, rfl⟩

def sliceIn (v : Value) (S : Nat → Prop) : Prop := ∀ (b o n cap : Nat), v = .slice (some ⟨b, o, none⟩) n cap → 0 < n → S b

theorem BytesAt.only {S : Nat → Prop} {w w1 : World} {v : Value} {l : List UInt8} (h : BytesAt w v l) (k : Only S w w1) (hs : sliceIn v (fun b => ¬ S b)) : BytesAt w1 v l := by
  rcases h with h | ⟨b, o, cap, hv, h1, h2, h3⟩
  · exact .inl h
  · refine .inr ⟨b, o, cap, hv, h1, h2, fun j hj => ?_⟩
    have hc := h3 j hj
    have hb : b < w.heap.size := block_lt_of_cell (a := ⟨b, o + j, none⟩) hc
    rw [k.cell (a := ⟨b, o + j, none⟩) hb (hs b o _ cap hv (by omega))]; exact hc
theorem BytesAt.nil (w : World) : BytesAt w (.slice none 0 0) [] := .inl ⟨_, _, rfl, fun _ => rfl, rfl⟩
open Go.RowKit in
def OwnBytes (w : World) (base : Nat) (T : TypeId) (v : Value) (l : List UInt8) : Prop := w.ownsRow base T 1 v l.length (l.map bv)

theorem OwnBytes.form {w : World} {base : Nat} {T : TypeId} {v : Value} {l : List UInt8} (h : OwnBytes w base T v l) : ∃ a cap, v = .slice a l.length cap ∧ (a = none → cap = 0 ∧ l = []) := by
  rcases h.2 with ⟨rfl, h0⟩ | ⟨g, cap, cur, rfl, _⟩
  · exact ⟨none, 0, by rw [h0], fun _ => ⟨rfl, List.eq_nil_of_length_eq_zero h0⟩⟩
  · exact ⟨_, _, rfl, fun h => by cases h⟩
theorem OwnBytes.reads {w : World} {base : Nat} {T : TypeId} {v : Value} {l : List UInt8} (h : OwnBytes w base T v l) {j : Nat} (hj : j < l.length) : ∃ g cap, v = .slice (some ⟨g, 0, none⟩) l.length cap ∧ base ≤ g ∧ w.cell? ⟨g, j, none⟩ = some (bv l[j]) := by
  rcases h.2 with ⟨_, h0⟩ | ⟨g, cap, cur, hv, hb, hg, hn, hc, hsz, ht⟩
  · omega
  · refine ⟨g, cap, hv, hb, ?_⟩
    rw [cell_of_row _ _ _ _ _ _ hg]
    have : (cur.toList.take (l.length * 1))[j]? = (l.map bv)[j]? := by rw [ht]
    rw [List.getElem?_take, if_pos (by omega), List.getElem?_map, List.getElem?_eq_getElem hj] at this
    simpa using this

theorem OwnBytes.bytes {w : World} {base : Nat} {T : TypeId} {v : Value} {l : List UInt8} (h : OwnBytes w base T v l) (hl : l.length ≤ 140737488351232) : BytesAt w v l := by
  rcases h.2 with ⟨rfl, h0⟩ | ⟨g, cap, cur, hv, hb, hg, hn, hc, hsz, ht⟩
  · exact .inl ⟨none, 0, rfl, fun _ => rfl, List.eq_nil_of_length_eq_zero h0⟩
  · refine .inr ⟨g, 0, cap, hv, hn, hl, fun j hj => ?_⟩
    obtain ⟨g', cap', hv', _, h⟩ := h.reads hj
    rw [hv] at hv'; simp at hv'
    rw [hv'.1, Nat.zero_add]; exact h

theorem grown_only {w w' : World} {row : Option Nat} (h : w.grownBy w' row) (S : Nat → Prop) (hr : ∀ k, row = some k → S k) : Only S w w' :=
  ⟨h.os, h.tape, h.output, h.size, fun k hk hn => h.block k hk (fun e => hn (hr k e.symm))⟩
end Go.Proofs.Ytcilikkljkdceaa

/-
  A struct read out of the midst of a block, and written into one, as one operation. No program is named here.
-/
namespace Go.Proofs.Ytcilikkljkdceaa
open Go.RowKit
section
variable {P : Program}

theorem add_at (g o j : Nat) : (⟨g, o, none⟩ : Addr).add j = ⟨g, o + j, none⟩ := by unfold Addr.add; split <;> simp_all

theorem run_loadVar_at (w : World) (g off : Nat) (ty : TypeId) (cs : List Value) (d : TypeDesc) (hg : ∀ j, j < cs.length → w.cell? ⟨g, off + j, none⟩ = cs[j]?)
    (hu : P.underlying ty = some d) (hd : (match d with | .struct _ | .array _ _ => true | _ => false) = true) (hi : (P.info? ty).map (·.size) = some cs.length) :
    (loadVar ty ⟨g, off, none⟩).run P w = .ok (.agg cs.toArray) w := by
  have hl : (loadCells ⟨g, off, none⟩ cs.length).run P w = .ok cs.toArray w :=
    run_loadCells_list (P := P) w ⟨g, off, none⟩ cs (fun j v hv => by
      rw [add_at, hg j (List.getElem?_eq_some_iff.1 hv).1]; exact hv)
  cases hq : P.info? ty with
  | none => simp [hq] at hi
  | some i =>
    have hs : i.size = cs.length := by simpa [hq] using hi
    have hagg : (isAgg ty).run P w = .ok true w := by
      unfold isAgg
      rw [Sem.run_bind, run_underlying hu w]
      cases d <;> simp_all
    simp [loadVar, Sem.run_bind, hagg, sizeOf, typeInfo, hq, hs, hl]
end
end Go.Proofs.Ytcilikkljkdceaa

/-
  A region that draws its order: reads and quiet calls in a class of worlds, then a forced tail. After the kit's own two theorems (one world and a tail; a class and no tail), joined.
-/
namespace Go.Proofs.Ytcilikkljkdceaa

section
variable {P : Program} {ops : Array Oper} {md : Region.Mode} {C : World → Prop}

def wpAnyC (P : Program) (md : Region.Mode) (ops : Array Oper) (C : World → Prop) (n : Nat) (L : Array Bool → Act → Prop) : Nat → Array Bool → Act → Prop
  | 0, listed, a => L listed a
  | f + 1, listed, a =>
    Region.ready md ops listed ≠ [] ∧ ∀ i ∈ Region.ready md ops listed, i < n ∧ qOp P ops C i (wpAnyC P md ops C n L f (listed.setIfInBounds i true)) a

theorem wpAny_of_headC {n g : Nat} {L : Array Bool → Act → Prop} {Q' : Exit → Act → World → Prop} (hL : ∀ listed a w, C w → L listed a → wpAny P md ops Q' g listed a w) :
    ∀ (f : Nat) (listed : Array Bool) (a : Act) (w : World), C w → wpAnyC P md ops C n L f listed a → wpAny P md ops Q' (f + g) listed a w
  | 0, listed, a, w, hw, h => by rw [Nat.zero_add]; exact hL _ _ _ hw h
  | f + 1, listed, a, w, hw, h => by
    rw [show f + 1 + g = (f + g) + 1 by omega]
    exact ⟨fun h0 => absurd h0 h.1, fun i hi => wpOp_of_qOp hw (fun a' w' hw' h' => wpAny_of_headC hL f _ a' w' hw' h') (h.2 i hi).2⟩

theorem wpAnyC_first {n i : Nat} {oi : Oper} {v : Value} {L : Array Bool → Act → Prop} (hi : ops[i]? = some oi) (hsel : ∀ (j : Nat) (o : Oper) cs b, ops[j]? = some o → o.op ≠ .select cs b)
    (hs : Region.sinkB md ops n = true) (hc : Region.chainB md ops n = true) (hn : n < ops.size) (hin : i < n)
    (hdone : ∀ listed a, L listed a → ∀ j ∈ Region.ready md ops listed, n ≤ j) :
    ∀ (f : Nat) (listed : Array Bool) (a : Act), HeadInv md ops n listed →
      (∀ j oj, ops[j]? = some oj → j ≠ i → listed.getD j true = false → (∀ e ∈ oj.after, Region.binds md e = true → e.on ≠ i) → oi.apart ops oj = true) →
      i ∈ Region.ready md ops listed → YieldsIn P ops C oi v a →
      wpAnyC P md ops C n L f (listed.setIfInBounds i true) (a.put oi.dst v) → wpAnyC P md ops C n L (f + 1) listed a := by
  intro f
  induction f with
  | zero =>
    intro listed a inv _ hr hy H
    have hun := (mem_ready.1 hr).1
    refine ⟨fun h => (by rw [h] at hr; cases hr), fun j hj => ?_⟩
    have hjn : j < n := by
      rcases Nat.lt_or_ge j n with h | h
      · exact h
      · exact absurd hj (tail_waits hs hc hn inv _ i rfl hin hun j h)
    refine ⟨hjn, ?_⟩
    by_cases hji : j = i
    · subst hji; exact hy.qOp hi H
    · have := hdone _ _ H j (ready_mono hj hji)
      omega
  | succ f ih =>
    intro listed a inv hfree hr hy H
    have hun := (mem_ready.1 hr).1
    refine ⟨fun h => (by rw [h] at hr; cases hr), fun j hj => ?_⟩
    have hjn : j < n := by
      rcases Nat.lt_or_ge j n with h | h
      · exact h
      · exact absurd hj (tail_waits hs hc hn inv _ i rfl hin hun j h)
    refine ⟨hjn, ?_⟩
    by_cases hji : j = i
    · subst hji; exact hy.qOp hi H
    · have h1 := (H.2 j (ready_mono hj hji)).2
      obtain ⟨hjun, oj, hoj, hall⟩ := mem_ready.1 hj
      have hnot : ∀ e ∈ oj.after, Region.binds md e = true → e.on ≠ i := fun e he hb heq => by
        have h1 := hall e he hb
        rw [heq, getD_both hun] at h1
        cases h1
      have h2 := qOp_put hoj (hfree j oj hoj hji hjun hnot) (fun cs b => hsel i oi cs b hi) (fun cs b => hsel j oj cs b hoj) hy h1
      have hfree' : ∀ k ok, ops[k]? = some ok → k ≠ i → (listed.setIfInBounds j true).getD k true = false →
          (∀ e ∈ ok.after, Region.binds md e = true → e.on ≠ i) → oi.apart ops ok = true := fun k ok hk hki hun hno => by
        refine hfree k ok hk hki ?_ hno
        by_cases hjk : j = k
        · subst hjk; exact hjun
        · rw [getD_set_ne true hjk] at hun; exact hun
      refine qOp_mono (fun a' h3 => ih (listed.setIfInBounds j true) a' (inv.set hj hjn) hfree' (ready_mono hr (Ne.symm hji)) h3.1 ?_) h2
      rw [Array.setIfInBounds_comm _ _ hji]
      exact h3.2

theorem wpAnyC_lex {n g : Nat} {Lq : Act → Prop} (hsel : Region.noSelect ops = true) (hs : Region.sinkB md ops n = true) (hc : Region.chainB md ops n = true) (hn : n < ops.size) :
    ∀ (l : List Oper) (k : Nat) (listed : Array Bool) (a : Act), (∀ j, j < l.length → l[j]? = ops[k + j]?) → k + l.length = n → HeadInv md ops n listed →
    Region.lexHead md ops g l.length k listed = true → wpQuiet P ops C Lq l a →
    wpAnyC P md ops C n (fun listed' a' => Region.seqB md ops g n listed' = true ∧ Lq a') l.length listed a
  | [], k, listed, a, _, hk, _, hB, h => by
    have : k = n := by simpa using hk
    subst this
    exact ⟨by simpa [Region.lexHead] using hB, h⟩
  | o :: l, k, listed, a, hl, hk, inv, hB, h => by
    have h0 : ops[k]? = some o := by simpa using (hl 0 (by simp)).symm
    simp only [List.length_cons, Region.lexHead, Bool.and_eq_true] at hB
    obtain ⟨⟨hr, hf⟩, hB'⟩ := hB
    have hkn : k < n := by simp only [List.length_cons] at hk; omega
    have hr' : k ∈ Region.ready md ops listed := by simpa using hr
    have hst : qOp P ops C k (wpQuiet P ops C Lq l) a := by unfold qOp; simp only [h0]; exact h
    obtain ⟨v, hy, hK⟩ := yieldsIn_of_qOp h0 hst
    exact wpAnyC_first h0 (Region.noSelect_spec hsel) hs hc hn hkn (fun listed' a' hL => seqB_ready hL.1) l.length listed a inv (Region.free_spec h0 hf) hr' hy
      (wpAnyC_lex hsel hs hc hn l (k + 1) _ _ (fun j hj => by have := hl (j + 1) (by simp; omega); simpa [Nat.add_assoc, Nat.add_comm 1 j] using this) (by simp only [List.length_cons] at hk; omega) (inv.set hr' hkn) hB' hK)

theorem wp_region_quiet_tail {id : Nat} {Q : Exit → Act → World → Prop} {a : Act} {w : World} {l : List Oper} (n : Nat) (hm : P.follows .mixedOrders = true) (hB : Region.lexTailB .any l.toArray n = true)
    (hC : C { w with drawn := w.drawn + 1 })
    (h : wpQuiet P l.toArray C (fun a' => ∀ w', C w' → wpList P l.toArray Q (l.drop n) a' w') (l.take n) a) : (Code.region id l.toArray true).wp P Q a w := by
  simp only [Region.lexTailB, Bool.and_eq_true, decide_eq_true_eq] at hB
  obtain ⟨⟨⟨⟨hsel, hn⟩, hs⟩, hc⟩, hlex⟩ := hB
  have hn' : n < l.length := by simpa using hn
  have htl : (l.take n).length = n := by simp; omega
  have hdl : (l.drop n).length = l.toArray.size - n := by simp
  have inv0 : HeadInv .any l.toArray n (Array.replicate l.toArray.size false) :=
    ⟨by simp, fun j oj _ hl => (by rw [getD_replicate_false] at hl; cases hl), fun t _ ht => getD_in (by simpa using ht) (getD_replicate_false _ _)⟩
  have H := wpAnyC_lex (C := C) (md := .any) (g := l.toArray.size - n) hsel hs hc hn (l.take n) 0 _ a (fun j hj => by
    have hj' : j < n := by rw [htl] at hj; exact hj
    simp [hj']) (by simpa using htl) inv0 (by rw [htl]; exact hlex) h
  refine wp_region_any hm ?_
  have := wpAny_of_headC (Q' := Q) (g := l.toArray.size - n) (fun listed a' w' hw' hL => by
    have := wpAny_of_seq (md := .any) (Q' := Q) (l.drop n) n listed a' w' (fun j => by simp [List.getElem?_drop]) (by rw [hdl]; exact hL.1) (hL.2 w' hw')
    rwa [hdl] at this) _ _ _ _ hC H
  rw [htl, show n + (l.toArray.size - n) = l.toArray.size by omega] at this
  exact this
end
end Go.Proofs.Ytcilikkljkdceaa

/-
  A light machine for walks: the frame and the world stand behind what is known of them (a list of slots, a list of resources), and each operation is one law. No program is named here.
-/
namespace Go.Proofs.Ytcilikkljkdceaa
open Go.RowKit

structure Res where
  ok : World → Prop
  fp : Nat → Prop
  lt : ∀ w, ok w → ∀ b, fp b → b < w.heap.size
  st : ∀ w w', ok w → (∀ b, fp b → w'.heap[b]? = w.heap[b]?) → ok w'

def Sep (w : World) (l : List Res) : Prop := (∀ r ∈ l, r.ok w) ∧ l.Pairwise (fun r s => ∀ b, r.fp b → ¬ s.fp b)

structure Cx where
  n : Nat
  w0 : World
  S : Nat → Prop

def Inv (X : Cx) (w : World) (l : List Res) : Prop := Sep w l ∧ Only X.S X.w0 w

theorem Sep.get {w : World} {l : List Res} {i : Nat} {r : Res} (h : Sep w l) (hi : l[i]? = some r) : r.ok w := h.1 r (List.mem_of_getElem? hi)

theorem Sep.add {w w' : World} {l : List Res} {r : Res} (h : Sep w l) (hw : ∀ b, b < w.heap.size → w'.heap[b]? = w.heap[b]?) (hr : r.ok w') (hf : ∀ b, r.fp b → w.heap.size ≤ b) : Sep w' (l ++ [r]) := by
  refine ⟨fun s hs => ?_, ?_⟩
  · rcases List.mem_append.1 hs with hs | hs
    · exact s.st w w' (h.1 s hs) fun b hb => hw b (s.lt w (h.1 s hs) b hb)
    · have : s = r := by simpa using hs
      rw [this]; exact hr
  · rw [List.pairwise_append]
    refine ⟨h.2, by simp, fun s hs t ht b hb hc => ?_⟩
    have : t = r := by simpa using ht
    subst this
    have h1 := s.lt w (h.1 s hs) b hb
    have h2 := hf b hc
    omega

theorem Sep.upd {w w' : World} {l : List Res} {i : Nat} {r r' : Res} (h : Sep w l) (hi : l[i]? = some r) (hw : ∀ b, ¬ r.fp b → b < w.heap.size → w'.heap[b]? = w.heap[b]?)
    (hr : r'.ok w') (hf : ∀ b, r'.fp b → r.fp b ∨ w.heap.size ≤ b) : Sep w' (l.set i r') := by
  have hil : i < l.length := (List.getElem?_eq_some_iff.1 hi).1
  have hp := List.pairwise_iff_getElem.1 h.2
  have hli : l[i] = r := (List.getElem?_eq_some_iff.1 hi).2
  refine ⟨fun s hs => ?_, ?_⟩
  · obtain ⟨j, hj, e⟩ := List.getElem_of_mem hs
    have hj' : j < l.length := by simpa using hj
    rw [List.getElem_set] at e
    by_cases hij : i = j
    · rw [if_pos hij] at e; rw [← e]; exact hr
    · rw [if_neg hij] at e
      have hsl : s ∈ l := e ▸ List.getElem_mem hj'
      refine s.st w w' (h.1 s hsl) fun b hb => hw b (fun hrb => ?_) (s.lt w (h.1 s hsl) b hb)
      subst e; subst hli
      rcases Nat.lt_or_gt_of_ne hij with hlt | hlt
      · exact hp i j hil hj' hlt b hrb hb
      · exact hp j i hj' hil hlt b hb hrb
  · rw [List.pairwise_iff_getElem]
    intro j k hj hk hjk b hb hc
    have hj' : j < l.length := by simpa using hj
    have hk' : k < l.length := by simpa using hk
    rw [List.getElem_set] at hb hc
    by_cases e1 : i = j
    · rw [if_pos e1] at hb
      rw [if_neg (by omega)] at hc
      rcases hf b hb with h1 | h1
      · subst e1; subst hli; exact hp i k hil hk' hjk b h1 hc
      · have := (l[k]).lt w (h.1 _ (List.getElem_mem hk')) b hc; omega
    · rw [if_neg e1] at hb
      by_cases e2 : i = k
      · rw [if_pos e2] at hc
        rcases hf b hc with h1 | h1
        · subst e2; subst hli; exact hp j i hj' hil hjk b hb h1
        · have := (l[j]).lt w (h.1 _ (List.getElem_mem hj')) b hb; omega
      · rw [if_neg e2] at hc
        exact hp j k hj' hk' hjk b hb hc

theorem Sep.same {w w' : World} {l : List Res} (h : Sep w l) (hw : ∀ b, b < w.heap.size → w'.heap[b]? = w.heap[b]?) : Sep w' l :=
  ⟨fun s hs => s.st w w' (h.1 s hs) fun b hb => hw b (s.lt w (h.1 s hs) b hb), h.2⟩

theorem Inv.drew {X : Cx} {w : World} {l : List Res} (h : Inv X w l) : Inv X w.drew l := ⟨h.1.same (fun _ _ => rfl), h.2.drew⟩
theorem Inv.draw1 {X : Cx} {w : World} {l : List Res} (h : Inv X w l) : Inv X { w with drawn := w.drawn + 1 } l := h.drew
theorem Inv.only {X : Cx} {w w' : World} {l : List Res} (h : Inv X w l) (hO : Only (fun _ => False) w w') : Inv X w' l :=
  ⟨h.1.same (fun b hb => hO.block b hb id), h.2.trans' hO (fun _ h => h.elim)⟩
theorem Inv.add {X : Cx} {w w' : World} {l : List Res} {r : Res} (h : Inv X w l) (hO : Only (fun _ => False) w w') (hr : r.ok w') (hf : ∀ b, r.fp b → w.heap.size ≤ b) : Inv X w' (l ++ [r]) :=
  ⟨h.1.add (fun b hb => hO.block b hb id) hr hf, h.2.trans' hO (fun _ h => h.elim)⟩
theorem Inv.upd {X : Cx} {w w' : World} {l : List Res} {i : Nat} {r r' : Res} (h : Inv X w l) (hi : l[i]? = some r) (hO : Only r.fp w w') (hS : ∀ b, r.fp b → X.S b ∨ X.w0.heap.size ≤ b)
    (hr : r'.ok w') (hf : ∀ b, r'.fp b → r.fp b ∨ w.heap.size ≤ b) : Inv X w' (l.set i r') :=
  ⟨h.1.upd hi (fun b hb hlt => hO.block b hlt hb) hr hf, h.2.trans' hO hS⟩

def rBlk (b : Nat) (c : List Value) (T : TypeId) : Res where
  ok w := Blk w b c T
  fp k := k = b
  lt w h k hk := by subst hk; exact Blk.lt h
  st w w' h hw := by unfold Blk; rw [hw b rfl]; exact h


def look : List (Nat × Value) → Nat → Option Value
  | [], _ => none
  | (k, v) :: r, t => bif Nat.beq k t then some v else look r t

def Fr (n : Nat) (a : Act) (m : List (Nat × Value)) : Prop := a.defers = [] ∧ a.tmps.size = n ∧ ∀ t v, look m t = some v → a.tmps[t]? = some v

theorem Fr.put {n : Nat} {a : Act} {m : List (Nat × Value)} (h : Fr n a m) {d : Nat} (hd : d < n) (v : Value) : Fr n (a.put (some d) v) ((d, v) :: m) := by
  refine ⟨h.1, by simp [Act.put, h.2.1], fun t u hu => ?_⟩
  simp only [look] at hu
  simp only [Act.put]
  cases hb : Nat.beq d t
  · rw [hb] at hu
    have hne : d ≠ t := fun e => by subst e; simp at hb
    rw [Array.getElem?_setIfInBounds_ne hne]
    exact h.2.2 t u (by simpa using hu)
  · rw [hb] at hu
    have e : d = t := Nat.eq_of_beq_eq_true hb
    subst e
    simp at hu; subst hu
    rw [Array.getElem?_setIfInBounds_self]
    simp [h.2.1, hd]

def evM (m : List (Nat × Value)) : Operand → Option Value
  | .tmp t => look m t
  | .const v => some v
  | .global g => some (.pointer (some ⟨g, 0, none⟩))
  | .func f => some (.func (.func f) #[] #[])

theorem Fr.ev {n : Nat} {a : Act} {m : List (Nat × Value)} (h : Fr n a m) {x : Operand} {v : Value} (hx : evM m x = some v) : a.eval x = v := by
  cases x with
  | tmp t => simp only [evM] at hx; simp [Act.eval, h.2.2 t v hx]
  | const u => simpa [evM, Act.eval] using hx
  | global g => simpa [evM, Act.eval] using hx
  | func f => simpa [evM, Act.eval] using hx

def Subs (m : List (Nat × Value)) : List (Nat × Value) → Prop
  | [] => True
  | (t, v) :: r => look m t = some v ∧ Subs m r
theorem Subs.look {m m' : List (Nat × Value)} (h : Subs m m') : ∀ t v, look m' t = some v → look m t = some v := by
  induction m' with
  | nil => intro t v hv; simp [Proofs.Ytcilikkljkdceaa.look] at hv
  | cons x r ih =>
    obtain ⟨k, u⟩ := x
    intro t v hv
    simp only [Proofs.Ytcilikkljkdceaa.look] at hv
    cases hb : Nat.beq k t
    · rw [hb] at hv; exact ih h.2 t v (by simpa using hv)
    · rw [hb] at hv
      have e : k = t := Nat.eq_of_beq_eq_true hb
      subst e
      simp at hv; subst hv
      exact h.1
theorem Fr.sub {n : Nat} {a : Act} {m m' : List (Nat × Value)} (h : Fr n a m) (hs : Subs m m') : Fr n a m' := ⟨h.1, h.2.1, fun t v hv => h.2.2 t v (hs.look t v hv)⟩

section
variable (P : Program) (X : Cx)
def SL (ops : Array Oper) (Q : Exit → Act → World → Prop) (rest : List Oper) (m : List (Nat × Value)) (l : List Res) : Prop := ∀ a w, Fr X.n a m → Inv X w l → wpList P ops Q rest a w
def SC (c : Code) (Q : Exit → Act → World → Prop) (m : List (Nat × Value)) (l : List Res) : Prop := ∀ a w, Fr X.n a m → Inv X w l → c.wp P Q a w
def SE (Q : Exit → Act → World → Prop) (e : Exit) (m : List (Nat × Value)) (l : List Res) : Prop := ∀ a w, Fr X.n a m → Inv X w l → Q e a w
def SQ (ops : Array Oper) (K : Act → Prop) (rest : List Oper) (m : List (Nat × Value)) (l : List Res) : Prop := ∀ a, Fr X.n a m → wpQuiet P ops (fun w => Inv X w l) K rest a
def Ru (o : Oper) (m : List (Nat × Value)) (l : List Res) (v : Value) : Prop := ∀ a w, Fr X.n a m → Inv X w l → (execOp a.eval o).run P w = .ok (.value v) w
end

section
variable {P : Program} {X : Cx} {ops : Array Oper} {Q : Exit → Act → World → Prop} {rest : List Oper} {o : Oper} {m : List (Nat × Value)} {l : List Res} {v : Value} {d : Nat}

theorem SC.norm {c : Code} (m' : List (Nat × Value)) (l' : List Res) (hm : Subs m m') (hl : l = l') (h : SC P X c Q m' l') : SC P X c Q m l := fun a w hf hi => h a w (hf.sub hm) (hl ▸ hi)
theorem SL.norm (m' : List (Nat × Value)) (l' : List Res) (hm : Subs m m') (hl : l = l') (h : SL P X ops Q rest m' l') : SL P X ops Q rest m l := fun a w hf hi => h a w (hf.sub hm) (hl ▸ hi)
theorem SC.seq {x y : Code} (h : SC P X x (Exit.then (y.wp P Q) Q) m l) : SC P X (x.seq y) Q m l := fun a w hf hi => wp_seq (h a w hf hi)
theorem SC.block {id : Nat} {c : Code} (h : SC P X c (Exit.inBlock id Q) m l) : SC P X (.block id c) Q m l := fun a w hf hi => wp_block (h a w hf hi)
theorem SC.scope {c : Code} (h : SC P X c (Exit.noGoto Q) m l) : SC P X (.scope c) Q m l := fun a w hf hi => wp_scope_straight (h a w hf hi)
theorem SC.skip (h : SE X Q .normal m l) : SC P X .skip Q m l := fun a w hf hi => wp_skip (h a w hf hi)
theorem SC.label {k : Nat} (h : SE X Q .normal m l) : SC P X (.label k) Q m l := fun a w hf hi => wp_label (h a w hf hi)
theorem SC.exit {id : Nat} (h : SE X Q (.exit id) m l) : SC P X (.exit id) Q m l := fun a w hf hi => wp_exit (h a w hf hi)
theorem SC.ret (h : SE X Q .ret m l) : SC P X .ret Q m l := fun a w hf hi => wp_ret (h a w hf hi)
theorem SC.yes {c : Operand} {x y : Code} (hc : evM m c = some (.bool true)) (h : SC P X x Q m l) : SC P X (.cond c x y) Q m l := fun a w hf hi => wp_cond_true (hf.ev hc) (h a w hf hi)
theorem SC.no {c : Operand} {x y : Code} (hc : evM m c = some (.bool false)) (h : SC P X y Q m l) : SC P X (.cond c x y) Q m l := fun a w hf hi => wp_cond_false (hf.ev hc) (h a w hf hi)
theorem SC.both {c : Operand} {x y : Code} (b : Bool) (hc : evM m c = some (.bool b)) (ht : b = true → SC P X x Q m l) (hn : b = false → SC P X y Q m l) : SC P X (.cond c x y) Q m l := fun a w hf hi => wp_cond_split (hf.ev hc) (fun e => ht e a w hf hi) (fun e => hn e a w hf hi)
theorem SC.region {id : Nat} {L : List Oper} (h : SL P X L.toArray Q L m l) : SC P X (.region id L.toArray false) Q m l := fun a w hf hi => wp_region_lit (h a w hf hi)
theorem SC.of_SE {y : Code} {m' : List (Nat × Value)} {l' : List Res} (h : SC P X y Q m' l') : SE X (Exit.then (y.wp P Q) Q) .normal m' l' := h
theorem SE.passr {K : Act → World → Prop} (h : SE X Q .ret m l) : SE X (Exit.then K Q) .ret m l := h
theorem SE.passe {K : Act → World → Prop} {id : Nat} (h : SE X Q (.exit id) m l) : SE X (Exit.then K Q) (.exit id) m l := h
theorem SE.blkn {id : Nat} (h : SE X Q .normal m l) : SE X (Exit.inBlock id Q) .normal m l := h
theorem SE.blkr {id : Nat} (h : SE X Q .ret m l) : SE X (Exit.inBlock id Q) .ret m l := h
theorem SE.blke {id : Nat} (h : SE X Q .normal m l) : SE X (Exit.inBlock id Q) (.exit id) m l := fun a w hf hi => by simp only [Exit.inBlock, if_true]; exact h a w hf hi
theorem SE.blko {id id' : Nat} (hne : id' ≠ id) (h : SE X Q (.exit id') m l) : SE X (Exit.inBlock id Q) (.exit id') m l := fun a w hf hi => by simp only [Exit.inBlock, if_neg hne]; exact h a w hf hi
theorem SC.region_quiet {id : Nat} {L : List Oper} (hm : P.follows .mixedOrders = true) (hB : Region.lexB .any L.toArray = true) (h : SQ P X L.toArray (fun a' => ∀ w', Inv X w' l → Q .normal a' w') L m l) : SC P X (.region id L.toArray true) Q m l :=
  fun a w hf hi => wp_region_quiet hm hB hi.draw1 (h a hf)
theorem SC.region_tail {id : Nat} {L : List Oper} (n : Nat) (hm : P.follows .mixedOrders = true) (hB : Region.lexTailB .any L.toArray n = true)
    (h : SQ P X L.toArray (fun a' => ∀ w', Inv X w' l → wpList P L.toArray Q (L.drop n) a' w') (L.take n) m l) : SC P X (.region id L.toArray true) Q m l :=
  fun a w hf hi => wp_region_quiet_tail n hm hB hi.draw1 (h a hf)
theorem SQ.nilE (h : SE X Q .normal m l) : SQ P X ops (fun a' => ∀ w', Inv X w' l → Q .normal a' w') [] m l := fun a hf w' hi => h a w' hf hi
theorem SQ.nilL {L : List Oper} (h : SL P X ops Q L m l) : SQ P X ops (fun a' => ∀ w', Inv X w' l → wpList P ops Q L a' w') [] m l := fun a hf w' hi => h a w' hf hi

theorem SL.nil (h : SE X Q .normal m l) : SL P X ops Q [] m l := fun a w hf hi => wpList_nil (h a w hf hi)
theorem SL.ru (hg : o.guard = none) (hd : o.dst = some d) (hn : d < X.n) (hr : Ru P X o m l v) (k : SL P X ops Q rest ((d, v) :: m) l) : SL P X ops Q (o :: rest) m l := fun a w hf hi =>
  wpList_plain hg fun K hK => by
    unfold Oper.wp
    rw [hr a w hf hi, Oper.upon_value, hd]
    exact hK _ _ (k _ w (hf.put hn v) hi)
theorem SQ.ru {K : Act → Prop} (hg : o.guard = none) (hd : o.dst = some d) (hn : d < X.n) (hr : Ru P X o m l v) (k : SQ P X ops K rest ((d, v) :: m) l) : SQ P X ops K (o :: rest) m l := fun a hf => by
  unfold wpQuiet
  rw [if_pos (by simp [Region.wanted, hg])]
  refine ⟨v, fun w hi => ?_, ?_⟩
  · unfold Oper.quietAt; rw [hr a w hf hi]; exact ⟨rfl, rfl⟩
  · rw [hd]; exact k _ (hf.put hn v)
theorem guard_is {j : Nat} {want : Bool} {dj : Nat} {b : Bool} {a : Act} (hf : Fr X.n a m) (hg : o.guard = some (j, want)) (hj : (ops[j]?).bind (·.dst) = some dj) (hb : look m dj = some (.bool b)) : Region.wanted o (yielded ops a.tmps) = (b == want) := by
  have h1 : yielded ops a.tmps j = some b := by
    unfold yielded
    rw [hj]
    simp [hf.2.2 dj _ hb]
  unfold Region.wanted
  rw [hg]
  simp [h1]
theorem SL.rug {j : Nat} {want : Bool} {dj : Nat} (hg : o.guard = some (j, want)) (hj : (ops[j]?).bind (·.dst) = some dj) (hb : look m dj = some (.bool want)) (hd : o.dst = some d) (hn : d < X.n) (hr : Ru P X o m l v)
    (k : SL P X ops Q rest ((d, v) :: m) l) : SL P X ops Q (o :: rest) m l := fun a w hf hi =>
  wpList_step fun K hK => by
    rw [if_pos (by rw [guard_is hf hg hj hb]; simp)]
    unfold Oper.wp
    rw [hr a w hf hi, Oper.upon_value, hd]
    exact hK _ _ (k _ w (hf.put hn v) hi)
theorem SL.off {j : Nat} {want b : Bool} {dj : Nat} (hg : o.guard = some (j, want)) (hj : (ops[j]?).bind (·.dst) = some dj) (hb : look m dj = some (.bool b)) (hw : (b == want) = false) (hd : o.dst = some d) (hn : d < X.n)
    (k : SL P X ops Q rest ((d, undef) :: m) l) : SL P X ops Q (o :: rest) m l := fun a w hf hi =>
  wpList_step fun K hK => by
    rw [if_neg (by rw [guard_is hf hg hj hb]; simp [hw]), hd]
    exact hK _ _ (k _ w (hf.put hn _) hi)
theorem ru_move {x : Operand} (ho : o.op = .move x) (hx : evM m x = some v) : Ru P X o m l v := fun a w hf _ => by
  unfold execOp; rw [ho]; simp only [hf.ev hx]; rfl
theorem ru_assign {x : Operand} (ho : o.op = .assign x) (hx : evM m x = some v) : Ru P X o m l v := fun a w hf _ => by
  unfold execOp; rw [ho]; simp only [hf.ev hx]; rfl
theorem ru_pick {c x y : Operand} {b : Bool} {u v : Value} (ho : o.op = .pick c x y) (hc : evM m c = some (.bool b)) (hx : evM m x = some u) (hy : evM m y = some v) : Ru P X o m l (if b then u else v) := fun a w hf _ => by
  unfold execOp; rw [ho]; simp only [hf.ev hc, hf.ev hx, hf.ev hy]; rfl
theorem ru_extract {t : Operand} {i : Nat} {vs : Array Value} (ho : o.op = .extract t i) (ht : evM m t = some (.tuple vs)) (hv : vs[i]? = some v) : Ru P X o m l v := fun a w hf _ => by
  unfold execOp; rw [ho]; simp only [hf.ev ht, Instr.extract, hv]; rfl
theorem ru_nilCheck {x : Operand} {a : Addr} (ho : o.op = .nilCheck x) (hx : evM m x = some (.pointer (some a))) : Ru P X o m l (.pointer (some a)) := fun a w hf _ => by
  unfold execOp; rw [ho]; simp only [hf.ev hx]; rfl
theorem ru_bin {op : BinOp} {t t' : TypeId} {x y : Operand} {k : IntKind} {p q : Int} (ho : o.op = .binOp op t x y t') (hx : evM m x = some (.int k p)) (hy : evM m y = some (.int k q))
    (hr : ∀ w, (binOp op t (.int k p) (.int k q)).run P w = .ok v w) : Ru P X o m l v := fun a w hf _ => by
  unfold execOp; rw [ho]; simp only [hf.ev hx, hf.ev hy]
  have hg : (eqGuard op t x y (.int k p) (.int k q)).run P w = .ok () w := by unfold eqGuard; split <;> rfl
  rw [Sem.run_bind, Sem.run_bind, hg]
  simp only [Result.andThen_ok, hr w]
  rfl
end
end Go.Proofs.Ytcilikkljkdceaa

/-
  The light machine's laws: what each operation comes to. No program is named here.
-/
namespace Go.Proofs.Ytcilikkljkdceaa
open Go.RowKit

def isAggD : TypeDesc → Bool
  | .struct _ | .array _ _ => true
  | _ => false
structure TySc (P : Program) (t : TypeId) (z : Value) : Prop where
  d : ∃ d, P.underlying t = some d ∧ isAggD d = false
  i : (P.info? t).map (fun i => (i.size, i.zero)) = some (1, some z)
  one : z.oneCell' = true
structure TyAg (P : Program) (t : TypeId) (z : List Value) : Prop where
  d : ∃ d, P.underlying t = some d ∧ isAggD d = true
  i : (P.info? t).map (fun i => (i.size, i.zero)) = some (z.length, some (.agg z.toArray))
  one : z.all (·.oneCell') = true
def FldIs (P : Program) (s : TypeId) (k off : Nat) : Prop := ∃ fs f, P.underlying s = some (.struct fs) ∧ fs[k]? = some f ∧ f.offset = off ∧ (P.info? f.type).map (fun i => i.size == 0) = some false
def ArrIs (P : Program) (t : TypeId) (n elem size : Nat) : Prop := P.underlying t = some (.array n elem) ∧ (P.info? elem).map (·.size) = some size
def SliIs (P : Program) (t : TypeId) (elem size : Nat) : Prop := P.underlying t = some (.slice elem) ∧ (P.info? elem).map (·.size) = some size
def CallOk (P : Program) (f : FuncId) : Prop := ∃ fn, P.funcs[f]? = some fn ∧ fn.body.isNone = false ∧ (fn.name == "runtime.NumGoroutine") = false

section
variable {P : Program} {X : Cx} {ops : Array Oper} {Q : Exit → Act → World → Prop} {rest : List Oper} {o : Oper} {m : List (Nat × Value)} {l : List Res} {v : Value} {d : Nat}

theorem map_some {α β : Type} {x : Option α} {f : α → β} {y : β} (h : x.map f = some y) : ∃ a, x = some a ∧ f a = y := by
  cases x with
  | none => simp at h
  | some a => exact ⟨a, rfl, by simpa using h⟩
theorem TySc.run {t : TypeId} {z : Value} (h : TySc P t z) (w : World) : (isAgg t).run P w = .ok false w ∧ (sizeOf t).run P w = .ok 1 w ∧ (zeroValue t).run P w = .ok z w := by
  obtain ⟨⟨d, hd, hb⟩, hi, _⟩ := h
  obtain ⟨i, hi, hz⟩ := map_some hi
  simp only [Prod.mk.injEq] at hz
  refine ⟨?_, ?_, ?_⟩
  · unfold isAgg; rw [Sem.run_bind, run_underlying hd w]; cases d <;> simp_all [isAggD]
  · simp [sizeOf, typeInfo, hi, hz.1]
  · simp [zeroValue, typeInfo, hi, hz.2]
theorem TyAg.run {t : TypeId} {z : List Value} (h : TyAg P t z) (w : World) : (isAgg t).run P w = .ok true w ∧ (sizeOf t).run P w = .ok z.length w ∧ (zeroValue t).run P w = .ok (.agg z.toArray) w := by
  obtain ⟨⟨d, hd, hb⟩, hi, _⟩ := h
  obtain ⟨i, hi, hz⟩ := map_some hi
  simp only [Prod.mk.injEq] at hz
  refine ⟨?_, ?_, ?_⟩
  · unfold isAgg; rw [Sem.run_bind, run_underlying hd w]; cases d <;> simp_all [isAggD]
  · simp [sizeOf, typeInfo, hi, hz.1]
  · simp [zeroValue, typeInfo, hi, hz.2]
theorem size_run {t n : Nat} (h : (P.info? t).map (·.size) = some n) (w : World) : (sizeOf t).run P w = .ok n w := by
  obtain ⟨i, hi, hz⟩ := map_some h
  simp [sizeOf, typeInfo, hi, hz]

theorem ru_load {t : TypeId} {z : Value} {x : Operand} {i b o' : Nat} {c : List Value} {T : TypeId} (ht : TySc P t z) (ho : o.op = .load t x) (hx : evM m x = some (.pointer (some ⟨b, o', none⟩)))
    (hi : l[i]? = some (rBlk b c T)) (hc : c[o']? = some v) : Ru P X o m l v := fun a w hf hI => by
  have hb : Blk w b c T := hI.1.get hi
  unfold execOp; rw [ho]
  simp only [hf.ev hx, Instr.loadAt, Instr.sureAddr, Sem.run_bind, Sem.run_pure, Result.andThen_ok, loadVar, (ht.run w).1]
  have h1 : w.cell? ⟨b, o', none⟩ = some v := by rw [hb.cell]; exact hc
  simp [h1]
theorem ru_loada {t : TypeId} {z : List Value} {x : Operand} {i b o' : Nat} {c vs : List Value} {T : TypeId} (ht : TyAg P t z) (ho : o.op = .load t x) (hx : evM m x = some (.pointer (some ⟨b, o', none⟩)))
    (hi : l[i]? = some (rBlk b c T)) (hv : (c.drop o').take z.length = vs) (hlen : o' + z.length ≤ c.length) : Ru P X o m l (.agg vs.toArray) := fun a w hf hI => by
  have hb : Blk w b c T := hI.1.get hi
  have hl : vs.length = z.length := by rw [← hv]; simp; omega
  obtain ⟨⟨d, hd, hdb⟩, hsz, _⟩ := ht
  obtain ⟨inf, hinf, hz⟩ := map_some hsz
  simp only [Prod.mk.injEq] at hz
  unfold execOp; rw [ho]
  have hrun := run_loadVar_at (P := P) w b o' t vs d (fun j hj => by
    rw [hb.cell, ← hv, List.getElem?_take, if_pos (by omega), List.getElem?_drop]) hd (by cases d <;> simp_all [isAggD]) (by rw [hinf]; simp [hz.1, hl])
  simp only [hf.ev hx, Instr.loadAt, Instr.sureAddr, Sem.run_bind, Sem.run_pure, Result.andThen_ok, hrun]
theorem ru_fieldAddr {s : TypeId} {x : Operand} {k off b o' o2 : Nat} (hs : FldIs P s k off) (ho : o.op = .fieldAddr s x k) (hx : evM m x = some (.pointer (some ⟨b, o', none⟩))) (h2 : o' + off = o2) :
    Ru P X o m l (.pointer (some ⟨b, o2, none⟩)) := fun a w hf hI => by
  obtain ⟨fs, f, hu, hk, hoff, hsz⟩ := hs
  obtain ⟨inf, hinf, hz⟩ := map_some hsz
  unfold execOp; rw [ho]
  have hp : (fieldPlace ⟨b, o', none⟩ f).run P w = .ok ⟨b, o2, none⟩ w := by
    have h0 : (sizeOf f.type).run P w = .ok inf.size w := by simp [sizeOf, typeInfo, hinf]
    have hne : ¬ inf.size = 0 := by simpa using hz
    unfold fieldPlace
    rw [Sem.run_bind, h0, Result.andThen_ok, if_neg hne, hoff, add_at, h2]
    rfl
  simp only [hf.ev hx, Instr.fieldAt, Sem.run_bind, run_underlying hu w, Result.andThen_ok, hk, Instr.sureAddr, Sem.run_pure, hp]
theorem ru_indexA {t : TypeId} {x ix : Operand} {n e size b o' o2 : Nat} {i : Int} {k : IntKind} (hs : ArrIs P t n e size) (ho : o.op = .indexAddr t x ix) (hx : evM m x = some (.pointer (some ⟨b, o', none⟩))) (hix : evM m ix = some (.int k i))
    (h0 : 0 ≤ i) (hn : i < n) (h2 : o' + i.toNat * size = o2) : Ru P X o m l (.pointer (some ⟨b, o2, none⟩)) := fun a w hf hI => by
  obtain ⟨hu, hsz⟩ := hs
  unfold execOp; rw [ho]
  simp only [hf.ev hx, hf.ev hix, Instr.indexAt, asIntOf, Sem.run_bind, Sem.run_pure, run_underlying hu w, Result.andThen_ok, Instr.sureAddr]
  rw [if_pos ⟨h0, hn⟩]
  simp only [Sem.run_bind, size_run hsz w, Result.andThen_ok, add_at, h2, Sem.run_pure]
theorem ru_indexS {t : TypeId} {x ix : Operand} {e size b o' o2 n cp : Nat} {i : Int} {k : IntKind} (hs : SliIs P t e size) (ho : o.op = .indexAddr t x ix) (hx : evM m x = some (.slice (some ⟨b, o', none⟩) n cp)) (hix : evM m ix = some (.int k i))
    (h0 : 0 ≤ i) (hn : i < n) (h2 : o' + i.toNat * size = o2) : Ru P X o m l (.pointer (some ⟨b, o2, none⟩)) := fun a w hf hI => by
  obtain ⟨hu, hsz⟩ := hs
  unfold execOp; rw [ho]
  simp only [hf.ev hx, hf.ev hix, Instr.indexAt, asIntOf, Sem.run_bind, Sem.run_pure, run_underlying hu w, Result.andThen_ok]
  rw [if_pos ⟨h0, hn⟩]
  simp only [Sem.run_bind, size_run hsz w, Result.andThen_ok, add_at, h2, Sem.run_pure]
theorem ru_build {t : TypeId} {parts : List (Nat × Operand)} {vals : List (Nat × Value)} {cells : List Value} (ho : o.op = .build t parts.toArray)
    (hp : parts.mapM (fun x => (evM m x.2).map (x.1, ·)) = some vals) (hb : P.built t vals = some cells.toArray) : Ru P X o m l (.agg cells.toArray) := fun a w hf hI => by
  unfold execOp; rw [ho]
  have hv : (parts.toArray.map fun (i, x) => (i, a.eval x)) = vals.toArray := by
    have : parts.map (fun (x : Nat × Operand) => (x.1, a.eval x.2)) = vals := by
      clear ho hb
      induction parts generalizing vals with
      | nil => simp at hp; simpa using hp.symm
      | cons y r ih =>
        simp only [List.mapM_cons, Option.bind_eq_bind, Option.bind_eq_some_iff, Option.map_eq_some_iff] at hp
        obtain ⟨u, ⟨u', hu, rfl⟩, us, hus, h⟩ := hp
        cases h
        rw [List.map_cons, ih hus, hf.ev hu]
    rw [← this]; simp
  simp only [hv, Sem.run_bind, run_build w t vals.toArray cells.toArray (by simpa using hb), Result.andThen_ok]
  rfl

theorem SL.store {t : TypeId} {x y : Operand} {i b o' : Nat} {c c' : List Value} {T : TypeId} {z : Value} (hg : o.guard = none) (hd : o.dst = none) (ht : TySc P t z) (ho : o.op = .store t x y) (hx : evM m x = some (.pointer (some ⟨b, o', none⟩)))
    (hy : evM m y = some v) (hv : v.oneCell' = true) (hi : l[i]? = some (rBlk b c T)) (hlen : o' < c.length) (hS : X.S b ∨ X.w0.heap.size ≤ b) (hc : c.set o' v = c')
    (k : SL P X ops Q rest m (l.set i (rBlk b c' T))) : SL P X ops Q (o :: rest) m l := fun a w hf hI =>
  wpList_plain hg fun K hK => by
    have hb : Blk w b c T := hI.1.get hi
    unfold Oper.wp execOp
    rw [ho]
    have hcell : w.cell? ⟨b, o', none⟩ = some (c[o']'hlen) := by rw [hb.cell]; exact List.getElem?_eq_getElem hlen
    have hvc : v.cells = #[v] := by cases v <;> first | rfl | simp [Value.oneCell'] at hv
    have hst : (storeVar t ⟨b, o', none⟩ v).run P w = .ok () (w.setCell ⟨b, o', none⟩ v) := by
      unfold storeVar
      rw [hvc, Sem.run_bind, (ht.run w).2.1]
      simp only [Result.andThen_ok, List.size_toArray, List.length_cons, List.length_nil, Nat.zero_add, ne_eq, not_true, if_false, storeCells]
      have ha : (⟨b, o', none⟩ : Addr).add 0 = ⟨b, o', none⟩ := rfl
      rw [Sem.run_bind, ha, run_store P w _ v _ hv, hcell]
      simp [hb.fz, Result.andThen]
    simp only [hf.ev hx, hf.ev hy, Instr.storeAt, Instr.sureAddr, Sem.run_bind, Sem.run_pure, Result.andThen_ok, hst, Oper.upon_skip, hd, Act.put]
    refine hK _ _ (k a _ hf ?_)
    subst hc
    exact hI.upd hi (Only.st (S := fun k => k = b) (Only.refl _ _) rfl _ _) (fun b' hb' => by cases hb'; exact hS) (hb.set o' v) (fun b' hb' => .inl hb')
theorem SL.storea {t : TypeId} {x y : Operand} {i b o' : Nat} {c c' vs z : List Value} {T : TypeId} (hg : o.guard = none) (hd : o.dst = none) (ht : TyAg P t z) (ho : o.op = .store t x y) (hx : evM m x = some (.pointer (some ⟨b, o', none⟩)))
    (hy : evM m y = some (.agg vs.toArray)) (hv : vs.all (·.oneCell') = true) (hvl : vs.length = z.length) (hi : l[i]? = some (rBlk b c T)) (hlen : o' + vs.length ≤ c.length) (hS : X.S b ∨ X.w0.heap.size ≤ b)
    (hc : c.take o' ++ vs ++ c.drop (o' + vs.length) = c') (k : SL P X ops Q rest m (l.set i (rBlk b c' T))) : SL P X ops Q (o :: rest) m l := fun a w hf hI =>
  wpList_plain hg fun K hK => by
    have hb : Blk w b c T := hI.1.get hi
    unfold Oper.wp execOp
    rw [ho]
    have hst : (storeVar t ⟨b, o', none⟩ (.agg vs.toArray)).run P w = .ok () (w.setRow b c'.toArray) := by
      have := run_storeCells_at (P := P) b o' T vs 0 c.toArray w hb (by simpa using hlen) (fun u hu => List.all_eq_true.1 hv u hu)
      unfold storeVar
      rw [show Value.cells (.agg vs.toArray) = vs.toArray from rfl, Sem.run_bind, (ht.run w).2.1]
      simp only [Result.andThen_ok, List.size_toArray, hvl, ne_eq, not_true, if_false]
      rw [← hvl] at *
      simpa [hc] using this
    simp only [hf.ev hx, hf.ev hy, Instr.storeAt, Instr.sureAddr, Sem.run_bind, Sem.run_pure, Result.andThen_ok, hst, Oper.upon_skip, hd, Act.put]
    refine hK _ _ (k a _ hf ?_)
    refine hI.upd hi ⟨rfl, rfl, rfl, by simp [World.setRow], fun k' _ hk' => setRow_other w b k' _ hk'⟩ (fun b' hb' => by cases hb'; exact hS) ?_ (fun b' hb' => .inl hb')
    exact setRow_heap w b c.toArray c'.toArray T (0, 0) hb
theorem new_blk {w : World} (hI : Inv X w l) (c : Array Value) (T : TypeId) : Inv X (w.alloc (.cells c T)) (l ++ [rBlk w.heap.size c.toList T]) :=
  hI.add ((Only.refl _ _).alloc _) (Blk.new' w c T) (fun b hb => by cases hb; exact Nat.le_refl _)
theorem SL.alloc {t : TypeId} {z : Value} (hg : o.guard = none) (hd : o.dst = some d) (hn : d < X.n) (ht : TySc P t z) (ho : o.op = .alloc t)
    (k : ∀ b, X.w0.heap.size ≤ b → SL P X ops Q rest ((d, .pointer (some ⟨b, 0, none⟩)) :: m) (l ++ [rBlk b [z] t])) : SL P X ops Q (o :: rest) m l := fun a w hf hI =>
  wpList_plain hg fun K hK => by
    unfold Oper.wp execOp
    rw [ho]
    have hvc : z.cells = #[z] := by have := ht.one; cases z <;> first | rfl | simp [Value.oneCell'] at this
    have hrun : (Instr.alloc t true (.tuple #[])).run P w = .ok (.pointer (some ⟨w.heap.size, 0, none⟩)) (w.alloc (.cells #[z] t)) := by
      unfold Instr.alloc
      rw [Sem.run_bind, (ht.run w).2.2]
      simp [newVar, newRow, newObj, hvc]; rfl
    simp only [Sem.run_bind, hrun, Result.andThen_ok, Sem.run_pure, Oper.upon_value, hd]
    exact hK _ _ (k _ hI.2.size _ _ (hf.put hn _) (new_blk hI _ _))
theorem SL.alloca {t : TypeId} {z : List Value} (hg : o.guard = none) (hd : o.dst = some d) (hn : d < X.n) (ht : TyAg P t z) (ho : o.op = .alloc t)
    (k : ∀ b, X.w0.heap.size ≤ b → SL P X ops Q rest ((d, .pointer (some ⟨b, 0, none⟩)) :: m) (l ++ [rBlk b z t])) : SL P X ops Q (o :: rest) m l := fun a w hf hI =>
  wpList_plain hg fun K hK => by
    unfold Oper.wp execOp
    rw [ho]
    have hrun : (Instr.alloc t true (.tuple #[])).run P w = .ok (.pointer (some ⟨w.heap.size, 0, none⟩)) (w.alloc (.cells z.toArray t)) := by
      unfold Instr.alloc
      rw [Sem.run_bind, (ht.run w).2.2]
      simp [newVar, newRow, newObj, Value.cells]; rfl
    simp only [Sem.run_bind, hrun, Result.andThen_ok, Sem.run_pure, Oper.upon_value, hd]
    exact hK _ _ (k _ hI.2.size _ _ (hf.put hn _) (new_blk hI _ _))
theorem SL.box {t : TypeId} {x : Operand} {c : List Value} (hg : o.guard = none) (hd : o.dst = some d) (hn : d < X.n) (ho : o.op = .box t x) (hx : evM m x = some v) (hc : v.cells = c.toArray)
    (k : ∀ b, X.w0.heap.size ≤ b → SL P X ops Q rest ((d, .pointer (some ⟨b, 0, none⟩)) :: m) (l ++ [rBlk b c t])) : SL P X ops Q (o :: rest) m l := fun a w hf hI =>
  wpList_plain hg fun K hK => by
    unfold Oper.wp execOp
    rw [ho]
    have hrun : (Instr.box t v).run P w = .ok (.pointer (some ⟨w.heap.size, 0, none⟩)) (w.alloc (.cells c.toArray t)) := by
      unfold Instr.box
      simp [newVar, newRow, newObj, hc]; rfl
    simp only [hf.ev hx, Sem.run_bind, hrun, Result.andThen_ok, Sem.run_pure, Oper.upon_value, hd]
    exact hK _ _ (k _ hI.2.size _ _ (hf.put hn _) (new_blk hI _ _))

def evL (m : List (Nat × Value)) : List Operand → Option (List Value)
  | [] => some []
  | x :: r => match evM m x, evL m r with
    | some v, some vs => some (v :: vs)
    | _, _ => none
theorem Fr.evL {n : Nat} {a : Act} {m : List (Nat × Value)} (h : Fr n a m) : ∀ {xs : List Operand} {vs : List Value}, Proofs.Ytcilikkljkdceaa.evL m xs = some vs → xs.map a.eval = vs
  | [], vs, hv => by simpa [Proofs.Ytcilikkljkdceaa.evL] using hv
  | x :: r, vs, hv => by
    simp only [Proofs.Ytcilikkljkdceaa.evL] at hv
    split at hv
    · rename_i v us h1 h2
      cases hv
      rw [List.map_cons, h.ev h1, Fr.evL h h2]
    · cases hv
theorem call_enter {f : FuncId} {fs cs vals : List Value} {c : Operand} {args : List Operand} {aT : Array TypeId} (ho : o.op = .call { callee := .value c, args := args.toArray, argTypes := aT }) (hok : CallOk P f)
    (hc : evM m c = some (.func (.func f) fs.toArray cs.toArray)) (ha : evL m args = some vals) {a : Act} {n : Nat} (hf : Fr n a m) (w : World) : (execOp a.eval o).run P w = .ok (.enter f (fs ++ vals ++ cs).toArray) w := by
  obtain ⟨fn, h1, h2, h3⟩ := hok
  unfold execOp; rw [ho]
  have he : args.toArray.map a.eval = vals.toArray := by rw [← hf.evL ha]; simp
  have h2' : ¬ fn.body = none := by cases hfb : fn.body <;> simp_all
  have h3' : ¬ fn.name = "runtime.NumGoroutine" := by simpa using h3
  simp [resolve, hf.ev hc, Deferred.ofValue, he, invoke, callFunc, h1, h2', h3', Sem.run_bind, Result.andThen]
theorem SL.call {ζ : Type} (val : ζ → Value) (l' : ζ → List Res) (p : ζ → Prop) {f : FuncId} {fs cs vals : List Value} {c : Operand} {args : List Operand} {aT : Array TypeId} (hg : o.guard = none)
    (ho : o.op = .call { callee := .value c, args := args.toArray, argTypes := aT }) (hok : CallOk P f) (hc : evM m c = some (.func (.func f) fs.toArray cs.toArray)) (ha : evL m args = some vals) (hd : o.dst = some d) (hn : d < X.n)
    (H : ∀ w, Inv X w l → Calls P f (fs ++ vals ++ cs).toArray w fun e w' => ∃ z, e = .returned (val z) ∧ Inv X w' (l' z) ∧ p z)
    (k : ∀ z, p z → SL P X ops Q rest ((d, val z) :: m) (l' z)) : SL P X ops Q (o :: rest) m l := fun a w hf hI =>
  wpList_plain hg fun K hK => by
    unfold Oper.wp
    rw [call_enter ho hok hc ha hf w, Oper.upon_enter]
    refine (H w hI).mono fun e w' ⟨z, he, hI', hp⟩ => ?_
    subst he
    rw [hd]
    exact hK _ _ (k z hp _ _ (hf.put hn _) hI')
theorem SL.callg {ζ : Type} (val : ζ → Value) (l' : ζ → List Res) (p : ζ → Prop) {j : Nat} {want : Bool} {dj : Nat} (hg : o.guard = some (j, want)) (hj : (ops[j]?).bind (·.dst) = some dj) (hb : look m dj = some (.bool want)) {f : FuncId} {fs cs vals : List Value} {c : Operand} {args : List Operand} {aT : Array TypeId}
    (ho : o.op = .call { callee := .value c, args := args.toArray, argTypes := aT }) (hok : CallOk P f) (hc : evM m c = some (.func (.func f) fs.toArray cs.toArray)) (ha : evL m args = some vals) (hd : o.dst = some d) (hn : d < X.n)
    (H : ∀ w, Inv X w l → Calls P f (fs ++ vals ++ cs).toArray w fun e w' => ∃ z, e = .returned (val z) ∧ Inv X w' (l' z) ∧ p z)
    (k : ∀ z, p z → SL P X ops Q rest ((d, val z) :: m) (l' z)) : SL P X ops Q (o :: rest) m l := fun a w hf hI =>
  wpList_step fun K hK => by
    rw [if_pos (by rw [guard_is hf hg hj hb]; simp)]
    unfold Oper.wp
    rw [call_enter ho hok hc ha hf w, Oper.upon_enter]
    refine (H w hI).mono fun e w' ⟨z, he, hI', hp⟩ => ?_
    subst he
    rw [hd]
    exact hK _ _ (k z hp _ _ (hf.put hn _) hI')
theorem SQ.call {K : Act → Prop} {f : FuncId} {fs cs vals : List Value} {c : Operand} {args : List Operand} {aT : Array TypeId} (v : Value) (hg : o.guard = none)
    (ho : o.op = .call { callee := .value c, args := args.toArray, argTypes := aT }) (hok : CallOk P f) (hc : evM m c = some (.func (.func f) fs.toArray cs.toArray)) (ha : evL m args = some vals) (hd : o.dst = some d) (hn : d < X.n)
    (H : ∀ w, Inv X w l → Calls P f (fs ++ vals ++ cs).toArray w fun e w' => e = .returned v ∧ Inv X w' l)
    (k : SQ P X ops K rest ((d, v) :: m) l) : SQ P X ops K (o :: rest) m l := fun a hf => by
  unfold wpQuiet
  rw [if_pos (by simp [Region.wanted, hg])]
  refine ⟨v, fun w hi => ?_, ?_⟩
  · unfold Oper.quietAt; rw [call_enter ho hok hc ha hf w]; exact ⟨rfl, H w hi⟩
  · rw [hd]; exact k _ (hf.put hn v)
theorem SE.res {fn : Func} {R : Ending → World → Prop} {e : Exit} (he : e = .ret ∨ e = .normal) (hr : ∀ a w, Fr X.n a m → Inv X w l → (results fn a.tmps).run P w = .ok v w) (hR : ∀ w, Inv X w l → R (.returned v) w) : SE X (bodyPost P fn R) e m l := fun a w hf hI => by
  rcases he with rfl | rfl <;> exact ⟨hf.1, v, hr a w hf hI, hR w hI⟩
theorem look_tmps {n : Nat} {a : Act} {t : Nat} (hf : Fr n a m) (h : look m t = some v) : a.tmps.getD t undef = v := by simp [hf.2.2 t v h]
theorem res1 {fn : Func} {t : Nat} (h : fn.results = #[.tmp t]) (ht : look m t = some v) : ∀ a w, Fr X.n a m → Inv X w l → (results fn a.tmps).run P w = .ok v w := fun a w hf _ => by
  rw [results_tmp h, look_tmps hf ht]
theorem res2 {fn : Func} {t u : Nat} {v1 v2 : Value} (h : fn.results = #[.tmp t, .tmp u]) (ht : look m t = some v1) (hu : look m u = some v2) : ∀ a w, Fr X.n a m → Inv X w l → (results fn a.tmps).run P w = .ok (.tuple #[v1, v2]) w := fun a w hf _ => by
  rw [results_tmp2 h, look_tmps hf ht, look_tmps hf hu]
theorem res0 {fn : Func} (h : fn.results = #[]) : ∀ a w, Fr X.n a m → Inv X w l → (results fn a.tmps).run P w = .ok (.tuple #[]) w := fun a w _ _ => results_none h _ _ _
theorem calls_sc {f : FuncId} {fn : Func} {c : Code} {args : List Value} {w : World} {R : Ending → World → Prop} {l0 : List Res} (S : Nat → Prop) (hfn : P.funcs[f]? = some fn) (hb : fn.body = some c) (n : Nat) (hn : fn.ntmps = n) (hargs : args.length ≤ n)
    (hI : Inv ⟨n, w, S⟩ w l0) (h : SC P ⟨n, w, S⟩ c (bodyPost P fn R) (args.zipIdx.map fun x => (x.2, x.1)) l0) : Calls P f args.toArray w R := by
  refine calls_of_wp hfn hb (h _ w ⟨rfl, ?_, ?_⟩ hI)
  · simp; omega
  · intro t v hv
    have key : ∀ (xs : List Value) (k : Nat), look ((xs.zipIdx k).map fun x => (x.2, x.1)) t = some v → k ≤ t ∧ xs[t - k]? = some v := by
      intro xs
      induction xs with
      | nil => intro k h; simp [look] at h
      | cons x r ih =>
        intro k h
        simp only [List.zipIdx_cons, List.map_cons, look] at h
        cases hb : Nat.beq k t
        · rw [hb] at h
          have hne : k ≠ t := fun e => by subst e; simp at hb
          obtain ⟨h1, h2⟩ := ih (k + 1) (by simpa using h)
          refine ⟨by omega, ?_⟩
          rw [show t - k = (t - (k + 1)) + 1 by omega]; simpa using h2
        · rw [hb] at h
          have e : k = t := Nat.eq_of_beq_eq_true hb
          subst e
          simp at h; subst h
          exact ⟨Nat.le_refl _, by simp⟩
    have := (key args 0 hv).2
    simp only [Nat.sub_zero] at this
    have hlt : t < args.length := (List.getElem?_eq_some_iff.1 this).1
    rw [Array.getElem?_append_left (by simpa using hlt)]
    simpa using this
end
end Go.Proofs.Ytcilikkljkdceaa

/-
  The light machine's laws: numbers, tests, small builtins; and a walk parted and joined again. No program is named here.
-/
namespace Go.Proofs.Ytcilikkljkdceaa
open Go.RowKit

abbrev iw (x : Int) : Value := .int .i64 x
abbrev uw (x : Int) : Value := .int .u32 x
abbrev bo (b : Bool) : Value := .bool b
abbrev pt (b o : Nat) : Value := .pointer (some ⟨b, o, none⟩)
abbrev sl (b o n c : Nat) : Value := .slice (some ⟨b, o, none⟩) n c

theorem lt_b {a b : Nat} (h : Nat.blt a b = true) : a < b := by simpa [Nat.blt_eq] using h
theorem le_b {a b : Nat} (h : Nat.ble a b = true) : a ≤ b := Nat.le_of_ble_eq_true h

section
variable {P : Program} {X : Cx} {ops : Array Oper} {Q : Exit → Act → World → Prop} {rest : List Oper} {o : Oper} {m : List (Nat × Value)} {l : List Res} {v : Value} {d : Nat}
variable {t t' : TypeId} {x y : Operand} {k : IntKind} {p q r : Int} {b : Bool}

theorem ru_add (ho : o.op = .binOp .add t x y t') (hx : evM m x = some (.int k p)) (hy : evM m y = some (.int k q)) (hv : k.wrap (p + q) = r) : Ru P X o m l (.int k r) := ru_bin ho hx hy fun w => by subst hv; simp [binOp, Op.intArith]
theorem ru_sub (ho : o.op = .binOp .sub t x y t') (hx : evM m x = some (.int k p)) (hy : evM m y = some (.int k q)) (hv : k.wrap (p - q) = r) : Ru P X o m l (.int k r) := ru_bin ho hx hy fun w => by subst hv; simp [binOp, Op.intArith]
theorem ru_mul (ho : o.op = .binOp .mul t x y t') (hx : evM m x = some (.int k p)) (hy : evM m y = some (.int k q)) (hv : k.wrap (p * q) = r) : Ru P X o m l (.int k r) := ru_bin ho hx hy fun w => by subst hv; simp [binOp, Op.intArith]
theorem ru_quo (ho : o.op = .binOp .quo t x y t') (hx : evM m x = some (.int k p)) (hy : evM m y = some (.int k q)) (h0 : ¬ q = 0) (hv : k.wrap (p.tdiv q) = r) : Ru P X o m l (.int k r) := ru_bin ho hx hy fun w => by subst hv; simp [binOp, Op.intDiv, h0]
theorem ru_rem (ho : o.op = .binOp .rem t x y t') (hx : evM m x = some (.int k p)) (hy : evM m y = some (.int k q)) (h0 : ¬ q = 0) (hv : p.tmod q = r) : Ru P X o m l (.int k r) := ru_bin ho hx hy fun w => by subst hv; simp [binOp, Op.intDiv, h0]
theorem ru_eq (ho : o.op = .binOp .eql t x y t') (hx : evM m x = some (.int k p)) (hy : evM m y = some (.int k q)) (hv : (p == q) = b) : Ru P X o m l (.bool b) := ru_bin ho hx hy fun w => by subst hv; simp [binOp, Op.intCmp]
theorem ru_ne (ho : o.op = .binOp .neq t x y t') (hx : evM m x = some (.int k p)) (hy : evM m y = some (.int k q)) (hv : (p != q) = b) : Ru P X o m l (.bool b) := ru_bin ho hx hy fun w => by subst hv; simp [binOp, Op.intCmp]
theorem ru_lt (ho : o.op = .binOp .lss t x y t') (hx : evM m x = some (.int k p)) (hy : evM m y = some (.int k q)) (hv : decide (p < q) = b) : Ru P X o m l (.bool b) := ru_bin ho hx hy fun w => by subst hv; simp [binOp, Op.intCmp]
theorem ru_le (ho : o.op = .binOp .leq t x y t') (hx : evM m x = some (.int k p)) (hy : evM m y = some (.int k q)) (hv : decide (p ≤ q) = b) : Ru P X o m l (.bool b) := ru_bin ho hx hy fun w => by subst hv; simp [binOp, Op.intCmp]
theorem ru_gt (ho : o.op = .binOp .gtr t x y t') (hx : evM m x = some (.int k p)) (hy : evM m y = some (.int k q)) (hv : decide (q < p) = b) : Ru P X o m l (.bool b) := ru_bin ho hx hy fun w => by subst hv; simp [binOp, Op.intCmp]
theorem ru_ge (ho : o.op = .binOp .geq t x y t') (hx : evM m x = some (.int k p)) (hy : evM m y = some (.int k q)) (hv : decide (q ≤ p) = b) : Ru P X o m l (.bool b) := ru_bin ho hx hy fun w => by subst hv; simp [binOp, Op.intCmp]
theorem ru_or (ho : o.op = .binOp .or t x y t') (hx : evM m x = some (.int k p)) (hy : evM m y = some (.int k q)) (hv : bits .or k p q = r) : Ru P X o m l (.int k r) := ru_bin ho hx hy fun w => by subst hv; simp [binOp, Op.intBits, bits]
theorem ru_not (ho : o.op = .unOp .not t x) (hx : evM m x = some (.bool b)) {c : Bool} (hv : (!b) = c) : Ru P X o m l (.bool c) := fun a w hf _ => by
  subst hv; unfold execOp; rw [ho]; simp only [hf.ev hx, Op.unary]; rfl
theorem ru_binv {op : BinOp} {u1 u2 : Value} (ho : o.op = .binOp op t x y t') (hx : evM m x = some u1) (hy : evM m y = some u2) (hg : ∀ w, (eqGuard op t x y u1 u2).run P w = .ok () w)
    (hr : ∀ w, Inv X w l → (binOp op t u1 u2).run P w = .ok v w) : Ru P X o m l v := fun a w hf hI => by
  unfold execOp; rw [ho]; simp only [hf.ev hx, hf.ev hy]
  rw [Sem.run_bind, Sem.run_bind, hg w]
  simp only [Result.andThen_ok, hr w hI]
  rfl
theorem ru_eqnil {e : TypeId} {a : Option Addr} (hu : P.underlying t = some (.pointer e)) (ho : o.op = .binOp .eql t x y t') (hx : evM m x = some (.pointer a)) (hy : evM m y = some (.pointer none)) (hv : a.isNone = b) : Ru P X o m l (.bool b) :=
  ru_binv ho hx hy (fun w => rfl) fun w _ => by subst hv; obtain ⟨n, hn⟩ : ∃ n, Op.maxDepth = n + 1 := ⟨9999, rfl⟩; cases a <;> (simp only [binOp, Op.equal, hn, Op.equalIn, Sem.run_bind, run_underlying hu w, Result.andThen_ok]; rfl)
theorem ru_conv {k' : IntKind} (hs : ∃ d, P.underlying t = some d) (hd : P.underlying t' = some (.int k')) (ho : o.op = .convert t t' x) (hx : evM m x = some (.int k p)) (hv : k'.wrap p = r) : Ru P X o m l (.int k' r) := fun a w hf _ => by
  obtain ⟨d, hs⟩ := hs
  subst hv; unfold execOp; rw [ho]; simp only [hf.ev hx, Go.convert, Sem.run_bind, run_underlying hs w, run_underlying hd w, Result.andThen_ok, Conv.intToInt]
  rfl
theorem ru_len {e : TypeId} {a : Option Addr} {n c : Nat} (hu : P.underlying t = some (.slice e)) (ho : o.op = .call { callee := .builtin .len, args := #[x], argTypes := #[t] }) (hx : evM m x = some (.slice a n c)) : Ru P X o m l (.int .i64 n) := fun a w hf _ => by
  unfold execOp; rw [ho]
  simp [resolve, hf.ev hx, invoke, builtin, Builtin.len_, run_underlying hu w, goInt]
theorem ru_makeFunc {fn : Fn} {fs cs : List Operand} {v1 v2 : List Value} (ho : o.op = .makeFunc fn fs.toArray cs.toArray) (h1 : evL m fs = some v1) (h2 : evL m cs = some v2) : Ru P X o m l (.func fn v1.toArray v2.toArray) := fun a w hf _ => by
  have e1 : fs.toArray.map a.eval = v1.toArray := by rw [← hf.evL h1]; simp
  have e2 : cs.toArray.map a.eval = v2.toArray := by rw [← hf.evL h2]; simp
  unfold execOp; rw [ho]; simp only [e1, e2, Instr.makeFunc]; rfl

theorem guard_un {j : Nat} {want : Bool} {dj : Nat} {a : Act} (hf : Fr X.n a m) (hg : o.guard = some (j, want)) (hj : (ops[j]?).bind (·.dst) = some dj) (hb : look m dj = some undef) : Region.wanted o (yielded ops a.tmps) = false := by
  have h1 : yielded ops a.tmps j = none := by
    unfold yielded
    rw [hj]
    simp [hf.2.2 dj _ hb, undef]
  unfold Region.wanted
  rw [hg]
  simp [h1]
theorem SL.offu {j : Nat} {want : Bool} {dj : Nat} (hg : o.guard = some (j, want)) (hj : (ops[j]?).bind (·.dst) = some dj) (hb : look m dj = some undef) (hd : o.dst = some d) (hn : d < X.n)
    (k : SL P X ops Q rest ((d, undef) :: m) l) : SL P X ops Q (o :: rest) m l := fun a w hf hi =>
  wpList_step fun K hK => by
    rw [if_neg (by rw [guard_un hf hg hj hb]; simp), hd]
    exact hK _ _ (k _ w (hf.put hn _) hi)
theorem wpList_append {L2 : List Oper} : ∀ (L1 : List Oper) (a : Act) (w : World), wpList P ops (Exit.then (fun a w => wpList P ops Q L2 a w) Q) L1 a w → wpList P ops Q (L1 ++ L2) a w
  | [], a, w, h => h
  | o :: r, a, w, h => by
    rw [List.cons_append]
    unfold wpList at h ⊢
    have hout : LetsOut (Exit.then (fun a w => wpList P ops Q L2 a w) Q) → LetsOut Q := fun ⟨a, w, h⟩ => ⟨a, w, h⟩
    split
    · rename_i hw
      rw [if_pos hw] at h
      rcases h with h | ⟨h1, h2⟩
      · left
        unfold Oper.wp at h ⊢
        revert h
        generalize (execOp a.eval o).run P w = rr
        intro h
        cases rr with
        | ok n w' =>
          cases n <;> simp only [Oper.upon] at h ⊢ <;> first | exact h.elim | exact wpList_append r _ _ h | skip
          · refine h.mono fun e w'' he => ?_
            cases e with
            | returned v => exact wpList_append r _ _ he
            | panicked c => exact he
            | outgrown => exact hout he
          · exact h.mono fun v w'' he => wpList_append r _ _ he
        | halt hh w' =>
          cases hh <;> simp only [Oper.upon] at h ⊢ <;> first | exact h.elim | exact h
      · exact .inr ⟨h1, hout h2⟩
    · rename_i hw
      rw [if_neg hw] at h
      exact wpList_append r _ _ h
theorem SL.join (n : Nat) (m' : List (Nat × Value)) (l' : List Res) (hk : SL P X ops Q (rest.drop n) m' l')
    (h : ∀ K : Act → World → Prop, (∀ a w, Fr X.n a m' → Inv X w l' → K a w) → SL P X ops (Exit.then K Q) (rest.take n) m l) : SL P X ops Q rest m l := fun a w hf hI => by
  have := h (fun a w => wpList P ops Q (rest.drop n) a w) (fun a w hf hI => hk a w hf hI) a w hf hI
  have := wpList_append (Q := Q) (L2 := rest.drop n) _ _ _ this
  rwa [List.take_append_drop] at this
theorem SL.joined {K : Act → World → Prop} {m' : List (Nat × Value)} {l' : List Res} (hK : ∀ a w, Fr X.n a m' → Inv X w l' → K a w) (hm : Subs m m') (hl : l = l') : SL P X ops (Exit.then K Q) [] m l := fun a w hf hI => hK a w (hf.sub hm) (hl ▸ hI)
theorem SL.callv {f : FuncId} {fs cs vals : List Value} {c : Operand} {args : List Operand} {aT : Array TypeId} (v : Value) (hg : o.guard = none)
    (ho : o.op = .call { callee := .value c, args := args.toArray, argTypes := aT }) (hok : CallOk P f) (hc : evM m c = some (.func (.func f) fs.toArray cs.toArray)) (ha : evL m args = some vals) (hd : o.dst = some d) (hn : d < X.n)
    (H : ∀ w, Inv X w l → Calls P f (fs ++ vals ++ cs).toArray w fun e w' => e = .returned v ∧ Inv X w' l)
    (k : SL P X ops Q rest ((d, v) :: m) l) : SL P X ops Q (o :: rest) m l :=
  SL.call (fun _ : Unit => v) (fun _ => l) (fun _ => True) hg ho hok hc ha hd hn (fun w hI => (H w hI).mono fun e w' ⟨h1, h2⟩ => ⟨(), h1, h2, trivial⟩) (fun _ _ => k)
theorem SL.callvg {j : Nat} {want : Bool} {dj : Nat} {f : FuncId} {fs cs vals : List Value} {c : Operand} {args : List Operand} {aT : Array TypeId} (v : Value) (hg : o.guard = some (j, want)) (hj : (ops[j]?).bind (·.dst) = some dj) (hb : look m dj = some (.bool want))
    (ho : o.op = .call { callee := .value c, args := args.toArray, argTypes := aT }) (hok : CallOk P f) (hc : evM m c = some (.func (.func f) fs.toArray cs.toArray)) (ha : evL m args = some vals) (hd : o.dst = some d) (hn : d < X.n)
    (H : ∀ w, Inv X w l → Calls P f (fs ++ vals ++ cs).toArray w fun e w' => e = .returned v ∧ Inv X w' l)
    (k : SL P X ops Q rest ((d, v) :: m) l) : SL P X ops Q (o :: rest) m l :=
  SL.callg (fun _ : Unit => v) (fun _ => l) (fun _ => True) hg hj hb ho hok hc ha hd hn (fun w hI => (H w hI).mono fun e w' ⟨h1, h2⟩ => ⟨(), h1, h2, trivial⟩) (fun _ _ => k)
theorem H_same {f : FuncId} {vs : Array Value} {w : World} (hI : Inv X w l) (h : Calls P f vs w fun e w' => e = .returned v ∧ w = w') : Calls P f vs w fun e w' => e = .returned v ∧ Inv X w' l := h.mono fun e w' ⟨h1, h2⟩ => ⟨h1, h2 ▸ hI⟩
theorem H_only {f : FuncId} {vs : Array Value} {w : World} (hI : Inv X w l) (h : Calls P f vs w fun e w' => e = .returned v ∧ Only (fun _ => False) w w') : Calls P f vs w fun e w' => e = .returned v ∧ Inv X w' l := h.mono fun e w' ⟨h1, h2⟩ => ⟨h1, hI.only h2⟩
theorem ret_bo {a b : Bool} (h : b = a) : Ending.returned (.bool a) = .returned (.bool b) := by rw [h]
theorem tf (b : Bool) : b = true ∨ b = false := by cases b <;> simp
end
section
variable {P : Program} {X : Cx} {ops : Array Oper} {Q : Exit → Act → World → Prop} {rest : List Oper} {o : Oper} {m m2 : List (Nat × Value)} {l l2 : List Res} {v : Value} {d : Nat} {x : Operand}
theorem SL.mv (k : SL P X ops Q rest ((d, v) :: m) l) (hg : o.guard = none := by rfl) (hd : o.dst = some d := by rfl) (hn : d < X.n := by exact lt_b rfl) (ho : o.op = .move x := by rfl) (hx : evM m x = some v := by rfl) : SL P X ops Q (o :: rest) m l := SL.ru hg hd hn (ru_move ho hx) k
theorem SL.as (k : SL P X ops Q rest ((d, v) :: m) l) (hg : o.guard = none := by rfl) (hd : o.dst = some d := by rfl) (hn : d < X.n := by exact lt_b rfl) (ho : o.op = .assign x := by rfl) (hx : evM m x = some v := by rfl) : SL P X ops Q (o :: rest) m l := SL.ru hg hd hn (ru_assign ho hx) k
theorem SL.nk {a : Addr} (k : SL P X ops Q rest ((d, .pointer (some a)) :: m) l) (hg : o.guard = none := by rfl) (hd : o.dst = some d := by rfl) (hn : d < X.n := by exact lt_b rfl) (ho : o.op = .nilCheck x := by rfl) (hx : evM m x = some (.pointer (some a)) := by rfl) : SL P X ops Q (o :: rest) m l := SL.ru hg hd hn (ru_nilCheck ho hx) k
theorem SL.uu (hr : Ru P X o m l v) (k : SL P X ops Q rest ((d, v) :: m) l) (hg : o.guard = none := by rfl) (hd : o.dst = some d := by rfl) (hn : d < X.n := by exact lt_b rfl) : SL P X ops Q (o :: rest) m l := SL.ru hg hd hn hr k
theorem SQ.uu {K : Act → Prop} (hr : Ru P X o m l v) (k : SQ P X ops K rest ((d, v) :: m) l) (hg : o.guard = none := by rfl) (hd : o.dst = some d := by rfl) (hn : d < X.n := by exact lt_b rfl) : SQ P X ops K (o :: rest) m l := SQ.ru hg hd hn hr k
theorem SL.gg {j : Nat} {want : Bool} {dj : Nat} (hr : Ru P X o m l v) (k : SL P X ops Q rest ((d, v) :: m) l) (hg : o.guard = some (j, want) := by rfl) (hj : (ops[j]?).bind (·.dst) = some dj := by rfl) (hb : look m dj = some (.bool want) := by rfl) (hd : o.dst = some d := by rfl) (hn : d < X.n := by exact lt_b rfl) : SL P X ops Q (o :: rest) m l := SL.rug hg hj hb hd hn hr k
theorem SL.oo {j : Nat} {want b : Bool} {dj : Nat} (k : SL P X ops Q rest ((d, undef) :: m) l) (hg : o.guard = some (j, want) := by rfl) (hj : (ops[j]?).bind (·.dst) = some dj := by rfl) (hb : look m dj = some (.bool b) := by rfl) (hw : (b == want) = false := by rfl) (hd : o.dst = some d := by rfl) (hn : d < X.n := by exact lt_b rfl) : SL P X ops Q (o :: rest) m l := SL.off (b := b) hg hj hb hw hd hn k
theorem SL.nn {y : Code} (m' : List (Nat × Value)) (l' : List Res) (hm : Subs m m') (h : SC P X y Q m' l') (hl : l = l' := by rfl) : SL P X ops (Exit.then (y.wp P Q) Q) [] m l := SL.nil (SC.of_SE (SC.norm m' l' hm hl h))
theorem SC.sr {id : Nat} {L : List Oper} {y : Code} (h : SL P X L.toArray (Exit.then (y.wp P Q) Q) L m l) : SC P X ((Code.region id L.toArray false).seq y) Q m l := SC.seq (SC.region h)
end
section
variable {P : Program} {X : Cx} {ops : Array Oper} {Q : Exit → Act → World → Prop} {rest : List Oper} {o : Oper} {m m2 : List (Nat × Value)} {l l2 : List Res} {v z : Value} {d i b o' j dj : Nat} {x y : Operand} {s t T : TypeId} {k n e size : Nat} {off : Nat} {c : List Value} {K : Act → Prop} {want : Bool}
theorem SL.nl {y : Code} (h : SC P X y Q m l) : SL P X ops (Exit.then (y.wp P Q) Q) [] m l := SL.nil (SC.of_SE h)
theorem SL.nr {y : Code} (l' : List Res) (h : SC P X y Q m l') (hl : l = l' := by rfl) : SL P X ops (Exit.then (y.wp P Q) Q) [] m l := SL.nil (SC.of_SE (hl ▸ h))
theorem SC.nr {c : Code} (l' : List Res) (h : SC P X c Q m l') (hl : l = l' := by rfl) : SC P X c Q m l := hl ▸ h
theorem SL.nrm (l' : List Res) (h : SL P X ops Q rest m l') (hl : l = l' := by rfl) : SL P X ops Q rest m l := hl ▸ h
theorem SL.fa (o2 : Nat) (hs : FldIs P s k off) (h : SL P X ops Q rest ((d, .pointer (some ⟨b, o2, none⟩)) :: m) l) (hg : o.guard = none := by rfl) (hd : o.dst = some d := by rfl) (hn : d < X.n := by exact lt_b rfl) (ho : o.op = .fieldAddr s x k := by rfl) (hx : evM m x = some (.pointer (some ⟨b, o', none⟩)) := by rfl) (h2 : o' + off = o2 := by rfl) : SL P X ops Q (o :: rest) m l := SL.ru hg hd hn (ru_fieldAddr hs ho hx h2) h
theorem SL.ld (i : Nat) (ht : TySc P t z) (h : SL P X ops Q rest ((d, v) :: m) l) (hg : o.guard = none := by rfl) (hd : o.dst = some d := by rfl) (hn : d < X.n := by exact lt_b rfl) (ho : o.op = .load t x := by rfl) (hx : evM m x = some (.pointer (some ⟨b, o', none⟩)) := by rfl) (hi : l[i]? = some (rBlk b c T) := by rfl) (hc : c[o']? = some v := by rfl) : SL P X ops Q (o :: rest) m l := SL.ru hg hd hn (ru_load ht ho hx hi hc) h
theorem SL.ia {ix : Operand} {ii : Int} {kk : IntKind} (o2 : Nat) (hs : ArrIs P t n e size) (h : SL P X ops Q rest ((d, .pointer (some ⟨b, o2, none⟩)) :: m) l) (hg : o.guard = none := by rfl) (hd : o.dst = some d := by rfl) (hn : d < X.n := by exact lt_b rfl) (ho : o.op = .indexAddr t x ix := by rfl) (hx : evM m x = some (.pointer (some ⟨b, o', none⟩)) := by rfl) (hix : evM m ix = some (.int kk ii) := by rfl) (h0 : 0 ≤ ii := by decide) (h1 : ii < n := by decide) (h2 : o' + ii.toNat * size = o2 := by rfl) : SL P X ops Q (o :: rest) m l := SL.ru hg hd hn (ru_indexA hs ho hx hix h0 h1 h2) h
theorem SL.pk {cc : Operand} {bb : Bool} (u v : Value) (h : SL P X ops Q rest ((d, if bb then u else v) :: m) l) (hg : o.guard = none := by rfl) (hd : o.dst = some d := by rfl) (hn : d < X.n := by exact lt_b rfl) (ho : o.op = .pick cc x y := by rfl) (hc : evM m cc = some (.bool bb) := by rfl) (hx : evM m x = some u := by rfl) (hy : evM m y = some v := by rfl) : SL P X ops Q (o :: rest) m l := SL.ru hg hd hn (ru_pick ho hc hx hy) h
theorem SQ.fa (o2 : Nat) (hs : FldIs P s k off) (h : SQ P X ops K rest ((d, .pointer (some ⟨b, o2, none⟩)) :: m) l) (hg : o.guard = none := by rfl) (hd : o.dst = some d := by rfl) (hn : d < X.n := by exact lt_b rfl) (ho : o.op = .fieldAddr s x k := by rfl) (hx : evM m x = some (.pointer (some ⟨b, o', none⟩)) := by rfl) (h2 : o' + off = o2 := by rfl) : SQ P X ops K (o :: rest) m l := SQ.ru hg hd hn (ru_fieldAddr hs ho hx h2) h
theorem SQ.ld (i : Nat) (ht : TySc P t z) (h : SQ P X ops K rest ((d, v) :: m) l) (hg : o.guard = none := by rfl) (hd : o.dst = some d := by rfl) (hn : d < X.n := by exact lt_b rfl) (ho : o.op = .load t x := by rfl) (hx : evM m x = some (.pointer (some ⟨b, o', none⟩)) := by rfl) (hi : l[i]? = some (rBlk b c T) := by rfl) (hc : c[o']? = some v := by rfl) : SQ P X ops K (o :: rest) m l := SQ.ru hg hd hn (ru_load ht ho hx hi hc) h
theorem SQ.ia {ix : Operand} {ii : Int} {kk : IntKind} (o2 : Nat) (hs : ArrIs P t n e size) (h : SQ P X ops K rest ((d, .pointer (some ⟨b, o2, none⟩)) :: m) l) (hg : o.guard = none := by rfl) (hd : o.dst = some d := by rfl) (hn : d < X.n := by exact lt_b rfl) (ho : o.op = .indexAddr t x ix := by rfl) (hx : evM m x = some (.pointer (some ⟨b, o', none⟩)) := by rfl) (hix : evM m ix = some (.int kk ii) := by rfl) (h0 : 0 ≤ ii := by decide) (h1 : ii < n := by decide) (h2 : o' + ii.toNat * size = o2 := by rfl) : SQ P X ops K (o :: rest) m l := SQ.ru hg hd hn (ru_indexA hs ho hx hix h0 h1 h2) h
theorem SQ.mv (h : SQ P X ops K rest ((d, v) :: m) l) (hg : o.guard = none := by rfl) (hd : o.dst = some d := by rfl) (hn : d < X.n := by exact lt_b rfl) (ho : o.op = .move x := by rfl) (hx : evM m x = some v := by rfl) : SQ P X ops K (o :: rest) m l := SQ.ru hg hd hn (ru_move ho hx) h
theorem SQ.nk {a : Addr} (h : SQ P X ops K rest ((d, .pointer (some a)) :: m) l) (hg : o.guard = none := by rfl) (hd : o.dst = some d := by rfl) (hn : d < X.n := by exact lt_b rfl) (ho : o.op = .nilCheck x := by rfl) (hx : evM m x = some (.pointer (some a)) := by rfl) : SQ P X ops K (o :: rest) m l := SQ.ru hg hd hn (ru_nilCheck ho hx) h
end
end Go.Proofs.Ytcilikkljkdceaa

/-
  The light machine's laws: slices that are made. No program is named here.
-/
namespace Go.Proofs.Ytcilikkljkdceaa
open Go.RowKit

def Fz (w : World) (b : Nat) (c : List Value) (T : TypeId) : Prop := w.heap[b]? = some (.cells c.toArray T (c.length, c.length + 1))
theorem Fz.lt {w : World} {b : Nat} {c : List Value} {T : TypeId} (h : Fz w b c T) : b < w.heap.size := (Array.getElem?_eq_some_iff.1 h).1
theorem Fz.cell {w : World} {b : Nat} {c : List Value} {T : TypeId} (h : Fz w b c T) (o : Nat) : w.cell? ⟨b, o, none⟩ = c[o]? := by unfold Fz at h; simp [World.cell?, h]
def rFz (b : Nat) (c : List Value) (T : TypeId) : Res where
  ok w := Fz w b c T
  fp k := k = b
  lt w h k hk := by subst hk; exact Fz.lt h
  st w w' h hw := by unfold Fz; rw [hw b rfl]; exact h
def rAny (b : Nat) : Res where
  ok w := b < w.heap.size
  fp k := k = b
  lt w h k hk := by subst hk; exact h
  st w w' h hw := by
    have h1 := hw b rfl
    rw [Array.getElem?_eq_getElem h] at h1
    exact (Array.getElem?_eq_some_iff.1 h1).1

section
variable {P : Program} {X : Cx} {ops : Array Oper} {Q : Exit → Act → World → Prop} {rest : List Oper} {o : Oper} {m : List (Nat × Value)} {l : List Res} {v : Value} {d : Nat}
variable {t : TypeId} {x y : Operand}

theorem built_slice {w : World} {e n size : Nat} {parts : Array (Nat × Value)} {z cs : List Value} (hu : P.underlying t = some (.slice e)) (hs : (P.info? e).map (fun i => (i.size, i.zero.map (·.cells.toList))) = some (size, some z)) (hn : n * size ≤ 2 ^ 24)
    (hc : Instr.fill (fun i => some (i * size, size)) ((Array.range (n * size)).map (z.toArray[· % z.toArray.size]!)) parts.toList = some cs.toArray) :
    (Instr.buildSlice t n parts).run P w = .ok (.slice (some ⟨w.heap.size, 0, none⟩) n n) (w.alloc (.cells cs.toArray e)) := by
  obtain ⟨i, hi, hz⟩ := map_some hs
  simp only [Prod.mk.injEq, Option.map_eq_some_iff] at hz
  obtain ⟨hz1, zv, hz2, hz3⟩ := hz
  have hzr : (zeroValue e).run P w = .ok zv w := by simp [zeroValue, typeInfo, hi, hz2]
  unfold Instr.buildSlice
  simp only [Sem.run_bind, run_underlying hu w, Result.andThen_ok, size_run (show (P.info? e).map (·.size) = some size by rw [hi]; simp [hz1]) w]
  rw [if_neg (by omega)]
  have hzc : zv.cells = z.toArray := by rw [← hz3]
  by_cases h0 : n * size = 0
  · rw [if_pos h0]
    have hr0 : Array.range (n * size) = #[] := by rw [h0]; rfl
    rw [hr0, Array.map_empty] at hc
    simp only [Sem.run_bind, Sem.run_pure, Result.andThen_ok, hr0, Array.map_empty, hc]
    rfl
  · rw [if_neg h0]
    simp only [Sem.run_bind, hzr, Result.andThen_ok, Sem.run_pure, hzc, hc]
    rfl
theorem SL.buildSlice {e n size : Nat} {parts : List (Nat × Operand)} {vals : List (Nat × Value)} {z cs : List Value} (hg : o.guard = none) (hd : o.dst = some d) (hn : d < X.n) (ho : o.op = .buildSlice t n parts.toArray)
    (hu : P.underlying t = some (.slice e)) (hs : (P.info? e).map (fun i => (i.size, i.zero.map (·.cells.toList))) = some (size, some z)) (hsz : Nat.ble (n * size) 16777216 = true) (hp : parts.mapM (fun x => (evM m x.2).map (x.1, ·)) = some vals)
    (hc : Instr.fill (fun i => some (i * size, size)) ((Array.range (n * size)).map (z.toArray[· % z.toArray.size]!)) vals = some cs.toArray)
    (k : ∀ b, X.w0.heap.size ≤ b → SL P X ops Q rest ((d, .slice (some ⟨b, 0, none⟩) n n) :: m) (l ++ [rBlk b cs e])) : SL P X ops Q (o :: rest) m l := fun a w hf hI =>
  wpList_plain hg fun K hK => by
    unfold Oper.wp execOp
    rw [ho]
    have hv : (parts.toArray.map fun (i, x) => (i, a.eval x)) = vals.toArray := by
      have : parts.map (fun (x : Nat × Operand) => (x.1, a.eval x.2)) = vals := by
        clear ho hc
        induction parts generalizing vals with
        | nil => simp at hp; simpa using hp.symm
        | cons y r ih =>
          simp only [List.mapM_cons, Option.bind_eq_bind, Option.bind_eq_some_iff, Option.map_eq_some_iff] at hp
          obtain ⟨u, ⟨u', hu, rfl⟩, us, hus, h⟩ := hp
          cases h
          rw [List.map_cons, ih hus, hf.ev hu]
      rw [← this]; simp
    have hrun := built_slice (P := P) (w := w) (parts := vals.toArray) hu hs (Nat.le_of_ble_eq_true hsz) hc
    simp only [hv, Sem.run_bind, hrun, Result.andThen_ok, Sem.run_pure, Oper.upon_value, hd]
    exact hK _ _ (k _ hI.2.size _ _ (hf.put hn _) (new_blk hI _ _))
theorem run_mark {w : World} {b : Nat} {c : List Value} {T e : TypeId} {n cp : Nat} (hb : Blk w b c T) (hu : P.underlying t = some (.slice e)) (he : P.underlying e = some (.int .u8)) :
    ∃ w', (Go.convert t t (.slice (some ⟨b, 0, none⟩) n cp)).run P w = .ok (.slice (some ⟨b, 0, none⟩) n cp) w' ∧ Fz w' b c T ∧ Only (fun k => k = b) w w' := by
  refine ⟨w.freeze ⟨b, c.length, none⟩ 1, ?_, ?_, ?_⟩
  · have hsh : w.shape? b = some (T, c.length) := by unfold Blk at hb; simp [World.shape?, hb]
    unfold Go.convert
    simp only [Sem.run_bind, run_underlying hu w, Result.andThen_ok, run_underlying he w, beq_self_eq_true]
    unfold markStringish
    simp only [Sem.run_bind, Go.shape, Sem.run, hsh, Result.andThen_ok, Go.freeze]
    rfl
  · unfold Fz World.freeze
    unfold Blk at hb
    simp [Array.getElem?_modify, hb]
  · refine ⟨by simp [World.freeze], by simp [World.freeze], by simp [World.freeze], by simp [World.freeze], fun k _ hk => ?_⟩
    have : ¬ b = k := fun e => hk e.symm
    simp [World.freeze, Array.getElem?_modify, this]
theorem SL.mark {e : TypeId} {i b n cp : Nat} {c : List Value} {T : TypeId} (hg : o.guard = none) (hd : o.dst = some d) (hn : d < X.n) (ho : o.op = .convert t t x) (hu : P.underlying t = some (.slice e)) (he : P.underlying e = some (.int .u8))
    (hx : evM m x = some (.slice (some ⟨b, 0, none⟩) n cp)) (hi : l[i]? = some (rBlk b c T)) (hS : X.S b ∨ X.w0.heap.size ≤ b)
    (k : SL P X ops Q rest ((d, .slice (some ⟨b, 0, none⟩) n cp) :: m) (l.set i (rFz b c T))) : SL P X ops Q (o :: rest) m l := fun a w hf hI =>
  wpList_plain hg fun K hK => by
    obtain ⟨w', hr, hz, hO⟩ := run_mark (P := P) (t := t) (e := e) (n := n) (cp := cp) (hI.1.get hi) hu he
    unfold Oper.wp execOp
    rw [ho]
    simp only [hf.ev hx, Sem.run_bind, hr, Result.andThen_ok, Sem.run_pure, Oper.upon_value, hd]
    exact hK _ _ (k _ _ (hf.put hn _) (hI.upd hi hO (fun b' hb' => by cases hb'; exact hS) hz (fun b' hb' => .inl hb')))

theorem run_cell {w : World} (hI : Inv X w l) {t : TypeId} {z : List Value} (ht : TyAg P t z) {i b : Nat} {c : List Value} {T : TypeId} (hi : l[i]? = some (rBlk b c T)) (hc : c.length = z.length) : (loadVar t ⟨b, 0, none⟩).run P w = .ok (.agg c.toArray) w := by
  have hb : Blk w b c T := hI.1.get hi
  obtain ⟨⟨d, hd, hdb⟩, hsz, _⟩ := ht
  obtain ⟨inf, hinf, hz⟩ := map_some hsz
  simp only [Prod.mk.injEq] at hz
  exact run_loadVar_at (P := P) w b 0 t c d (fun j hj => by rw [hb.cell, Nat.zero_add]) hd (by cases d <;> simp_all [isAggD]) (by rw [hinf]; simp [hz.1, hc])
theorem res_ct {fn : Func} {p ty u : Nat} {z : List Value} (h : fn.results = #[.cell p ty, .tmp u]) (ht : TyAg P ty z) {b : Nat} (hp : look m p = some (.pointer (some ⟨b, 0, none⟩))) (hu : look m u = some v) (i : Nat) {c : List Value} {T : TypeId} (hi : l[i]? = some (rBlk b c T)) (hc : c.length = z.length) :
    ∀ a w, Fr X.n a m → Inv X w l → (results fn a.tmps).run P w = .ok (.tuple #[.agg c.toArray, v]) w := fun a w hf hI => by
  have h1 := look_tmps hf hp
  have h2 := look_tmps hf hu
  have h1' : a.tmps[p]?.getD undef = .pointer (some ⟨b, 0, none⟩) := by simpa using h1
  have h2' : a.tmps[u]?.getD undef = v := by simpa using h2
  simp [results, h, h1', h2', asAddr, run_cell hI ht hi hc]
theorem res3 {fn : Func} {t u x : Nat} {v1 v2 v3 : Value} (h : fn.results = #[.tmp t, .tmp u, .tmp x]) (ht : look m t = some v1) (hu : look m u = some v2) (hx : look m x = some v3) : ∀ a w, Fr X.n a m → Inv X w l → (results fn a.tmps).run P w = .ok (.tuple #[v1, v2, v3]) w := fun a w hf _ => by
  have h1 : a.tmps[t]?.getD undef = v1 := by simpa using look_tmps hf ht
  have h2 : a.tmps[u]?.getD undef = v2 := by simpa using look_tmps hf hu
  have h3 : a.tmps[x]?.getD undef = v3 := by simpa using look_tmps hf hx
  simp [results, h, h1, h2, h3]

theorem made_len (z : Array Value) (n : Nat) : (madeCells z n).toList.length = n := by rw [Array.length_toList, size_madeCells]
theorem run_room {w : World} {ty e g n : Nat} {c : List Value} {v : Value} {f : List UInt8} (hu : P.underlying t = some (.slice e)) (hs : (P.info? e).map (·.size) = some 1) (hb : Blk w g c e) (hx : BytesAt w v f) (cap : Nat) (hr : n + f.length ≤ cap) (hc : n + f.length ≤ c.length) :
    ∃ w', (Builtin.append_ #[t, t] ty #[.slice (some ⟨g, 0, none⟩) n cap, v]).run P w = .ok (.slice (some ⟨g, 0, none⟩) (n + f.length) cap) w' ∧ Blk w' g (c.take n ++ f.map bv ++ c.drop (n + f.length)) e ∧ Only (fun k => k = g) w w' := by
  obtain ⟨i, hi, hsz⟩ := map_some hs
  rcases hx with ⟨a, q, rfl, hq, rfl⟩ | ⟨b, so, q, rfl, h1, h2, h3⟩
  · refine ⟨w, ?_, by simpa using hb, Only.refl _ _⟩
    have hso : (sizeOf e).run P w = .ok 1 w := by simp [sizeOf, typeInfo, hi, hsz]
    unfold Builtin.append_
    simp only [List.getElem?_toArray, List.getElem?_cons_zero, List.getElem?_cons_succ, Sem.run_bind, run_underlying hu w, Result.andThen_ok, hso, Sem.run_pure, Builtin.lenOf]
    simp only [List.length_nil, Nat.add_zero] at hr
    simp [hr, Builtin.firstCells]
    cases a with
    | none => rfl
    | some a => rfl
  · have hrun := run_append_room (P := P) (w := w) t ty e i hu hi g n cap c.toArray hb ⟨b, so, none⟩ f.length q (f.map bv) (by simp [hsz]) (fun j u hj => by
        have hjl : j < f.length := by have := (List.getElem?_eq_some_iff.1 hj).1; simpa using this
        rw [add_at, h3 j hjl]
        simp only [List.getElem?_map, List.getElem?_eq_getElem hjl, Option.map_some] at hj
        exact hj) (fun u hu => by obtain ⟨y, _, rfl⟩ := List.mem_map.1 hu; rfl) hr (by simp [hsz]; omega)
    refine ⟨_, hrun, ?_, ⟨rfl, rfl, rfl, by simp [World.setRow], fun k' _ hk' => setRow_other w g k' _ hk'⟩⟩
    have := setRow_heap w g c.toArray ((c.take n ++ f.map bv ++ c.drop (n + f.length))).toArray e (0, 0) hb
    unfold Blk
    simpa [hsz] using this
theorem wpList_room {w : World} {a : Act} {e g n cap : Nat} {c : List Value} {v : Value} {f : List UInt8} {y : Operand} (hg : o.guard = none) (ho : o.op = .call { callee := .builtin .append, args := #[x, y], argTypes := #[t, t] }) (hu : P.underlying t = some (.slice e)) (hs : (P.info? e).map (·.size) = some 1)
    (hx : a.eval x = .slice (some ⟨g, 0, none⟩) n cap) (hy : a.eval y = v) (hb : Blk w g c e) (hv : BytesAt w v f) (hr : n + f.length ≤ cap) (hc : n + f.length ≤ c.length)
    (k : ∀ w', Blk w' g (c.take n ++ f.map bv ++ c.drop (n + f.length)) e → Only (fun k => k = g) w w' → wpList P ops Q rest (a.put o.dst (.slice (some ⟨g, 0, none⟩) (n + f.length) cap)) w') : wpList P ops Q (o :: rest) a w :=
  wpList_plain hg fun K hK => by
    obtain ⟨w', hrun, hB, hO⟩ := run_room (P := P) (ty := o.type) hu hs hb hv cap hr hc
    unfold Oper.wp execOp
    rw [ho]
    have he : #[x, y].map a.eval = #[.slice (some ⟨g, 0, none⟩) n cap, v] := by simp [hx, hy]
    simp only [resolve, he, Sem.run_bind, Sem.run_pure, Result.andThen_ok, invoke, builtin, hrun, Oper.upon_value]
    exact hK _ _ (k w' hB hO)
theorem make_u8 {e n : Nat} (hu : P.underlying t = some (.slice e)) (hz : (P.info? e).map (fun i => (i.zero, i.size, i.bytes)) = some (some (.int .u8 0), 1, 1)) (hn : n ≤ 281474976710656) (w : World) :
    (Instr.makeSlice t (.int .i64 0) (.int .i64 (n : Int))).run P w = .ok (.slice (some ⟨w.heap.size, 0, none⟩) 0 n) (w.alloc (.cells (madeCells #[.int .u8 0] n) e)) := by
  obtain ⟨i, hi, h3⟩ := map_some hz
  simp only [Prod.mk.injEq] at h3
  obtain ⟨z0, z1, z2⟩ := h3
  have := run_make (P := P) w t e i (.int .u8 0) hu hi z0 .i64 .i64 0 (n : Int) (by omega) (by omega) (by rw [z2]; omega) (by omega)
  rw [this]
  simp [z1, Value.cells]
end
end Go.Proofs.Ytcilikkljkdceaa

/-
  A region that draws its order and holds operations that turn memory, each apart from the others: one walk in the order of the text serves every order. What is known of the world hangs on which of the listed operations have been.
-/
namespace Go.Proofs.Ytcilikkljkdceaa
section
variable {P : Program} {ops : Array Oper} {md : Region.Mode} {sp : List Nat} {C : (Nat → Bool) → World → Prop}

def doneSet (sp : List Nat) (i : Nat) (D : Nat → Bool) : Nat → Bool := if i ∈ sp then fun k => if k = i then true else D k else D

def spreadUpon (P : Program) (R : World → Prop) (v : Value) : Result Next → Prop
  | .ok (.value u) w' => u = v ∧ R w'
  | .ok .skip w' => v = undef ∧ R w'
  | .ok (.enter f args) w' => Calls P f args w' (fun e w'' => e = .returned v ∧ R w'')
  | _ => False

def spreadAt (P : Program) (sp : List Nat) (C : (Nat → Bool) → World → Prop) (i : Nat) (o : Oper) (a : Act) (v : Value) : Prop :=
  ∀ D w, C D w → (i ∈ sp → D i = false) → spreadUpon P (C (doneSet sp i D)) v ((execOp a.eval o).run P w)

def wpSpread (P : Program) (ops : Array Oper) (sp : List Nat) (C : (Nat → Bool) → World → Prop) (Q : Act → Prop) : Nat → List Oper → Act → Prop
  | _, [], a => Q a
  | k, o :: rest, a => if Region.wanted o (yielded ops a.tmps) then ∃ v, spreadAt P sp C k o a v ∧ wpSpread P ops sp C Q (k + 1) rest (a.put o.dst v) else wpSpread P ops sp C Q (k + 1) rest (a.put o.dst undef)

def sprOp (P : Program) (ops : Array Oper) (sp : List Nat) (C : (Nat → Bool) → World → Prop) (i : Nat) (K : Act → Prop) (a : Act) : Prop :=
  match ops[i]? with
  | none => K a
  | some o => if Region.wanted o (yielded ops a.tmps) then ∃ v, spreadAt P sp C i o a v ∧ K (a.put o.dst v) else K (a.put o.dst undef)

theorem sprOp_mono {i : Nat} {a : Act} {K K' : Act → Prop} (h : ∀ a, K a → K' a) (hh : sprOp P ops sp C i K a) : sprOp P ops sp C i K' a := by
  unfold sprOp at *
  split
  · exact h _ (by simpa [*] using hh)
  · rename_i o ho
    simp only [ho] at hh
    split
    · rename_i hw; simp only [hw, if_true] at hh; obtain ⟨v, h1, h2⟩ := hh; exact ⟨v, h1, h _ h2⟩
    · rename_i hw; simp only [hw] at hh; exact h _ hh

def wpAnySpr (P : Program) (md : Region.Mode) (ops : Array Oper) (sp : List Nat) (C : (Nat → Bool) → World → Prop) (Q : Act → Prop) : Nat → Array Bool → Act → Prop
  | 0, listed, a => Region.ready md ops listed = [] ∧ Q a
  | fuel + 1, listed, a =>
    (Region.ready md ops listed = [] → Q a) ∧
    ∀ i ∈ Region.ready md ops listed, sprOp P ops sp C i (wpAnySpr P md ops sp C Q fuel (listed.setIfInBounds i true)) a

def Flags (ops : Array Oper) (sp : List Nat) (listed : Array Bool) (D : Nat → Bool) : Prop := listed.size = ops.size ∧ ∀ i ∈ sp, i < ops.size → D i = listed.getD i true

theorem Flags.step {listed : Array Bool} {D : Nat → Bool} (h : Flags ops sp listed D) (i : Nat) : Flags ops sp (listed.setIfInBounds i true) (doneSet sp i D) := by
  refine ⟨by simp [h.1], fun j hj hlt => ?_⟩
  unfold doneSet
  by_cases hi : i ∈ sp
  · rw [if_pos hi]
    by_cases e : j = i
    · subst e; simp [h.1, hlt]
    · simp only [e, if_false]
      rw [getD_set_ne true (Ne.symm e)]; exact h.2 j hj hlt
  · rw [if_neg hi, getD_set_ne true (fun e => hi (by subst e; exact hj))]; exact h.2 j hj hlt

theorem wpAny_of_spr {Q : Act → Prop} {Q' : Exit → Act → World → Prop} (hg : ∀ i ∈ sp, ∀ o, ops[i]? = some o → o.guard = none) (hQ : ∀ a listed D w, Region.ready md ops listed = [] → Flags ops sp listed D → C D w → Q a → Q' .normal a w) :
    ∀ (fuel : Nat) (listed : Array Bool) (a : Act) (D : Nat → Bool) (w : World), Flags ops sp listed D → C D w → wpAnySpr P md ops sp C Q fuel listed a → wpAny P md ops Q' fuel listed a w
  | 0, listed, _, D, _, hf, hw, h => ⟨h.1, hQ _ listed D _ h.1 hf hw h.2⟩
  | fuel + 1, listed, a, D, w, hf, hw, h => ⟨fun h0 => hQ _ listed D _ h0 hf hw (h.1 h0), fun i hi => by
      have h2 := h.2 i hi
      have hun := (mem_ready.1 hi).1
      unfold sprOp at h2
      unfold wpOp
      split
      · rename_i ho
        obtain ⟨_, o, ho', _⟩ := mem_ready.1 hi
        rw [ho] at ho'; cases ho'
      · rename_i o ho
        simp only [ho] at h2
        have hlt : i < ops.size := (Array.getElem?_eq_some_iff.1 ho).1
        split
        · rename_i hwt
          simp only [hwt, if_true] at h2
          obtain ⟨v, h3, h4⟩ := h2
          left
          have h5 := h3 D w hw (fun hs => by rw [hf.2 i hs hlt]; exact hun)
          unfold Oper.wp
          generalize (execOp a.eval o).run P w = r at *
          cases r with
          | ok n w' =>
            cases n <;> simp only [spreadUpon] at h5 <;> simp only [Oper.upon]
            case value u => rw [h5.1]; exact wpAny_of_spr hg hQ fuel _ _ _ _ (hf.step i) h5.2 h4
            case skip => rw [← h5.1]; exact wpAny_of_spr hg hQ fuel _ _ _ _ (hf.step i) h5.2 h4
            case enter f args => exact h5.mono fun e w'' ⟨he, hc⟩ => by subst he; exact wpAny_of_spr hg hQ fuel _ _ _ _ (hf.step i) hc h4
          | halt x w' => simp only [spreadUpon] at h5
        · rename_i hwt
          simp only [hwt] at h2
          have hns : i ∉ sp := fun hs => hwt (by simp [Region.wanted, hg i hs o ho])
          have hf' := hf.step (sp := sp) i
          unfold doneSet at hf'
          rw [if_neg hns] at hf'
          exact wpAny_of_spr hg hQ fuel _ _ _ _ hf' hw h2⟩

def SprYields (P : Program) (ops : Array Oper) (sp : List Nat) (C : (Nat → Bool) → World → Prop) (i : Nat) (o : Oper) (v : Value) (a : Act) : Prop :=
  (Region.wanted o (yielded ops a.tmps) = true ∧ spreadAt P sp C i o a v) ∨ (Region.wanted o (yielded ops a.tmps) = false ∧ v = undef)

theorem SprYields.op {i : Nat} {o : Oper} {v : Value} {a : Act} (hi : ops[i]? = some o) (hy : SprYields P ops sp C i o v a) {K : Act → Prop} (h : K (a.put o.dst v)) : sprOp P ops sp C i K a := by
  unfold sprOp
  simp only [hi]
  rcases hy with ⟨hw, hv⟩ | ⟨hw, rfl⟩
  · simp only [hw, if_true]; exact ⟨v, hv, h⟩
  · simp only [hw, Bool.false_eq_true, if_false]; exact h

theorem SprYields.of_same {i : Nat} {o : Oper} {v : Value} {a a' : Act} (hy : SprYields P ops sp C i o v a) (he : execOp a'.eval o = execOp a.eval o)
    (hw : Region.wanted o (yielded ops a'.tmps) = Region.wanted o (yielded ops a.tmps)) : SprYields P ops sp C i o v a' := by
  unfold SprYields spreadAt at *
  rw [he, hw]
  exact hy

theorem sprYields_of_op {i : Nat} {o : Oper} {a : Act} {K : Act → Prop} (hi : ops[i]? = some o) (h : sprOp P ops sp C i K a) : ∃ v, SprYields P ops sp C i o v a ∧ K (a.put o.dst v) := by
  unfold sprOp at h
  simp only [hi] at h
  by_cases hw : Region.wanted o (yielded ops a.tmps) = true
  · simp only [hw, if_true] at h
    obtain ⟨v, h1, h2⟩ := h
    exact ⟨v, .inl ⟨hw, h1⟩, h2⟩
  · simp only [hw] at h
    exact ⟨undef, .inr ⟨by simpa using hw, rfl⟩, h⟩

theorem sprOp_put {i j : Nat} {oi oj : Oper} {v : Value} (hj : ops[j]? = some oj) (hap : oi.apart ops oj = true)
    (hsi : ∀ cs b, oi.op ≠ .select cs b) (hsj : ∀ cs b, oj.op ≠ .select cs b) {K : Act → Prop} {a : Act}
    (hy : SprYields P ops sp C i oi v a) (h : sprOp P ops sp C j K (a.put oi.dst v)) :
    sprOp P ops sp C j (fun a' => SprYields P ops sp C i oi v a' ∧ K (a'.put oi.dst v)) a := by
  obtain ⟨h1, h2, h3⟩ := Oper.apart_spec hap
  have keep : ∀ (a : Act), SprYields P ops sp C i oi v a → ∀ u, SprYields P ops sp C i oi v (a.put oj.dst u) := fun a hy u =>
    hy.of_same (execOp_put oi hsi a oj.dst u h3) (wanted_put oi a oj.dst u h3)
  unfold sprOp at *
  simp only [hj] at *
  rw [wanted_put oj a oi.dst v h1] at h
  split
  · rename_i hw
    simp only [hw, if_true] at h
    obtain ⟨u, hu, hn⟩ := h
    refine ⟨u, fun D w hD hs => ?_, keep a hy u, by rw [← Act.put_comm a v u h2]; exact hn⟩
    have := hu D w hD hs
    rwa [execOp_put oj hsj a oi.dst v h1] at this
  · rename_i hw
    simp only [hw] at h
    exact ⟨keep a hy _, by rw [← Act.put_comm a v undef h2]; exact h⟩

theorem wpAnySpr_first {Q : Act → Prop} {i : Nat} {oi : Oper} {v : Value} (hi : ops[i]? = some oi) (hsel : ∀ (j : Nat) (o : Oper) cs b, ops[j]? = some o → o.op ≠ .select cs b) :
    ∀ (fuel : Nat) (listed : Array Bool) (a : Act),
      (∀ j oj, ops[j]? = some oj → j ≠ i → listed.getD j true = false → (∀ e ∈ oj.after, Region.binds md e = true → e.on ≠ i) → oi.apart ops oj = true) →
      i ∈ Region.ready md ops listed → SprYields P ops sp C i oi v a →
      wpAnySpr P md ops sp C Q fuel (listed.setIfInBounds i true) (a.put oi.dst v) → wpAnySpr P md ops sp C Q (fuel + 1) listed a := by
  intro fuel
  induction fuel with
  | zero =>
    intro listed a _ hr hy H
    refine ⟨fun h => (by rw [h] at hr; cases hr), fun j hj => ?_⟩
    by_cases hji : j = i
    · subst hji; exact hy.op hi H
    · have := ready_mono hj hji
      rw [H.1] at this
      cases this
  | succ fuel ih =>
    intro listed a hfree hr hy H
    refine ⟨fun h => (by rw [h] at hr; cases hr), fun j hj => ?_⟩
    by_cases hji : j = i
    · subst hji; exact hy.op hi H
    · have h1 := H.2 j (ready_mono hj hji)
      obtain ⟨hjun, oj, hoj, hall⟩ := mem_ready.1 hj
      have hnot : ∀ e ∈ oj.after, Region.binds md e = true → e.on ≠ i := fun e he hb heq => by
        have h1 := hall e he hb
        have h0 := (mem_ready.1 hr).1
        rw [heq, getD_both h0] at h1
        cases h1
      have h2 := sprOp_put hoj (hfree j oj hoj hji hjun hnot) (fun cs b => hsel i oi cs b hi) (fun cs b => hsel j oj cs b hoj) hy h1
      have hfree' : ∀ k ok, ops[k]? = some ok → k ≠ i → (listed.setIfInBounds j true).getD k true = false →
          (∀ e ∈ ok.after, Region.binds md e = true → e.on ≠ i) → oi.apart ops ok = true := fun k ok hk hki hun hno => by
        refine hfree k ok hk hki ?_ hno
        by_cases hjk : j = k
        · subst hjk; exact hjun
        · rw [getD_set_ne true hjk] at hun; exact hun
      refine sprOp_mono (fun a' h3 => ih (listed.setIfInBounds j true) a' hfree' (ready_mono hr (Ne.symm hji)) h3.1 ?_) h2
      rw [Array.setIfInBounds_comm _ _ hji]
      exact h3.2

theorem wpAnySpr_lex {Q : Act → Prop} (hs : Region.noSelect ops = true) : ∀ (l : List Oper) (k : Nat) (listed : Array Bool) (a : Act), (∀ j, l[j]? = ops[k + j]?) →
    Region.lexFrom md ops l.length k listed = true → wpSpread P ops sp C Q k l a → wpAnySpr P md ops sp C Q l.length listed a
  | [], _, _, _, _, hB, h => ⟨by simpa [Region.lexFrom] using hB, h⟩
  | o :: l, k, listed, a, hl, hB, h => by
    have h0 : ops[k]? = some o := by simpa using (hl 0).symm
    simp only [List.length_cons, Region.lexFrom, Bool.and_eq_true] at hB
    obtain ⟨⟨hr, hf⟩, hB'⟩ := hB
    have hst : sprOp P ops sp C k (wpSpread P ops sp C Q (k + 1) l) a := by unfold sprOp; simp only [h0]; exact h
    obtain ⟨v, hy, hK⟩ := sprYields_of_op h0 hst
    exact wpAnySpr_first h0 (Region.noSelect_spec hs) l.length listed a (Region.free_spec h0 hf) (by simpa using hr) hy
      (wpAnySpr_lex hs l (k + 1) _ _ (fun j => by have := hl (j + 1); simpa [Nat.add_assoc, Nat.add_comm 1 j] using this) hB' hK)

def backB (ops : Array Oper) : Bool := (List.range ops.size).all fun i => ((ops[i]?).map (·.after.all fun e => !Region.binds .any e || decide (e.on < i))).getD false

theorem all_listed (hb : backB ops = true) {listed : Array Bool} (hs : listed.size = ops.size) (hr : Region.ready .any ops listed = []) : ∀ i, i < ops.size → listed.getD i true = true := by
  intro i
  induction i using Nat.strongRecOn with
  | _ i ih =>
    intro hi
    cases hl : listed.getD i true with
    | true => rfl
    | false =>
      have hb1 := List.all_eq_true.1 hb i (List.mem_range.2 hi)
      have ho : ops[i]? = some ops[i] := by simp [hi]
      rw [ho] at hb1
      simp only [Option.map_some, Option.getD_some, Array.all_eq_true_iff_forall_mem, Bool.or_eq_true, Bool.not_eq_true', decide_eq_true_eq] at hb1
      have : i ∈ Region.ready .any ops listed := mem_ready.2 ⟨hl, ops[i], ho, fun e he hbd => by
        rcases hb1 e he with h1 | h1
        · rw [h1] at hbd; cases hbd
        · have h2 := ih e.on h1 (by omega)
          have hlt : e.on < listed.size := by omega
          simpa [hlt] using h2⟩
      rw [hr] at this; cases this

theorem wp_region_spread {id : Nat} {Q : Exit → Act → World → Prop} {a : Act} {w : World} {l : List Oper} (sp : List Nat) (C : (Nat → Bool) → World → Prop) (hm : P.follows .mixedOrders = true) (hB : Region.lexB .any l.toArray = true) (hb : backB l.toArray = true)
    (hg : (sp.all fun i => ((l[i]?).map (fun o => o.guard.isNone)).getD false) = true) (hC : C (fun _ => false) { w with drawn := w.drawn + 1 })
    (h : wpSpread P l.toArray sp C (fun a' => ∀ D w', (∀ i ∈ sp, D i = true) → C D w' → Q .normal a' w') 0 l a) : (Code.region id l.toArray true).wp P Q a w := by
  simp only [Region.lexB, Bool.and_eq_true] at hB
  have hg' : ∀ i ∈ sp, i < l.length ∧ ∀ o, l.toArray[i]? = some o → o.guard = none := by
    intro i hi
    have := List.all_eq_true.1 hg i hi
    cases ho : l[i]? with
    | none => rw [ho] at this; simp at this
    | some o =>
      rw [ho] at this
      refine ⟨(List.getElem?_eq_some_iff.1 ho).1, fun o' ho' => ?_⟩
      have e : l[i]? = some o' := by simpa using ho'
      rw [ho] at e; cases e
      simpa using this
  refine wp_region_any hm (wpAny_of_spr (sp := sp) (C := C) (Q := fun a' => ∀ D w', (∀ i ∈ sp, D i = true) → C D w' → Q .normal a' w') (fun i hi o ho => (hg' i hi).2 o ho) (fun a' listed D w' hr hf hC' h => ?_) _ _ _ (fun _ => false) _ ?_ hC ?_)
  · refine h D w' (fun i hi => ?_) hC'
    have hlt : i < l.toArray.size := by simpa using (hg' i hi).1
    rw [hf.2 i hi hlt]
    exact all_listed hb hf.1 hr i hlt
  · refine ⟨by simp, fun i _ hlt => ?_⟩
    have hlt' : i < l.length := by simpa using hlt
    simp [hlt']
  · have := wpAnySpr_lex (sp := sp) (C := C) (md := .any) hB.1 l 0 (Array.replicate l.toArray.size false) a (by simp) (by simpa using hB.2) h
    simpa using this

def wpAnySprL (P : Program) (md : Region.Mode) (ops : Array Oper) (sp : List Nat) (C : (Nat → Bool) → World → Prop) (n : Nat) (L : Array Bool → Act → Prop) : Nat → Array Bool → Act → Prop
  | 0, listed, a => L listed a
  | f + 1, listed, a =>
    Region.ready md ops listed ≠ [] ∧ ∀ i ∈ Region.ready md ops listed, i < n ∧ sprOp P ops sp C i (wpAnySprL P md ops sp C n L f (listed.setIfInBounds i true)) a

theorem wpAny_of_headSpr (hg : ∀ i ∈ sp, ∀ o, ops[i]? = some o → o.guard = none) {n g : Nat} {L : Array Bool → Act → Prop} {Q' : Exit → Act → World → Prop} (hL : ∀ listed a D w, Flags ops sp listed D → C D w → L listed a → wpAny P md ops Q' g listed a w) :
    ∀ (f : Nat) (listed : Array Bool) (a : Act) (D : Nat → Bool) (w : World), Flags ops sp listed D → C D w → wpAnySprL P md ops sp C n L f listed a → wpAny P md ops Q' (f + g) listed a w
  | 0, listed, a, D, w, hf, hw, h => by rw [Nat.zero_add]; exact hL _ _ _ _ hf hw h
  | f + 1, listed, a, D, w, hf, hw, h => by
    rw [show f + 1 + g = (f + g) + 1 by omega]
    refine ⟨fun h0 => absurd h0 h.1, fun i hi => ?_⟩
    have h2 := (h.2 i hi).2
    have hun := (mem_ready.1 hi).1
    unfold sprOp at h2
    unfold wpOp
    split
    · rename_i ho
      obtain ⟨_, o, ho', _⟩ := mem_ready.1 hi
      rw [ho] at ho'; cases ho'
    · rename_i o ho
      simp only [ho] at h2
      have hlt : i < ops.size := (Array.getElem?_eq_some_iff.1 ho).1
      split
      · rename_i hwt
        simp only [hwt, if_true] at h2
        obtain ⟨v, h3, h4⟩ := h2
        left
        have h5 := h3 D w hw (fun hs => by rw [hf.2 i hs hlt]; exact hun)
        unfold Oper.wp
        generalize (execOp a.eval o).run P w = r at *
        cases r with
        | ok n w' =>
          cases n <;> simp only [spreadUpon] at h5 <;> simp only [Oper.upon]
          case value u => rw [h5.1]; exact wpAny_of_headSpr hg hL f _ _ _ _ (hf.step i) h5.2 h4
          case skip => rw [← h5.1]; exact wpAny_of_headSpr hg hL f _ _ _ _ (hf.step i) h5.2 h4
          case enter f' args => exact h5.mono fun e w'' ⟨he, hc⟩ => by subst he; exact wpAny_of_headSpr hg hL f _ _ _ _ (hf.step i) hc h4
        | halt x w' => simp only [spreadUpon] at h5
      · rename_i hwt
        simp only [hwt] at h2
        have hns : i ∉ sp := fun hs => hwt (by simp [Region.wanted, hg i hs o ho])
        have hf' := hf.step (sp := sp) i
        unfold doneSet at hf'
        rw [if_neg hns] at hf'
        exact wpAny_of_headSpr hg hL f _ _ _ _ hf' hw h2

theorem wpAnySprL_first {n i : Nat} {oi : Oper} {v : Value} {L : Array Bool → Act → Prop} (hi : ops[i]? = some oi) (hsel : ∀ (j : Nat) (o : Oper) cs b, ops[j]? = some o → o.op ≠ .select cs b)
    (hs : Region.sinkB md ops n = true) (hc : Region.chainB md ops n = true) (hn : n < ops.size) (hin : i < n)
    (hdone : ∀ listed a, L listed a → ∀ j ∈ Region.ready md ops listed, n ≤ j) :
    ∀ (f : Nat) (listed : Array Bool) (a : Act), HeadInv md ops n listed →
      (∀ j oj, ops[j]? = some oj → j ≠ i → listed.getD j true = false → (∀ e ∈ oj.after, Region.binds md e = true → e.on ≠ i) → oi.apart ops oj = true) →
      i ∈ Region.ready md ops listed → SprYields P ops sp C i oi v a →
      wpAnySprL P md ops sp C n L f (listed.setIfInBounds i true) (a.put oi.dst v) → wpAnySprL P md ops sp C n L (f + 1) listed a := by
  intro f
  induction f with
  | zero =>
    intro listed a inv _ hr hy H
    have hun := (mem_ready.1 hr).1
    refine ⟨fun h => (by rw [h] at hr; cases hr), fun j hj => ?_⟩
    have hjn : j < n := by
      rcases Nat.lt_or_ge j n with h | h
      · exact h
      · exact absurd hj (tail_waits hs hc hn inv _ i rfl hin hun j h)
    refine ⟨hjn, ?_⟩
    by_cases hji : j = i
    · subst hji; exact hy.op hi H
    · have := hdone _ _ H j (ready_mono hj hji)
      omega
  | succ f ih =>
    intro listed a inv hfree hr hy H
    have hun := (mem_ready.1 hr).1
    refine ⟨fun h => (by rw [h] at hr; cases hr), fun j hj => ?_⟩
    have hjn : j < n := by
      rcases Nat.lt_or_ge j n with h | h
      · exact h
      · exact absurd hj (tail_waits hs hc hn inv _ i rfl hin hun j h)
    refine ⟨hjn, ?_⟩
    by_cases hji : j = i
    · subst hji; exact hy.op hi H
    · have h1 := (H.2 j (ready_mono hj hji)).2
      obtain ⟨hjun, oj, hoj, hall⟩ := mem_ready.1 hj
      have hnot : ∀ e ∈ oj.after, Region.binds md e = true → e.on ≠ i := fun e he hb heq => by
        have h1 := hall e he hb
        rw [heq, getD_both hun] at h1
        cases h1
      have h2 := sprOp_put hoj (hfree j oj hoj hji hjun hnot) (fun cs b => hsel i oi cs b hi) (fun cs b => hsel j oj cs b hoj) hy h1
      have hfree' : ∀ k ok, ops[k]? = some ok → k ≠ i → (listed.setIfInBounds j true).getD k true = false →
          (∀ e ∈ ok.after, Region.binds md e = true → e.on ≠ i) → oi.apart ops ok = true := fun k ok hk hki hun hno => by
        refine hfree k ok hk hki ?_ hno
        by_cases hjk : j = k
        · subst hjk; exact hjun
        · rw [getD_set_ne true hjk] at hun; exact hun
      refine sprOp_mono (fun a' h3 => ih (listed.setIfInBounds j true) a' (inv.set hj hjn) hfree' (ready_mono hr (Ne.symm hji)) h3.1 ?_) h2
      rw [Array.setIfInBounds_comm _ _ hji]
      exact h3.2

theorem wpAnySprL_lex {n g : Nat} {Lq : Act → Prop} (hsel : Region.noSelect ops = true) (hs : Region.sinkB md ops n = true) (hc : Region.chainB md ops n = true) (hn : n < ops.size) :
    ∀ (l : List Oper) (k : Nat) (listed : Array Bool) (a : Act), (∀ j, j < l.length → l[j]? = ops[k + j]?) → k + l.length = n → HeadInv md ops n listed →
    Region.lexHead md ops g l.length k listed = true → wpSpread P ops sp C Lq k l a →
    wpAnySprL P md ops sp C n (fun listed' a' => (Region.seqB md ops g n listed' = true ∧ ∀ j, j < n → listed'.getD j true = true) ∧ Lq a') l.length listed a ∨ ¬ (∀ j, j < k → listed.getD j true = true)
  | [], k, listed, a, _, hk, _, hB, h => by
    have : k = n := by simpa using hk
    subst this
    by_cases hq : ∀ j, j < k → listed.getD j true = true
    · exact .inl ⟨⟨by simpa [Region.lexHead] using hB, hq⟩, h⟩
    · exact .inr hq
  | o :: l, k, listed, a, hl, hk, inv, hB, h => by
    have h0 : ops[k]? = some o := by simpa using (hl 0 (by simp)).symm
    simp only [List.length_cons, Region.lexHead, Bool.and_eq_true] at hB
    obtain ⟨⟨hr, hf⟩, hB'⟩ := hB
    have hkn : k < n := by simp only [List.length_cons] at hk; omega
    have hr' : k ∈ Region.ready md ops listed := by simpa using hr
    have hst : sprOp P ops sp C k (wpSpread P ops sp C Lq (k + 1) l) a := by unfold sprOp; simp only [h0]; exact h
    obtain ⟨v, hy, hK⟩ := sprYields_of_op h0 hst
    by_cases hq : ∀ j, j < k → listed.getD j true = true
    · rcases wpAnySprL_lex (g := g) hsel hs hc hn l (k + 1) (listed.setIfInBounds k true) (a.put o.dst v) (fun j hj => by have := hl (j + 1) (by simp; omega); simpa [Nat.add_assoc, Nat.add_comm 1 j] using this) (by simp only [List.length_cons] at hk; omega) (inv.set hr' hkn) hB' hK with h1 | h1
      · exact .inl (wpAnySprL_first h0 (Region.noSelect_spec hsel) hs hc hn hkn (fun listed' a' hL => seqB_ready hL.1.1) l.length listed a inv (Region.free_spec h0 hf) hr' hy h1)
      · refine absurd (fun j hj => ?_) h1
        by_cases e : k = j
        · subst e
          have : k < listed.size := by rw [inv.size]; omega
          simp [this]
        · rw [getD_set_ne true e]; exact hq j (by omega)
    · exact .inr hq

theorem wp_region_spread_tail {id : Nat} {Q : Exit → Act → World → Prop} {a : Act} {w : World} {l : List Oper} (n : Nat) (sp : List Nat) (C : (Nat → Bool) → World → Prop) (hm : P.follows .mixedOrders = true) (hB : Region.lexTailB .any l.toArray n = true)
    (hg : (sp.all fun i => decide (i < n) && ((l[i]?).map (fun o => o.guard.isNone)).getD false) = true) (hC : C (fun _ => false) { w with drawn := w.drawn + 1 })
    (h : wpSpread P l.toArray sp C (fun a' => ∀ D w', (∀ i ∈ sp, D i = true) → C D w' → wpList P l.toArray Q (l.drop n) a' w') 0 (l.take n) a) : (Code.region id l.toArray true).wp P Q a w := by
  simp only [Region.lexTailB, Bool.and_eq_true, decide_eq_true_eq] at hB
  obtain ⟨⟨⟨⟨hsel, hn⟩, hs⟩, hc⟩, hlex⟩ := hB
  have hn' : n < l.length := by simpa using hn
  have htl : (l.take n).length = n := by simp; omega
  have hdl : (l.drop n).length = l.toArray.size - n := by simp
  have hg' : ∀ i ∈ sp, i < n ∧ ∀ o, l.toArray[i]? = some o → o.guard = none := by
    intro i hi
    have := List.all_eq_true.1 hg i hi
    simp only [Bool.and_eq_true, decide_eq_true_eq] at this
    refine ⟨this.1, fun o ho => ?_⟩
    have e : l[i]? = some o := by simpa using ho
    have h2 := this.2
    rw [e] at h2
    simpa using h2
  have inv0 : HeadInv .any l.toArray n (Array.replicate l.toArray.size false) :=
    ⟨by simp, fun j oj _ hl => (by rw [getD_replicate_false] at hl; cases hl), fun t _ ht => getD_in (by simpa using ht) (getD_replicate_false _ _)⟩
  have H := wpAnySprL_lex (sp := sp) (C := C) (md := .any) (g := l.toArray.size - n) hsel hs hc hn (l.take n) 0 _ a (fun j hj => by
    have hj' : j < n := by rw [htl] at hj; exact hj
    simp [hj']) (by simpa using htl) inv0 (by rw [htl]; exact hlex) h
  rcases H with H | H
  · refine wp_region_any hm ?_
    have := wpAny_of_headSpr (Q' := Q) (g := l.toArray.size - n) (fun i hi o ho => (hg' i hi).2 o ho) (fun listed a' D w' hf hw' hL => by
      have hD : ∀ i ∈ sp, D i = true := fun i hi => by
        rw [hf.2 i hi (by have := (hg' i hi).1; omega)]; exact hL.1.2 i (hg' i hi).1
      have := wpAny_of_seq (md := .any) (Q' := Q) (l.drop n) n listed a' w' (fun j => by simp [List.getElem?_drop]) (by rw [hdl]; exact hL.1.1) (hL.2 D w' hD hw')
      rwa [hdl] at this) _ _ _ (fun _ => false) _ (⟨by simp, fun i _ hlt => by
        have hlt' : i < l.length := by simpa using hlt
        simp [hlt']⟩) hC H
    rw [htl, show n + (l.toArray.size - n) = l.toArray.size by omega] at this
    exact this
  · exact absurd (fun j hj => absurd hj (Nat.not_lt_zero j)) H

def twoW (i : Nat) (w0 w1 : World) : (Nat → Bool) → World → Prop := fun D w => w = if D i then w1 else w0
end
end Go.Proofs.Ytcilikkljkdceaa

/-
  The light machine: regions that draw their order and make memory. No program is named here.
-/
namespace Go.Proofs.Ytcilikkljkdceaa
open Go.RowKit
section
variable (P : Program) (X : Cx)
def SS (ops : Array Oper) (sp : List Nat) (C : (Nat → Bool) → World → Prop) (K : Act → Prop) (k : Nat) (rest : List Oper) (m : List (Nat × Value)) : Prop := ∀ a, Fr X.n a m → wpSpread P ops sp C K k rest a
end
section
variable {P : Program} {X : Cx} {ops : Array Oper} {Q : Exit → Act → World → Prop} {rest : List Oper} {o : Oper} {m : List (Nat × Value)} {l : List Res} {v : Value} {d k : Nat} {sp : List Nat} {C : (Nat → Bool) → World → Prop} {K : Act → Prop}

theorem done_same (hk : sp.contains k = false) (D : Nat → Bool) : doneSet sp k D = D := by
  unfold doneSet; rw [if_neg (by simpa using hk)]
theorem SS.ru (l : List Res) (hC : ∀ D w, C D w → Inv X w l) (hk : sp.contains k = false) (hg : o.guard = none) (hd : o.dst = some d) (hn : d < X.n) (hr : Ru P X o m l v) (h : SS P X ops sp C K (k + 1) rest ((d, v) :: m)) : SS P X ops sp C K k (o :: rest) m := fun a hf => by
  unfold wpSpread
  rw [if_pos (by simp [Region.wanted, hg])]
  refine ⟨v, fun D w hD _ => ?_, ?_⟩
  · rw [hr a w hf (hC D w hD), done_same hk]; exact ⟨rfl, hD⟩
  · rw [hd]; exact h _ (hf.put hn v)
theorem SS.turn {f : FuncId} {fs cs vals : List Value} {c : Operand} {args : List Operand} {aT : Array TypeId} (v : Value) (hk : sp.contains k = true) (hg : o.guard = none)
    (ho : o.op = .call { callee := .value c, args := args.toArray, argTypes := aT }) (hok : CallOk P f) (hc : evM m c = some (.func (.func f) fs.toArray cs.toArray)) (ha : evL m args = some vals) (hd : o.dst = some d) (hn : d < X.n)
    (H : ∀ D w, C D w → D k = false → Calls P f (fs ++ vals ++ cs).toArray w fun e w' => e = .returned v ∧ C (fun j => if j = k then true else D j) w')
    (h : SS P X ops sp C K (k + 1) rest ((d, v) :: m)) : SS P X ops sp C K k (o :: rest) m := fun a hf => by
  have hs : k ∈ sp := by simpa using hk
  unfold wpSpread
  rw [if_pos (by simp [Region.wanted, hg])]
  refine ⟨v, fun D w hD hf' => ?_, ?_⟩
  · rw [call_enter ho hok hc ha hf w]
    unfold doneSet; rw [if_pos hs]
    exact H D w hD (hf' hs)
  · rw [hd]; exact h _ (hf.put hn v)

def CA (X : Cx) (l : List Res) (k b : Nat) (r : Res) : (Nat → Bool) → World → Prop := fun D w => if D k then Inv X w (l ++ [r]) else Inv X w l ∧ w.heap.size = b
theorem CA.base {r : Res} {b : Nat} : ∀ D w, CA X l k b r D w → Inv X w l := fun D w h => by
  unfold CA at h
  split at h
  · refine ⟨⟨fun s hs => h.1.1 s (by simp [hs]), ?_⟩, h.2⟩
    have := h.1.2
    rw [List.pairwise_append] at this
    exact this.1
  · exact h.1
theorem SC.region_alloc {id : Nat} {L : List Oper} (n k : Nat) (r : Nat → Res) (hm : P.follows .mixedOrders = true) (hB : Region.lexTailB .any L.toArray n = true)
    (hg : ([k].all fun i => decide (i < n) && ((L[i]?).map (fun o => o.guard.isNone)).getD false) = true)
    (h : ∀ b, X.w0.heap.size ≤ b → SS P X L.toArray [k] (CA X l k b (r b)) (fun a' => ∀ D w', (∀ i ∈ [k], D i = true) → CA X l k b (r b) D w' → wpList P L.toArray Q (L.drop n) a' w') 0 (L.take n) m) : SC P X (.region id L.toArray true) Q m l :=
  fun a w hf hi => wp_region_spread_tail n [k] (CA X l k w.heap.size (r w.heap.size)) hm hB hg (by unfold CA; exact ⟨hi.draw1, rfl⟩) (h _ hi.2.size a hf)
theorem SC.region_alloc0 {id : Nat} {L : List Oper} (k : Nat) (r : Nat → Res) (hm : P.follows .mixedOrders = true) (hB : Region.lexB .any L.toArray = true) (hb : backB L.toArray = true)
    (hg : ([k].all fun i => ((L[i]?).map (fun o => o.guard.isNone)).getD false) = true)
    (h : ∀ b, X.w0.heap.size ≤ b → SS P X L.toArray [k] (CA X l k b (r b)) (fun a' => ∀ D w', (∀ i ∈ [k], D i = true) → CA X l k b (r b) D w' → Q .normal a' w') 0 L m) : SC P X (.region id L.toArray true) Q m l :=
  fun a w hf hi => wp_region_spread [k] (CA X l k w.heap.size (r w.heap.size)) hm hB hb hg (by unfold CA; exact ⟨hi.draw1, rfl⟩) (h _ hi.2.size a hf)
theorem SS.nilA {r : Res} {b k : Nat} {L : List Oper} {j : Nat} (h : SL P X ops Q L m (l ++ [r])) : SS P X ops sp C (fun a' => ∀ D w', (∀ i ∈ [k], D i = true) → CA X l k b r D w' → wpList P ops Q L a' w') j [] m := fun a hf => by
  unfold wpSpread
  intro D w' hD hC
  unfold CA at hC
  rw [if_pos (hD k (by simp))] at hC
  exact h a w' hf hC
theorem SS.nilE {r : Res} {b k : Nat} {j : Nat} (h : SE X Q .normal m (l ++ [r])) : SS P X ops sp C (fun a' => ∀ D w', (∀ i ∈ [k], D i = true) → CA X l k b r D w' → Q .normal a' w') j [] m := fun a hf => by
  unfold wpSpread
  intro D w' hD hC
  unfold CA at hC
  rw [if_pos (hD k (by simp))] at hC
  exact h a w' hf hC
theorem SE.scoper (h : SE X Q .ret m l) : SE X (Exit.noGoto Q) .ret m l := h
theorem SC.loop {c : Code} {γ : Type} (M : Nat → γ → List (Nat × Value)) (R : Nat → γ → List Res) (p : Nat → γ → Prop) (n0 : Nat) (g0 : γ) (hp : p n0 g0) (h0 : Subs m (M n0 g0)) (hl : l = R n0 g0)
    (round : ∀ n g, p n g → SC P X c (Exit.then (fun a w => ∃ n', n' < n ∧ ∃ g', p n' g' ∧ Fr X.n a (M n' g') ∧ Inv X w (R n' g')) Q) (M n g) (R n g)) : SC P X (.loop c) Q m l := fun a w hf hi =>
  wp_loop_ghost (fun n a w => ∃ g, p n g ∧ Fr X.n a (M n g) ∧ Inv X w (R n g)) n0 ⟨g0, hp, hf.sub h0, hl ▸ hi⟩ fun n a w ⟨g, h1, h2, h3⟩ => round n g h1 a w h2 h3
theorem SE.again {γ : Type} {M : Nat → γ → List (Nat × Value)} {R : Nat → γ → List Res} {p : Nat → γ → Prop} {n : Nat} (n' : Nat) (g' : γ) (hn : n' < n) (hp : p n' g') (hm : Subs m (M n' g')) (hl : l = R n' g') :
    SE X (Exit.then (fun a w => ∃ n', n' < n ∧ ∃ g', p n' g' ∧ Fr X.n a (M n' g') ∧ Inv X w (R n' g')) Q) .normal m l := fun a w hf hi => ⟨n', hn, g', hp, hf.sub hm, hl ▸ hi⟩
theorem SS.newcall {f : FuncId} {fs cs vals : List Value} {c : Operand} {args : List Operand} {aT : Array TypeId} {b : Nat} {r : Res} (v : Value) (hg : o.guard = none)
    (ho : o.op = .call { callee := .value c, args := args.toArray, argTypes := aT }) (hok : CallOk P f) (hc : evM m c = some (.func (.func f) fs.toArray cs.toArray)) (ha : evL m args = some vals) (hd : o.dst = some d) (hn : d < X.n)
    (H : ∀ w, Inv X w l → w.heap.size = b → Calls P f (fs ++ vals ++ cs).toArray w fun e w' => e = .returned v ∧ Inv X w' (l ++ [r]))
    (h : SS P X ops [k] (CA X l k b r) K (k + 1) rest ((d, v) :: m)) : SS P X ops [k] (CA X l k b r) K k (o :: rest) m :=
  SS.turn v (by simp) hg ho hok hc ha hd hn (fun D w hC hD => by
    unfold CA at hC
    rw [if_neg (by simp [hD])] at hC
    refine (H w hC.1 hC.2).mono fun e w' ⟨h1, h2⟩ => ⟨h1, ?_⟩
    unfold CA
    rw [if_pos (by simp)]
    exact h2) h
end
section
variable {P : Program} {X : Cx} {ops : Array Oper} {rest : List Oper} {o : Oper} {m : List (Nat × Value)} {l : List Res} {v : Value} {d k : Nat} {sp : List Nat} {C : (Nat → Bool) → World → Prop} {K : Act → Prop}
theorem SS.uu (hC : ∀ D w, C D w → Inv X w l) (hr : Ru P X o m l v) (h : SS P X ops sp C K (k + 1) rest ((d, v) :: m)) (hk : sp.contains k = false := by rfl) (hg : o.guard = none := by rfl) (hd : o.dst = some d := by rfl) (hn : d < X.n := by exact lt_b rfl) : SS P X ops sp C K k (o :: rest) m := SS.ru l hC hk hg hd hn hr h
end
end Go.Proofs.Ytcilikkljkdceaa

/-
  How a device lies in memory (the program's and the reference's alike). No program is named here.
-/
namespace Go.Proofs.Ytcilikkljkdceaa
open Go.RowKit

structure NicA where
  r : Nat → Int
  tb : Nat → List UInt8
  tp : Nat → Int
  room : Nat → Int
  has : Nat → Bool
  cb : Nat → List UInt8
  bad : Nat → Bool
  clk : Int

def up {α : Type} (f : Nat → α) (k : Nat) (v : α) : Nat → α := fun j => if j = k then v else f j
theorem up_same {α : Type} (f : Nat → α) (k : Nat) (v : α) : up f k v k = v := if_pos rfl
theorem up_ne {α : Type} (f : Nat → α) {k j : Nat} (v : α) (h : j ≠ k) : up f k v j = f j := if_neg h

def cellAt (A : NicA) (tv cv : Nat → Value) (k : Nat) : Value :=
  if k < 8 then iw (A.r k) else if k < 40 then (if k % 2 = 0 then tv ((k - 8) / 2) else iw (A.tp ((k - 8) / 2)))
  else if k < 104 then (if k % 4 = 0 then iw (A.room ((k - 40) / 4)) else if k % 4 = 1 then bo (A.has ((k - 40) / 4)) else if k % 4 = 2 then cv ((k - 40) / 4) else bo (A.bad ((k - 40) / 4))) else iw A.clk
def nc (A : NicA) (tv cv : Nat → Value) : List Value := (List.range 105).map (cellAt A tv cv)

section
variable {A A' : NicA} {tv cv tv' cv' : Nat → Value}
theorem nc_len : (nc A tv cv).length = 105 := by simp [nc]
theorem nc_get {k : Nat} (h : k < 105) : (nc A tv cv)[k]? = some (cellAt A tv cv k) := by simp [nc, h]
theorem nc_r {k : Nat} (h : k < 8) : (nc A tv cv)[k]? = some (iw (A.r k)) := by rw [nc_get (by omega)]; simp [cellAt, h]
theorem nc_r' {k : Nat} (h : k < 8) : (nc A tv cv)[0 + k * 1]? = some (iw (A.r k)) := by rw [show 0 + k * 1 = k by omega]; exact nc_r h
theorem nc_tv {i : Nat} (h : i < 16) : (nc A tv cv)[8 + i * 2]? = some (tv i) := by
  rw [nc_get (by omega)]; unfold cellAt
  rw [if_neg (by omega), if_pos (by omega), if_pos (by omega)]; congr 2; omega
theorem nc_tp {i : Nat} (h : i < 16) : (nc A tv cv)[8 + i * 2 + 1]? = some (iw (A.tp i)) := by
  rw [nc_get (by omega)]; unfold cellAt
  rw [if_neg (by omega), if_pos (by omega), if_neg (by omega)]; congr 3; omega
theorem nc_room {i : Nat} (h : i < 16) : (nc A tv cv)[40 + i * 4]? = some (iw (A.room i)) := by
  rw [nc_get (by omega)]; unfold cellAt
  rw [if_neg (by omega), if_neg (by omega), if_pos (by omega), if_pos (by omega)]; congr 3; omega
theorem nc_has {i : Nat} (h : i < 16) : (nc A tv cv)[40 + i * 4 + 1]? = some (bo (A.has i)) := by
  rw [nc_get (by omega)]; unfold cellAt
  rw [if_neg (by omega), if_neg (by omega), if_pos (by omega), if_neg (by omega), if_pos (by omega)]; congr 3; omega
theorem nc_cv {i : Nat} (h : i < 16) : (nc A tv cv)[40 + i * 4 + 2]? = some (cv i) := by
  rw [nc_get (by omega)]; unfold cellAt
  rw [if_neg (by omega), if_neg (by omega), if_pos (by omega), if_neg (by omega), if_neg (by omega), if_pos (by omega)]; congr 2; omega
theorem nc_bad {i : Nat} (h : i < 16) : (nc A tv cv)[40 + i * 4 + 3]? = some (bo (A.bad i)) := by
  rw [nc_get (by omega)]; unfold cellAt
  rw [if_neg (by omega), if_neg (by omega), if_pos (by omega), if_neg (by omega), if_neg (by omega), if_neg (by omega)]; congr 3; omega
theorem nc_clk : (nc A tv cv)[104]? = some (iw A.clk) := by rw [nc_get (by omega)]; simp [cellAt]
theorem nc_set {k : Nat} {v : Value} (hk : k < 105) (hv : cellAt A' tv' cv' k = v) (ho : ∀ j, j < 105 → j ≠ k → cellAt A' tv' cv' j = cellAt A tv cv j) : (nc A tv cv).set k v = nc A' tv' cv' := by
  apply List.ext_getElem?
  intro j
  by_cases e : k = j
  · subst e; rw [List.getElem?_set_self (by rw [nc_len]; exact hk), nc_get hk, hv]
  · rw [List.getElem?_set_ne e]
    by_cases hj : j < 105
    · rw [nc_get hj, nc_get hj, ho j hj (Ne.symm e)]
    · rw [List.getElem?_eq_none (by rw [nc_len]; omega), List.getElem?_eq_none (by rw [nc_len]; omega)]
theorem set_r {k : Nat} (h : k < 8) (x : Int) : (nc A tv cv).set k (iw x) = nc { A with r := up A.r k x } tv cv := by
  refine nc_set (by omega) ?_ (fun j hj hne => ?_)
  · simp [cellAt, h, up]
  · unfold cellAt up
    split
    · simp [hne]
    · rfl
theorem set_r' {k : Nat} (h : k < 8) (x : Int) : (nc A tv cv).set (0 + k * 1) (iw x) = nc { A with r := up A.r k x } tv cv := by rw [show 0 + k * 1 = k by omega]; exact set_r h x
theorem set_tv {i : Nat} (h : i < 16) (v : Value) : (nc A tv cv).set (8 + i * 2) v = nc A (up tv i v) cv := by
  refine nc_set (by omega) ?_ (fun j hj hne => ?_)
  · unfold cellAt
    rw [if_neg (by omega), if_pos (by omega), if_pos (by omega)]
    rw [show (8 + i * 2 - 8) / 2 = i by omega, up_same]
  · unfold cellAt
    split
    · rfl
    · split
      · split
        · rw [up_ne]; omega
        · rfl
      · rfl
theorem set_tp {i : Nat} (h : i < 16) (x : Int) : (nc A tv cv).set (8 + i * 2 + 1) (iw x) = nc { A with tp := up A.tp i x } tv cv := by
  refine nc_set (by omega) ?_ (fun j hj hne => ?_)
  · unfold cellAt
    rw [if_neg (by omega), if_pos (by omega), if_neg (by omega)]
    show iw (up A.tp i x _) = _
    rw [show (8 + i * 2 + 1 - 8) / 2 = i by omega, up_same]
  · unfold cellAt
    split
    · rfl
    · split
      · split
        · rfl
        · show iw (up A.tp i x _) = _
          rw [up_ne]; omega
      · rfl
theorem set_clk (x : Int) : (nc A tv cv).set 104 (iw x) = nc { A with clk := x } tv cv := by
  refine nc_set (by omega) (by simp [cellAt]) (fun j hj hne => ?_)
  unfold cellAt
  split
  · rfl
  · split
    · rfl
    · split
      · rfl
      · omega
theorem set_rx {i : Nat} (h : i < 16) (a : Int) (b d : Bool) (v : Value) :
    (nc A tv cv).take (40 + i * 4) ++ [iw a, bo b, v, bo d] ++ (nc A tv cv).drop (40 + i * 4 + 4) = nc { A with room := up A.room i a, has := up A.has i b, bad := up A.bad i d } tv (up cv i v) := by
  have out : ∀ j, (j < 40 + i * 4 ∨ 40 + i * 4 + 4 ≤ j) → cellAt { A with room := up A.room i a, has := up A.has i b, bad := up A.bad i d } tv (up cv i v) j = cellAt A tv cv j := by
    intro j hj
    by_cases a1 : j < 8
    · simp [cellAt, a1]
    · by_cases a2 : j < 40
      · simp [cellAt, a1, a2]
      · by_cases a3 : j < 104
        · have hne : ¬ (j - 40) / 4 = i := by omega
          simp [cellAt, a1, a2, a3, up, hne]
        · simp [cellAt, a1, a2, a3]
  apply List.ext_getElem?
  intro j
  have hl : ((nc A tv cv).take (40 + i * 4)).length = 40 + i * 4 := by rw [List.length_take, nc_len]; omega
  by_cases h1 : j < 40 + i * 4
  · rw [List.append_assoc, List.getElem?_append_left (by omega), List.getElem?_take, if_pos h1, nc_get (by omega), nc_get (by omega), out j (.inl h1)]
  · by_cases h2 : j < 40 + i * 4 + 4
    · rw [List.append_assoc, List.getElem?_append_right (by omega), hl, List.getElem?_append_left (by simp; omega), nc_get (by omega)]
      obtain ⟨q, hq⟩ : ∃ q, q = j - (40 + i * 4) := ⟨_, rfl⟩
      have hj : j = 40 + i * 4 + q := by omega
      rw [← hq]
      have hq4 : q < 4 := by omega
      unfold cellAt
      rw [if_neg (by omega), if_neg (by omega), if_pos (by omega)]
      have hd : (j - 40) / 4 = i := by omega
      rw [hd]
      match q, hq4, hj with
      | 0, _, hj => rw [if_pos (by omega)]; show _ = some (iw (up A.room i a i)); rw [up_same]; rfl
      | 1, _, hj => rw [if_neg (by omega), if_pos (by omega)]; show _ = some (bo (up A.has i b i)); rw [up_same]; rfl
      | 2, _, hj => rw [if_neg (by omega), if_neg (by omega), if_pos (by omega), up_same]; rfl
      | 3, _, hj => rw [if_neg (by omega), if_neg (by omega), if_neg (by omega)]; show _ = some (bo (up A.bad i d i)); rw [up_same]; rfl
    · have hl2 : ((nc A tv cv).take (40 + i * 4) ++ [iw a, bo b, v, bo d]).length = 40 + i * 4 + 4 := by rw [List.length_append, hl]; rfl
      rw [List.getElem?_append_right (by omega), hl2, List.getElem?_drop, show 40 + i * 4 + 4 + (j - (40 + i * 4 + 4)) = j by omega]
      by_cases hj : j < 105
      · rw [nc_get hj, nc_get hj, out j (.inr (by omega))]
      · rw [List.getElem?_eq_none (by rw [nc_len]; omega), List.getElem?_eq_none (by rw [nc_len]; omega)]
end

def nilv : Nat → Value := fun _ => .slice none 0 0
theorem nc_one {A : NicA} {tv cv : Nat → Value} (h1 : ∀ i, (tv i).oneCell' = true) (h2 : ∀ i, (cv i).oneCell' = true) : (nc A tv cv).all (·.oneCell') = true := by
  rw [List.all_eq_true]
  intro x hx
  obtain ⟨k, _, rfl⟩ := List.mem_map.1 hx
  unfold cellAt
  split
  · rfl
  · split
    · split
      · exact h1 _
      · rfl
    · split
      · split
        · rfl
        · split
          · rfl
          · split
            · exact h2 _
            · rfl
      · rfl
theorem nc_whole {A A' : NicA} {tv cv tv' cv' : Nat → Value} : (nc A tv cv).take 0 ++ nc A' tv' cv' ++ (nc A tv cv).drop (0 + (nc A' tv' cv').length) = nc A' tv' cv' := by
  rw [List.take_zero, List.nil_append, nc_len, List.drop_eq_nil_of_le (by rw [nc_len]; omega), List.append_nil]
theorem nc_all {A : NicA} {tv cv : Nat → Value} : ((nc A tv cv).drop 0).take 105 = nc A tv cv := by
  rw [List.drop_zero, List.take_of_length_le (by rw [nc_len]; omega)]
theorem Inv.one {n : Nat} {w : World} {S : Nat → Prop} {b : Nat} {c : List Value} {T : TypeId} (h : Blk w b c T) : Inv ⟨n, w, S⟩ w [rBlk b c T] := by
  refine ⟨⟨fun r hr => ?_, List.Pairwise.cons (by simp) List.Pairwise.nil⟩, Only.refl _ _⟩
  simp only [List.mem_cons, List.not_mem_nil, or_false] at hr
  subst hr
  exact h
def FrsAt (w : World) (F : Nat → Prop) (tv cv : Nat → Value) (tb cb : Nat → List UInt8) : Prop :=
  (∀ b, F b → b < w.heap.size) ∧ (∀ i, i < 16 → BytesAt w (tv i) (tb i) ∧ sliceIn (tv i) F) ∧ (∀ i, i < 16 → BytesAt w (cv i) (cb i) ∧ sliceIn (cv i) F)
theorem BytesAt.agree {w w' : World} {v : Value} {l : List UInt8} {F : Nat → Prop} (h : BytesAt w v l) (hs : sliceIn v F) (hw : ∀ b, F b → w'.heap[b]? = w.heap[b]?) : BytesAt w' v l := by
  rcases h with h | ⟨b, o, cap, hv, h1, h2, h3⟩
  · exact .inl h
  · refine .inr ⟨b, o, cap, hv, h1, h2, fun j hj => ?_⟩
    have hF := hs b o _ cap hv (by omega)
    have := h3 j hj
    rw [World.cell?_of_block (w := w) (hw b hF)]; exact this
def rFrs (F : Nat → Prop) (tv cv : Nat → Value) (tb cb : Nat → List UInt8) : Res where
  ok w := FrsAt w F tv cv tb cb
  fp := F
  lt w h b hb := h.1 b hb
  st w w' h hw := by
    refine ⟨fun b hb => ?_, fun i hi => ⟨(h.2.1 i hi).1.agree (h.2.1 i hi).2 hw, (h.2.1 i hi).2⟩, fun i hi => ⟨(h.2.2 i hi).1.agree (h.2.2 i hi).2 hw, (h.2.2 i hi).2⟩⟩
    have h1 := h.1 b hb
    have h2 := hw b hb
    rw [Array.getElem?_eq_getElem h1] at h2
    exact (Array.getElem?_eq_some_iff.1 h2).1

def NicAt (T : TypeId) (w : World) (d : Nat) (F : Nat → Prop) (A : NicA) : Prop := ∃ tv cv, Blk w d (nc A tv cv) T ∧ ¬ F d ∧ FrsAt w F tv cv A.tb A.cb
theorem NicAt.lt {T : TypeId} {w : World} {d : Nat} {F : Nat → Prop} {A : NicA} (h : NicAt T w d F A) : d < w.heap.size := by obtain ⟨tv, cv, hb, _⟩ := h; exact hb.lt
def rNic (T : TypeId) (d : Nat) (F : Nat → Prop) (A : NicA) : Res where
  ok w := NicAt T w d F A
  fp b := b = d ∨ F b
  lt w h b hb := by
    obtain ⟨tv, cv, h1, h2, h3⟩ := h
    rcases hb with rfl | hb
    · exact h1.lt
    · exact h3.1 b hb
  st w w' h hw := by
    obtain ⟨tv, cv, h1, h2, h3⟩ := h
    refine ⟨tv, cv, ?_, h2, (rFrs F tv cv A.tb A.cb).st w w' h3 (fun b hb => hw b (.inr hb))⟩
    unfold Blk; rw [hw d (.inl rfl)]; exact h1
def NicTo (T : TypeId) (w : World) (d : Nat) (F : Nat → Prop) (A' : NicA) (w' : World) : Prop := ∃ F', NicAt T w' d F' A' ∧ (∀ b, F' b → F b ∨ w.heap.size ≤ b) ∧ Only (fun b => b = d) w w'
theorem NicAt.inv {T : TypeId} {w : World} {d : Nat} {F : Nat → Prop} {A : NicA} (n : Nat) (S : Nat → Prop) (h : NicAt T w d F A) : ∃ tv cv, Inv ⟨n, w, S⟩ w [rBlk d (nc A tv cv) T, rFrs F tv cv A.tb A.cb] := by
  obtain ⟨tv, cv, h1, h2, h3⟩ := h
  refine ⟨tv, cv, ⟨fun r hr => ?_, ?_⟩, Only.refl _ _⟩
  · simp only [List.mem_cons, List.not_mem_nil, or_false] at hr
    rcases hr with rfl | rfl
    · exact h1
    · exact h3
  · refine List.Pairwise.cons ?_ (List.Pairwise.cons (by simp) List.Pairwise.nil)
    intro r hr b hb hc
    simp only [List.mem_cons, List.not_mem_nil, or_false] at hr
    subst hr
    cases hb
    exact h2 hc
theorem NicAt.of {X : Cx} {T : TypeId} {w : World} {d : Nat} {F : Nat → Prop} {A : NicA} {tv cv : Nat → Value} {l : List Res} (h : Inv X w (rBlk d (nc A tv cv) T :: rFrs F tv cv A.tb A.cb :: l)) : NicAt T w d F A := by
  have hp := h.1.2
  rw [List.pairwise_cons] at hp
  exact ⟨tv, cv, h.1.1 (rBlk d (nc A tv cv) T) (by simp), fun hF => hp.1 (rFrs F tv cv A.tb A.cb) (by simp) d rfl hF, h.1.1 (rFrs F tv cv A.tb A.cb) (by simp)⟩
theorem NicAt.fin' {T : TypeId} {w w' : World} {d n : Nat} {S : Nat → Prop} {F : Nat → Prop} {A : NicA} {tv cv : Nat → Value} {l : List Res} (h : Inv ⟨n, w, S⟩ w' (rBlk d (nc A tv cv) T :: rFrs F tv cv A.tb A.cb :: l)) : NicAt T w' d F A ∧ Only S w w' := ⟨NicAt.of h, h.2⟩
theorem frs_tx {X : Cx} {T : TypeId} {w : World} {d : Nat} {F : Nat → Prop} {A : NicA} {tv cv : Nat → Value} {c : List Value} {l : List Res} (h : Inv X w (rBlk d c T :: rFrs F tv cv A.tb A.cb :: l)) {i : Nat} (hi : i < 16) : BytesAt w (tv i) (A.tb i) :=
  ((h.1.1 (rFrs F tv cv A.tb A.cb) (by simp)).2.1 i hi).1
theorem frs_rx {X : Cx} {T : TypeId} {w : World} {d : Nat} {F : Nat → Prop} {A : NicA} {tv cv : Nat → Value} {c : List Value} {l : List Res} (h : Inv X w (rBlk d c T :: rFrs F tv cv A.tb A.cb :: l)) {i : Nat} (hi : i < 16) : BytesAt w (cv i) (A.cb i) :=
  ((h.1.1 (rFrs F tv cv A.tb A.cb) (by simp)).2.2 i hi).1
theorem NicAt.fin {T : TypeId} {w w' : World} {d n : Nat} {F : Nat → Prop} {A : NicA} {tv cv : Nat → Value} {l : List Res} (h : Inv ⟨n, w, fun b => b = d⟩ w' (rBlk d (nc A tv cv) T :: rFrs F tv cv A.tb A.cb :: l)) : NicTo T w d F A w' := by
  refine ⟨F, ⟨tv, cv, h.1.1 (rBlk d (nc A tv cv) T) (by simp), fun hF => ?_, h.1.1 (rFrs F tv cv A.tb A.cb) (by simp)⟩, fun b hb => .inl hb, h.2⟩
  have := h.1.2
  rw [List.pairwise_cons] at this
  exact this.1 (rFrs F tv cv A.tb A.cb) (by simp) d rfl hF
theorem Blk.bytes {w : World} {g : Nat} {l : List UInt8} {T : TypeId} (h : Blk w g (l.map bv) T) (hl : l.length ≤ 140737488351232) : BytesAt w (.slice (some ⟨g, 0, none⟩) l.length l.length) l := by
  refine .inr ⟨g, 0, l.length, rfl, Nat.le_refl _, hl, fun j hj => ?_⟩
  rw [h.cell, Nat.zero_add, List.getElem?_map, List.getElem?_eq_getElem hj]; rfl
theorem NicAt.fin_no {T : TypeId} {w w' : World} {d n i : Nat} {F : Nat → Prop} {A : NicA} {tv cv : Nat → Value} {l : List Res}
    (h : Inv ⟨n, w, fun b => b = d⟩ w' (rBlk d (nc A tv (up cv i (.slice none 0 0))) T :: rFrs F tv cv A.tb A.cb :: l)) : NicTo T w d F { A with cb := up A.cb i [] } w' := by
  have hd := h.1.2
  rw [List.pairwise_cons] at hd
  have h1 : Blk w' d (nc A tv (up cv i (.slice none 0 0))) T := h.1.1 (rBlk d (nc A tv (up cv i (.slice none 0 0))) T) (by simp)
  have h2 : FrsAt w' F tv cv A.tb A.cb := h.1.1 (rFrs F tv cv A.tb A.cb) (by simp)
  refine ⟨F, ⟨tv, up cv i (.slice none 0 0), h1, fun hF => hd.1 (rFrs F tv cv A.tb A.cb) (by simp) d rfl hF, h2.1, h2.2.1, fun j hj => ?_⟩, fun b hb => .inl hb, h.2⟩
  by_cases e : j = i
  · subst e
    show BytesAt w' (up cv j _ j) (up A.cb j [] j) ∧ sliceIn (up cv j _ j) _
    rw [up_same, up_same]
    exact ⟨BytesAt.nil _, fun b o n c e _ => by simp at e⟩
  · show BytesAt w' (up cv i _ j) (up A.cb i [] j) ∧ sliceIn (up cv i _ j) _
    rw [up_ne _ _ e, up_ne _ _ e]
    exact h2.2.2 j hj
theorem NicAt.fin_reset {T : TypeId} {w w' : World} {d n : Nat} {F : Nat → Prop} {A A' : NicA} {tv cv : Nat → Value} {l : List Res} (h1 : A'.tb = fun _ => []) (h2 : A'.cb = fun _ => []) (h : Inv ⟨n, w, fun b => b = d⟩ w' (rBlk d (nc A' nilv nilv) T :: rFrs F tv cv A.tb A.cb :: l)) : NicAt T w' d F A' ∧ Only (fun b => b = d) w w' := by
  refine ⟨⟨nilv, nilv, h.1.1 (rBlk d (nc A' nilv nilv) T) (by simp), fun hF => ?_, ?_⟩, h.2⟩
  · have := h.1.2
    rw [List.pairwise_cons] at this
    exact this.1 (rFrs F tv cv A.tb A.cb) (by simp) d rfl hF
  · have k : FrsAt w' F tv cv A.tb A.cb := h.1.1 (rFrs F tv cv A.tb A.cb) (by simp)
    rw [h1, h2]
    exact ⟨k.1, fun i _ => ⟨BytesAt.nil _, fun b o n c e _ => by simp [nilv] at e⟩, fun i _ => ⟨BytesAt.nil _, fun b o n c e _ => by simp [nilv] at e⟩⟩
theorem NicAt.fin_tx {T U : TypeId} {w w' : World} {d n g i : Nat} {F : Nat → Prop} {A : NicA} {tv cv : Nat → Value} {f : List UInt8} (hf : f.length ≤ 140737488351232) (hg : w.heap.size ≤ g)
    (h : Inv ⟨n, w, fun b => b = d⟩ w' [rBlk d (nc A (up tv i (sl g 0 f.length f.length)) cv) T, rFrs F tv cv A.tb A.cb, rBlk g (f.map bv) U]) : NicTo T w d F { A with tb := up A.tb i f } w' := by
  have hd := h.1.2
  simp only [List.pairwise_cons] at hd
  have h1 : Blk w' d (nc A (up tv i (sl g 0 f.length f.length)) cv) T := h.1.1 (rBlk d (nc A (up tv i (sl g 0 f.length f.length)) cv) T) (by simp)
  have h2 : FrsAt w' F tv cv A.tb A.cb := h.1.1 (rFrs F tv cv A.tb A.cb) (by simp)
  have h3 : Blk w' g (f.map bv) U := h.1.1 (rBlk g (f.map bv) U) (by simp)
  refine ⟨fun b => F b ∨ b = g, ⟨up tv i (sl g 0 f.length f.length), cv, h1, ?_, ?_, ?_, ?_⟩, fun b hb => hb.imp id (fun e => by subst e; exact hg), h.2⟩
  · rintro (hF | e)
    · exact hd.1 (rFrs F tv cv A.tb A.cb) (by simp) d rfl hF
    · exact hd.1 (rBlk g (f.map bv) U) (by simp) d rfl e
  · rintro b (hF | e)
    · exact h2.1 b hF
    · subst e; exact h3.lt
  · intro j hj
    by_cases e : j = i
    · subst e
      show BytesAt w' (up tv j _ j) (up A.tb j f j) ∧ sliceIn (up tv j _ j) _
      rw [up_same, up_same]
      refine ⟨h3.bytes hf, fun b o n c hv hn => ?_⟩
      simp at hv; exact .inr hv.1.1.symm
    · show BytesAt w' (up tv i _ j) (up A.tb i f j) ∧ sliceIn (up tv i _ j) _
      rw [up_ne _ _ e, up_ne _ _ e]
      exact ⟨(h2.2.1 j hj).1, fun b o n c hv hn => .inl ((h2.2.1 j hj).2 b o n c hv hn)⟩
  · intro j hj
    exact ⟨(h2.2.2 j hj).1, fun b o n c hv hn => .inl ((h2.2.2 j hj).2 b o n c hv hn)⟩
theorem NicAt.fin_rx {T U : TypeId} {w w' : World} {d n g i : Nat} {F : Nat → Prop} {A : NicA} {tv cv : Nat → Value} {f : List UInt8} (hf : f.length ≤ 140737488351232) (hg : w.heap.size ≤ g)
    (h : Inv ⟨n, w, fun b => b = d⟩ w' [rBlk d (nc A tv (up cv i (sl g 0 f.length f.length))) T, rFrs F tv cv A.tb A.cb, rBlk g (f.map bv) U]) : NicTo T w d F { A with cb := up A.cb i f } w' := by
  have hd := h.1.2
  simp only [List.pairwise_cons] at hd
  have h1 : Blk w' d (nc A tv (up cv i (sl g 0 f.length f.length))) T := h.1.1 (rBlk d (nc A tv (up cv i (sl g 0 f.length f.length))) T) (by simp)
  have h2 : FrsAt w' F tv cv A.tb A.cb := h.1.1 (rFrs F tv cv A.tb A.cb) (by simp)
  have h3 : Blk w' g (f.map bv) U := h.1.1 (rBlk g (f.map bv) U) (by simp)
  refine ⟨fun b => F b ∨ b = g, ⟨tv, up cv i (sl g 0 f.length f.length), h1, ?_, ?_, ?_, ?_⟩, fun b hb => hb.imp id (fun e => by subst e; exact hg), h.2⟩
  · rintro (hF | e)
    · exact hd.1 (rFrs F tv cv A.tb A.cb) (by simp) d rfl hF
    · exact hd.1 (rBlk g (f.map bv) U) (by simp) d rfl e
  · rintro b (hF | e)
    · exact h2.1 b hF
    · subst e; exact h3.lt
  · intro j hj
    exact ⟨(h2.2.1 j hj).1, fun b o n c hv hn => .inl ((h2.2.1 j hj).2 b o n c hv hn)⟩
  · intro j hj
    by_cases e : j = i
    · subst e
      show BytesAt w' (up cv j _ j) (up A.cb j f j) ∧ sliceIn (up cv j _ j) _
      rw [up_same, up_same]
      refine ⟨h3.bytes hf, fun b o n c hv hn => ?_⟩
      simp at hv; exact .inr hv.1.1.symm
    · show BytesAt w' (up cv i _ j) (up A.cb i f j) ∧ sliceIn (up cv i _ j) _
      rw [up_ne _ _ e, up_ne _ _ e]
      exact ⟨(h2.2.2 j hj).1, fun b o n c hv hn => .inl ((h2.2.2 j hj).2 b o n c hv hn)⟩
end Go.Proofs.Ytcilikkljkdceaa

/-
  What a device's calls do, as the document has it: plain.
-/
namespace Go.Proofs.Ytcilikkljkdceaa
open Go.RowKit

structure NicOk (A : NicA) : Prop where
  h2 : 0 ≤ A.r 2 ∧ A.r 2 < 16
  h3 : 0 ≤ A.r 3 ∧ A.r 3 < 16
  h4 : 0 ≤ A.r 4 ∧ A.r 4 < 16
  h5 : 0 ≤ A.r 5 ∧ A.r 5 < 16
  h6 : 0 ≤ A.r 6 ∧ A.r 6 < 8
  tl : ∀ i, (A.tb i).length ≤ 274
  cl : ∀ i, (A.cb i).length ≤ 65535
  rm : ∀ i, 0 ≤ A.room i ∧ A.room i ≤ 65535
def newA : NicA := ⟨up (fun _ => 0) 1 1, fun _ => [], fun _ => 0, fun _ => 0, fun _ => false, fun _ => [], fun _ => false, 0⟩
def nx (i : Int) : Int := (i + 1) % 16
def ev (x e : Int) : Int := bits .or .i64 x e
def offB (A : NicA) : Bool := (A.r 0 != 1) || (A.r 1 != 1)
def hostB (i h t : Int) : Bool := decide (0 ≤ i) && (decide (i < 16) && !decide ((i - h) % 16 < (t - h) % 16))
def inc (x : Int) : Int := IntKind.i64.wrap (x + 1)
def readF (A : NicA) (reg : Int) : (Int × Int) × NicA := if reg < 0 ∨ 8 ≤ reg then ((0, 1), A) else ((A.r reg.toNat, 0), if reg = 6 then { A with r := up A.r reg.toNat 0 } else A)
def resetA (A : NicA) : NicA := { newA with r := up newA.r 1 (A.r 1), clk := A.clk }
def posts (tp : Nat → Int) (h t clk : Int) : Nat → Int := fun j => if j < 16 ∧ ((j : Int) - h) % 16 < (t - h) % 16 then clk else tp j
def writeF (A : NicA) (reg v : Int) : Int × NicA :=
  if reg = 0 ∧ v = 2 then (0, resetA A)
  else if reg = 0 ∧ (v = 0 ∨ v = 1) then (0, { A with r := up A.r reg.toNat v })
  else if v < 0 ∨ 16 ≤ v then (1, A)
  else if reg = 5 then (0, { A with tp := posts A.tp (A.r 5) v A.clk, r := up A.r reg.toNat v })
  else if reg = 3 then (0, { A with r := up A.r reg.toNat v })
  else (1, A)
def setTxF (A : NicA) (i : Int) (f : List UInt8) : Int × NicA :=
  if hostB i (A.r 4) (A.r 5) = false then (1, A) else if f.length = 0 then (3, A) else if 274 < f.length then (2, A) else (0, { A with tb := up A.tb i.toNat f })
def setRxF (A : NicA) (i room : Int) : Int × NicA :=
  if hostB i (A.r 2) (A.r 3) = false ∨ room < 0 ∨ 65535 < room then (1, A)
  else (0, { A with room := up A.room i.toNat room, has := up A.has i.toNat false, cb := up A.cb i.toNat [], bad := up A.bad i.toNat false })
def takeF (A : NicA) : NicA := { A with r := up (up A.r 4 (nx (A.r 4))) 6 (ev (A.r 6) 2) }
def missA (A : NicA) : NicA := { A with r := up A.r 7 (inc (A.r 7)) }
def comeA (A : NicA) (f : List UInt8) (bad : Bool) : NicA :=
  { A with room := up A.room (A.r 2).toNat (A.room (A.r 2).toNat), has := up A.has (A.r 2).toNat true, cb := up A.cb (A.r 2).toNat f, bad := up A.bad (A.r 2).toNat bad, r := up (up A.r 2 (nx (A.r 2))) 6 (ev (A.r 6) 1) }
def giveF (A : NicA) (f : List UInt8) (bad : Bool) : Int × NicA :=
  if offB A then (20, A) else if A.r 2 = A.r 3 then (21, missA A) else if A.room (A.r 2).toNat < f.length then (2, missA A) else (0, comeA A f bad)
def oldF (A : NicA) : Int × Bool := if A.r 4 = A.r 5 then (0, false) else (A.tp (A.r 4).toNat, true)
def Out (U : TypeId) (w w' : World) (v : Value) (f : List UInt8) : Prop := (v = .slice none 0 0 ∧ f = []) ∨ ∃ g, w.heap.size ≤ g ∧ v = sl g 0 f.length f.length ∧ Blk w' g (f.map bv) U
def Lent (F : Nat → Prop) (w' : World) (v : Value) (f : List UInt8) : Prop := BytesAt w' v f ∧ sliceIn v F
def takeR (A : NicA) : ((List UInt8 × Int) × Int) × NicA :=
  if offB A then ((([], 0), 20), A) else if A.r 4 = A.r 5 then ((([], 0), 7), A) else (((A.tb (A.r 4).toNat, A.tp (A.r 4).toNat), 0), takeF A)
def rxR (A : NicA) (i : Int) : (List UInt8 × Bool) × Int :=
  if i < 0 ∨ 16 ≤ i then (([], false), 1) else if A.has i.toNat = false then (([], false), 7) else ((A.cb i.toNat, A.bad i.toNat), 0)
def linkF (A : NicA) (u : Bool) : NicA := if A.r 1 = (if u then 1 else 0) then A else { A with r := up (up A.r 1 (if u then 1 else 0)) 6 (ev (A.r 6) 4) }
def tickF (A : NicA) : NicA := { A with clk := inc A.clk }
theorem nx_bd {i : Int} : 0 ≤ nx i ∧ nx i < 16 := by unfold nx; omega
theorem ev_bd {x e : Int} (h : 0 ≤ x ∧ x < 8) (he : e = 1 ∨ e = 2 ∨ e = 4) : 0 ≤ ev x e ∧ ev x e < 8 := by
  obtain ⟨n, hn, rfl⟩ : ∃ n : Nat, n < 8 ∧ x = (n : Int) := ⟨x.toNat, by omega, by omega⟩
  have h1 : ∀ k : Fin 8, 0 ≤ ev (k.val : Int) 1 ∧ ev (k.val : Int) 1 < 8 := by decide +kernel
  have h2 : ∀ k : Fin 8, 0 ≤ ev (k.val : Int) 2 ∧ ev (k.val : Int) 2 < 8 := by decide +kernel
  have h4 : ∀ k : Fin 8, 0 ≤ ev (k.val : Int) 4 ∧ ev (k.val : Int) 4 < 8 := by decide +kernel
  rcases he with rfl | rfl | rfl
  · exact h1 ⟨n, hn⟩
  · exact h2 ⟨n, hn⟩
  · exact h4 ⟨n, hn⟩
theorem posts_self {tp : Nat → Int} {h clk : Int} : posts tp h h clk = tp := by
  funext j; unfold posts; rw [if_neg (by omega)]
theorem posts_up {tp : Nat → Int} {h t clk : Int} {n : Nat} (hh : 0 ≤ h ∧ h < 16) (ht : 0 ≤ t ∧ t < 16) (h0 : 0 < n) (hn : n ≤ ((t - h) % 16).toNat) :
    up (posts tp h ((t - (n : Int)) % 16) clk) ((t - (n : Int)) % 16).toNat clk = posts tp h ((t - ((n - 1 : Nat) : Int)) % 16) clk := by
  funext j
  unfold up posts
  by_cases e : j = ((t - (n : Int)) % 16).toNat
  · rw [if_pos e, if_pos (by omega)]
  · rw [if_neg e]
    by_cases e2 : j < 16 ∧ ((j : Int) - h) % 16 < ((t - (n : Int)) % 16 - h) % 16
    · rw [if_pos e2, if_pos (by omega)]
    · rw [if_neg e2, if_neg (by omega)]
theorem nc_posts {A : NicA} {tv cv : Nat → Value} {t : Int} (hh : 0 ≤ A.r 5 ∧ A.r 5 < 16) (ht : 0 ≤ t ∧ t < 16) :
    nc A tv cv = nc { A with tp := posts A.tp (A.r 5) ((t - ((((t - A.r 5) % 16).toNat : Nat) : Int)) % 16) A.clk } tv cv := by
  rw [show (t - ((((t - A.r 5) % 16).toNat : Nat) : Int)) % 16 = A.r 5 by omega, posts_self]
theorem nc_posts' {A : NicA} {tv cv : Nat → Value} {t : Int} {n : Nat} (hh : 0 ≤ A.r 5 ∧ A.r 5 < 16) (ht : 0 ≤ t ∧ t < 16) (h0 : 0 < n) (hn : n ≤ ((t - A.r 5) % 16).toNat) :
    nc { A with tp := up (posts A.tp (A.r 5) ((t - (n : Int)) % 16) A.clk) ((t - (n : Int)) % 16).toNat A.clk } tv cv = nc { A with tp := posts A.tp (A.r 5) ((t - ((n - 1 : Nat) : Int)) % 16) A.clk } tv cv := by
  rw [posts_up hh ht h0 hn]
theorem w_0 {a b : Int} {x : Bool} (e : (a == b && x) = true) : a = b := by simp only [Bool.and_eq_true, beq_iff_eq] at e; exact e.1
theorem w_rng {x : Bool} {v : Int} (e : (x || decide ((v : Int) < 0) || decide ((16 : Int) ≤ v)) = false) : 0 ≤ v ∧ v < 16 := by
  simp only [Bool.or_eq_false_iff, decide_eq_false_iff_not] at e; omega
theorem w_reg {x y : Bool} {a : Int} (e : ((((a : Int) != 3) && ((a : Int) != 5)) || x || y) = false) : a = 3 ∨ a = 5 := by
  simp only [Bool.or_eq_false_iff, Bool.and_eq_false_iff, bne_eq_false_iff_eq] at e; exact e.1.1
theorem w_5 {a b : Int} (e : (a == b) = true) : a = b := by simpa using e
theorem nx_step {t : Int} {n : Nat} (h : 0 < n) : nx ((t - (n : Int)) % 16) = (t - ((n - 1 : Nat) : Int)) % 16 := by unfold nx; omega
theorem newA_ok : NicOk newA := by refine ⟨?_, ?_, ?_, ?_, ?_, fun i => ?_, fun i => ?_, fun i => ?_⟩ <;> simp [newA, up]
theorem bne_f {a b : Int} (h : a = b) : (a != b) = false := by simp [h]
theorem bne_t {a b : Int} (h : a ≠ b) : (a != b) = true := by simp [h]
theorem host_out {i h t : Int} (e : (decide ((i : Int) < 0) || decide ((16 : Int) ≤ i)) = true) : hostB i h t = false := by
  simp only [Bool.or_eq_true, decide_eq_true_eq] at e
  unfold hostB
  rcases e with e | e
  · have : decide (0 ≤ i) = false := by simp; omega
    rw [this]; rfl
  · have : decide (i < 16) = false := by simp; omega
    rw [this]; simp
theorem host_in {i : Int} (e : (decide ((i : Int) < 0) || decide ((16 : Int) ≤ i)) = false) : 0 ≤ i ∧ i < 16 := by
  simp only [Bool.or_eq_false_iff, decide_eq_false_iff_not] at e; omega
theorem host_bd {i h t : Int} (e : hostB i h t = true) : 0 ≤ i ∧ i < 16 := by
  unfold hostB at e
  simp only [Bool.and_eq_true, decide_eq_true_eq] at e
  exact ⟨e.1, e.2.1⟩
theorem host_bd1 {i h t : Int} (e : (!hostB i h t) = false) : 0 ≤ i ∧ i < 16 := host_bd (by simpa using e)
theorem host_bd3 {i h t : Int} {x y : Bool} (e : ((!hostB i h t || x) || y) = false) : 0 ≤ i ∧ i < 16 := by
  simp only [Bool.or_eq_false_iff, Bool.not_eq_false'] at e; exact host_bd e.1.1
theorem host_yes {i h t : Int} (hi : 0 ≤ i ∧ i < 16) (ht : 0 ≤ t ∧ t < 16) (H : ∀ j : Nat, 0 < j → j ≤ ((t - h) % 16).toNat → (t - (j : Int)) % 16 ≠ i) : hostB i h t = true := by
  have h2 : ¬ (i - h) % 16 < (t - h) % 16 := by
    intro hlt
    refine H ((t - h) % 16 - (i - h) % 16).toNat (by omega) (by omega) ?_
    omega
  unfold hostB
  simp [hi.1, hi.2, h2]
theorem host_no {i h t : Int} {n : Nat} (h0 : 0 < n) (hn : n ≤ ((t - h) % 16).toNat) (e : ((t - (n : Int)) % 16 != i) = false) : hostB i h t = false := by
  have e' : (t - (n : Int)) % 16 = i := by simpa using e
  have h2 : (i - h) % 16 < (t - h) % 16 := by omega
  unfold hostB
  simp [h2]
section
variable {A : NicA}
theorem write_ok (h : NicOk A) (reg v : Int) : NicOk (writeF A reg v).2 := by
  obtain ⟨h2, h3, h4, h5, h6, tl, cl, rm⟩ := h
  unfold writeF
  split
  · refine ⟨?_, ?_, ?_, ?_, ?_, fun i => ?_, fun i => ?_, fun i => ?_⟩ <;> simp [resetA, newA, up]
  · split
    · rename_i e; obtain ⟨rfl, _⟩ := e; exact ⟨h2, h3, h4, h5, h6, tl, cl, rm⟩
    · split
      · exact ⟨h2, h3, h4, h5, h6, tl, cl, rm⟩
      · split
        · rename_i e; subst e
          refine ⟨h2, h3, h4, ?_, h6, tl, cl, rm⟩
          simp [up]; omega
        · split
          · rename_i e; subst e
            refine ⟨h2, ?_, h4, h5, h6, tl, cl, rm⟩
            simp [up]; omega
          · exact ⟨h2, h3, h4, h5, h6, tl, cl, rm⟩
theorem up_all {α : Type} {f : Nat → α} {k : Nat} {v : α} {p : α → Prop} (h : ∀ i, p (f i)) (hv : p v) : ∀ i, p (up f k v i) := by
  intro i; unfold up; split
  · exact hv
  · exact h i
theorem setTx_ok (h : NicOk A) (i : Int) (f : List UInt8) : NicOk (setTxF A i f).2 := by
  obtain ⟨h2, h3, h4, h5, h6, tl, cl, rm⟩ := h
  unfold setTxF
  split
  · exact ⟨h2, h3, h4, h5, h6, tl, cl, rm⟩
  · split
    · exact ⟨h2, h3, h4, h5, h6, tl, cl, rm⟩
    · split
      · exact ⟨h2, h3, h4, h5, h6, tl, cl, rm⟩
      · exact ⟨h2, h3, h4, h5, h6, up_all (p := fun l : List UInt8 => l.length ≤ 274) tl (by omega), cl, rm⟩
theorem setRx_ok (h : NicOk A) (i room : Int) : NicOk (setRxF A i room).2 := by
  obtain ⟨h2, h3, h4, h5, h6, tl, cl, rm⟩ := h
  unfold setRxF
  split
  · exact ⟨h2, h3, h4, h5, h6, tl, cl, rm⟩
  · exact ⟨h2, h3, h4, h5, h6, tl, up_all (p := fun l : List UInt8 => l.length ≤ 65535) cl (by simp), up_all (p := fun x : Int => 0 ≤ x ∧ x ≤ 65535) rm (by omega)⟩
theorem take_ok (h : NicOk A) : NicOk (takeF A) := by
  obtain ⟨h2, h3, h4, h5, h6, tl, cl, rm⟩ := h
  exact ⟨h2, h3, nx_bd, h5, ev_bd h6 (.inr (.inl rfl)), tl, cl, rm⟩
theorem give_ok (h : NicOk A) (f : List UInt8) (bad : Bool) : NicOk (giveF A f bad).2 := by
  obtain ⟨h2, h3, h4, h5, h6, tl, cl, rm⟩ := h
  unfold giveF
  split
  · exact ⟨h2, h3, h4, h5, h6, tl, cl, rm⟩
  · split
    · exact ⟨h2, h3, h4, h5, h6, tl, cl, rm⟩
    · split
      · exact ⟨h2, h3, h4, h5, h6, tl, cl, rm⟩
      · have := rm (A.r 2).toNat
        exact ⟨nx_bd, h3, h4, h5, ev_bd h6 (.inl rfl), tl, up_all (p := fun l : List UInt8 => l.length ≤ 65535) cl (by omega), up_all (p := fun x : Int => 0 ≤ x ∧ x ≤ 65535) rm this⟩
theorem tick_ok (h : NicOk A) : NicOk (tickF A) := by
  obtain ⟨h2, h3, h4, h5, h6, tl, cl, rm⟩ := h
  exact ⟨h2, h3, h4, h5, h6, tl, cl, rm⟩
end
end Go.Proofs.Ytcilikkljkdceaa

/-
  The light machine: bytes of one's own (append), strings. No program is named here.
-/
namespace Go.Proofs.Ytcilikkljkdceaa
open Go.RowKit

def appA (t : World) (n : Nat) : Option Addr := if n = 0 then none else some ⟨t.heap.size, 0, none⟩
def appC (t : World) (e : TypeId) (n : Nat) : Nat := if n = 0 then 0 else grownCap t n 0 e
def appV (t : World) (e : TypeId) (n : Nat) : Value := .slice (appA t n) n (appC t e n)
theorem appV_own {t : World} {e : TypeId} {n b : Nat} (h : (appV t e n).ownBlock = some b) : b = t.heap.size := by
  by_cases h0 : n = 0
  · simp [appV, appA, h0, Value.ownBlock] at h
  · simp [appV, appA, h0, Value.ownBlock] at h; exact h.symm
def rMine (v : Value) (f : List UInt8) (e : TypeId) : Res where
  ok w := OwnBytes w 0 e v f
  fp j := v.ownBlock = some j
  lt w h b hb := (World.ownsRow.lt h b hb).2
  st w w' h hw := by
    refine ⟨h.1, ?_⟩
    rcases h.2 with ⟨h1, h2⟩ | ⟨g, cap, cur, rfl, h1, h2, h3⟩
    · exact .inl ⟨h1, h2⟩
    · exact .inr ⟨g, cap, cur, rfl, h1, by rw [hw g rfl]; exact h2, h3⟩
theorem ownb_new {w : World} {g : Nat} {f : List UInt8} {e : TypeId} (h : Blk w g (f.map bv) e) (hl : f.length ≤ 140737488351232) : OwnBytes w 0 e (sl g 0 f.length f.length) f :=
  ⟨by simp, .inr ⟨g, f.length, (f.map bv).toArray, rfl, Nat.zero_le _, h, Nat.le_refl _, by unfold maxLen; omega, by simp, by rw [Nat.mul_one]; exact List.take_of_length_le (by simp)⟩⟩
theorem ownb_nil (w : World) (e : TypeId) : OwnBytes w 0 e (.slice none 0 0) [] := World.ownsRow_nil w 0 e 1
def rNone : Res where
  ok _ := True
  fp _ := False
  lt _ _ _ h := h.elim
  st _ _ _ _ := trivial
theorem Inv.weak {X : Cx} {w : World} {l : List Res} {i : Nat} {r r' : Res} (h : Inv X w l) (hi : l[i]? = some r) (hr : r.ok w → r'.ok w) (hf : ∀ b, r'.fp b → r.fp b) : Inv X w (l.set i r') :=
  ⟨h.1.upd hi (fun _ _ _ => rfl) (hr (h.1.get hi)) (fun b hb => .inl (hf b hb)), h.2⟩

section
variable {P : Program} {X : Cx} {ops : Array Oper} {Q : Exit → Act → World → Prop} {rest : List Oper} {o : Oper} {m : List (Nat × Value)} {l : List Res} {v : Value} {d k : Nat} {sp : List Nat} {C : (Nat → Bool) → World → Prop} {K : Act → Prop} {x y : Operand} {t t' : TypeId}

theorem push_all (l : List UInt8) (s : ByteArray) : ((l.map fun x => (x.toNat : Int)).foldl (fun r n => r.push (UInt8.ofNat n.toNat)) s) = ⟨s.data ++ l.toArray⟩ := by
  induction l generalizing s with
  | nil => simp
  | cons x l ih =>
    simp only [List.map_cons, List.foldl_cons, ih]
    simp [ByteArray.push]
theorem run_str {P : Program} {src dst e : TypeId} (hs : P.underlying src = some (.slice e)) (he : P.underlying e = some (.int .u8)) (hd : P.underlying dst = some .string)
    {w : World} {v : Value} {l : List UInt8} (h : BytesAt w v l) : (convert src dst v).run P w = .ok (.string ⟨l.toArray⟩) w := by
  rcases h with ⟨a, c, rfl, _, rfl⟩ | ⟨b, o, cap, rfl, h1, h2, h3⟩
  · rw [run_convert_bytes_string w src dst e a 0 c hs he hd]
    cases a with
    | none => rfl
    | some a =>
      have hl := run_loadCells_list (P := P) w a [] (by simp)
      rw [run_bytesToString w a 0 c [] (by simpa using hl)]
      rfl
  · rw [run_convert_bytes_string w src dst e _ _ _ hs he hd]
    have hl := run_loadCells_list (P := P) w ⟨b, o, none⟩ (l.map bv) (by
      intro j v hj
      have hjl : j < l.length := by have := (List.getElem?_eq_some_iff.1 hj).1; simpa using this
      have hadd : (⟨b, o, none⟩ : Addr).add j = ⟨b, o + j, none⟩ := by unfold Addr.add; split <;> simp_all
      rw [hadd, h3 j hjl]
      simp only [List.getElem?_map, List.getElem?_eq_getElem hjl, Option.map_some] at hj
      exact hj)
    rw [List.length_map] at hl
    have e : l.map bv = (l.map fun x => (x.toNat : Int)).map (Value.int .u8) := by simp
    rw [e] at hl
    rw [run_bytesToString w ⟨b, o, none⟩ l.length cap _ hl, push_all]
    simp
theorem ru_str {e : TypeId} {f : List UInt8} {vx : Value} (hs : P.underlying t = some (.slice e)) (he : P.underlying e = some (.int .u8)) (hd : P.underlying t' = some .string) (ho : o.op = .convert t t' x) (hx : evM m x = some vx) (hb : ∀ w, Inv X w l → BytesAt w vx f) :
    Ru P X o m l (.string ⟨f.toArray⟩) := fun a w hf hI => by
  unfold execOp; rw [ho]
  simp only [hf.ev hx, Sem.run_bind, run_str hs he hd (hb w hI), Result.andThen_ok, Sem.run_pure]
theorem ru_streq {f h : List UInt8} (hu : P.underlying t = some .string) (ho : o.op = .binOp .eql t x y t') (hx : evM m x = some (.string ⟨f.toArray⟩)) (hy : evM m y = some (.string ⟨h.toArray⟩)) {b : Bool} (hv : decide (f = h) = b) : Ru P X o m l (.bool b) :=
  ru_binv ho hx hy (fun w => rfl) fun w _ => by
    subst hv
    simp [binOp, Op.stringOp]
    rw [Bool.eq_iff_iff]; simp

def CT (X : Cx) (l : List Res) (k : Nat) (t : World) (r : Res) : (Nat → Bool) → World → Prop := fun D w => if D k then Inv X w (l ++ [r]) else Inv X w l ∧ w.heap.size = t.heap.size ∧ w.tape = t.tape ∧ w.drawn = t.drawn
theorem CT.base {r : Res} {t : World} : ∀ D w, CT X l k t r D w → Inv X w l := fun D w h => by
  unfold CT at h
  split at h
  · refine ⟨⟨fun s hs => h.1.1 s (by simp [hs]), ?_⟩, h.2⟩
    have := h.1.2
    rw [List.pairwise_append] at this
    exact this.1
  · exact h.1
theorem SC.region_app {id : Nat} {L : List Oper} (n k : Nat) (r : World → Res) (hm : P.follows .mixedOrders = true) (hB : Region.lexTailB .any L.toArray n = true)
    (hg : ([k].all fun i => decide (i < n) && ((L[i]?).map (fun o => o.guard.isNone)).getD false) = true)
    (h : ∀ t : World, X.w0.heap.size ≤ t.heap.size → SS P X L.toArray [k] (CT X l k t (r t)) (fun a' => ∀ D w', (∀ i ∈ [k], D i = true) → CT X l k t (r t) D w' → wpList P L.toArray Q (L.drop n) a' w') 0 (L.take n) m) : SC P X (.region id L.toArray true) Q m l :=
  fun a w hf hi => wp_region_spread_tail n [k] (CT X l k { w with drawn := w.drawn + 1 } (r { w with drawn := w.drawn + 1 })) hm hB hg (by unfold CT; exact ⟨hi.draw1, rfl, rfl, rfl⟩) (h { w with drawn := w.drawn + 1 } hi.2.size a hf)
theorem SS.nilT {r : Res} {t : World} {k : Nat} {L : List Oper} {j : Nat} (h : SL P X ops Q L m (l ++ [r])) : SS P X ops sp C (fun a' => ∀ D w', (∀ i ∈ [k], D i = true) → CT X l k t r D w' → wpList P ops Q L a' w') j [] m := fun a hf => by
  unfold wpSpread
  intro D w' hD hC
  unfold CT at hC
  rw [if_pos (hD k (by simp))] at hC
  exact h a w' hf hC
theorem run_app0 {w : World} {e ty : TypeId} {vx : Value} {f : List UInt8} (ht : P.underlying t = some (.slice e)) (hz : (P.info? e).map (fun i => (i.zero, i.size, i.bytes)) = some (some (.int .u8 0), 1, 1)) (hb : BytesAt w vx f) :
    ∃ w', (Builtin.append_ #[t, t] ty #[.slice none 0 0, vx]).run P w = .ok (appV w e f.length) w' ∧ OwnBytes w' 0 e (appV w e f.length) f ∧ Only (fun _ => False) w w' := by
  obtain ⟨i, hi, h3⟩ := map_some hz
  simp only [Prod.mk.injEq] at h3
  obtain ⟨z0, z1, z2⟩ := h3
  have hlen := hb.len
  by_cases h0 : f.length = 0
  · have : f = [] := List.eq_nil_of_length_eq_zero h0
    subst this
    obtain ⟨a, c, rfl⟩ := hb.form
    refine ⟨w, ?_, ownb_nil w e, Only.refl _ _⟩
    cases a <;> simp [Builtin.append_, run_underlying ht, sizeOf, typeInfo, hi, Builtin.lenOf, Builtin.firstCells, loadCells, loadCellsFrom, appV, appA, appC]
  · rcases hb with ⟨a, c, rfl, _, rfl⟩ | ⟨b, so, cap, rfl, h1, h2, h4⟩
    · exact absurd rfl h0
    · have hr := run_append_nil (P := P) w t ty e i (.int .u8 0) ht hi z0 ⟨b, so, none⟩ f.length cap (f.map bv) (by simp [z1]) (fun j u hj => by
          have hjl : j < f.length := by have := (List.getElem?_eq_some_iff.1 hj).1; simpa using this
          rw [add_at, h4 j hjl]
          simp only [List.getElem?_map, List.getElem?_eq_getElem hjl, Option.map_some] at hj
          exact hj) (by omega) (by omega) (by rw [z2]; omega)
      have hv : appV w e f.length = sl w.heap.size 0 f.length (grownCap w f.length 0 e) := by unfold appV appA appC; rw [if_neg h0, if_neg h0]
      rw [hv]
      refine ⟨_, hr, ⟨by simp, .inr ⟨w.heap.size, _, _, rfl, Nat.zero_le _, heap_alloc_new w.drew _, grownCap_ge _ _ _ _, grownCap_le_maxLen _ _ _ _ (by unfold maxLen; omega), ?_, ?_⟩⟩, ⟨rfl, rfl, rfl, by simp, fun k hk _ => heap_alloc_old w.drew _ hk⟩⟩
      · have := grownCap_ge w f.length 0 e
        simp only [Array.size_append, List.size_toArray, size_zeroCells, List.length_map]
        simp [Value.cells]; omega
      · simp
theorem run_call_app {w : World} {a : Act} {z : Operand} (ho : o.op = .call { callee := .builtin .append, args := #[z, x], argTypes := #[t, t] }) {vz vx v : Value} {w' : World} (hz : a.eval z = vz) (hx : a.eval x = vx)
    (h : (Builtin.append_ #[t, t] o.type #[vz, vx]).run P w = .ok v w') : (execOp a.eval o).run P w = .ok (.value v) w' := by
  unfold execOp; rw [ho]
  have he : #[z, x].map a.eval = #[vz, vx] := by simp [hz, hx]
  simp only [resolve, he, Sem.run_bind, Sem.run_pure, Result.andThen_ok, invoke, builtin, h]
theorem SS.append0 {t0 : World} {e : TypeId} {z : Operand} {vx : Value} {f : List UInt8} (hg : o.guard = none) (hd : o.dst = some d) (hn : d < X.n) (ho : o.op = .call { callee := .builtin .append, args := #[z, x], argTypes := #[t, t] })
    (ht : P.underlying t = some (.slice e)) (hz : (P.info? e).map (fun i => (i.zero, i.size, i.bytes)) = some (some (.int .u8 0), 1, 1)) (h0 : evM m z = some (.slice none 0 0)) (hx : evM m x = some vx) (hb : ∀ w, Inv X w l → BytesAt w vx f)
    (h : SS P X ops [k] (CT X l k t0 (rMine (appV t0 e f.length) f e)) K (k + 1) rest ((d, appV t0 e f.length) :: m)) : SS P X ops [k] (CT X l k t0 (rMine (appV t0 e f.length) f e)) K k (o :: rest) m := fun a hf => by
  unfold wpSpread
  rw [if_pos (by simp [Region.wanted, hg])]
  refine ⟨appV t0 e f.length, fun D w hD hf' => ?_, ?_⟩
  · have hk := hf' (by simp)
    unfold CT at hD
    rw [if_neg (by simp [hk])] at hD
    obtain ⟨hI, hs, htp, hdr⟩ := hD
    obtain ⟨w', hr, hO, hU⟩ := run_app0 (P := P) (ty := o.type) ht hz (hb w hI)
    have ev : appV w e f.length = appV t0 e f.length := by unfold appV appA appC grownCap; rw [hs, htp, hdr]
    rw [ev] at hr hO
    rw [run_call_app ho (hf.ev h0) (hf.ev hx) hr]
    refine ⟨rfl, ?_⟩
    unfold doneSet CT
    rw [if_pos (by simp)]
    refine hI.add hU hO (fun b hb => ?_)
    have := appV_own (show (appV t0 e f.length).ownBlock = some b from hb)
    omega
  · rw [hd]; exact h _ (hf.put hn _)
def SR (P : Program) (X : Cx) (c : Code) (Q : Exit → Act → World → Prop) (n : Nat) (m : List (Nat × Value)) (l : List Res) : Prop := ∀ a w, Fr X.n a m → Inv X w l → Code.rounds P c Q n a w
theorem SC.rounds {c : Code} (n : Nat) (h : SR P X c Q n m l) : SC P X (.loop c) Q m l := fun a w hf hI => wp_loop_rounds n (h a w hf hI)
theorem SR.next {c : Code} {n : Nat} (h : SC P X c (Exit.then (Code.rounds P c Q n) Q) m l) : SR P X c Q (n + 1) m l := fun a w hf hI => h a w hf hI
theorem SR.norm {c : Code} {n : Nat} (m' : List (Nat × Value)) (l' : List Res) (hm : Subs m m') (hl : l = l') (h : SR P X c Q n m' l') : SR P X c Q n m l := fun a w hf hI => h a w (hf.sub hm) (hl ▸ hI)
theorem Inv.keep {w : World} (h : Inv X w l) (n : Nat) : Inv X w (l.take n) := ⟨⟨fun s hs => h.1.1 s (List.mem_of_mem_take hs), h.1.2.sublist (List.take_sublist _ _)⟩, h.2⟩
theorem SE.round {c : Code} {n : Nat} (h : SR P X c Q n m l) : SE X (Exit.then (Code.rounds P c Q n) Q) .normal m l := fun a w hf hI => h a w hf hI
end
end Go.Proofs.Ytcilikkljkdceaa

/-
  The light machine: rows of one's own, of elements of one cell, that grow. No program is named here.
-/
namespace Go.Proofs.Ytcilikkljkdceaa
open Go.RowKit

def rRow (v : Value) (xs : List Value) (e : TypeId) : Res where
  ok w := w.ownsRow 0 e 1 v xs.length xs
  fp j := v.ownBlock = some j
  lt w h b hb := (World.ownsRow.lt h b hb).2
  st w w' h hw := by
    refine ⟨h.1, ?_⟩
    rcases h.2 with ⟨h1, h2⟩ | ⟨g, cap, cur, rfl, h1, h2, h3⟩
    · exact .inl ⟨h1, h2⟩
    · exact .inr ⟨g, cap, cur, rfl, h1, by rw [hw g rfl]; exact h2, h3⟩
def rowAddr (q : Option Addr) (i : Nat) : Addr := ⟨(q.getD ⟨0, 0, none⟩).block, (q.getD ⟨0, 0, none⟩).off + i, none⟩
section
variable {P : Program} {X : Cx} {ops : Array Oper} {Q : Exit → Act → World → Prop} {rest : List Oper} {o : Oper} {m : List (Nat × Value)} {l : List Res} {v : Value} {d k : Nat} {x y : Operand} {t t' : TypeId}
theorem SC.rows {c : Code} (r : Res) (hf : ∀ b, ¬ r.fp b) (hr : ∀ w, r.ok w) (h : SC P X c Q m (l ++ [r])) : SC P X c Q m l := fun a w hfr hI => h a w hfr (hI.add (Only.refl _ _) (hr w) (fun b hb => (hf b hb).elim))
theorem SE.keep {e : Exit} (j : Nat) (h : SE X Q e m (l.take j)) : SE X Q e m l := fun a w hf hI => h a w hf (hI.keep j)
theorem ru_strne {f h : List UInt8} (hu : P.underlying t = some .string) (ho : o.op = .binOp .neq t x y t') (hx : evM m x = some (.string ⟨f.toArray⟩)) (hy : evM m y = some (.string ⟨h.toArray⟩)) {b : Bool} (hv : (!decide (f = h)) = b) : Ru P X o m l (.bool b) :=
  ru_binv ho hx hy (fun w => rfl) fun w _ => by
    subst hv
    simp [binOp, Op.stringOp]
    rw [Bool.eq_iff_iff]; simp
end
end Go.Proofs.Ytcilikkljkdceaa

/-
  The light machine: rows of one's own, of structs, that grow. No program is named here.
-/
namespace Go.Proofs.Ytcilikkljkdceaa
open Go.RowKit

def RowsN (w : World) (v : Value) (rs : List (List Value)) (e size : Nat) : Prop := (∀ r ∈ rs, r.length = size) ∧ w.ownsRow 0 e size v rs.length rs.flatten
def rRowN (v : Value) (rs : List (List Value)) (e size : Nat) : Res where
  ok w := RowsN w v rs e size
  fp j := v.ownBlock = some j
  lt w h b hb := (World.ownsRow.lt h.2 b hb).2
  st w w' h hw := by
    refine ⟨h.1, h.2.1, ?_⟩
    rcases h.2.2 with ⟨h1, h2⟩ | ⟨g, cap, cur, rfl, h1, h2, h3⟩
    · exact .inl ⟨h1, h2⟩
    · exact .inr ⟨g, cap, cur, rfl, h1, by rw [hw g rfl]; exact h2, h3⟩
theorem rowN_nil (w : World) (e size : Nat) : RowsN w (.slice none 0 0) [] e size := ⟨by simp, World.ownsRow_nil w 0 e size⟩
abbrev rowB (q : Option Addr) : Nat := (q.getD ⟨0, 0, none⟩).block
theorem flat_len {rs : List (List Value)} {size : Nat} (h : ∀ r ∈ rs, r.length = size) : rs.flatten.length = rs.length * size := by
  induction rs with
  | nil => simp
  | cons r rs ih =>
    rw [List.flatten_cons, List.length_append, h r (by simp), ih (fun r hr => h r (by simp [hr])), List.length_cons, Nat.add_mul, Nat.one_mul, Nat.add_comm]
theorem flat_get {rs : List (List Value)} {size i k : Nat} (h : ∀ r ∈ rs, r.length = size) {r : List Value} (hr : rs[i]? = some r) (hk : k < size) : rs.flatten[i * size + k]? = r[k]? := by
  induction rs generalizing i with
  | nil => simp at hr
  | cons r0 rs ih =>
    rw [List.flatten_cons]
    have h0 := h r0 (by simp)
    cases i with
    | zero =>
      simp at hr; subst hr
      rw [Nat.zero_mul, Nat.zero_add, List.getElem?_append_left (by omega)]
    | succ i =>
      simp at hr
      rw [List.getElem?_append_right (by rw [Nat.add_mul]; omega), show (i + 1) * size + k - r0.length = i * size + k by rw [Nat.add_mul]; omega]
      exact ih (fun r hr => h r (by simp [hr])) hr
theorem flat_set {rs : List (List Value)} {size i k : Nat} (h : ∀ r ∈ rs, r.length = size) {r : List Value} (hr : rs[i]? = some r) (hk : k < size) (v : Value) : rs.flatten.set (i * size + k) v = (rs.set i (r.set k v)).flatten := by
  induction rs generalizing i with
  | nil => simp at hr
  | cons r0 rs ih =>
    rw [List.flatten_cons]
    have h0 := h r0 (by simp)
    cases i with
    | zero =>
      simp at hr; subst hr
      rw [Nat.zero_mul, Nat.zero_add, List.set_append_left _ _ (by omega), List.set_cons_zero, List.flatten_cons]
    | succ i =>
      simp at hr
      rw [List.set_append_right _ _ (by rw [Nat.add_mul]; omega), show (i + 1) * size + k - r0.length = i * size + k by rw [Nat.add_mul]; omega, List.set_cons_succ, List.flatten_cons, ih (fun r hr => h r (by simp [hr])) hr]
section
variable {P : Program} {X : Cx} {ops : Array Oper} {Q : Exit → Act → World → Prop} {rest : List Oper} {o : Oper} {m : List (Nat × Value)} {l : List Res} {v : Value} {d k : Nat} {x y : Operand} {t t' : TypeId}
theorem rowN_form {w : World} {q : Option Addr} {n c size : Nat} {rs : List (List Value)} {e : TypeId} (h : RowsN w (.slice q n c) rs e size) : n = rs.length ∧ (0 < n → ∃ g cur, q = some ⟨g, 0, none⟩ ∧ w.heap[g]? = some (.cells cur e (0, 0)) ∧ n ≤ c ∧ c ≤ maxLen ∧ cur.size = c * size ∧ cur.toList.take (n * size) = rs.flatten) := by
  rcases h.2.2 with ⟨h1, h2⟩ | ⟨g, cap, cur, h1, _, h2, h3, h4, h5, h6⟩
  · simp only [Value.slice.injEq] at h1
    exact ⟨by omega, fun h => by omega⟩
  · simp only [Value.slice.injEq] at h1
    obtain ⟨rfl, rfl, rfl⟩ := h1
    exact ⟨rfl, fun _ => ⟨g, cur, rfl, h2, h3, h4, h5, h6⟩⟩
theorem ru_index_rowN {e ri size : Nat} {ix : Operand} {q : Option Addr} {n c : Nat} {rs : List (List Value)} {i : Int} {kk : IntKind} (hs : SliIs P t e size) (ho : o.op = .indexAddr t x ix) (hx : evM m x = some (.slice q n c)) (hix : evM m ix = some (.int kk i)) (hi : l[ri]? = some (rRowN (.slice q n c) rs e size))
    (h0 : 0 ≤ i) (hn : i < n) : Ru P X o m l (.pointer (some ⟨rowB q, i.toNat * size, none⟩)) := fun a w hf hI => by
  obtain ⟨rfl, h2⟩ := rowN_form (show RowsN w (.slice q n c) rs e size from hI.1.get hi)
  obtain ⟨g, cur, rfl, _⟩ := h2 (by omega)
  exact ru_indexS (P := P) (X := X) (m := m) (l := l) hs ho hx hix h0 hn (by rw [Nat.zero_add]) a w hf hI
theorem rowN_cell {w : World} {q : Option Addr} {n c size i k : Nat} {rs : List (List Value)} {e : TypeId} (h : RowsN w (.slice q n c) rs e size) {r : List Value} (hr : rs[i]? = some r) (hk : k < size) : w.cell? ⟨rowB q, i * size + k, none⟩ = r[k]? := by
  obtain ⟨rfl, h2⟩ := rowN_form h
  have hil : i < rs.length := (List.getElem?_eq_some_iff.1 hr).1
  obtain ⟨g, cur, rfl, h3, _, _, _, h4⟩ := h2 (by omega)
  have hlt : i * size + k < rs.length * size := by
    have : (i + 1) * size ≤ rs.length * size := Nat.mul_le_mul_right _ hil
    rw [Nat.add_mul, Nat.one_mul] at this; omega
  show w.cell? ⟨g, i * size + k, none⟩ = _
  rw [cell_of_row _ _ _ _ _ _ h3, ← flat_get h.1 hr hk, ← h4, List.getElem?_take, if_pos hlt]
  simp
theorem ru_load_rowN {e ri size : Nat} {q : Option Addr} {n c i k : Nat} {rs : List (List Value)} {r : List Value} {z u : Value} (ht : TySc P t z) (ho : o.op = .load t x) (hx : evM m x = some (.pointer (some ⟨rowB q, i * size + k, none⟩))) (hi : l[ri]? = some (rRowN (.slice q n c) rs e size)) (hr : rs[i]? = some r) (hk : k < size) (hu : r[k]? = some u) : Ru P X o m l u := fun a w hf hI => by
  unfold execOp; rw [ho]
  simp only [hf.ev hx, Instr.loadAt, Instr.sureAddr, Sem.run_bind, Sem.run_pure, Result.andThen_ok, loadVar, (ht.run w).1]
  have h5 : w.cell? ⟨rowB q, i * size + k, none⟩ = some u := by rw [rowN_cell (hI.1.get hi) hr hk]; exact hu
  simp [h5]
theorem ru_loada_rowN {e ri size : Nat} {q : Option Addr} {n c i : Nat} {rs : List (List Value)} {r z : List Value} (ht : TyAg P t z) (ho : o.op = .load t x) (hx : evM m x = some (.pointer (some ⟨rowB q, i * size, none⟩))) (hi : l[ri]? = some (rRowN (.slice q n c) rs e size)) (hr : rs[i]? = some r) (hz : z.length = size) (hrl : r.length = size) : Ru P X o m l (.agg r.toArray) := fun a w hf hI => by
  obtain ⟨⟨d, hd, hdb⟩, hsz, _⟩ := ht
  obtain ⟨inf, hinf, hz'⟩ := map_some hsz
  simp only [Prod.mk.injEq] at hz'
  unfold execOp; rw [ho]
  simp only [hf.ev hx, Instr.loadAt, Instr.sureAddr, Sem.run_bind, Sem.run_pure, Result.andThen_ok]
  have := run_loadVar_at (P := P) w (rowB q) (i * size) t r d (fun j hj => rowN_cell (hI.1.get hi) hr (by omega)) hd (by cases d <;> simp_all [isAggD]) (by rw [hinf]; simp [hz'.1, hz, hrl])
  rw [this]; rfl
theorem SL.store_rowN {e ri size : Nat} {q : Option Addr} {n c i k : Nat} {rs : List (List Value)} {r : List Value} {z : Value} (hg : o.guard = none) (hd : o.dst = none) (ht : TySc P t z) (ho : o.op = .store t x y) (hx : evM m x = some (.pointer (some ⟨rowB q, i * size + k, none⟩))) (hy : evM m y = some v) (hv : v.oneCell' = true)
    (hi : l[ri]? = some (rRowN (.slice q n c) rs e size)) (hr : rs[i]? = some r) (hk : k < size) (hS : ∀ b, (Value.slice q n c).ownBlock = some b → X.S b ∨ X.w0.heap.size ≤ b)
    (K : SL P X ops Q rest m (l.set ri (rRowN (.slice q n c) (rs.set i (r.set k v)) e size))) : SL P X ops Q (o :: rest) m l := fun a w hf hI => by
  have hR : RowsN w (.slice q n c) rs e size := hI.1.get hi
  obtain ⟨rfl, h2⟩ := rowN_form hR
  have hil : i < rs.length := (List.getElem?_eq_some_iff.1 hr).1
  obtain ⟨g, cur, rfl, h3, h4, h5, h6, h7⟩ := h2 (by omega)
  have hlt : i * size + k < rs.length * size := by
    have : (i + 1) * size ≤ rs.length * size := Nat.mul_le_mul_right _ hil
    rw [Nat.add_mul, Nat.one_mul] at this; omega
  have hcs : rs.length * size ≤ cur.size := by rw [h6]; exact Nat.mul_le_mul_right _ h4
  have hb : Blk w g cur.toList e := by unfold Blk; simpa using h3
  refine SL.store (X := ⟨X.n, w, fun b => b = g⟩) (l := [rBlk g cur.toList e]) (i := 0) (c' := cur.toList.set (i * size + k) v) hg hd ht ho hx hy hv rfl (by rw [Array.length_toList]; omega) (.inl rfl) rfl (fun a' w' hf' hI' => ?_) a w hf ⟨⟨fun s hs => by simp at hs; subst hs; exact hb, List.pairwise_singleton _ _⟩, Only.refl _ _⟩
  have hO := hI'.2
  have hb' : Blk w' g (cur.toList.set (i * size + k) v) e := hI'.1.get (i := 0) rfl
  refine K a' w' hf' ⟨hI.1.upd hi (fun b hn hlt => hO.block b hlt (fun e => hn (by rw [e]; rfl))) ⟨?_, ?_, .inr ⟨g, c, (cur.toList.set (i * size + k) v).toArray, by rw [List.length_set], Nat.zero_le _, hb', by rw [List.length_set]; exact h4, h5, by simp [h6], ?_⟩⟩ (fun b hb => .inl hb), hI.2.trans' hO (fun b hb => hS b (by rw [hb]; rfl))⟩
  · intro r' hr'
    rcases List.mem_or_eq_of_mem_set hr' with h | rfl
    · exact hR.1 r' h
    · rw [List.length_set]; exact hR.1 r (List.mem_of_getElem? hr)
  · rw [← flat_set hR.1 hr hk v, List.length_set, List.length_set]; exact hR.2.1
  · rw [List.length_set, ← flat_set hR.1 hr hk v, ← h7, List.take_set]
theorem run_rowN1 {w : World} {e ty : TypeId} {v z : Value} {rs : List (List Value)} {r : List Value} {g2 size bytes : Nat} (hs0 : 0 < size) (ht : P.underlying t = some (.slice e)) (hz : (P.info? e).map (fun i => (i.zero, i.size, i.bytes)) = some (some z, size, bytes)) (hzs : z.cells.size = size) (hu : ∀ u ∈ r, u.oneCell' = true) (hrl : r.length = size)
    (hv : RowsN w v rs e size) (hx : Blk w g2 r e) (hb : (rs.length + 1) * bytes ≤ 140737488355328) (hn : rs.length + 1 ≤ maxLen) :
    ∃ v' w', (Builtin.append_ #[t, t] ty #[v, sl g2 0 1 1]).run P w = .ok v' w' ∧ RowsN w' v' (rs ++ [r]) e size ∧ Only (fun k => v.ownBlock = some k) w w' ∧ (∀ b, v'.ownBlock = some b → v.ownBlock = some b ∨ w.heap.size ≤ b) := by
  obtain ⟨i, hi, h3⟩ := map_some hz
  simp only [Prod.mk.injEq] at h3
  obtain ⟨z0, z1, z2⟩ := h3
  have hnews : ∀ j q, r[j]? = some q → w.cell? ((⟨g2, 0, none⟩ : Addr).add j) = some q := by
    intro j q hj
    rw [add_at, hx.cell, Nat.zero_add]; exact hj
  obtain ⟨v', w', hr, hO, hG, _⟩ := run_append_own (P := P) w 0 t ty e i z size bytes ht hi z0 z1 z2 hzs hs0 v rs.length rs.flatten hv.2 ⟨g2, 0, none⟩ 1 1 r (by rw [Nat.one_mul]; exact hrl) hnews hu hn hb (Nat.zero_le _)
  refine ⟨v', w', hr, ⟨fun r' h => ?_, by simpa using hO⟩, grown_only hG _ (fun k h => h), ?_⟩
  · rcases List.mem_append.1 h with h | h
    · exact hv.1 r' h
    · simp at h; subst h; exact hrl
  rcases hv.2.2 with ⟨rfl, h0⟩ | ⟨g, cap, cur, rfl, _, hg, hnc, hcm, hcs, htake⟩
  · have hxs : rs = [] := List.eq_nil_of_length_eq_zero h0
    subst hxs
    have h2 := run_append_nil (P := P) w t ty e i z ht hi z0 ⟨g2, 0, none⟩ 1 1 r (by rw [z1, Nat.one_mul]; exact hrl) hnews (by omega) (by omega) (by rw [z2]; simp at hb; omega)
    rw [hr] at h2
    injection h2 with e1
    subst e1
    exact fun b hb => .inr (by simp [Value.ownBlock] at hb; omega)
  · by_cases hroom : rs.length + 1 ≤ cap
    · have hfit : rs.length * size + r.length ≤ cur.size := by
        rw [hcs, hrl]; have := Nat.mul_le_mul_right size hroom; rw [Nat.add_mul, Nat.one_mul] at this; exact this
      have h2 := run_append_room (P := P) w t ty e i ht hi g rs.length cap cur hg ⟨g2, 0, none⟩ 1 1 r (by rw [z1, Nat.one_mul]; exact hrl) hnews hu hroom (by rw [z1]; exact hfit)
      rw [hr] at h2
      injection h2 with e1
      subst e1
      exact fun b hb => .inl (by simpa [Value.ownBlock] using hb)
    · have holds : ∀ j q, rs.flatten[j]? = some q → w.cell? ((⟨g, 0, none⟩ : Addr).add j) = some q := World.ownsRow.cells hv.2 (g := g) rfl
      have h2 := run_append_grow (P := P) w t ty e i z ht hi z0 ⟨g, 0, none⟩ rs.length cap rs.flatten (by rw [z1]; exact hv.2.1) holds ⟨g2, 0, none⟩ 1 1 r (by rw [z1, Nat.one_mul]; exact hrl) hnews (by omega) (by unfold maxLen at hn; omega) (growslice_fits (by omega) (by rw [z2]; exact hb))
      rw [hr] at h2
      injection h2 with e1
      subst e1
      exact fun b hb => .inr (by simp [Value.ownBlock] at hb; omega)
theorem SL.append_rowN {e ri rj size : Nat} {a1 a2 : Operand} {z : Value} {rs : List (List Value)} {r : List Value} {g2 bytes : Nat} {q : Option Addr} {n c : Nat} (hg : o.guard = none) (hd : o.dst = some d) (hn : d < X.n) (ho : o.op = .call { callee := .builtin .append, args := #[a1, a2], argTypes := #[t, t] })
    (hs0 : 0 < size) (ht : P.underlying t = some (.slice e)) (hz : (P.info? e).map (fun i => (i.zero, i.size, i.bytes)) = some (some z, size, bytes)) (hzs : z.cells.size = size) (hu : r.all (·.oneCell') = true) (hrl : r.length = size) (h1 : evM m a1 = some (.slice q n c)) (h2 : evM m a2 = some (sl g2 0 1 1))
    (hi : l[ri]? = some (rRowN (.slice q n c) rs e size)) (hj : l[rj]? = some (rBlk g2 r e)) (hb : (rs.length + 1) * bytes ≤ 140737488355328) (hl : rs.length + 1 ≤ maxLen) (hS : ∀ b, (Value.slice q n c).ownBlock = some b → X.S b ∨ X.w0.heap.size ≤ b)
    (k : ∀ (q' : Option Addr) (c' : Nat), (∀ b, (Value.slice q' (n + 1) c').ownBlock = some b → X.S b ∨ X.w0.heap.size ≤ b) → SL P X ops Q rest ((d, .slice q' (n + 1) c') :: m) (l.set ri (rRowN (.slice q' (n + 1) c') (rs ++ [r]) e size))) : SL P X ops Q (o :: rest) m l := fun a w hf hI =>
  wpList_plain hg fun K' hK => by
    have hR : RowsN w (.slice q n c) rs e size := hI.1.get hi
    obtain ⟨en, _⟩ := rowN_form hR
    obtain ⟨v', w', hr, hO, hU, hN⟩ := run_rowN1 (P := P) (ty := o.type) hs0 ht hz hzs (fun u hu' => List.all_eq_true.1 hu u hu') hrl hR (hI.1.get hj) hb hl
    unfold Oper.wp
    rw [run_call_app ho (hf.ev h1) (hf.ev h2) hr]
    simp only [Oper.upon_value, hd]
    obtain ⟨q', c', rfl⟩ : ∃ q' c', v' = .slice q' (n + 1) c' := by
      rcases hO.2.2 with ⟨_, h0⟩ | ⟨g, cap, cur, rfl, _⟩
      · simp at h0
      · exact ⟨some ⟨g, 0, none⟩, cap, by rw [en]; simp⟩
    refine hK _ _ (k q' c' (fun b hb => ?_) _ _ (hf.put hn _) (hI.upd hi hU hS hO (fun b hb => hN b hb)))
    rcases hN b hb with h | h
    · exact hS b h
    · exact .inr (Nat.le_trans hI.2.size h)
end
end Go.Proofs.Ytcilikkljkdceaa

/-
  The light machine: slices of slices. No program is named here.
-/
namespace Go.Proofs.Ytcilikkljkdceaa
open Go.RowKit
def optIs (m : List (Nat × Value)) (o : Option Operand) (d k : Nat) : Prop := match o with | none => k = d | some y => evM m y = some (iw (k : Int))
section
variable {P : Program} {X : Cx} {o : Oper} {m : List (Nat × Value)} {l : List Res} {x : Operand} {t : TypeId}
theorem run_bound {w : World} {k y : Nat} (h : k ≤ y) (code : BoundsCode) : (Instr.sliceBound (iw (k : Int)) y code).run P w = .ok k w := by
  have h1 : (0 : Int) ≤ (k : Int) ∧ (k : Int) ≤ (y : Int) := by omega
  simp [Instr.sliceBound, asIntOf, h, h1]
theorem ru_slice {e size n c l0 h0 m0 : Nat} {q : Option Addr} {lo hi mx : Option Operand} (hs : SliIs P t e size) (ho : o.op = .slice t x lo hi mx) (hx : evM m x = some (.slice q n c)) (hm : optIs m mx c m0) (hh : optIs m hi n h0) (hl : optIs m lo 0 l0) (hmx : mx.isSome = true → hi.isSome = true) (h1 : m0 ≤ c) (h2 : h0 ≤ m0) (h3 : l0 ≤ h0) :
    Ru P X o m l (.slice (if m0 = l0 then q else q.map (·.add (l0 * size))) (h0 - l0) (m0 - l0)) := fun a w hf hI => by
  obtain ⟨hu, hsz⟩ := hs
  unfold execOp; rw [ho]
  have hb : (Instr.sliceBounds true n c (lo.map a.eval) (hi.map a.eval) (mx.map a.eval)).run P w = .ok (l0, h0, m0) w := by
    unfold Instr.sliceBounds
    cases mx with
    | none =>
      have hm' : m0 = c := hm
      subst hm'
      cases hi with
      | none =>
        have hh' : h0 = n := hh
        subst hh'
        cases lo with
        | none => have hl' : l0 = 0 := hl; subst hl'; simp
        | some y => have := hf.ev hl; simp [this, run_bound h3]
      | some yh =>
        have e1 := hf.ev hh
        cases lo with
        | none => have hl' : l0 = 0 := hl; subst hl'; simp [e1, run_bound h2]
        | some y => have := hf.ev hl; simp [this, e1, run_bound h2, run_bound h3]
    | some ym =>
      have e0 := hf.ev hm
      cases hi with
      | none => exact absurd (hmx rfl) (by simp)
      | some yh =>
        have e1 := hf.ev hh
        cases lo with
        | none => have hl' : l0 = 0 := hl; subst hl'; simp [e0, e1, run_bound h1, run_bound h2]
        | some y => have := hf.ev hl; simp [this, e0, e1, run_bound h1, run_bound h2, run_bound h3]
  simp only [hf.ev hx, Instr.sliceAt, Instr.slice, Sem.run_bind, run_underlying hu w, Result.andThen_ok, hb, size_run hsz w, Sem.run_pure]
theorem ru_sliceV {e size n c l0 h0 m0 : Nat} {q : Option Addr} {lo hi mx : Option Operand} {v : Value} (hv : Value.slice (if m0 = l0 then q else q.map (·.add (l0 * size))) (h0 - l0) (m0 - l0) = v) (hs : SliIs P t e size) (ho : o.op = .slice t x lo hi mx) (hx : evM m x = some (.slice q n c)) (hm : optIs m mx c m0) (hh : optIs m hi n h0) (hl : optIs m lo 0 l0) (hmx : mx.isSome = true → hi.isSome = true) (h1 : m0 ≤ c) (h2 : h0 ≤ m0) (h3 : l0 ≤ h0) : Ru P X o m l v :=
  hv ▸ ru_slice hs ho hx hm hh hl hmx h1 h2 h3
end
end Go.Proofs.Ytcilikkljkdceaa

/-
  A region that draws its order and holds several operations that make memory, or turn it: one walk in the order of the text serves every order; what each of them comes to is taken as it comes. No program is named here.
-/
namespace Go.Proofs.Ytcilikkljkdceaa
abbrev Got := Nat → Option Value
def updD (D : Got) (k : Nat) (v : Value) : Got := fun j => bif Nat.beq k j then some v else D j
theorem updD_same {D : Got} {k : Nat} {v : Value} : updD D k v k = some v := by simp [updD]
theorem beq_off {k j : Nat} (h : k ≠ j) : Nat.beq k j = false := by
  cases e : Nat.beq k j
  · rfl
  · exact absurd (Nat.eq_of_beq_eq_true e) h
theorem updD_ne {D : Got} {k j : Nat} {v : Value} (h : k ≠ j) : updD D k v j = D j := by simp [updD, beq_off h]
theorem updD_comm {D : Got} {i j : Nat} {u v : Value} (h : i ≠ j) : updD (updD D i v) j u = updD (updD D j u) i v := by
  funext k
  simp only [updD]
  by_cases h1 : i = k
  · subst h1; simp [beq_off (Ne.symm h)]
  · by_cases h2 : j = k
    · subst h2; simp [beq_off h]
    · simp [beq_off h1, beq_off h2]
section
variable {P : Program} {ops : Array Oper} {md : Region.Mode} {sp : List Nat} {C : Got → World → Prop} {V : Nat → Value → Prop} {dep : Nat → List Nat}

def mkUpon (P : Program) (R : Value → World → Prop) : Result Next → Prop
  | .ok (.value u) w' => R u w'
  | .ok .skip w' => R undef w'
  | .ok (.enter f args) w' => Calls P f args w' (fun e w'' => ∃ u, e = .returned u ∧ R u w'')
  | _ => False
def quUpon (R : World → Prop) (v : Value) : Result Next → Prop
  | .ok (.value u) w' => u = v ∧ R w'
  | .ok .skip w' => v = undef ∧ R w'
  | _ => False
def mkAt (P : Program) (C : Got → World → Prop) (V : Nat → Value → Prop) (dep : Nat → List Nat) (i : Nat) (o : Oper) (a : Act) (E : Got) : Prop :=
  ∀ D w, C D w → D i = none → (∀ j ∈ dep i, D j = E j) → mkUpon P (fun u w' => V i u ∧ C (updD D i u) w') ((execOp a.eval o).run P w)
def quAt (P : Program) (C : Got → World → Prop) (dep : Nat → List Nat) (i : Nat) (o : Oper) (a : Act) (E : Got) (v : Value) : Prop := ∀ D w, C D w → (∀ j ∈ dep i, D j = E j) → quUpon (C D) v ((execOp a.eval o).run P w)

def wpMk (P : Program) (ops : Array Oper) (sp : List Nat) (C : Got → World → Prop) (V : Nat → Value → Prop) (dep : Nat → List Nat) (Q : Act → Got → Prop) : Nat → List Oper → Act → Got → Prop
  | _, [], a, D => Q a D
  | k, o :: rest, a, D =>
    if Region.wanted o (yielded ops a.tmps) then
      (if sp.contains k = true then mkAt P C V dep k o a D ∧ ∀ v, V k v → wpMk P ops sp C V dep Q (k + 1) rest (a.put o.dst v) (updD D k v)
       else ∃ v, quAt P C dep k o a D v ∧ wpMk P ops sp C V dep Q (k + 1) rest (a.put o.dst v) D)
    else wpMk P ops sp C V dep Q (k + 1) rest (a.put o.dst undef) D

def mkOp (P : Program) (ops : Array Oper) (sp : List Nat) (C : Got → World → Prop) (V : Nat → Value → Prop) (dep : Nat → List Nat) (i : Nat) (K : Act → Got → Prop) (a : Act) (D : Got) : Prop :=
  match ops[i]? with
  | none => K a D
  | some o =>
    if Region.wanted o (yielded ops a.tmps) then
      (if sp.contains i = true then mkAt P C V dep i o a D ∧ ∀ v, V i v → K (a.put o.dst v) (updD D i v) else ∃ v, quAt P C dep i o a D v ∧ K (a.put o.dst v) D)
    else K (a.put o.dst undef) D
def MkYields (P : Program) (ops : Array Oper) (sp : List Nat) (C : Got → World → Prop) (V : Nat → Value → Prop) (dep : Nat → List Nat) (i : Nat) (o : Oper) (W : Value → Prop) (f : Value → Got → Got) (a : Act) (E : Got) : Prop :=
  (Region.wanted o (yielded ops a.tmps) = true ∧ sp.contains i = true ∧ mkAt P C V dep i o a E ∧ W = V i ∧ f = fun v D => updD D i v) ∨
  (Region.wanted o (yielded ops a.tmps) = true ∧ sp.contains i = false ∧ (∃ v, quAt P C dep i o a E v ∧ W = fun u => u = v) ∧ f = fun _ D => D) ∨
  (Region.wanted o (yielded ops a.tmps) = false ∧ (W = fun u => u = undef) ∧ f = fun _ D => D)

theorem Calls.wit {P : Program} {f : FuncId} {args : Array Value} {w : World} {R : Ending → World → Prop} (h : Calls P f args w R) : ∃ e w', R e w' := by
  obtain ⟨e, w', fr, hR, _⟩ := h []
  exact ⟨e, w', hR⟩
theorem mkUpon.wit {R : Value → World → Prop} {r : Result Next} (h : mkUpon P R r) : ∃ u w', R u w' := by
  cases r with
  | ok n w' =>
    cases n <;> simp only [mkUpon] at h
    case value u => exact ⟨_, _, h⟩
    case skip => exact ⟨_, _, h⟩
    case enter f args => obtain ⟨e, w'', u, _, hR⟩ := Calls.wit h; exact ⟨_, _, hR⟩
  | halt x w' => simp only [mkUpon] at h
theorem MkYields.some {i : Nat} {o : Oper} {W : Value → Prop} {f : Value → Got → Got} {a : Act} {E : Got} (hne : ∃ w, C E w) (hE : E i = none) (h : MkYields P ops sp C V dep i o W f a E) : ∃ v, W v ∧ ∃ w, C (f v E) w := by
  obtain ⟨w, hw⟩ := hne
  rcases h with ⟨_, h1, h2, rfl, rfl⟩ | ⟨_, _, ⟨v, _, rfl⟩, rfl⟩ | ⟨_, rfl, rfl⟩
  · obtain ⟨u, w', h3, h4⟩ := (h2 E w hw hE (fun _ _ => rfl)).wit
    exact ⟨u, h3, w', h4⟩
  · exact ⟨v, rfl, w, hw⟩
  · exact ⟨_, rfl, w, hw⟩
theorem MkYields.comm {i j : Nat} {o : Oper} {W : Value → Prop} {f : Value → Got → Got} {a : Act} {E : Got} (h : MkYields P ops sp C V dep i o W f a E) (hij : i ≠ j) (v u : Value) (D : Got) : f v (updD D j u) = updD (f v D) j u := by
  rcases h with ⟨_, _, _, _, rfl⟩ | ⟨_, _, _, rfl⟩ | ⟨_, _, rfl⟩
  · exact (updD_comm hij).symm
  · rfl
  · rfl
theorem MkYields.at {i j : Nat} {o : Oper} {W : Value → Prop} {f : Value → Got → Got} {a : Act} {E : Got} (h : MkYields P ops sp C V dep i o W f a E) (hij : i ≠ j) (v : Value) (D : Got) : f v D j = D j := by
  rcases h with ⟨_, _, _, _, rfl⟩ | ⟨_, _, _, rfl⟩ | ⟨_, _, rfl⟩
  · exact updD_ne hij
  · rfl
  · rfl
theorem MkYields.op {i : Nat} {o : Oper} {W : Value → Prop} {f : Value → Got → Got} {a : Act} {D : Got} (hi : ops[i]? = .some o) (hy : MkYields P ops sp C V dep i o W f a D) {K : Act → Got → Prop} (h : ∀ v, W v → K (a.put o.dst v) (f v D)) : mkOp P ops sp C V dep i K a D := by
  unfold mkOp
  simp only [hi]
  rcases hy with ⟨hw, hs, hm, rfl, rfl⟩ | ⟨hw, hs, ⟨v, hq, rfl⟩, rfl⟩ | ⟨hw, rfl, rfl⟩
  · simp only [hw, hs, if_true]; exact ⟨hm, h⟩
  · simp only [hw, hs, if_true]; exact ⟨v, hq, h v rfl⟩
  · simp only [hw]; exact h _ rfl
theorem mkYields_of_op {i : Nat} {o : Oper} {a : Act} {D : Got} {K : Act → Got → Prop} (hi : ops[i]? = .some o) (h : mkOp P ops sp C V dep i K a D) : ∃ W f, MkYields P ops sp C V dep i o W f a D ∧ ∀ v, W v → K (a.put o.dst v) (f v D) := by
  unfold mkOp at h
  simp only [hi] at h
  by_cases hw : Region.wanted o (yielded ops a.tmps) = true
  · simp only [hw, if_true] at h
    by_cases hs : sp.contains i = true
    · simp only [hs, if_true] at h
      exact ⟨_, _, .inl ⟨hw, hs, h.1, rfl, rfl⟩, h.2⟩
    · simp only [hs] at h
      obtain ⟨v, h1, h2⟩ := h
      exact ⟨_, _, .inr (.inl ⟨hw, by simpa using hs, ⟨v, h1, rfl⟩, rfl⟩), fun u hu => by subst hu; exact h2⟩
  · simp only [hw] at h
    exact ⟨_, _, .inr (.inr ⟨by simpa using hw, rfl, rfl⟩), fun u hu => by subst hu; exact h⟩
theorem MkYields.of_same {i : Nat} {o : Oper} {W : Value → Prop} {f : Value → Got → Got} {a a' : Act} {E E' : Got} (hy : MkYields P ops sp C V dep i o W f a E) (he : execOp a'.eval o = execOp a.eval o)
    (hw : Region.wanted o (yielded ops a'.tmps) = Region.wanted o (yielded ops a.tmps)) (hE : ∀ j ∈ dep i, E' j = E j) : MkYields P ops sp C V dep i o W f a' E' := by
  have hd : ∀ D : Got, (∀ j ∈ dep i, D j = E' j) → ∀ j ∈ dep i, D j = E j := fun D h j hj => (h j hj).trans (hE j hj)
  unfold MkYields mkAt quAt at *
  rw [he, hw]
  rcases hy with ⟨h1, h2, h3, h4⟩ | ⟨h1, h2, ⟨v, h3, h4⟩, h5⟩ | h
  · exact .inl ⟨h1, h2, fun D w k1 k2 k3 => h3 D w k1 k2 (hd D k3), h4⟩
  · exact .inr (.inl ⟨h1, h2, ⟨v, fun D w k1 k3 => h3 D w k1 (hd D k3), h4⟩, h5⟩)
  · exact .inr (.inr h)
theorem quAt_one {i : Nat} {o : Oper} {a : Act} {E : Got} {u v : Value} (hne : ∃ w, C E w) (h1 : quAt P C dep i o a E u) (h2 : quAt P C dep i o a E v) : u = v := by
  obtain ⟨w, hC⟩ := hne
  have k1 := h1 E w hC (fun _ _ => rfl)
  have k2 := h2 E w hC (fun _ _ => rfl)
  generalize (execOp a.eval o).run P w = r at *
  cases r with
  | ok n w' => cases n <;> simp only [quUpon] at k1 k2 <;> first | exact k1.1.symm.trans k2.1 | exact k1.1.trans k2.1.symm | exact k1.elim
  | halt x w' => simp only [quUpon] at k1

theorem mkOp_put (hdown : ∀ D j u w, C (updD D j u) w → D j = none → (∀ k, D k ≠ none → j ∉ dep k) → C D w) {i j : Nat} {oi oj : Oper} {W : Value → Prop} {f : Value → Got → Got} (hij : i ≠ j) (hdi : j ∉ dep i) (hdj : i ∉ dep j) (hj : ops[j]? = .some oj) (hap : oi.apart ops oj = true)
    (hsi : ∀ cs b, oi.op ≠ .select cs b) (hsj : ∀ cs b, oj.op ≠ .select cs b) {K : Act → Got → Prop} {a : Act} {D : Got} (hne : ∃ w, C D w) (hDi : D i = none) (hDj : D j = none) (hcl : ∀ k, D k ≠ none → j ∉ dep k)
    (hy : MkYields P ops sp C V dep i oi W f a D) (h : ∀ v, W v → (∃ w, C (f v D) w) → mkOp P ops sp C V dep j K (a.put oi.dst v) (f v D)) :
    mkOp P ops sp C V dep j (fun a' D' => MkYields P ops sp C V dep i oi W f a' D' ∧ ∀ v, W v → (∃ w, C (f v D') w) → K (a'.put oi.dst v) (f v D')) a D := by
  obtain ⟨h1, h2, h3⟩ := Oper.apart_spec hap
  have keep : ∀ u E, (∀ q ∈ dep i, E q = D q) → MkYields P ops sp C V dep i oi W f (a.put oj.dst u) E := fun u E hE =>
    hy.of_same (execOp_put oi hsi a oj.dst u h3) (wanted_put oi a oj.dst u h3) hE
  have hup : ∀ u, ∀ q ∈ dep i, updD D j u q = D q := fun u q hq => updD_ne (fun e => hdi (by rw [e]; exact hq))
  have hex : ∀ v, execOp (a.put oi.dst v).eval oj = execOp a.eval oj := fun v => execOp_put oj hsj a oi.dst v h1
  have hdd : ∀ v (D' : Got), (∀ q ∈ dep j, D' q = D q) → ∀ q ∈ dep j, D' q = f v D q := fun v D' hd q hq => (hd q hq).trans (hy.at (fun e => hdj (by rw [e]; exact hq)) v D).symm
  obtain ⟨v0, hv0, hne0⟩ := hy.some hne hDi
  unfold mkOp at *
  simp only [hj] at *
  simp only [wanted_put oj a oi.dst _ h1] at h
  by_cases hw : Region.wanted oj (yielded ops a.tmps) = true
  · simp only [hw, if_true] at h ⊢
    by_cases hs : sp.contains j = true
    · simp only [hs, if_true] at h ⊢
      refine ⟨?_, fun u hu => ⟨keep u _ (hup u), fun v hv hin => ?_⟩⟩
      · have := (h v0 hv0 hne0).1
        unfold mkAt at *
        rw [hex v0] at this
        exact fun D' w k1 k2 k3 => this D' w k1 k2 (hdd v0 D' k3)
      · rw [hy.comm hij] at hin ⊢
        have hin' : ∃ w, C (f v D) w := by
          obtain ⟨w, hC⟩ := hin
          exact ⟨w, hdown _ _ _ _ hC (by rw [hy.at hij]; exact hDj) (fun k hk => by
            by_cases e : i = k
            · subst e; exact hdi
            · rw [hy.at e] at hk; exact hcl k hk)⟩
        have := (h v hv hin').2 u hu
        rw [← Act.put_comm a v u h2]
        exact this
    · simp only [hs] at h ⊢
      have hall : ∀ v, W v → (∃ w, C (f v D) w) → ∃ u, quAt P C dep j oj a D u ∧ K ((a.put oi.dst v).put oj.dst u) (f v D) := fun v hv hin => by
        obtain ⟨u, hq, hk⟩ := h v hv hin
        refine ⟨u, ?_, hk⟩
        unfold quAt at *
        rw [hex v] at hq
        exact fun D' w k1 k3 => hq D' w k1 (hdd v D' k3)
      obtain ⟨u0, hq0, _⟩ := hall v0 hv0 hne0
      refine ⟨u0, hq0, keep u0 _ (fun _ _ => rfl), fun v hv hin => ?_⟩
      obtain ⟨u, hq, hk⟩ := hall v hv hin
      have := quAt_one hne hq0 hq
      subst this
      rw [← Act.put_comm a v u0 h2]
      exact hk
  · simp only [hw] at h ⊢
    exact ⟨keep _ _ (fun _ _ => rfl), fun v hv hin => by rw [← Act.put_comm a v undef h2]; exact h v hv hin⟩

def reachB (md : Region.Mode) (ops : Array Oper) : Nat → Nat → Nat → Bool
  | 0, _, _ => false
  | n + 1, i, j => ((ops[i]?).map (·.after.any fun e => Region.binds md e && (Nat.beq e.on j || reachB md ops n e.on j))).getD false
def depB (md : Region.Mode) (ops : Array Oper) (ds : List (Nat × List Nat)) : Bool := ds.all fun x => x.2.all fun j => reachB md ops 3 x.1 j
def depOf : List (Nat × List Nat) → Nat → List Nat
  | [], _ => []
  | (k, js) :: r, i => bif Nat.beq k i then js else depOf r i
def ShutM (md : Region.Mode) (ops : Array Oper) (listed : Array Bool) : Prop := ∀ k o, ops[k]? = .some o → listed.getD k false = true → ∀ e ∈ o.after, Region.binds md e = true → listed.getD e.on false = true
def Deps (md : Region.Mode) (ops : Array Oper) (dep : Nat → List Nat) : Prop := ∀ (i : Nat) (listed : Array Bool), ShutM md ops listed → i ∈ Region.ready md ops listed → ∀ j ∈ dep i, listed.getD j false = true
theorem reach_listed {listed : Array Bool} (hs : ShutM md ops listed) : ∀ (n i j : Nat) (o : Oper), ops[i]? = .some o → (∀ e ∈ o.after, Region.binds md e = true → listed.getD e.on false = true) → reachB md ops n i j = true → listed.getD j false = true
  | 0, _, _, _, _, _, h => by simp [reachB] at h
  | n + 1, i, j, o, ho, hall, h => by
    simp only [reachB, ho, Option.map_some, Option.getD_some, Array.any_eq_true, Bool.and_eq_true, Bool.or_eq_true] at h
    obtain ⟨q, hq, h2, h3⟩ := h
    have he := hall _ (Array.getElem_mem hq) h2
    rcases h3 with h3 | h3
    · rw [← Nat.eq_of_beq_eq_true h3]; exact he
    · cases ho2 : ops[(o.after[q]).on]? with
      | none =>
        cases n with
        | zero => simp [reachB] at h3
        | succ n => simp [reachB, ho2] at h3
      | some o2 => exact reach_listed hs n _ j o2 ho2 (hs _ o2 ho2 he) h3
theorem deps_of {ds : List (Nat × List Nat)} (h : depB md ops ds = true) : Deps md ops (depOf ds) := by
  intro i listed hs hi j hj
  obtain ⟨_, o, ho, hall⟩ := mem_ready.1 hi
  induction ds with
  | nil => simp [depOf] at hj
  | cons x r ih =>
    obtain ⟨k, js⟩ := x
    simp only [depB, List.all_cons, Bool.and_eq_true] at h
    simp only [depOf] at hj
    cases hb : Nat.beq k i
    · rw [hb] at hj
      exact ih (by simpa [depB] using h.2) (by simpa using hj)
    · rw [hb] at hj
      have e : k = i := Nat.eq_of_beq_eq_true hb
      subst e
      exact reach_listed hs 3 k j o ho hall (List.all_eq_true.1 h.1 j (by simpa using hj))
theorem getD_tf {listed : Array Bool} {j : Nat} (h : listed.getD j false = true) : listed.getD j true = true := by
  cases h2 : listed.getD j true with
  | true => rfl
  | false => rw [getD_both h2] at h; cases h
theorem Deps.off (hd : Deps md ops dep) {listed : Array Bool} (hs : ShutM md ops listed) {i j : Nat} (hi : i ∈ Region.ready md ops listed) (hj : listed.getD j true = false) : j ∉ dep i := fun h => by
  have h1 := getD_tf (hd i listed hs hi j h)
  rw [hj] at h1; cases h1
def wpAnyMk (P : Program) (md : Region.Mode) (ops : Array Oper) (sp : List Nat) (C : Got → World → Prop) (V : Nat → Value → Prop) (dep : Nat → List Nat) (Q : Act → Got → Prop) : Nat → Array Bool → Act → Got → Prop
  | 0, listed, a, D => Region.ready md ops listed = [] ∧ Q a D
  | fuel + 1, listed, a, D =>
    (Region.ready md ops listed = [] → Q a D) ∧
    ∀ i ∈ Region.ready md ops listed, mkOp P ops sp C V dep i (fun a' D' => (∃ w, C D' w) → wpAnyMk P md ops sp C V dep Q fuel (listed.setIfInBounds i true) a' D') a D

structure FlagsM (md : Region.Mode) (ops : Array Oper) (dep : Nat → List Nat) (listed : Array Bool) (D : Got) : Prop where
  size : listed.size = ops.size
  off : ∀ i, listed.getD i true = false → D i = none
  deps : ∀ k, D k ≠ none → ∀ q ∈ dep k, listed.getD q true = true
  shut : ShutM md ops listed
theorem set_keeps {listed : Array Bool} {i q : Nat} (h : listed.getD q true = true) : (listed.setIfInBounds i true).getD q true = true := by
  by_cases e : i = q
  · subst e
    rw [Array.getD_eq_getD_getElem?, Array.getElem?_setIfInBounds_self]
    split <;> simp
  · rw [getD_set_ne true e]; exact h
theorem set_keepsF {listed : Array Bool} {i q : Nat} (h : listed.getD q false = true) : (listed.setIfInBounds i true).getD q false = true := by
  by_cases e : i = q
  · subst e
    have hlt : i < listed.size := by
      cases Nat.lt_or_ge i listed.size with
      | inl h => exact h
      | inr hge => simp [Nat.not_lt.2 hge] at h
    simp [hlt]
  · rw [getD_set_ne false e]; exact h
theorem ShutM.set {listed : Array Bool} (h : ShutM md ops listed) {i : Nat} (hi : i ∈ Region.ready md ops listed) : ShutM md ops (listed.setIfInBounds i true) := by
  intro k o ho hk e he hb
  by_cases eq : i = k
  · subst eq
    obtain ⟨_, o', ho', hall⟩ := mem_ready.1 hi
    rw [ho] at ho'; cases ho'
    exact set_keepsF (hall e he hb)
  · rw [getD_set_ne false eq] at hk
    exact set_keepsF (h k o ho hk e he hb)
theorem FlagsM.set {listed : Array Bool} {D : Got} (h : FlagsM md ops dep listed D) {i : Nat} (hi : i ∈ Region.ready md ops listed) : FlagsM md ops dep (listed.setIfInBounds i true) D := by
  refine ⟨by simp [h.size], fun j hj => h.off j ?_, fun k hk q hq => set_keeps (h.deps k hk q hq), h.shut.set hi⟩
  by_cases e : i = j
  · subst e
    rw [Array.getD_eq_getD_getElem?, Array.getElem?_setIfInBounds_self] at hj
    split at hj <;> simp at hj
  · rwa [getD_set_ne true e] at hj
theorem FlagsM.step {listed : Array Bool} {D : Got} (h : FlagsM md ops dep listed D) (hd : Deps md ops dep) {i : Nat} (hi : i ∈ Region.ready md ops listed) (v : Value) : FlagsM md ops dep (listed.setIfInBounds i true) (updD D i v) := by
  refine ⟨by simp [h.size], fun j hj => ?_, fun k hk q hq => ?_, h.shut.set hi⟩
  · by_cases e : i = j
    · subst e
      rw [Array.getD_eq_getD_getElem?, Array.getElem?_setIfInBounds_self] at hj
      split at hj <;> simp at hj
    · rw [updD_ne e]; exact h.off j (by rwa [getD_set_ne true e] at hj)
  · by_cases e : i = k
    · subst e; exact set_keeps (getD_tf (hd i listed h.shut hi q hq))
    · rw [updD_ne e] at hk; exact set_keeps (h.deps k hk q hq)

theorem mkOp_wp {i : Nat} {K : Act → Got → Prop} {K' : Act → World → Prop} {Q' : Exit → Act → World → Prop} {a : Act} {D : Got} {w : World} (hw : C D w) (hD : D i = none) (h : mkOp P ops sp C V dep i K a D)
    (hk : ∀ a D' w', (D' = D ∨ ∃ v, D' = updD D i v) → C D' w' → K a D' → K' a w') : wpOp P ops Q' i K' a w := by
  unfold mkOp at h
  unfold wpOp
  split
  · rename_i ho
    simp only [ho] at h
    exact hk _ _ _ (.inl rfl) hw h
  · rename_i o ho
    simp only [ho] at h
    split
    · rename_i hwt
      simp only [hwt, if_true] at h
      left
      unfold Oper.wp
      split at h
      · obtain ⟨h1, h2⟩ := h
        have h5 := h1 D w hw hD (fun _ _ => rfl)
        generalize (execOp a.eval o).run P w = r at *
        cases r with
        | ok n w' =>
          cases n <;> simp only [mkUpon] at h5 <;> simp only [Oper.upon]
          case value u => exact hk _ _ _ (.inr ⟨u, rfl⟩) h5.2 (h2 u h5.1)
          case skip => exact hk _ _ _ (.inr ⟨_, rfl⟩) h5.2 (h2 _ h5.1)
          case enter f args => exact h5.mono fun e w'' ⟨u, he, hc⟩ => by subst he; exact hk _ _ _ (.inr ⟨u, rfl⟩) hc.2 (h2 u hc.1)
          all_goals exact h5.elim
        | halt x w' => simp only [mkUpon] at h5
      · obtain ⟨v, h1, h2⟩ := h
        have h5 := h1 D w hw (fun _ _ => rfl)
        generalize (execOp a.eval o).run P w = r at *
        cases r with
        | ok n w' =>
          cases n <;> simp only [quUpon] at h5 <;> simp only [Oper.upon]
          case value u => rw [h5.1]; exact hk _ _ _ (.inl rfl) h5.2 h2
          case skip => rw [← h5.1]; exact hk _ _ _ (.inl rfl) h5.2 h2
        | halt x w' => simp only [quUpon] at h5
    · rename_i hwt
      simp only [hwt] at h
      exact hk _ _ _ (.inl rfl) hw h
theorem mkOp_flags {i : Nat} {a : Act} {D : Got} {listed : Array Bool} {K K' : Act → Got → Prop} (hf : FlagsM md ops dep listed D) (hd : Deps md ops dep) (hi : i ∈ Region.ready md ops listed) (h : ∀ a D, FlagsM md ops dep (listed.setIfInBounds i true) D → K a D → K' a D) (hh : mkOp P ops sp C V dep i K a D) : mkOp P ops sp C V dep i K' a D := by
  unfold mkOp at *
  split
  · rename_i ho
    simp only [ho] at hh
    exact h _ _ (hf.set hi) hh
  · rename_i o ho
    simp only [ho] at hh
    split
    · rename_i hw
      simp only [hw, if_true] at hh
      split
      · rename_i hs; simp only [hs, if_true] at hh; exact ⟨hh.1, fun v hv => h _ _ (hf.step hd hi v) (hh.2 v hv)⟩
      · rename_i hs; simp only [hs] at hh; obtain ⟨v, h1, h2⟩ := hh; exact ⟨v, h1, h _ _ (hf.set hi) h2⟩
    · rename_i hw; simp only [hw] at hh; exact h _ _ (hf.set hi) hh

theorem MkYields.flags {i : Nat} {o : Oper} {W : Value → Prop} {f : Value → Got → Got} {a : Act} {E : Got} {listed : Array Bool} (h : MkYields P ops sp C V dep i o W f a E) {D : Got} (hf : FlagsM md ops dep listed D) (hd : Deps md ops dep) (hi : i ∈ Region.ready md ops listed) (v : Value) : FlagsM md ops dep (listed.setIfInBounds i true) (f v D) := by
  rcases h with ⟨_, _, _, _, rfl⟩ | ⟨_, _, _, rfl⟩ | ⟨_, _, rfl⟩
  · exact hf.step hd hi v
  · exact hf.set hi
  · exact hf.set hi
theorem shut0 {n : Nat} : ShutM md ops (Array.replicate n false) := fun k o _ hk => by rw [getD_replicate_false] at hk; cases hk
def noD : Got := fun _ => none
def wpAnyMkL (P : Program) (md : Region.Mode) (ops : Array Oper) (sp : List Nat) (C : Got → World → Prop) (V : Nat → Value → Prop) (dep : Nat → List Nat) (n : Nat) (L : Array Bool → Act → Got → Prop) : Nat → Array Bool → Act → Got → Prop
  | 0, listed, a, D => L listed a D
  | f + 1, listed, a, D =>
    Region.ready md ops listed ≠ [] ∧ ∀ i ∈ Region.ready md ops listed, i < n ∧ mkOp P ops sp C V dep i (fun a' D' => (∃ w, C D' w) → wpAnyMkL P md ops sp C V dep n L f (listed.setIfInBounds i true) a' D') a D

theorem wpAny_of_headMk (hdep : Deps md ops dep) {n g : Nat} {L : Array Bool → Act → Got → Prop} {Q' : Exit → Act → World → Prop} (hL : ∀ listed a D w, C D w → L listed a D → wpAny P md ops Q' g listed a w) :
    ∀ (f : Nat) (listed : Array Bool) (a : Act) (D : Got) (w : World), FlagsM md ops dep listed D → C D w → wpAnyMkL P md ops sp C V dep n L f listed a D → wpAny P md ops Q' (f + g) listed a w
  | 0, listed, a, D, w, hf, hw, h => by rw [Nat.zero_add]; exact hL _ _ _ _ hw h
  | f + 1, listed, a, D, w, hf, hw, h => by
    rw [show f + 1 + g = (f + g) + 1 by omega]
    refine ⟨fun h0 => absurd h0 h.1, fun i hi => ?_⟩
    refine mkOp_wp hw (hf.off i (mem_ready.1 hi).1) (h.2 i hi).2 fun a' D' w' hD hC hK => ?_
    refine wpAny_of_headMk hdep hL f _ a' D' w' ?_ hC (hK ⟨w', hC⟩)
    rcases hD with rfl | ⟨v, rfl⟩
    · exact hf.set hi
    · exact hf.step hdep hi v

theorem wpAnyMkL_first (hdown : ∀ D j u w, C (updD D j u) w → D j = none → (∀ k, D k ≠ none → j ∉ dep k) → C D w) (hdep : Deps md ops dep) {n i : Nat} {oi : Oper} {W : Value → Prop} {f : Value → Got → Got} {L : Array Bool → Act → Got → Prop} (hi : ops[i]? = .some oi) (hsel : ∀ (j : Nat) (o : Oper) cs b, ops[j]? = .some o → o.op ≠ .select cs b)
    (hs : Region.sinkB md ops n = true) (hc : Region.chainB md ops n = true) (hn : n < ops.size) (hin : i < n)
    (hdone : ∀ listed a D, L listed a D → ∀ j ∈ Region.ready md ops listed, n ≤ j) :
    ∀ (fu : Nat) (listed : Array Bool) (a : Act) (D : Got), FlagsM md ops dep listed D → (∃ w, C D w) → HeadInv md ops n listed →
      (∀ j oj, ops[j]? = .some oj → j ≠ i → listed.getD j true = false → (∀ e ∈ oj.after, Region.binds md e = true → e.on ≠ i) → oi.apart ops oj = true) →
      i ∈ Region.ready md ops listed → MkYields P ops sp C V dep i oi W f a D →
      (∀ v, W v → (∃ w, C (f v D) w) → wpAnyMkL P md ops sp C V dep n L fu (listed.setIfInBounds i true) (a.put oi.dst v) (f v D)) → wpAnyMkL P md ops sp C V dep n L (fu + 1) listed a D := by
  intro fu
  induction fu with
  | zero =>
    intro listed a D hfl hne inv _ hr hy H
    have hun := (mem_ready.1 hr).1
    refine ⟨fun h => (by rw [h] at hr; cases hr), fun j hj => ?_⟩
    have hjn : j < n := by
      rcases Nat.lt_or_ge j n with h | h
      · exact h
      · exact absurd hj (tail_waits hs hc hn inv _ i rfl hin hun j h)
    refine ⟨hjn, ?_⟩
    by_cases hji : j = i
    · subst hji; exact hy.op hi H
    · obtain ⟨v0, hv0, hin0⟩ := hy.some hne (hfl.off i hun)
      have := hdone _ _ _ (H v0 hv0 hin0) j (ready_mono hj hji)
      omega
  | succ fu ih =>
    intro listed a D hfl hne inv hfree hr hy H
    have hun := (mem_ready.1 hr).1
    refine ⟨fun h => (by rw [h] at hr; cases hr), fun j hj => ?_⟩
    have hjn : j < n := by
      rcases Nat.lt_or_ge j n with h | h
      · exact h
      · exact absurd hj (tail_waits hs hc hn inv _ i rfl hin hun j h)
    refine ⟨hjn, ?_⟩
    by_cases hji : j = i
    · subst hji; exact hy.op hi H
    · have h1 := fun v hv hin => ((H v hv hin).2 j (ready_mono hj hji)).2
      obtain ⟨hjun, oj, hoj, hall⟩ := mem_ready.1 hj
      have hnot : ∀ e ∈ oj.after, Region.binds md e = true → e.on ≠ i := fun e he hb heq => by
        have h1 := hall e he hb
        rw [heq, getD_both hun] at h1
        cases h1
      have h2 := mkOp_put hdown (Ne.symm hji) (hdep.off hfl.shut hr hjun) (hdep.off hfl.shut hj hun) hoj (hfree j oj hoj hji hjun hnot) (fun cs b => hsel i oi cs b hi) (fun cs b => hsel j oj cs b hoj) hne (hfl.off i hun) (hfl.off j hjun) (fun k hk hj' => by rw [hfl.deps k hk j hj'] at hjun; cases hjun) hy h1
      have hfree' : ∀ k ok, ops[k]? = .some ok → k ≠ i → (listed.setIfInBounds j true).getD k true = false →
          (∀ e ∈ ok.after, Region.binds md e = true → e.on ≠ i) → oi.apart ops ok = true := fun k ok hk hki hun hno => by
        refine hfree k ok hk hki ?_ hno
        by_cases hjk : j = k
        · subst hjk; exact hjun
        · rw [getD_set_ne true hjk] at hun; exact hun
      refine mkOp_flags hfl hdep hj (fun a' D' hfl' h3 hin' => ih (listed.setIfInBounds j true) a' D' hfl' hin' (inv.set hj hjn) hfree' (ready_mono hr (Ne.symm hji)) h3.1 (fun v hv hin => ?_)) h2
      rw [Array.setIfInBounds_comm _ _ hji]
      exact h3.2 v hv hin hin

theorem wpAnyMkL_lex (hdown : ∀ D j u w, C (updD D j u) w → D j = none → (∀ k, D k ≠ none → j ∉ dep k) → C D w) (hdep : Deps md ops dep) {n g : Nat} {Lq : Act → Got → Prop} (hsel : Region.noSelect ops = true) (hs : Region.sinkB md ops n = true) (hc : Region.chainB md ops n = true) (hn : n < ops.size) :
    ∀ (l : List Oper) (k : Nat) (listed : Array Bool) (a : Act) (D : Got), FlagsM md ops dep listed D → (∃ w, C D w) → (∀ j, j < l.length → l[j]? = ops[k + j]?) → k + l.length = n → HeadInv md ops n listed →
    Region.lexHead md ops g l.length k listed = true → wpMk P ops sp C V dep Lq k l a D →
    wpAnyMkL P md ops sp C V dep n (fun listed' a' D' => Region.seqB md ops g n listed' = true ∧ Lq a' D') l.length listed a D
  | [], k, listed, a, D, _, _, _, hk, _, hB, h => by
    have : k = n := by simpa using hk
    subst this
    exact ⟨by simpa [Region.lexHead] using hB, h⟩
  | o :: l, k, listed, a, D, hfl, hne, hl, hk, inv, hB, h => by
    have h0 : ops[k]? = .some o := by simpa using (hl 0 (by simp)).symm
    simp only [List.length_cons, Region.lexHead, Bool.and_eq_true] at hB
    obtain ⟨⟨hr, hf⟩, hB'⟩ := hB
    have hkn : k < n := by simp only [List.length_cons] at hk; omega
    have hr' : k ∈ Region.ready md ops listed := by simpa using hr
    have hst : mkOp P ops sp C V dep k (wpMk P ops sp C V dep Lq (k + 1) l) a D := by unfold mkOp; simp only [h0]; exact h
    obtain ⟨W, f, hy, hK⟩ := mkYields_of_op h0 hst
    exact wpAnyMkL_first hdown hdep h0 (Region.noSelect_spec hsel) hs hc hn hkn (fun listed' a' D' hL => seqB_ready hL.1) l.length listed a D hfl hne inv (Region.free_spec h0 hf) hr' hy fun v hv hin =>
      wpAnyMkL_lex (g := g) hdown hdep hsel hs hc hn l (k + 1) (listed.setIfInBounds k true) (a.put o.dst v) (f v D) (hy.flags hfl hdep (by simpa using hr) v) hin (fun j hj => by have := hl (j + 1) (by simp; omega); simpa [Nat.add_assoc, Nat.add_comm 1 j] using this) (by simp only [List.length_cons] at hk; omega) (inv.set hr' hkn) hB' (hK v hv)

theorem wpAny_mk_tail {Q : Exit → Act → World → Prop} {a : Act} {w : World} {l : List Oper} (n : Nat) (sp : List Nat) (C : Got → World → Prop) (V : Nat → Value → Prop) (ds : List (Nat × List Nat)) (hB : Region.lexTailB .any l.toArray n = true)
    (hd : depB .any l.toArray ds = true) (hdown : ∀ D j u w, C (updD D j u) w → D j = none → (∀ k, D k ≠ none → j ∉ depOf ds k) → C D w) (hC : C noD { w with drawn := w.drawn + 1 })
    (h : wpMk P l.toArray sp C V (depOf ds) (fun a' D => ∀ w', C D w' → wpList P l.toArray Q (l.drop n) a' w') 0 (l.take n) a noD) : wpAny P .any l.toArray Q l.length (Array.replicate l.length false) a { w with drawn := w.drawn + 1 } := by
  simp only [Region.lexTailB, Bool.and_eq_true, decide_eq_true_eq] at hB
  obtain ⟨⟨⟨⟨hsel, hn⟩, hs⟩, hc⟩, hlex⟩ := hB
  have hn' : n < l.length := by simpa using hn
  have htl : (l.take n).length = n := by simp; omega
  have hdl : (l.drop n).length = l.toArray.size - n := by simp
  have inv0 : HeadInv .any l.toArray n (Array.replicate l.toArray.size false) :=
    ⟨by simp, fun j oj _ hl => (by rw [getD_replicate_false] at hl; cases hl), fun t _ ht => getD_in (by simpa using ht) (getD_replicate_false _ _)⟩
  have H := wpAnyMkL_lex (sp := sp) (C := C) (V := V) (md := .any) (g := l.toArray.size - n) hdown (deps_of hd) hsel hs hc hn (l.take n) 0 _ a noD ⟨by simp, fun i _ => rfl, fun k hk => absurd rfl hk, shut0⟩ ⟨_, hC⟩ (fun j hj => by
    have hj' : j < n := by rw [htl] at hj; exact hj
    simp [hj']) (by simpa using htl) inv0 (by rw [htl]; exact hlex) h
  have := wpAny_of_headMk (deps_of hd) (Q' := Q) (g := l.toArray.size - n) (fun listed a' D w' hw' hL => by
    have := wpAny_of_seq (md := .any) (Q' := Q) (l.drop n) n listed a' w' (fun j => by simp [List.getElem?_drop]) (by rw [hdl]; exact hL.1) (hL.2 w' hw')
    rwa [hdl] at this) _ _ _ noD _ ⟨by simp, fun i _ => rfl, fun k hk => absurd rfl hk, shut0⟩ hC H
  rw [htl, show n + (l.toArray.size - n) = l.toArray.size by omega] at this
  simpa using this
theorem wp_region_mk_tail {id : Nat} {Q : Exit → Act → World → Prop} {a : Act} {w : World} {l : List Oper} (n : Nat) (sp : List Nat) (C : Got → World → Prop) (V : Nat → Value → Prop) (ds : List (Nat × List Nat)) (hm : P.follows .mixedOrders = true) (hB : Region.lexTailB .any l.toArray n = true)
    (hd : depB .any l.toArray ds = true) (hdown : ∀ D j u w, C (updD D j u) w → D j = none → (∀ k, D k ≠ none → j ∉ depOf ds k) → C D w) (hC : C noD { w with drawn := w.drawn + 1 })
    (h : wpMk P l.toArray sp C V (depOf ds) (fun a' D => ∀ w', C D w' → wpList P l.toArray Q (l.drop n) a' w') 0 (l.take n) a noD) : (Code.region id l.toArray true).wp P Q a w := by
  refine wp_region_any hm ?_
  have := wpAny_mk_tail (Q := Q) n sp C V ds hB hd hdown hC h
  simpa using this
end
end Go.Proofs.Ytcilikkljkdceaa

/-
  The light machine: regions that draw their order, and make memory in several places. No program is named here.
-/
namespace Go.Proofs.Ytcilikkljkdceaa
open Go.RowKit

structure Mk where
  V : Value → Prop
  N : Value → Got → List Res
  ne : ∃ v, V v
  dp : List Nat := []
  loc : ∀ u D D', (∀ j ∈ dp, D j = D' j) → N u D = N u D'
def mfind : List (Nat × Mk) → Nat → Option Mk
  | [], _ => none
  | (j, s) :: r, k => bif Nat.beq j k then some s else mfind r k
def mV (ms : List (Nat × Mk)) (k : Nat) (v : Value) : Prop := match mfind ms k with | some s => s.V v | none => True
def mNews : List (Nat × Mk) → Got → List Res
  | [], _ => []
  | (k, s) :: r, D => (match D k with | some v => s.N v D | none => []) ++ mNews r D
def mHas : List (Nat × Mk) → Nat → Bool
  | [], _ => false
  | (j, _) :: r, k => bif Nat.beq j k then true else mHas r k
def mNodup : List (Nat × Mk) → Bool
  | [] => true
  | (j, _) :: r => !mHas r j && mNodup r
def hasN : List Nat → Nat → Bool
  | [], _ => false
  | j :: r, k => bif Nat.beq j k then true else hasN r k
theorem hasN_mem {l : List Nat} {k : Nat} (h : hasN l k = true) : k ∈ l := by
  induction l with
  | nil => simp [hasN] at h
  | cons j r ih =>
    simp only [hasN] at h
    cases hb : Nat.beq j k
    · rw [hb] at h; exact List.mem_cons_of_mem _ (ih (by simpa using h))
    · rw [Nat.eq_of_beq_eq_true hb]; exact List.mem_cons_self
def dpOk (ms : List (Nat × Mk)) (ds : List (Nat × List Nat)) : Bool := ms.all fun x => x.2.dp.all fun j => hasN (depOf ds x.1) j
def Cl (ms : List (Nat × Mk)) (D : Got) : Prop := ∀ x ∈ ms, D x.1 ≠ none → ∀ i ∈ x.2.dp, D i ≠ none
theorem loc_upd {s : Mk} {v u : Value} {D : Got} {k : Nat} (h : k ∉ s.dp) : s.N v (updD D k u) = s.N v D := s.loc v _ _ fun j hj => updD_ne (fun e => h (by rw [e]; exact hj))
theorem mNews_same {ms : List (Nat × Mk)} {D : Got} {k : Nat} {u : Value} (h : mHas ms k = false) (hk : ∀ x ∈ ms, D x.1 ≠ none → k ∉ x.2.dp) : mNews ms (updD D k u) = mNews ms D := by
  induction ms with
  | nil => rfl
  | cons x r ih =>
    obtain ⟨j, s⟩ := x
    simp only [mHas] at h
    cases hb : Nat.beq j k
    · rw [hb] at h
      have hne : k ≠ j := fun e => by subst e; simp at hb
      simp only [mNews]
      rw [updD_ne hne, ih (by simpa using h) (fun x hx => hk x (List.mem_cons_of_mem _ hx))]
      cases hd : D j with
      | none => rfl
      | some v => simp only; rw [loc_upd (hk (j, s) (by simp) (by simp [hd]))]
    · rw [hb] at h; simp at h
theorem mNews_add {ms : List (Nat × Mk)} {D : Got} {k : Nat} {u : Value} {s : Mk} (hn : mNodup ms = true) (hf : mfind ms k = some s) (hD : D k = none) (hk : ∀ x ∈ ms, D x.1 ≠ none → k ∉ x.2.dp) : (mNews ms (updD D k u)).Perm (mNews ms D ++ s.N u (updD D k u)) := by
  induction ms with
  | nil => simp [mfind] at hf
  | cons x r ih =>
    obtain ⟨j, q⟩ := x
    simp only [mNodup, Bool.and_eq_true, Bool.not_eq_true'] at hn
    simp only [mfind] at hf
    cases hb : Nat.beq j k
    · rw [hb] at hf
      have hne : k ≠ j := fun e => by subst e; simp at hb
      simp only [mNews]
      rw [updD_ne hne, List.append_assoc]
      have e1 : (match D j with | some v => q.N v (updD D k u) | none => []) = (match D j with | some v => q.N v D | none => []) := by
        cases hd : D j with
        | none => rfl
        | some v => simp only; rw [loc_upd (hk (j, q) (by simp) (by simp [hd]))]
      rw [e1]
      exact (ih hn.2 (by simpa using hf) (fun x hx => hk x (List.mem_cons_of_mem _ hx))).append_left _
    · rw [hb] at hf
      have e : j = k := Nat.eq_of_beq_eq_true hb
      subst e
      simp at hf; subst hf
      simp only [mNews]
      rw [updD_same, hD, mNews_same hn.1 (fun x hx => hk x (List.mem_cons_of_mem _ hx))]
      simp only [List.nil_append]
      exact List.perm_append_comm
theorem mHas_of {ms : List (Nat × Mk)} {k : Nat} (hf : mfind ms k = none) : mHas ms k = false := by
  induction ms with
  | nil => rfl
  | cons x r ih =>
    obtain ⟨j, q⟩ := x
    simp only [mfind] at hf
    simp only [mHas]
    cases hb : Nat.beq j k
    · rw [hb] at hf; exact ih (by simpa using hf)
    · rw [hb] at hf; simp at hf
theorem mfind_only {ms : List (Nat × Mk)} {k : Nat} {s : Mk} (hn : mNodup ms = true) (hf : mfind ms k = some s) : ∀ x ∈ ms, x.1 = k → x.2 = s := by
  induction ms with
  | nil => simp
  | cons x r ih =>
    obtain ⟨j, q⟩ := x
    simp only [mNodup, Bool.and_eq_true, Bool.not_eq_true'] at hn
    simp only [mfind] at hf
    have nohas : ∀ (r : List (Nat × Mk)) (j : Nat), mHas r j = false → ∀ y ∈ r, y.1 ≠ j := by
      intro r
      induction r with
      | nil => simp
      | cons z r ih2 =>
        intro j h y hy
        obtain ⟨jz, qz⟩ := z
        simp only [mHas] at h
        cases hb : Nat.beq jz j
        · rw [hb] at h
          rcases List.mem_cons.1 hy with rfl | hy
          · intro e; simp only at e; subst e; simp at hb
          · exact ih2 j (by simpa using h) y hy
        · rw [hb] at h; simp at h
    intro y hy hk
    rcases List.mem_cons.1 hy with rfl | hy
    · simp only at hk; subst hk
      simp at hf; exact hf
    · cases hb : Nat.beq j k
      · rw [hb] at hf; exact ih hn.2 (by simpa using hf) y hy hk
      · have e : j = k := Nat.eq_of_beq_eq_true hb
        subst e
        exact absurd hk (nohas r j hn.1 y hy)
theorem Inv.perm {X : Cx} {w : World} {l l' : List Res} (h : Inv X w l) (hp : l.Perm l') : Inv X w l' :=
  ⟨⟨fun r hr => h.1.1 r (hp.mem_iff.2 hr), (hp.pairwise_iff (fun {x y} hxy b h1 h2 => hxy b h2 h1)).1 h.1.2⟩, h.2⟩
theorem Inv.left {X : Cx} {w : World} {l l' : List Res} (h : Inv X w (l ++ l')) : Inv X w l :=
  ⟨⟨fun r hr => h.1.1 r (List.mem_append_left _ hr), (List.pairwise_append.1 h.1.2).1⟩, h.2⟩
def mDel : List (Nat × Mk) → Nat → List (Nat × Mk)
  | [], _ => []
  | (k, s) :: r, j => bif Nat.beq k j then r else (k, s) :: mDel r j
def mOf : List Nat → List (Nat × Mk) → Got → List Res
  | [], _, _ => []
  | j :: r, ms, D => (match mfind ms j with | some s => (match D j with | some v => s.N v D | none => []) | none => []) ++ mOf r (mDel ms j) D
def jsOk (js : List Nat) : List Nat → List (Nat × Mk) → Bool
  | [], _ => true
  | j :: r, ms => (match mfind ms j with | some s => s.dp.all (hasN js) | none => false) && jsOk js r (mDel ms j)
theorem mNews_pull {ms : List (Nat × Mk)} {D : Got} {j : Nat} {s : Mk} (hf : mfind ms j = some s) : (mNews ms D).Perm ((match D j with | some v => s.N v D | none => []) ++ mNews (mDel ms j) D) := by
  induction ms with
  | nil => simp [mfind] at hf
  | cons x r ih =>
    obtain ⟨k, q⟩ := x
    simp only [mfind] at hf
    simp only [mDel]
    cases hb : Nat.beq k j
    · rw [hb] at hf
      simp only [cond_false, mNews]
      refine ((ih (by simpa using hf)).append_left _).trans ?_
      rw [← List.append_assoc, ← List.append_assoc]
      exact List.perm_append_comm.append_right _
    · rw [hb] at hf
      have e : k = j := Nat.eq_of_beq_eq_true hb
      subst e
      simp at hf; subst hf
      simp only [cond_true, mNews]
      exact List.Perm.refl _
theorem mNews_of {D D' : Got} {Js : List Nat} : ∀ {js : List Nat} {ms : List (Nat × Mk)}, jsOk Js js ms = true → (∀ j ∈ js, D' j = D j) → (∀ j ∈ Js, D' j = D j) → ∃ l'', (mNews ms D').Perm (mOf js ms D ++ l'')
  | [], ms, _, _, _ => ⟨mNews ms D', List.Perm.refl _⟩
  | j :: r, ms, h, hd, hJ => by
    simp only [jsOk, Bool.and_eq_true] at h
    cases hs : mfind ms j with
    | none => rw [hs] at h; simp at h
    | some s =>
      rw [hs] at h
      obtain ⟨l'', hp⟩ := mNews_of (D := D) (D' := D') h.2 (fun i hi => hd i (List.mem_cons_of_mem _ hi)) hJ
      refine ⟨l'', (mNews_pull hs).trans ?_⟩
      simp only [mOf, hs]
      rw [hd j (by simp), List.append_assoc]
      have e1 : (match D j with | some v => s.N v D' | none => []) = (match D j with | some v => s.N v D | none => []) := by
        cases hdj : D j with
        | none => rfl
        | some v => simp only; exact s.loc v _ _ (fun i hi => hJ i (hasN_mem (List.all_eq_true.1 h.1 i hi)))
      rw [e1]
      exact hp.append_left _
def incB : List Nat → Bool
  | a :: b :: r => Nat.blt a b && incB (b :: r)
  | _ => true
theorem pick_sub {α : Type} : ∀ (js : List Nat) (l : List α) (n : Nat), incB js = true → (∀ j ∈ js, n ≤ j) → ∃ l', (js.filterMap (l[·]?)).Sublist l' ∧ l' = l.drop n
  | [], l, n, _, _ => ⟨_, by simp, rfl⟩
  | j :: r, l, n, h, hn => by
    refine ⟨_, ?_, rfl⟩
    have hr : incB r = true ∧ ∀ i ∈ r, j + 1 ≤ i := by
      clear hn
      induction r generalizing j with
      | nil => exact ⟨rfl, by simp⟩
      | cons b r ih =>
        simp only [incB, Bool.and_eq_true, Nat.blt_eq] at h
        refine ⟨h.2, fun i hi => ?_⟩
        rcases List.mem_cons.1 hi with rfl | hi
        · omega
        · have := (ih b h.2).2 i hi; omega
    obtain ⟨l', h1, rfl⟩ := pick_sub r l (j + 1) hr.1 hr.2
    have hnj := hn j (by simp)
    cases hj : l[j]? with
    | none =>
      rw [List.filterMap_cons, hj]
      exact h1.trans (by rw [show l.drop (j + 1) = (l.drop n).drop (j + 1 - n) by rw [List.drop_drop]; congr 1; omega]; exact List.drop_sublist _ _)
    | some x =>
      rw [List.filterMap_cons, hj]
      have hlt := (List.getElem?_eq_some_iff.1 hj).1
      have e : l.drop n = (l.drop n).take (j - n) ++ x :: l.drop (j + 1) := by
        have : l.drop j = x :: l.drop (j + 1) := by rw [List.drop_eq_getElem_cons hlt]; rw [(List.getElem?_eq_some_iff.1 hj).2]
        rw [← this, show l.drop j = (l.drop n).drop (j - n) by rw [List.drop_drop]; congr 1; omega, List.take_append_drop]
      rw [e]
      exact (h1.cons_cons x).trans (List.sublist_append_right _ _)
theorem Inv.pick {X : Cx} {w : World} {l : List Res} {js : List Nat} (h : Inv X w l) (hs : incB js = true) : Inv X w (js.filterMap (l[·]?)) := by
  obtain ⟨l', h1, h2⟩ := pick_sub js l 0 hs (fun _ _ => Nat.zero_le _)
  rw [List.drop_zero] at h2
  subst h2
  exact ⟨⟨fun r hr => h.1.1 r (h1.subset hr), h.1.2.sublist h1⟩, h.2⟩
def CM (X : Cx) (l : List Res) (ms : List (Nat × Mk)) : Got → World → Prop := fun D w => Inv X w (l ++ mNews ms D) ∧ Cl ms D
section
variable (P : Program) (X : Cx)
def SM (ops : Array Oper) (sp : List Nat) (C : Got → World → Prop) (V : Nat → Value → Prop) (ds : List (Nat × List Nat)) (K : Act → Got → Prop) (k : Nat) (rest : List Oper) (m : List (Nat × Value)) (D : Got) : Prop := ∀ a, Fr X.n a m → wpMk P ops sp C V (depOf ds) K k rest a D
end
section
variable {P : Program} {X : Cx} {ops : Array Oper} {Q : Exit → Act → World → Prop} {rest : List Oper} {o : Oper} {m : List (Nat × Value)} {l : List Res} {v : Value} {d k : Nat} {sp : List Nat} {C : Got → World → Prop} {V : Nat → Value → Prop} {K : Act → Got → Prop} {D : Got} {ds : List (Nat × List Nat)} {l1 : List Res} {ms : List (Nat × Mk)} {s : Mk}

def Wants (X : Cx) (ops : Array Oper) (o : Oper) (m : List (Nat × Value)) : Prop := ∀ a, Fr X.n a m → Region.wanted o (yielded ops a.tmps) = true
theorem w_all (h : o.guard = none) : Wants X ops o m := fun a _ => by simp [Region.wanted, h]
theorem w_yes {j : Nat} {want : Bool} {dj : Nat} (hg : o.guard = some (j, want)) (hj : (ops[j]?).bind (·.dst) = some dj) (hb : look m dj = some (.bool want)) : Wants X ops o m := fun a hf => by rw [guard_is hf hg hj hb]; simp
theorem CM.known {w : World} {D' : Got} {js : List Nat} (hC : CM X l ms D' w) (hj : jsOk js js ms = true) (hd : ∀ j ∈ js, D' j = D j) (hl1 : l ++ mOf js ms D = l1) : ∃ l'', (l ++ mNews ms D').Perm (l1 ++ l'') ∧ Inv X w (l1 ++ l'') := by
  obtain ⟨l'', hp⟩ := mNews_of hj hd hd
  have hp' : (l ++ mNews ms D').Perm (l1 ++ l'') := by rw [← hl1, List.append_assoc]; exact hp.append_left l
  exact ⟨l'', hp', Inv.perm hC.1 hp'⟩
theorem CM.down (hnd : mNodup ms = true) (hdp : dpOk ms ds = true) : ∀ (D : Got) j u w, CM X l ms (updD D j u) w → D j = none → (∀ k, D k ≠ none → j ∉ depOf ds k) → CM X l ms D w := fun D j u w hC hD hcl => by
  have hk : ∀ x ∈ ms, D x.1 ≠ none → j ∉ x.2.dp := fun x hx hne hj => hcl x.1 hne (hasN_mem (List.all_eq_true.1 (List.all_eq_true.1 hdp x hx) j hj))
  obtain ⟨hC1, hC2⟩ := hC
  refine ⟨?_, fun x hx hne i hi => ?_⟩
  · cases hf : mfind ms j with
    | some s =>
      refine Inv.left (l' := s.N u (updD D j u)) (hC1.perm ?_)
      rw [List.append_assoc]
      exact (mNews_add hnd hf hD hk).append_left l
    | none => rwa [mNews_same (mHas_of hf) hk] at hC1
  · have hxj : j ≠ x.1 := fun e => hne (by rw [← e]; exact hD)
    have := hC2 x hx (by rw [updD_ne hxj]; exact hne) i hi
    have hij : j ≠ i := fun e => hk x hx hne (by rw [e]; exact hi)
    rwa [updD_ne hij] at this
theorem SM.ru (hl1 : l ++ mOf (depOf ds k) ms D = l1) (hj : jsOk (depOf ds k) (depOf ds k) ms = true) (hk : (ms.map (·.1)).contains k = false) (hw : Wants X ops o m) (hd : o.dst = some d) (hn : d < X.n) (hr : Ru P X o m l1 v) (h : SM P X ops (ms.map (·.1)) (CM X l ms) V ds K (k + 1) rest ((d, v) :: m) D) : SM P X ops (ms.map (·.1)) (CM X l ms) V ds K k (o :: rest) m D := fun a hf => by
  unfold wpMk
  rw [if_pos (hw a hf), if_neg (by rw [hk]; simp)]
  refine ⟨v, fun D' w hD hd => ?_, ?_⟩
  · obtain ⟨l'', _, hI⟩ := CM.known hD hj hd hl1
    rw [hr a w hf hI.left]; exact ⟨rfl, hD⟩
  · rw [hd]; exact h _ (hf.put hn v)
theorem SM.made (hl1 : l ++ mOf (depOf ds k) ms D = l1) (hj : jsOk (depOf ds k) (depOf ds k) ms = true) (hdq : (s.dp.all fun j => hasN (depOf ds k) j && (D j).isSome) = true) (hm : mfind ms k = some s) (hk : (ms.map (·.1)).contains k = true) (hnd : mNodup ms = true) (hw : Wants X ops o m) (hd : o.dst = some d) (hn : d < X.n)
    (H : ∀ (l' : List Res) a w, Fr X.n a m → Inv X w (l1 ++ l') → mkUpon P (fun u w' => s.V u ∧ Inv X w' (l1 ++ l' ++ s.N u D)) ((execOp a.eval o).run P w))
    (h : ∀ v, s.V v → SM P X ops (ms.map (·.1)) (CM X l ms) (mV ms) ds K (k + 1) rest ((d, v) :: m) (updD D k v)) : SM P X ops (ms.map (·.1)) (CM X l ms) (mV ms) ds K k (o :: rest) m D := fun a hf => by
  have eV : mV ms k = s.V := by funext v; simp only [mV, hm]
  unfold wpMk
  rw [if_pos (hw a hf), if_pos hk]
  refine ⟨fun D' w hD hn hd => ?_, fun v hv => ?_⟩
  · obtain ⟨l'', hp, hI⟩ := CM.known hD hj hd hl1
    have h1 := H l'' a w hf hI
    have hkx : ∀ x ∈ ms, D' x.1 ≠ none → k ∉ x.2.dp := fun x hx hne hi => hD.2 x hx hne k hi hn
    have hdq' : ∀ j ∈ s.dp, D' j = D j ∧ D' j ≠ none := fun j hj' => by
      have h2 := List.all_eq_true.1 hdq j hj'
      simp only [Bool.and_eq_true] at h2
      have h3 := hd j (hasN_mem h2.1)
      exact ⟨h3, by rw [h3]; intro e; rw [e] at h2; simp at h2⟩
    have hkj : ∀ j ∈ s.dp, k ≠ j := fun j hj' e => (hdq' j hj').2 (by rw [← e]; exact hn)
    have fin : ∀ u w', s.V u ∧ Inv X w' (l1 ++ l'' ++ s.N u D) → mV ms k u ∧ CM X l ms (updD D' k u) w' := fun u w' hu => by
      refine ⟨by rw [eV]; exact hu.1, ?_, fun x hx hne i hi => ?_⟩
      · refine hu.2.perm ((hp.symm.append_right _).trans ?_)
        rw [List.append_assoc]
        have e1 : s.N u D = s.N u (updD D' k u) := s.loc u _ _ (fun j hj' => by rw [updD_ne (hkj j hj')]; exact (hdq' j hj').1.symm)
        rw [e1]
        exact ((mNews_add hnd hm hn hkx).symm).append_left l
      · by_cases e : k = i
        · subst e; rw [updD_same]; simp
        · rw [updD_ne e]
          by_cases ex : x.1 = k
          · rw [mfind_only hnd hm x hx ex] at hi
            exact (hdq' i hi).2
          · rw [updD_ne (Ne.symm ex)] at hne
            exact hD.2 x hx hne i hi
    generalize (execOp a.eval o).run P w = r at *
    cases r with
    | ok n w' =>
      cases n <;> simp only [mkUpon] at h1 ⊢
      case value u => exact fin _ _ h1
      case skip => exact fin _ _ h1
      case enter f args => exact h1.mono fun e w'' ⟨u, he, hc⟩ => ⟨u, he, fin _ _ hc⟩
    | halt x w' => simp only [mkUpon] at h1
  · rw [eV] at hv; rw [hd]; exact h v hv _ (hf.put hn v)
theorem SC.region_mk_tail {id : Nat} {L : List Oper} (n : Nat) (ms : List (Nat × Mk)) (ds : List (Nat × List Nat)) (hnd : mNodup ms = true) (hdp : dpOk ms ds = true) (hde : depB .any L.toArray ds = true) (hm : P.follows .mixedOrders = true) (hB : Region.lexTailB .any L.toArray n = true)
    (h : SM P X L.toArray (ms.map (·.1)) (CM X l ms) (mV ms) ds (fun a' D => ∀ w', CM X l ms D w' → wpList P L.toArray Q (L.drop n) a' w') 0 (L.take n) m noD) : SC P X (.region id L.toArray true) Q m l := fun a w hf hi => by
  refine wp_region_mk_tail n (ms.map (·.1)) (CM X l ms) (mV ms) ds hm hB hde (CM.down hnd hdp) ?_ (h a hf)
  · unfold CM
    have : mNews ms noD = [] := by
      clear h hi hnd hdp
      induction ms with
      | nil => rfl
      | cons x r ih => obtain ⟨j, s⟩ := x; simp only [mNews, noD, List.nil_append]; exact ih
    rw [this, List.append_nil]
    exact ⟨hi.draw1, fun x _ hne => absurd rfl hne⟩
theorem SM.nilL {l' : List Res} {L : List Oper} (hl : l ++ mNews ms D = l') (h : SL P X ops Q L m l') : SM P X ops sp C V ds (fun a' D => ∀ w', CM X l ms D w' → wpList P ops Q L a' w') k [] m D := fun a hf => by
  unfold wpMk
  intro w' hC
  exact h a w' hf (by rw [← hl]; exact hC.1)
def vb : Value → Nat
  | .pointer (some a) => a.block
  | .slice (some a) _ _ => a.block
  | _ => 0
def Mk.blk (X : Cx) (cs : List Value) (T : TypeId) : Mk := ⟨fun u => ∃ b, X.w0.heap.size ≤ b ∧ u = pt b 0, fun u _ => [rBlk (vb u) cs T], ⟨pt X.w0.heap.size 0, _, Nat.le_refl _, rfl⟩, [], fun _ _ _ _ => rfl⟩
def gotD (D : Got) (k : Nat) : Value := match D k with | some v => v | none => undef
def Mk.row (X : Cx) (n c : Nat) (dp : List Nat) (cs : List Value → List Value) (T : TypeId) : Mk := ⟨fun u => ∃ b, X.w0.heap.size ≤ b ∧ u = sl b 0 n c, fun u D => [rBlk (vb u) (cs (dp.map (gotD D))) T], ⟨sl X.w0.heap.size 0 n c, _, Nat.le_refl _, rfl⟩, dp, fun u D D' h => by
  have : dp.map (gotD D) = dp.map (gotD D') := List.map_congr_left fun j hj => by simp only [gotD, h j hj]
  rw [this]⟩
def Mk.val (v : Value) : Mk := ⟨fun u => u = v, fun _ _ => [], ⟨v, rfl⟩, [], fun _ _ _ _ => rfl⟩
def Mk.mine (X : Cx) (f : List UInt8) (T : TypeId) : Mk := ⟨fun u => ∃ q c, (∀ b, (Value.slice q f.length c).ownBlock = some b → X.w0.heap.size ≤ b) ∧ u = .slice q f.length c, fun u _ => [rMine u f T], ⟨_, none, 0, fun b hb => by simp [Value.ownBlock] at hb, rfl⟩, [], fun _ _ _ _ => rfl⟩

section
variable (hl1 : l ++ mOf (depOf ds k) ms D = l1) (hj : jsOk (depOf ds k) (depOf ds k) ms = true) (hk : (ms.map (·.1)).contains k = true) (hnd : mNodup ms = true) (hw : Wants X ops o m) (hd : o.dst = some d) (hn : d < X.n)
include hl1 hj hk hnd hw hd hn
theorem SM.alloca {t : TypeId} {z : List Value} (hm : mfind ms k = some (Mk.blk X z t)) (ht : TyAg P t z) (ho : o.op = .alloc t)
    (h : ∀ b, X.w0.heap.size ≤ b → SM P X ops (ms.map (·.1)) (CM X l ms) (mV ms) ds K (k + 1) rest ((d, pt b 0) :: m) (updD D k (pt b 0))) : SM P X ops (ms.map (·.1)) (CM X l ms) (mV ms) ds K k (o :: rest) m D := by
  refine SM.made hl1 hj rfl hm hk hnd hw hd hn (fun l' a w hf hI => ?_) (by rintro v ⟨b, h1, rfl⟩; exact h b h1)
  have hrun : (Instr.alloc t true (.tuple #[])).run P w = .ok (.pointer (some ⟨w.heap.size, 0, none⟩)) (w.alloc (.cells z.toArray t)) := by
    unfold Instr.alloc
    rw [Sem.run_bind, (ht.run w).2.2]
    simp [newVar, newRow, newObj, Value.cells]; rfl
  unfold execOp; rw [ho]
  simp only [Sem.run_bind, hrun, Result.andThen_ok, Sem.run_pure]
  exact ⟨⟨_, hI.2.size, rfl⟩, new_blk hI z.toArray t⟩
theorem SM.buildSlice {t : TypeId} {e n size : Nat} {parts : List (Nat × Operand)} {vals : List (Nat × Value)} {z cs : List Value} {dp : List Nat} {csf : List Value → List Value} (hdq : (dp.all fun j => hasN (depOf ds k) j && (D j).isSome) = true) (hcs : csf (dp.map (gotD D)) = cs) (hm : mfind ms k = some (Mk.row X n n dp csf e)) (ho : o.op = .buildSlice t n parts.toArray)
    (hu : P.underlying t = some (.slice e)) (hs : (P.info? e).map (fun i => (i.size, i.zero.map (·.cells.toList))) = some (size, some z)) (hsz : Nat.ble (n * size) 16777216 = true) (hp : parts.mapM (fun x => (evM m x.2).map (x.1, ·)) = some vals)
    (hc : Instr.fill (fun i => some (i * size, size)) ((Array.range (n * size)).map (z.toArray[· % z.toArray.size]!)) vals = some cs.toArray)
    (h : ∀ b, X.w0.heap.size ≤ b → SM P X ops (ms.map (·.1)) (CM X l ms) (mV ms) ds K (k + 1) rest ((d, sl b 0 n n) :: m) (updD D k (sl b 0 n n))) : SM P X ops (ms.map (·.1)) (CM X l ms) (mV ms) ds K k (o :: rest) m D := by
  refine SM.made (s := Mk.row X n n dp csf e) hl1 hj hdq hm hk hnd hw hd hn (fun l' a w hf hI => ?_) (by rintro v ⟨b, h1, rfl⟩; exact h b h1)
  have hv : (parts.toArray.map fun (i, x) => (i, a.eval x)) = vals.toArray := by
    have : parts.map (fun (x : Nat × Operand) => (x.1, a.eval x.2)) = vals := by
      clear ho hc hw
      induction parts generalizing vals with
      | nil => simp at hp; simpa using hp.symm
      | cons y r ih =>
        simp only [List.mapM_cons, Option.bind_eq_bind, Option.bind_eq_some_iff, Option.map_eq_some_iff] at hp
        obtain ⟨u, ⟨u', hu, rfl⟩, us, hus, h⟩ := hp
        cases h
        rw [List.map_cons, ih hus, hf.ev hu]
    rw [← this]; simp
  have hrun := built_slice (P := P) (w := w) (parts := vals.toArray) hu hs (Nat.le_of_ble_eq_true hsz) hc
  unfold execOp; rw [ho]
  simp only [hv, Sem.run_bind, hrun, Result.andThen_ok, Sem.run_pure]
  refine ⟨⟨_, hI.2.size, rfl⟩, ?_⟩
  show Inv X _ (_ ++ [rBlk w.heap.size (csf (dp.map (gotD D))) e])
  rw [hcs]
  exact new_blk hI cs.toArray e
theorem SM.mkcall {f : FuncId} {fs cs vals : List Value} {c : Operand} {args : List Operand} {aT : Array TypeId} (hdq : (s.dp.all fun j => hasN (depOf ds k) j && (D j).isSome) = true) (hm : mfind ms k = some s)
    (ho : o.op = .call { callee := .value c, args := args.toArray, argTypes := aT }) (hok : CallOk P f) (hc : evM m c = some (.func (.func f) fs.toArray cs.toArray)) (ha : evL m args = some vals)
    (H : ∀ (l' : List Res) w, Inv X w (l1 ++ l') → Calls P f (fs ++ vals ++ cs).toArray w fun e w' => ∃ u, e = .returned u ∧ s.V u ∧ Inv X w' (l1 ++ l' ++ s.N u D))
    (h : ∀ v, s.V v → SM P X ops (ms.map (·.1)) (CM X l ms) (mV ms) ds K (k + 1) rest ((d, v) :: m) (updD D k v)) : SM P X ops (ms.map (·.1)) (CM X l ms) (mV ms) ds K k (o :: rest) m D := by
  refine SM.made hl1 hj hdq hm hk hnd hw hd hn (fun l' a w hf hI => ?_) h
  rw [call_enter ho hok hc ha hf w]
  exact H l' w hI
theorem SM.call {f : FuncId} {fs cs vals : List Value} {c : Operand} {args : List Operand} {aT : Array TypeId} (v : Value) (hm : mfind ms k = some (Mk.val v))
    (ho : o.op = .call { callee := .value c, args := args.toArray, argTypes := aT }) (hok : CallOk P f) (hc : evM m c = some (.func (.func f) fs.toArray cs.toArray)) (ha : evL m args = some vals)
    (H : ∀ (l' : List Res) w, Inv X w (l1 ++ l') → Calls P f (fs ++ vals ++ cs).toArray w fun e w' => e = .returned v ∧ Inv X w' (l1 ++ l'))
    (h : SM P X ops (ms.map (·.1)) (CM X l ms) (mV ms) ds K (k + 1) rest ((d, v) :: m) (updD D k v)) : SM P X ops (ms.map (·.1)) (CM X l ms) (mV ms) ds K k (o :: rest) m D :=
  SM.mkcall (s := Mk.val v) hl1 hj hk hnd hw hd hn rfl hm ho hok hc ha (fun l' w hI => (H l' w hI).mono fun e w' ⟨h1, h2⟩ => ⟨v, h1, rfl, by simpa [Mk.val] using h2⟩) (by rintro u rfl; exact h)
end
theorem SL.mk {f : FuncId} {fs cs vals : List Value} {c : Operand} {args : List Operand} {aT : Array TypeId} (s : Mk) (hw : Wants X ops o m)
    (ho : o.op = .call { callee := .value c, args := args.toArray, argTypes := aT }) (hok : CallOk P f) (hc : evM m c = some (.func (.func f) fs.toArray cs.toArray)) (ha : evL m args = some vals) (hd : o.dst = some d) (hn : d < X.n)
    (H : ∀ (l' : List Res) w, Inv X w (l ++ l') → Calls P f (fs ++ vals ++ cs).toArray w fun e w' => ∃ u, e = .returned u ∧ s.V u ∧ Inv X w' (l ++ l' ++ s.N u noD))
    (h : ∀ v, s.V v → SL P X ops Q rest ((d, v) :: m) (l ++ s.N v noD)) : SL P X ops Q (o :: rest) m l := fun a w hf hI =>
  wpList_step fun K hK => by
    rw [if_pos (hw a hf)]
    unfold Oper.wp
    rw [call_enter ho hok hc ha hf w, Oper.upon_enter]
    refine (H [] w (by rw [List.append_nil]; exact hI)).mono fun e w' ⟨u, he, hV, hI'⟩ => ?_
    subst he
    rw [hd]
    rw [List.append_nil] at hI'
    exact hK _ _ (h u hV _ _ (hf.put hn _) hI')
def Mk.ints (X : Cx) (xs : List Value) (e : TypeId) : Mk := ⟨fun u => ∃ q c, (∀ b, (Value.slice q xs.length c).ownBlock = some b → X.w0.heap.size ≤ b) ∧ u = .slice q xs.length c, fun u _ => [rRow u xs e], ⟨_, none, 0, fun b hb => by simp [Value.ownBlock] at hb, rfl⟩, [], fun _ _ _ _ => rfl⟩
def tupv (v : Value) (i : Nat) : Value := match v with
  | .tuple a => a.getD i undef
  | .agg a => a.getD i undef
  | _ => undef
def Mk.rx (X : Cx) (f : List UInt8) (b : Bool) (e : Int) (U : TypeId) : Mk := ⟨fun u => ∃ q c, (∀ b, (Value.slice q f.length c).ownBlock = some b → X.w0.heap.size ≤ b) ∧ u = .tuple #[.slice q f.length c, bo b, iw e], fun u _ => [rMine (tupv u 0) f U], ⟨_, none, 0, fun b hb => by simp [Value.ownBlock] at hb, rfl⟩, [], fun _ _ _ _ => rfl⟩
def Mk.take (X : Cx) (f : List UInt8) (b : Bool) (t e : Int) (U : TypeId) : Mk := ⟨fun u => ∃ q c, (∀ b, (Value.slice q f.length c).ownBlock = some b → X.w0.heap.size ≤ b) ∧ u = .tuple #[.agg #[.slice q f.length c, bo b, iw t], iw e], fun u _ => [rMine (tupv (tupv u 0) 0) f U], ⟨_, none, 0, fun b hb => by simp [Value.ownBlock] at hb, rfl⟩, [], fun _ _ _ _ => rfl⟩
def Mk.see (X : Cx) (n : Nat) (h g : List UInt8) (e : Int) (U : TypeId) : Mk := ⟨fun u => ∃ qh ch qd cd, (∀ b, (Value.slice qh h.length ch).ownBlock = some b → X.w0.heap.size ≤ b) ∧ (∀ b, (Value.slice qd g.length cd).ownBlock = some b → X.w0.heap.size ≤ b) ∧ u = .tuple #[.agg #[iw (n : Int), .slice qh h.length ch, .slice qd g.length cd], iw e],
  fun u _ => [rMine (tupv (tupv u 0) 1) h U, rMine (tupv (tupv u 0) 2) g U], ⟨_, none, 0, none, 0, fun b hb => by simp [Value.ownBlock] at hb, fun b hb => by simp [Value.ownBlock] at hb, rfl⟩, [], fun _ _ _ _ => rfl⟩
end
section
variable {P : Program} {X : Cx} {ops : Array Oper} {rest : List Oper} {o : Oper} {m : List (Nat × Value)} {l l1 : List Res} {v : Value} {d k : Nat}
theorem SM.uu {ms : List (Nat × Mk)} {V ds K} {D : Got} (hr : Ru P X o m l1 v) (h : SM P X ops (ms.map (·.1)) (CM X l ms) V ds K (k + 1) rest ((d, v) :: m) D) (hl1 : l ++ mOf (depOf ds k) ms D = l1 := by rfl) (hj : jsOk (depOf ds k) (depOf ds k) ms = true := by rfl) (hk : (ms.map (·.1)).contains k = false := by rfl) (hw : Wants X ops o m := by exact w_all rfl) (hd : o.dst = some d := by rfl) (hn : d < X.n := by exact lt_b rfl) : SM P X ops (ms.map (·.1)) (CM X l ms) V ds K k (o :: rest) m D := SM.ru hl1 hj hk hw hd hn hr h
end
end Go.Proofs.Ytcilikkljkdceaa

/-
  What lies between two devices, in memory: bytes that no longer change, devices and rows of frames that share them. No program is named here.
-/
namespace Go.Proofs.Ytcilikkljkdceaa
open Go.RowKit
structure Fm where
  f : List UInt8
  bad : Bool
  tick : Int
structure FmV where
  v : Value
  fr : Fm
abbrev FmV.row (x : FmV) : List Value := [x.v, bo x.fr.bad, iw x.fr.tick]
abbrev oRows (ps : List FmV) : List (List Value) := ps.map FmV.row
structure Wi where
  A0 : NicA
  A1 : NicA
  L0 : List Fm
  L1 : List Fm
  now : Int
def rZ (F : Nat → Prop) (fs : Value → List UInt8 → Prop) : Res where
  ok w := (∀ b, F b → b < w.heap.size) ∧ ∀ v f, fs v f → BytesAt w v f ∧ sliceIn v F
  fp := F
  lt w h b hb := h.1 b hb
  st w w' h hw := by
    refine ⟨fun b hb => ?_, fun v f hv => ⟨(h.2 v f hv).1.agree (h.2 v f hv).2 hw, (h.2 v f hv).2⟩⟩
    have h1 := h.1 b hb
    have h2 := hw b hb
    rw [Array.getElem?_eq_getElem h1] at h2
    exact (Array.getElem?_eq_some_iff.1 h2).1
def rDv (T : TypeId) (d : Nat) (fs : Value → List UInt8 → Prop) (A : NicA) : Res where
  ok w := ∃ tv cv, Blk w d (nc A tv cv) T ∧ ∀ i, i < 16 → fs (tv i) (A.tb i) ∧ fs (cv i) (A.cb i)
  fp b := b = d
  lt w h b hb := by obtain ⟨tv, cv, h1, _⟩ := h; subst hb; exact h1.lt
  st w w' h hw := by
    obtain ⟨tv, cv, h1, h2⟩ := h
    refine ⟨tv, cv, ?_, h2⟩
    unfold Blk; rw [hw d rfl]; exact h1
theorem dv_nic {T : TypeId} {w : World} {d : Nat} {F : Nat → Prop} {fs : Value → List UInt8 → Prop} {A : NicA} (h1 : (rDv T d fs A).ok w) (h2 : (rZ F fs).ok w) (hd : ¬ F d) : NicAt T w d F A := by
  obtain ⟨tv, cv, h3, h4⟩ := h1
  exact ⟨tv, cv, h3, hd, h2.1, fun i hi => h2.2 _ _ (h4 i hi).1, fun i hi => h2.2 _ _ (h4 i hi).2⟩
def Turned (Z : Nat → Prop) (l l' : List Res) (w w' : World) : Prop := Sep w' l' ∧ Only Z w w' ∧ ∀ r' ∈ l', ∀ b, r'.fp b → (∃ r ∈ l, r.fp b) ∨ w.heap.size ≤ b
section
variable {X : Cx} {w w' : World} {l : List Res}
theorem Inv.turned {l1 l1' : List Res} {Z : Nat → Prop} (h : Inv X w (l1 ++ l)) (t : Turned Z l1 l1' w w') (hz : ∀ b, Z b → ∃ r ∈ l1, r.fp b) (hS : ∀ b, Z b → X.S b ∨ X.w0.heap.size ≤ b) : Inv X w' (l1' ++ l) := by
  obtain ⟨h1, h2, h3⟩ := t
  have hp := List.pairwise_append.1 h.1.2
  have hlt : ∀ s ∈ l, ∀ b, s.fp b → b < w.heap.size := fun s hs b hb => s.lt w (h.1.1 s (by simp [hs])) b hb
  refine ⟨⟨fun q hq => ?_, ?_⟩, h.2.trans' h2 hS⟩
  · rcases List.mem_append.1 hq with hq | hq
    · exact h1.1 q hq
    · refine q.st w w' (h.1.1 q (by simp [hq])) (fun b hb => h2.block b (hlt q hq b hb) (fun hz' => ?_))
      obtain ⟨r, hr, hrb⟩ := hz b hz'
      exact hp.2.2 r hr q hq b hrb hb
  · rw [List.pairwise_append]
    refine ⟨h1.2, hp.2.1, fun a ha q hq b hb hc => ?_⟩
    rcases h3 a ha b hb with ⟨r, hr, hrb⟩ | hge
    · exact hp.2.2 r hr q hq b hrb hc
    · have := hlt q hq b hc; omega
theorem Sep.re {l' : List Res} (N : Nat → Prop) (j : Nat) (h : Sep w l) (hN : ∀ r ∈ l, ∀ b, r.fp b → ¬ N b) (hok : ∀ r ∈ l', r.ok w') (hfp : ∀ i r', l'[i]? = some r' → ∃ r, l[i]? = some r ∧ ∀ b, r'.fp b → r.fp b ∨ (i = j ∧ N b)) : Sep w' l' := by
  refine ⟨hok, List.pairwise_iff_getElem.2 fun a b ha hb hab k hk1 hk2 => ?_⟩
  obtain ⟨r1, e1, f1⟩ := hfp a _ (List.getElem?_eq_getElem ha)
  obtain ⟨r2, e2, f2⟩ := hfp b _ (List.getElem?_eq_getElem hb)
  obtain ⟨ha', q1⟩ := List.getElem?_eq_some_iff.1 e1
  obtain ⟨hb', q2⟩ := List.getElem?_eq_some_iff.1 e2
  have hp := List.pairwise_iff_getElem.1 h.2 a b ha' hb' hab
  rw [q1, q2] at hp
  rcases f1 k hk1 with g1 | ⟨g1, n1⟩
  · rcases f2 k hk2 with g2 | ⟨g2, n2⟩
    · exact hp k g1 g2
    · exact hN r1 (List.mem_of_getElem? e1) k g1 n2
  · rcases f2 k hk2 with g2 | ⟨g2, n2⟩
    · exact hN r2 (List.mem_of_getElem? e2) k g2 n1
    · omega
variable {T TW TO : TypeId} {wd d0 d1 c0 c1 : Nat} {q0 q1 : Option Addr} {F : Nat → Prop} {fs : Value → List UInt8 → Prop} {A0 A1 : NicA} {ps0 ps1 : List FmV} {now : Int}
abbrev WL (T TW TO : TypeId) (wd d0 d1 : Nat) (q0 : Option Addr) (c0 : Nat) (q1 : Option Addr) (c1 : Nat) (F : Nat → Prop) (fs : Value → List UInt8 → Prop) (A0 A1 : NicA) (ps0 ps1 : List FmV) (now : Int) : List Res :=
  [rBlk wd [pt d0 0, pt d1 0, .slice q0 ps0.length c0, .slice q1 ps1.length c1, iw now] TW, rDv T d0 fs A0, rDv T d1 fs A1, rRowN (.slice q0 ps0.length c0) (oRows ps0) TO 3, rRowN (.slice q1 ps1.length c1) (oRows ps1) TO 3, rZ F fs]
theorem rDv_mono {fs' : Value → List UInt8 → Prop} {d : Nat} {A : NicA} (hm : ∀ v f, fs v f → fs' v f) (h : (rDv T d fs A).ok w) : (rDv T d fs' A).ok w := by
  obtain ⟨tv, cv, h1, h2⟩ := h
  exact ⟨tv, cv, h1, fun i hi => ⟨hm _ _ (h2 i hi).1, hm _ _ (h2 i hi).2⟩⟩
theorem Inv.wl {A0' A1' : NicA} {F' : Nat → Prop} {fs' : Value → List UInt8 → Prop} (Z : Nat → Prop) (h : Inv X w (WL T TW TO wd d0 d1 q0 c0 q1 c1 F fs A0 A1 ps0 ps1 now ++ l)) (hO : Only Z w w') (hZ : ∀ b, Z b → b = d0 ∨ b = d1) (hS : ∀ b, Z b → X.S b ∨ X.w0.heap.size ≤ b)
    (h0 : (rDv T d0 fs' A0').ok w') (h1 : (rDv T d1 fs' A1').ok w') (hF : (rZ F' fs').ok w') (hF' : ∀ b, F' b → F b ∨ w.heap.size ≤ b) : Inv X w' (WL T TW TO wd d0 d1 q0 c0 q1 c1 F' fs' A0' A1' ps0 ps1 now ++ l) := by
  have hp := List.pairwise_iff_getElem.1 h.1.2
  have hlt : ∀ r ∈ WL T TW TO wd d0 d1 q0 c0 q1 c1 F fs A0 A1 ps0 ps1 now ++ l, ∀ b, r.fp b → b < w.heap.size := fun r hr b hb => r.lt w (h.1.1 r hr) b hb
  -- what is none of the devices stays
  have hst : ∀ i r, (WL T TW TO wd d0 d1 q0 c0 q1 c1 F fs A0 A1 ps0 ps1 now ++ l)[i]? = some r → i ≠ 1 → i ≠ 2 → r.ok w' := by
    intro i r hi n1 n2
    have hm := List.mem_of_getElem? hi
    obtain ⟨hil, ei⟩ := List.getElem?_eq_some_iff.1 hi
    refine r.st w w' (h.1.1 r hm) fun b hb => hO.block b (hlt r hm b hb) fun hz => ?_
    rcases hZ b hz with e | e
    · rcases Nat.lt_or_gt_of_ne n1 with g | g
      · exact hp i 1 hil (by simp) g b (by rw [ei]; exact hb) (by show b = d0; exact e)
      · exact hp 1 i (by simp) hil g b (by show b = d0; exact e) (by rw [ei]; exact hb)
    · rcases Nat.lt_or_gt_of_ne n2 with g | g
      · exact hp i 2 hil (by simp) g b (by rw [ei]; exact hb) (by show b = d1; exact e)
      · exact hp 2 i (by simp) hil g b (by show b = d1; exact e) (by rw [ei]; exact hb)
  refine ⟨Sep.re (fun b => w.heap.size ≤ b) 5 h.1 (fun r hr b hb hn => by have := hlt r hr b hb; omega) (fun r hr => ?_) (fun i r' hi => ?_), h.2.trans' hO hS⟩
  · obtain ⟨i, hi⟩ := List.mem_iff_getElem?.1 hr
    match i, hi with
    | 0, hi => cases hi; exact hst 0 _ rfl (by decide) (by decide)
    | 1, hi => cases hi; exact h0
    | 2, hi => cases hi; exact h1
    | 3, hi => cases hi; exact hst 3 _ rfl (by decide) (by decide)
    | 4, hi => cases hi; exact hst 4 _ rfl (by decide) (by decide)
    | 5, hi => cases hi; exact hF
    | i + 6, hi => exact hst (i + 6) r hi (by omega) (by omega)
  · match i, hi with
    | 0, hi => cases hi; exact ⟨_, rfl, fun b hb => .inl hb⟩
    | 1, hi => cases hi; exact ⟨_, rfl, fun b hb => .inl hb⟩
    | 2, hi => cases hi; exact ⟨_, rfl, fun b hb => .inl hb⟩
    | 3, hi => cases hi; exact ⟨_, rfl, fun b hb => .inl hb⟩
    | 4, hi => cases hi; exact ⟨_, rfl, fun b hb => .inl hb⟩
    | 5, hi => cases hi; exact ⟨_, rfl, fun b hb => (hF' b hb).imp id fun e => ⟨rfl, e⟩⟩
    | i + 6, hi => exact ⟨r', hi, fun b hb => .inl hb⟩
theorem WL.nic0 (h : Inv X w (WL T TW TO wd d0 d1 q0 c0 q1 c1 F fs A0 A1 ps0 ps1 now ++ l)) : NicAt T w d0 F A0 :=
  dv_nic (h.1.get (i := 1) rfl) (h.1.get (i := 5) rfl) fun hF => List.pairwise_iff_getElem.1 h.1.2 1 5 (by simp) (by simp) (by decide) d0 rfl hF
theorem WL.nic1 (h : Inv X w (WL T TW TO wd d0 d1 q0 c0 q1 c1 F fs A0 A1 ps0 ps1 now ++ l)) : NicAt T w d1 F A1 :=
  dv_nic (h.1.get (i := 2) rfl) (h.1.get (i := 5) rfl) fun hF => List.pairwise_iff_getElem.1 h.1.2 2 5 (by simp) (by simp) (by decide) d1 rfl hF
theorem WL.ne (h : Inv X w (WL T TW TO wd d0 d1 q0 c0 q1 c1 F fs A0 A1 ps0 ps1 now ++ l)) : d0 ≠ d1 := fun e => List.pairwise_iff_getElem.1 h.1.2 1 2 (by simp) (by simp) (by decide) d0 rfl e
theorem WL.turn0 {A' : NicA} {F1 : Nat → Prop} {g : Value → List UInt8 → Prop} (h : Inv X w (WL T TW TO wd d0 d1 q0 c0 q1 c1 F fs A0 A1 ps0 ps1 now ++ l)) (hS : X.S d0 ∨ X.w0.heap.size ≤ d0) (k : NicAt T w' d0 F1 A') (hF1 : ∀ b, F1 b → F b ∨ w.heap.size ≤ b) (hO : Only (fun b => b = d0) w w') (hg : ∀ v f, g v f → BytesAt w' v f ∧ sliceIn v F1) :
    ∃ F' fs', (∀ v f, fs v f ∨ g v f → fs' v f) ∧ Inv X w' (WL T TW TO wd d0 d1 q0 c0 q1 c1 F' fs' A' A1 ps0 ps1 now ++ l) ∧ ∀ b, F' b → F b ∨ w.heap.size ≤ b := by
  obtain ⟨tv, cv, k1, k2, k3⟩ := k
  have hz : (rZ F fs).ok w' := (rZ F fs).st w w' (h.1.get (i := 5) rfl) fun b hb => hO.block b ((rZ F fs).lt w (h.1.get (i := 5) rfl) b hb) fun e => List.pairwise_iff_getElem.1 h.1.2 1 5 (by simp) (by simp) (by decide) b e hb
  refine ⟨fun b => F b ∨ F1 b, fun v f => (fs v f ∨ g v f) ∨ ∃ i, i < 16 ∧ (v = tv i ∧ f = A'.tb i ∨ v = cv i ∧ f = A'.cb i), fun v f hv => .inl hv, ?_, fun b hb => hb.elim .inl (hF1 b)⟩
  refine Inv.wl (fun b => b = d0) h hO (fun b hb => .inl hb) (fun b hb => hb ▸ hS) ⟨tv, cv, k1, fun i hi => ⟨.inr ⟨i, hi, .inl ⟨rfl, rfl⟩⟩, .inr ⟨i, hi, .inr ⟨rfl, rfl⟩⟩⟩⟩ ?_ ⟨fun b hb => hb.elim (hz.1 b) (k3.1 b), fun v f hv => ?_⟩ (fun b hb => hb.elim .inl (hF1 b))
  · exact rDv_mono (fun v f hv => .inl (.inl hv)) ((rDv T d1 fs A1).st w w' (h.1.get (i := 2) rfl) fun b hb => hO.block b ((rDv T d1 fs A1).lt w (h.1.get (i := 2) rfl) b hb) fun e => WL.ne h (e.symm.trans hb))
  · rcases hv with (hv | hv) | ⟨i, hi, ⟨rfl, rfl⟩ | ⟨rfl, rfl⟩⟩
    · exact ⟨(hz.2 v f hv).1, fun b o n c e hn => .inl ((hz.2 v f hv).2 b o n c e hn)⟩
    · exact ⟨(hg v f hv).1, fun b o n c e hn => .inr ((hg v f hv).2 b o n c e hn)⟩
    · exact ⟨(k3.2.1 i hi).1, fun b o n c e hn => .inr ((k3.2.1 i hi).2 b o n c e hn)⟩
    · exact ⟨(k3.2.2 i hi).1, fun b o n c e hn => .inr ((k3.2.2 i hi).2 b o n c e hn)⟩
theorem WL.turn1 {A' : NicA} {F1 : Nat → Prop} {g : Value → List UInt8 → Prop} (h : Inv X w (WL T TW TO wd d0 d1 q0 c0 q1 c1 F fs A0 A1 ps0 ps1 now ++ l)) (hS : X.S d1 ∨ X.w0.heap.size ≤ d1) (k : NicAt T w' d1 F1 A') (hF1 : ∀ b, F1 b → F b ∨ w.heap.size ≤ b) (hO : Only (fun b => b = d1) w w') (hg : ∀ v f, g v f → BytesAt w' v f ∧ sliceIn v F1) :
    ∃ F' fs', (∀ v f, fs v f ∨ g v f → fs' v f) ∧ Inv X w' (WL T TW TO wd d0 d1 q0 c0 q1 c1 F' fs' A0 A' ps0 ps1 now ++ l) ∧ ∀ b, F' b → F b ∨ w.heap.size ≤ b := by
  obtain ⟨tv, cv, k1, k2, k3⟩ := k
  have hz : (rZ F fs).ok w' := (rZ F fs).st w w' (h.1.get (i := 5) rfl) fun b hb => hO.block b ((rZ F fs).lt w (h.1.get (i := 5) rfl) b hb) fun e => List.pairwise_iff_getElem.1 h.1.2 2 5 (by simp) (by simp) (by decide) b e hb
  refine ⟨fun b => F b ∨ F1 b, fun v f => (fs v f ∨ g v f) ∨ ∃ i, i < 16 ∧ (v = tv i ∧ f = A'.tb i ∨ v = cv i ∧ f = A'.cb i), fun v f hv => .inl hv, ?_, fun b hb => hb.elim .inl (hF1 b)⟩
  refine Inv.wl (fun b => b = d1) h hO (fun b hb => .inr hb) (fun b hb => hb ▸ hS) ?_ ⟨tv, cv, k1, fun i hi => ⟨.inr ⟨i, hi, .inl ⟨rfl, rfl⟩⟩, .inr ⟨i, hi, .inr ⟨rfl, rfl⟩⟩⟩⟩ ⟨fun b hb => hb.elim (hz.1 b) (k3.1 b), fun v f hv => ?_⟩ (fun b hb => hb.elim .inl (hF1 b))
  · exact rDv_mono (fun v f hv => .inl (.inl hv)) ((rDv T d0 fs A0).st w w' (h.1.get (i := 1) rfl) fun b hb => hO.block b ((rDv T d0 fs A0).lt w (h.1.get (i := 1) rfl) b hb) fun e => WL.ne h (hb.symm.trans e))
  · rcases hv with (hv | hv) | ⟨i, hi, ⟨rfl, rfl⟩ | ⟨rfl, rfl⟩⟩
    · exact ⟨(hz.2 v f hv).1, fun b o n c e hn => .inl ((hz.2 v f hv).2 b o n c e hn)⟩
    · exact ⟨(hg v f hv).1, fun b o n c e hn => .inr ((hg v f hv).2 b o n c e hn)⟩
    · exact ⟨(k3.2.1 i hi).1, fun b o n c e hn => .inr ((k3.2.1 i hi).2 b o n c e hn)⟩
    · exact ⟨(k3.2.2 i hi).1, fun b o n c e hn => .inr ((k3.2.2 i hi).2 b o n c e hn)⟩
end
end Go.Proofs.Ytcilikkljkdceaa

/-
  A region that draws its order: an operation that but picks apart what lies in slots may be taken ahead of another, as soon as it is ready. No program is named here.
-/
namespace Go.Proofs.Ytcilikkljkdceaa
open Go.RowKit
def addE1 (k0 i0 : Nat) : Nat → List Oper → List Oper
  | _, [] => []
  | k, o :: r => (bif Nat.beq k k0 then { o with after := o.after.push ⟨i0, .data⟩ } else o) :: addE1 k0 i0 (k + 1) r
def addEs : List (Nat × Nat) → List Oper → List Oper
  | [], L => L
  | (k0, i0) :: r, L => addEs r (addE1 k0 i0 0 L)
def onlyN (Q : Exit → Act → World → Prop) : Exit → Act → World → Prop
  | .normal, a, w => Q .normal a w
  | _, _, _ => False
def pureB : Op → Bool
  | .extract _ _ => true
  | .move _ => true
  | _ => false
def edgeOk (L : List Oper) (k0 i0 : Nat) : Bool :=
  Region.noSelect L.toArray && !Nat.beq k0 i0 && (match L[i0]? with
    | some oi => pureB oi.op && oi.guard.isNone && (oi.after.all fun e => !Region.binds .any e || reachB .any L.toArray 3 k0 e.on) &&
      (List.range L.length).all fun j => Nat.beq j i0 || reachB .any L.toArray 3 i0 j || (match L[j]? with
        | some oj => oj.after.any (fun e => Region.binds .any e && Nat.beq e.on i0) || oi.apart L.toArray oj
        | none => true)
    | none => false)
def edgesOk : List (Nat × Nat) → List Oper → Bool
  | [], _ => true
  | (k0, i0) :: r, L => edgeOk L k0 i0 && edgesOk r (addE1 k0 i0 0 L)
theorem addE1_get (k0 i0 : Nat) : ∀ (L : List Oper) (k j : Nat), (addE1 k0 i0 k L)[j]? = (L[j]?).map fun o => bif Nat.beq (k + j) k0 then { o with after := o.after.push ⟨i0, .data⟩ } else o
  | [], _, _ => by simp [addE1]
  | o :: r, k, 0 => by simp [addE1]
  | o :: r, k, j + 1 => by
    simp only [addE1, List.getElem?_cons_succ]
    rw [addE1_get k0 i0 r (k + 1) j, show k + 1 + j = k + (j + 1) by omega]
theorem addE1_len (k0 i0 : Nat) : ∀ (L : List Oper) (k : Nat), (addE1 k0 i0 k L).length = L.length
  | [], _ => rfl
  | o :: r, k => by simp [addE1, addE1_len k0 i0 r (k + 1)]
section
variable {P : Program} {L : List Oper} {k0 i0 : Nat} {Q : Exit → Act → World → Prop}
theorem get1 {j : Nat} {o : Oper} (h : L[j]? = some o) : ∃ e, (addE1 k0 i0 0 L)[j]? = some { o with after := e } ∧ (j ≠ k0 → e = o.after) ∧ (j = k0 → e = o.after.push ⟨i0, .data⟩) := by
  have h1 := addE1_get k0 i0 L 0 j
  rw [h, Nat.zero_add] at h1
  cases hb : Nat.beq j k0
  · rw [hb] at h1
    have hne : j ≠ k0 := fun e => by subst e; simp at hb
    exact ⟨o.after, h1, fun _ => rfl, fun e => absurd e hne⟩
  · rw [hb] at h1
    have e : j = k0 := Nat.eq_of_beq_eq_true hb
    exact ⟨_, h1, fun hne => absurd e hne, fun _ => rfl⟩
theorem yielded1 (tm : Array Value) : yielded (addE1 k0 i0 0 L).toArray tm = yielded L.toArray tm := by
  funext j
  unfold yielded
  have : ((addE1 k0 i0 0 L).toArray[j]?).bind (·.dst) = (L.toArray[j]?).bind (·.dst) := by
    simp only [List.getElem?_toArray]
    rw [addE1_get, Nat.zero_add]
    cases L[j]? with
    | none => rfl
    | some o => cases hb : Nat.beq j k0 <;> simp [hb]
  rw [this]
theorem wpOp1 {i : Nat} {K : Act → World → Prop} {a : Act} {w : World} (h : wpOp P (addE1 k0 i0 0 L).toArray Q i K a w) : wpOp P L.toArray Q i K a w := by
  unfold wpOp at h ⊢
  simp only [List.getElem?_toArray] at h ⊢
  cases ho : L[i]? with
  | none =>
    have : (addE1 k0 i0 0 L)[i]? = none := by rw [addE1_get, ho]; rfl
    rw [this] at h
    exact h
  | some o =>
    obtain ⟨e, h1, _⟩ := get1 (k0 := k0) (i0 := i0) ho
    rw [h1] at h
    simp only [yielded1] at h
    exact h
theorem pure_run {o : Oper} (h : pureB o.op = true) (ρ : Operand → Value) : (∃ v, ∀ w, (execOp ρ o).run P w = .ok (.value v) w) ∨ ∀ w, ∃ x, (execOp ρ o).run P w = .halt x w := by
  cases ho : o.op <;> rw [ho] at h <;> simp only [pureB, Bool.false_eq_true] at h
  case extract x i =>
    unfold execOp
    rw [ho]
    simp only
    cases hx : ρ x <;> simp only [Instr.extract] <;> try exact .inr fun w => ⟨_, rfl⟩
    rename_i vs
    cases hv : vs[i]? with
    | none => exact .inr fun w => by simp only [hv]; exact ⟨_, rfl⟩
    | some v => exact .inl ⟨v, fun w => by simp only [hv]; rfl⟩
  case move x =>
    refine .inl ⟨ρ x, fun w => ?_⟩
    unfold execOp; rw [ho]; rfl
theorem onlyN_mono {ops : Array Oper} : ∀ (fuel : Nat) (listed : Array Bool) (a : Act) (w : World), wpAny P .any ops (onlyN Q) fuel listed a w → wpAny P .any ops Q fuel listed a w := by
  have up : ∀ {o : Oper} {a : Act} {w : World} {K K' : Act → World → Prop}, (∀ a w, K a w → K' a w) → (o.wp P a w K (onlyN Q) ∨ (o.asks P a w ∧ LetsOut (onlyN Q))) → (o.wp P a w K' Q ∨ (o.asks P a w ∧ LetsOut Q)) := by
    intro o a w K K' hK h
    rcases h with h | ⟨_, ⟨a, w, h⟩⟩
    · left
      unfold Oper.wp at h ⊢
      generalize (execOp a.eval o).run P w = r at *
      cases r with
      | ok n w' =>
        cases n <;> simp only [Oper.upon] at h ⊢ <;> first | exact hK _ _ h | exact h.elim | skip
        · refine h.mono fun e w'' he => ?_
          cases e with
          | returned v => exact hK _ _ he
          | panicked c => exact he.elim
          | outgrown => obtain ⟨a, w, h⟩ := he; exact h.elim
        · exact h.mono fun v w'' he => hK _ _ he
      | halt x w' => cases x <;> simp only [Oper.upon] at h ⊢ <;> exact h.elim
    · exact h.elim
  have opm : ∀ {i : Nat} {a : Act} {w : World} {K K' : Act → World → Prop}, (∀ a w, K a w → K' a w) → wpOp P ops (onlyN Q) i K a w → wpOp P ops Q i K' a w := by
    intro i a w K K' hK h
    unfold wpOp at *
    split
    · rename_i ho; simp only [ho] at h; exact hK _ _ h
    · rename_i o ho
      simp only [ho] at h
      split
      · rename_i hw; simp only [hw, if_true] at h; exact up hK h
      · rename_i hw; simp only [hw] at h; exact hK _ _ h
  intro fuel
  induction fuel with
  | zero => intro listed a w h; exact h
  | succ f ih => intro listed a w h; exact ⟨fun h0 => h.1 h0, fun i hi => opm (ih _) (h.2 i hi)⟩
theorem wpAny_edge (hok : edgeOk L k0 i0 = true) : ∀ (fuel : Nat) (listed : Array Bool) (a : Act) (w : World), listed.size = L.length → ShutM .any L.toArray listed → wpAny P .any (addE1 k0 i0 0 L).toArray (onlyN Q) fuel listed a w → wpAny P .any L.toArray (onlyN Q) fuel listed a w := by
  simp only [edgeOk, Bool.and_eq_true, Bool.not_eq_true'] at hok
  obtain ⟨⟨hsel, hne⟩, hrest⟩ := hok
  have hki : k0 ≠ i0 := fun e => by subst e; simp at hne
  cases hoi : L[i0]? with
  | none => rw [hoi] at hrest; simp at hrest
  | some oi =>
    rw [hoi] at hrest
    simp only [Bool.and_eq_true] at hrest
    obtain ⟨⟨⟨hpure, hguard⟩, hpre⟩, hfree⟩ := hrest
    have hoi' : L.toArray[i0]? = some oi := by simpa using hoi
    have ready_of : ∀ (listed : Array Bool) (j : Nat), j ∈ Region.ready .any (addE1 k0 i0 0 L).toArray listed → j ∈ Region.ready .any L.toArray listed := by
      intro listed j hj
      obtain ⟨h1, o', h2, h3⟩ := mem_ready.1 hj
      simp only [List.getElem?_toArray] at h2
      cases hoj : L[j]? with
      | none => rw [addE1_get, hoj] at h2; cases h2
      | some oj =>
        obtain ⟨e, g1, g2, g3⟩ := get1 (k0 := k0) (i0 := i0) hoj
        rw [g1] at h2; cases h2
        refine mem_ready.2 ⟨h1, oj, by simpa using hoj, fun x hx hb => h3 x ?_ hb⟩
        by_cases ejk : j = k0
        · rw [g3 ejk]; simp [hx]
        · rw [g2 ejk]; exact hx
    have ready_if : ∀ (listed : Array Bool) (j : Nat), j ∈ Region.ready .any L.toArray listed → (j = k0 → listed.getD i0 false = true) → j ∈ Region.ready .any (addE1 k0 i0 0 L).toArray listed := by
      intro listed j hj hjk
      obtain ⟨h1, oj, h2, h3⟩ := mem_ready.1 hj
      simp only [List.getElem?_toArray] at h2
      obtain ⟨e, g1, g2, g3⟩ := get1 (k0 := k0) (i0 := i0) h2
      refine mem_ready.2 ⟨h1, _, by simpa using g1, fun x hx hb => ?_⟩
      by_cases ejk : j = k0
      · simp only [g3 ejk, Array.mem_push] at hx
        rcases hx with hx | rfl
        · exact h3 x hx hb
        · exact hjk ejk
      · simp only [g2 ejk] at hx
        exact h3 x hx hb
    have hblock : ∀ (listed : Array Bool) (j : Nat), listed.size = L.length → ShutM .any L.toArray listed → j ∈ Region.ready .any L.toArray listed → i0 ∉ Region.ready .any L.toArray listed → j = k0 → listed.getD i0 false = true := by
      intro listed j hsz hs hj hni ejk
      subst ejk
      obtain ⟨_, ok, hok, hall⟩ := mem_ready.1 hj
      have hilt : i0 < L.length := (List.getElem?_eq_some_iff.1 hoi).1
      cases hl : listed.getD i0 false with
      | true => rfl
      | false =>
        exfalso
        refine hni (mem_ready.2 ⟨?_, oi, hoi', fun e he hb => ?_⟩)
        · have hlt : i0 < listed.size := by omega
          simpa [hlt] using hl
        · have h1 := Array.all_eq_true_iff_forall_mem.1 hpre e he
          simp only [Bool.or_eq_true, Bool.not_eq_true'] at h1
          rcases h1 with h1 | h1
          · rw [h1] at hb; cases hb
          · exact reach_listed hs 3 _ _ ok hok hall h1
    intro fuel
    induction fuel with
    | zero =>
      intro listed a w hsz hs h
      refine ⟨?_, h.2⟩
      by_cases hnil : Region.ready .any L.toArray listed = []
      · exact hnil
      · obtain ⟨j, hj⟩ := List.exists_mem_of_ne_nil _ hnil
        exfalso
        by_cases hi : i0 ∈ Region.ready .any L.toArray listed
        · have := ready_if listed i0 hi (fun e => absurd e.symm hki)
          rw [h.1] at this; cases this
        · have := ready_if listed j hj (hblock listed j hsz hs hj hi)
          rw [h.1] at this; cases this
    | succ f ih =>
      intro listed a w hsz hs h
      by_cases hi : i0 ∈ Region.ready .any L.toArray listed
      · have h1 := wpOp1 (h.2 i0 (ready_if listed i0 hi (fun e => absurd e.symm hki)))
        unfold wpOp at h1
        have hw : Region.wanted oi (yielded L.toArray a.tmps) = true := by
          cases hg : oi.guard with
          | none => simp [Region.wanted, hg]
          | some g => rw [hg] at hguard; simp at hguard
        simp only [hoi', hw, if_true] at h1
        rcases h1 with h1 | ⟨_, ⟨a, w, h1⟩⟩
        · rcases pure_run (P := P) hpure a.eval with ⟨v, hv⟩ | hv
          · unfold Oper.wp at h1
            rw [hv w, Oper.upon_value] at h1
            refine wpAny_first hoi' (Region.noSelect_spec hsel) (fun c a w h => h.elim) f listed a w (fun j oj hj hji hun hno => ?_) hi (.inl ⟨hw, hv⟩) (ih _ _ _ (by simpa using hsz) (hs.set hi) h1)
            have hjl : j < L.length := by have := (Array.getElem?_eq_some_iff.1 hj).1; simpa using this
            have h2 := List.all_eq_true.1 hfree j (List.mem_range.2 hjl)
            simp only [List.getElem?_toArray] at hj
            rw [hj] at h2
            simp only [Bool.or_eq_true, Array.any_eq_true, Bool.and_eq_true] at h2
            rcases h2 with (h2 | h2) | ⟨q, hq, h2, h3⟩ | h2
            · exact absurd (Nat.eq_of_beq_eq_true h2) hji
            · obtain ⟨_, o', ho', hall⟩ := mem_ready.1 hi
              have h4 := reach_listed hs 3 _ _ o' ho' hall h2
              have hjl' : j < listed.size := by omega
              simp [hjl'] at h4 hun
              rw [h4] at hun; cases hun
            · exact absurd (Nat.eq_of_beq_eq_true h3) (hno _ (Array.getElem_mem hq) h2)
            · exact h2
          · obtain ⟨x, hx⟩ := hv w
            unfold Oper.wp at h1
            rw [hx] at h1
            cases x <;> simp only [Oper.upon] at h1 <;> exact h1.elim
        · exact h1.elim
      · refine ⟨fun h0 => h.1 ?_, fun i hi' => ?_⟩
        · cases hr : Region.ready .any (addE1 k0 i0 0 L).toArray listed with
          | nil => rfl
          | cons x xs =>
            have := ready_of listed x (by rw [hr]; simp)
            rw [h0] at this; cases this
        · exact wpOp_mono (fun a w hh => ih (listed.setIfInBounds i true) a w (by simpa using hsz) (hs.set hi') hh) (wpOp1 (h.2 i (ready_if listed i hi' (hblock listed i hsz hs hi' hi))))
theorem addEs_len : ∀ (ex : List (Nat × Nat)) (L : List Oper), (addEs ex L).length = L.length
  | [], _ => rfl
  | (k0, i0) :: r, L => by unfold addEs; rw [addEs_len r, addE1_len]
theorem wpAny_edges : ∀ (ex : List (Nat × Nat)) (L : List Oper), edgesOk ex L = true → ∀ (fuel : Nat) (a : Act) (w : World), wpAny P .any (addEs ex L).toArray (onlyN Q) fuel (Array.replicate L.length false) a w → wpAny P .any L.toArray (onlyN Q) fuel (Array.replicate L.length false) a w
  | [], L, _, _, _, _, h => h
  | (k0, i0) :: r, L, hok, fuel, a, w, h => by
    simp only [edgesOk, Bool.and_eq_true] at hok
    unfold addEs at h
    have h1 := wpAny_edges r (addE1 k0 i0 0 L) hok.2 fuel a w (by rw [addE1_len]; exact h)
    rw [addE1_len] at h1
    exact wpAny_edge hok.1 fuel _ a w (by simp) shut0 h1
end
section
variable {P : Program} {X : Cx} {Q : Exit → Act → World → Prop} {m : List (Nat × Value)} {l : List Res}
theorem wp_region_mk_tailE {id : Nat} {a : Act} {w : World} {L : List Oper} (ex : List (Nat × Nat)) (n : Nat) (sp : List Nat) (C : Got → World → Prop) (V : Nat → Value → Prop) (ds : List (Nat × List Nat)) (hm : P.follows .mixedOrders = true) (hok : edgesOk ex L = true) (hB : Region.lexTailB .any (addEs ex L).toArray n = true)
    (hd : depB .any (addEs ex L).toArray ds = true) (hdown : ∀ D j u w, C (updD D j u) w → D j = none → (∀ k, D k ≠ none → j ∉ depOf ds k) → C D w) (hC : C noD { w with drawn := w.drawn + 1 })
    (h : wpMk P (addEs ex L).toArray sp C V (depOf ds) (fun a' D => ∀ w', C D w' → wpList P (addEs ex L).toArray (onlyN Q) ((addEs ex L).drop n) a' w') 0 ((addEs ex L).take n) a noD) : (Code.region id L.toArray true).wp P Q a w := by
  refine wp_region_any hm ?_
  refine onlyN_mono _ _ _ _ ?_
  have key := wpAny_edges (P := P) (Q := Q) ex L hok L.toArray.size a { w with drawn := w.drawn + 1 }
  simp only [List.size_toArray] at key ⊢
  refine key ?_
  have := wpAny_mk_tail (Q := onlyN Q) n sp C V ds hB hd hdown hC h
  rw [addEs_len] at this
  exact this
theorem SC.region_mk_tailE {id : Nat} {L : List Oper} (ex : List (Nat × Nat)) (n : Nat) (ms : List (Nat × Mk)) (ds : List (Nat × List Nat)) (hnd : mNodup ms = true) (hdp : dpOk ms ds = true) (hde : depB .any (addEs ex L).toArray ds = true) (hm : P.follows .mixedOrders = true) (hok : edgesOk ex L = true) (hB : Region.lexTailB .any (addEs ex L).toArray n = true)
    (h : SM P X (addEs ex L).toArray (ms.map (·.1)) (CM X l ms) (mV ms) ds (fun a' D => ∀ w', CM X l ms D w' → wpList P (addEs ex L).toArray (onlyN Q) ((addEs ex L).drop n) a' w') 0 ((addEs ex L).take n) m noD) : SC P X (.region id L.toArray true) Q m l := fun a w hf hi => by
  refine wp_region_mk_tailE ex n (ms.map (·.1)) (CM X l ms) (mV ms) ds hm hok hB hde (CM.down hnd hdp) ?_ (h a hf)
  · unfold CM
    have : mNews ms noD = [] := by
      clear h hi hnd hdp
      induction ms with
      | nil => rfl
      | cons x r ih => obtain ⟨j, s⟩ := x; simp only [mNews, noD, List.nil_append]; exact ih
    rw [this, List.append_nil]
    exact ⟨hi.draw1, fun x _ hne => absurd rfl hne⟩
theorem SE.onlyN (h : SE X Q .normal m l) : SE X (onlyN Q) .normal m l := h
end
end Go.Proofs.Ytcilikkljkdceaa

/-
  The light machine where code is no plain activation's: a round of a loop over a function; an activation behind such a loop (a mark among its calls that are put off). No program is named here.
-/
namespace Go.Proofs.Ytcilikkljkdceaa
open Go.RowKit
structure Rd where
  l : Option Nat
  ds : List Deferred
def Rd.F (Z : Rd) : Fence := { Fence.wide with round := Z.l }
def sh (Z : Rd) (a : Act) : Act := { a with defers := a.defers ++ Z.ds }
def shQ (Z : Rd) (Q : Exit → Act → World → Prop) : Exit → Act → World → Prop := fun e a w => Q e (sh Z a) w
def NoOut (Q : Exit → Act → World → Prop) : Prop := ∀ a w, ¬ Q .outgrown a w
def ndf (o : Oper) : Bool := match o.op with | .defer _ => false | _ => true
theorem ndf_spec {o : Oper} (h : ndf o = true) : ∀ c, o.op ≠ .defer c := fun c hc => by unfold ndf at h; rw [hc] at h; cases h
theorem sh_eval (Z : Rd) (a : Act) : (sh Z a).eval = a.eval := by funext x; cases x <;> rfl
theorem sh_put (Z : Rd) (a : Act) (d : Option Tmp) (v : Value) : (sh Z a).put d v = sh Z (a.put d v) := by cases d <;> rfl
theorem callsIn_Z {Z : Rd} {n : Nat} {P : Program} {f : FuncId} {args : Array Value} {w : World} {R : Ending → World → Prop} (h : Calls P f args w R) : CallsIn Z.F n P f args w R := callsIn_wide (n := n).2 h
theorem fenced_Z {Z : Rd} {P : Program} : Machine.fenced P Z.F = Machine.fenced P Fence.wide := rfl
theorem rowsIn_Z {Z : Rd} {n : Nat} {P : Program} {row : String} {args : Array Value} {w : World} {R : Value → World → Prop} (h : Rows P row args w R) : RowsIn Z.F n P row args w R := fun c cs _ =>
  let ⟨v, w', r, s⟩ := h c cs
  ⟨v, w', r, by rw [fenced_Z]; exact stepsIn_wide.2 s⟩
section
variable {P : Program} {Z : Rd} {ops : Array Oper} {Q : Exit → Act → World → Prop} {a : Act} {w : World}
theorem op_lift {o : Oper} {K K' : Act → World → Prop} (hnd : ndf o = true) (hK : ∀ a w, K a w → K' (sh Z a) w) (ho : NoOut Q) (h : o.wp P a w K (shQ Z Q)) : o.wpIn Z.F 0 P (sh Z a) w K' Q := by
  refine ⟨fun _ _ => trivial, ?_⟩
  have e : Oper.semAt Z.F.round (sh Z a).eval o = execOp a.eval o := by rw [sh_eval]; exact Oper.semAt_eq _ _ _ (ndf_spec hnd)
  rw [e]
  unfold Oper.wp at h
  generalize (execOp a.eval o).run P w = r at h ⊢
  cases r with
  | ok x w' =>
    cases x <;> simp only [Oper.upon] at h <;> simp only [Oper.uponIn]
    case value v => rw [sh_put]; exact hK _ _ h
    case skip => rw [sh_put]; exact hK _ _ h
    case defer d =>
      show K' ((sh Z { tmps := a.tmps, defers := d :: a.defers }).put o.dst undef) w'
      rw [sh_put]; exact hK _ _ h
    case enter f args =>
      refine ⟨fun hd => (by cases hd), callsIn_Z (h.mono fun e w'' he => ?_)⟩
      cases e with
      | returned v => dsimp only at he ⊢; rw [sh_put]; exact hK _ _ he
      | panicked c => exact he
      | outgrown => obtain ⟨a0, w0, h0⟩ := he; exact absurd h0 (ho _ _)
    case row row args => exact ⟨fun hd => (by cases hd), rowsIn_Z (h.mono fun v w'' he => by rw [sh_put]; exact hK _ _ he)⟩
  | halt x w' =>
    cases x <;> simp only [Oper.upon] at h <;> simp only [Oper.uponIn]
    case panic v => exact h
theorem noLets (ho : NoOut Q) : ¬ LetsOut (shQ Z Q) := fun ⟨a, w, h⟩ => ho _ _ h
def hdQ (Z : Rd) (P : Program) (ops : Array Oper) (Q : Exit → Act → World → Prop) (L2 : List Oper) : Exit → Act → World → Prop
  | .normal, a, w => wpListIn Z.F 0 P ops Q L2 (sh Z a) w
  | e, a, w => Q e (sh Z a) w
theorem list_lift (ho : NoOut Q) {L2 : List Oper} : ∀ (L1 : List Oper) (a : Act) (w : World), (L1.all ndf = true) → wpList P ops (hdQ Z P ops Q L2) L1 a w → wpListIn Z.F 0 P ops Q (L1 ++ L2) (sh Z a) w
  | [], a, w, _, h => h
  | o :: r, a, w, hnd, h => by
    simp only [List.all_cons, Bool.and_eq_true] at hnd
    simp only [List.cons_append, wpListIn, wpList] at h ⊢
    show if Region.wanted o (yielded ops a.tmps) = true then _ else _
    split
    · rename_i hw
      rw [if_pos hw] at h
      rcases h with h | h
      · have key : ∀ (Q1 : Exit → Act → World → Prop), (∀ c a w, Q1 (.panic c) a w → Q (.panic c) (sh Z a) w) → (¬ LetsOut Q1) → o.wp P a w (wpList P ops (hdQ Z P ops Q L2) r) Q1 → o.wp P a w (wpList P ops (hdQ Z P ops Q L2) r) (shQ Z Q) := by
          intro Q1 h1 h2 h3
          unfold Oper.wp at h3 ⊢
          generalize (execOp a.eval o).run P w = z at h3 ⊢
          cases z with
          | ok x w' =>
            cases x <;> simp only [Oper.upon] at h3 ⊢ <;> try exact h3
            refine h3.mono fun e w'' he => ?_
            cases e with
            | returned v => exact he
            | panicked c => exact h1 _ _ _ he
            | outgrown => exact absurd he h2
          | halt x w' =>
            cases x <;> simp only [Oper.upon] at h3 ⊢
            exact h1 _ _ _ h3
        exact op_lift hnd.1 (fun a' w' hk => list_lift ho r a' w' hnd.2 hk) ho (key (hdQ Z P ops Q L2) (fun c a w hc => hc) (fun ⟨a, w, h⟩ => ho _ _ h) h)
      · exact absurd h.2 (fun ⟨a, w, h⟩ => ho _ _ h)
    · rename_i hw
      rw [if_neg hw] at h
      refine ⟨fun _ _ => trivial, ?_⟩
      rw [sh_put]
      exact list_lift ho r _ w hnd.2 h
theorem op_liftAt (ho : NoOut Q) {i : Nat} {K K' : Act → World → Prop} (hnd : ∀ o, ops[i]? = some o → ndf o = true) (hK : ∀ a w, K a w → K' (sh Z a) w) (h : wpOp P ops (shQ Z Q) i K a w) : wpOpIn Z.F 0 P ops Q i K' (sh Z a) w := by
  unfold wpOp at h
  unfold wpOpIn
  cases hi : ops[i]? with
  | none => rw [hi] at h; exact hK _ _ h
  | some o =>
    rw [hi] at h
    dsimp only at h ⊢
    show if Region.wanted o (yielded ops a.tmps) = true then _ else _
    split
    · rename_i hw
      rw [if_pos hw] at h
      rcases h with h | h
      · exact op_lift (hnd o hi) hK ho h
      · exact absurd h.2 (noLets ho)
    · rename_i hw
      rw [if_neg hw] at h
      exact ⟨fun _ _ => trivial, by rw [sh_put]; exact hK _ _ h⟩
theorem any_lift {md : Region.Mode} (ho : NoOut Q) (hnd : ∀ (i : Nat) o, ops[i]? = some o → ndf o = true) : ∀ (fuel : Nat) (listed : Array Bool) (a : Act) (w : World), wpAny P md ops (shQ Z Q) fuel listed a w → wpAnyIn Z.F 0 P md ops Q fuel listed (sh Z a) w
  | 0, _, _, _, h => h
  | fuel + 1, _, _, _, h => ⟨fun h0 => h.1 h0, fun i hi => op_liftAt ho (hnd i) (fun a' w' hk => any_lift ho hnd fuel _ a' w' hk) (h.2 i hi)⟩
theorem all_ndf {L : List Oper} (h : L.all ndf = true) : ∀ (i : Nat) o, L.toArray[i]? = some o → ndf o = true := fun i o hi => by
  have : o ∈ L := List.mem_of_getElem? (i := i) (by simpa using hi)
  exact List.all_eq_true.1 h o this
theorem wpAnyIn_of_seq {F : Fence} {n : Nat} {md : Region.Mode} {Q' : Exit → Act → World → Prop} : ∀ (l : List Oper) (k : Nat) (listed : Array Bool) (a : Act) (w : World), (∀ j, l[j]? = ops[k + j]?) →
    Region.seqB md ops l.length k listed = true → wpListIn F n P ops Q' l a w → wpAnyIn F n P md ops Q' l.length listed a w
  | [], _, _, _, _, _, hB, h => ⟨by simpa [Region.seqB] using hB, h⟩
  | o :: l, k, listed, a, w, hl, hB, h => by
    have h0 : ops[k]? = some o := by simpa using (hl 0).symm
    simp only [List.length_cons, Region.seqB, Bool.and_eq_true, decide_eq_true_eq] at hB
    refine ⟨fun h1 => (by rw [hB.1] at h1; cases h1), fun i hi => ?_⟩
    rw [hB.1] at hi
    have hik : i = k := by simpa using hi
    subst hik
    have hw : wpOpIn F n P ops Q' i (wpListIn F n P ops Q' l) a w := by unfold wpOpIn; simp only [h0]; exact h
    exact wpOpIn_mono (fun a' w' h' => wpAnyIn_of_seq l (i + 1) _ a' w' (fun j => by have := hl (j + 1); simpa [Nat.add_assoc, Nat.add_comm 1 j] using this) hB.2 h') hw
theorem wpAnyIn_of_headC {C : World → Prop} {md : Region.Mode} {n g : Nat} {L : Array Bool → Act → Prop} (ho : NoOut Q) (hnd : ∀ (i : Nat) o, ops[i]? = some o → ndf o = true) (hL : ∀ listed a w, C w → L listed a → wpAnyIn Z.F 0 P md ops Q g listed (sh Z a) w) :
    ∀ (f : Nat) (listed : Array Bool) (a : Act) (w : World), C w → wpAnyC P md ops C n L f listed a → wpAnyIn Z.F 0 P md ops Q (f + g) listed (sh Z a) w
  | 0, listed, a, w, hw, h => by rw [Nat.zero_add]; exact hL _ _ _ hw h
  | f + 1, listed, a, w, hw, h => by
    rw [show f + 1 + g = (f + g) + 1 by omega]
    exact ⟨fun h0 => absurd h0 h.1, fun i hi => op_liftAt ho (hnd i) (fun a' w' hk => hk) (wpOp_of_qOp (K' := fun a' w' => wpAnyIn Z.F 0 P md ops Q (f + g) (listed.setIfInBounds i true) (sh Z a') w') hw (fun a' w' hw' h' => wpAnyIn_of_headC ho hnd hL f _ a' w' hw' h') (h.2 i hi).2)⟩
theorem wpIn_region_quiet_tail {C : World → Prop} {id : Nat} {l : List Oper} (n : Nat) (hm : P.follows .mixedOrders = true) (hB : Region.lexTailB .any l.toArray n = true) (ho : NoOut Q) (hnd : l.all ndf = true)
    (hC : C { w with drawn := w.drawn + 1 })
    (h : wpQuiet P l.toArray C (fun a' => ∀ w', C w' → wpListIn Z.F 0 P l.toArray Q (l.drop n) (sh Z a') w') (l.take n) a) : (Code.region id l.toArray true).wpIn Z.F 0 P Q (sh Z a) w := by
  simp only [Region.lexTailB, Bool.and_eq_true, decide_eq_true_eq] at hB
  obtain ⟨⟨⟨⟨hsel, hn⟩, hs⟩, hc⟩, hlex⟩ := hB
  have hn' : n < l.length := by simpa using hn
  have htl : (l.take n).length = n := by simp; omega
  have hdl : (l.drop n).length = l.toArray.size - n := by simp
  have inv0 : HeadInv .any l.toArray n (Array.replicate l.toArray.size false) :=
    ⟨by simp, fun j oj _ hl => (by rw [getD_replicate_false] at hl; cases hl), fun t _ ht => getD_in (by simpa using ht) (getD_replicate_false _ _)⟩
  have H := wpAnyC_lex (C := C) (md := .any) (g := l.toArray.size - n) hsel hs hc hn (l.take n) 0 _ a (fun j hj => by
    have hj' : j < n := by rw [htl] at hj; exact hj
    simp [hj']) (by simpa using htl) inv0 (by rw [htl]; exact hlex) h
  refine wpIn_region_any hm ?_
  have := wpAnyIn_of_headC (Z := Z) (Q := Q) (g := l.toArray.size - n) ho (all_ndf hnd) (fun listed a' w' hw' hL => by
    have := wpAnyIn_of_seq (F := Z.F) (n := 0) (md := .any) (Q' := Q) (l.drop n) n listed (sh Z a') w' (fun j => by simp [List.getElem?_drop]) (by rw [hdl]; exact hL.1) (hL.2 w' hw')
    rwa [hdl] at this) _ _ _ _ hC H
  rw [htl, show n + (l.toArray.size - n) = l.toArray.size by omega] at this
  exact this
end
def RG (P : Program) (draw : Bool) (L : List Oper) (Q : Exit → Act → World → Prop) (a : Act) (w : World) : Prop := match draw with
  | false => wpList P L.toArray Q L a w
  | true => P.follows .mixedOrders = true ∧ wpAny P .any L.toArray Q L.toArray.size (Array.replicate L.toArray.size false) a { w with drawn := w.drawn + 1 }
def SG (P : Program) (X : Cx) (draw : Bool) (L : List Oper) (Q : Exit → Act → World → Prop) (m : List (Nat × Value)) (l : List Res) : Prop := ∀ a w, Fr X.n a m → Inv X w l → RG P draw L Q a w
section
variable {P : Program} {X : Cx} {Q : Exit → Act → World → Prop} {m : List (Nat × Value)} {l : List Res}
theorem SG.region {L : List Oper} (h : SL P X L.toArray Q L m l) : SG P X false L Q m l := h
theorem SG.region_quiet {L : List Oper} (hm : P.follows .mixedOrders = true) (hB : Region.lexB .any L.toArray = true) (h : SQ P X L.toArray (fun a' => ∀ w', Inv X w' l → Q .normal a' w') L m l) : SG P X true L Q m l := fun a w hf hi => by
  refine ⟨hm, ?_⟩
  simp only [Region.lexB, Bool.and_eq_true] at hB
  refine wpAny_of_quiet (C := fun w => Inv X w l) (Q := fun a' => ∀ w', Inv X w' l → Q .normal a' w') (fun _ w' hw' h => h w' hw') _ _ _ _ hi.draw1 ?_
  have := wpAnyQ_lex (C := fun w => Inv X w l) (md := .any) hB.1 L 0 (Array.replicate L.toArray.size false) a (by simp) (by simpa using hB.2) (h a hf)
  simpa using this
theorem SG.region_tail {L : List Oper} (n : Nat) (hm : P.follows .mixedOrders = true) (hB : Region.lexTailB .any L.toArray n = true)
    (h : SQ P X L.toArray (fun a' => ∀ w', Inv X w' l → wpList P L.toArray Q (L.drop n) a' w') (L.take n) m l) : SG P X true L Q m l := fun a w hf hi => by
  refine ⟨hm, ?_⟩
  simp only [Region.lexTailB, Bool.and_eq_true, decide_eq_true_eq] at hB
  obtain ⟨⟨⟨⟨hsel, hn⟩, hs⟩, hc⟩, hlex⟩ := hB
  have hn' : n < L.length := by simpa using hn
  have htl : (L.take n).length = n := by simp; omega
  have hdl : (L.drop n).length = L.toArray.size - n := by simp
  have inv0 : HeadInv .any L.toArray n (Array.replicate L.toArray.size false) :=
    ⟨by simp, fun j oj _ hl => (by rw [getD_replicate_false] at hl; cases hl), fun t _ ht => getD_in (by simpa using ht) (getD_replicate_false _ _)⟩
  have H := wpAnyC_lex (C := fun w => Inv X w l) (md := .any) (g := L.toArray.size - n) hsel hs hc hn (L.take n) 0 _ a (fun j hj => by
    have hj' : j < n := by rw [htl] at hj; exact hj
    simp [hj']) (by simpa using htl) inv0 (by rw [htl]; exact hlex) (h a hf)
  have := wpAny_of_headC (Q' := Q) (g := L.toArray.size - n) (fun listed a' w' hw' hL => by
    have := wpAny_of_seq (md := .any) (Q' := Q) (L.drop n) n listed a' w' (fun j => by simp [List.getElem?_drop]) (by rw [hdl]; exact hL.1) (hL.2 w' hw')
    rwa [hdl] at this) _ _ _ _ hi.draw1 H
  rw [htl, show n + (L.toArray.size - n) = L.toArray.size by omega] at this
  exact this
end
end Go.Proofs.Ytcilikkljkdceaa
