/-
  What the proof of RecvqOrder stands on, part 0: each theorem by itself, under the conditions that it names.
-/
import Derived.WalkKit
import Derived.WalkSpells
import Derived.Laws.CopyOwn
import Derived.Deep.Draws
import Derived.Laws.AppendOwnNone
import Derived.Laws.Rows
import Derived.Laws.Tables
import Derived.Laws.ResultCell
import Derived.Deep.QuietTactic
import Derived.StillTailTactics
import Derived.Deep.LoopGhost
import Derived.Laws.CopyRow
import Derived.Laws.MakeOwn
import Derived.Laws.BytesString
import Derived.Test.YtpgnklmmjdkhiaaProg
import Derived.Lib.Hide
import Derived.BigQuiet
import Derived.BigRegion
/-
  What is known of a block of memory, and what a call has left alone. No program is named here.
-/
namespace Go.Proofs.Ytpgnklmmjdkhiaa
open Go.RowKit

/-- Block b holds just these cells. -/
def Blk (w : World) (b : Nat) (c : List Value) (T : TypeId) : Prop := w.heap[b]? = some (.cells c.toArray T (0, 0))

section
variable {w w' : World} {b : Nat} {c : List Value} {T : TypeId}
theorem Blk.lt (h : Blk w b c T) : b < w.heap.size := (Array.getElem?_eq_some_iff.1 h).1
theorem Blk.cell (h : Blk w b c T) (o : Nat) : w.cell? ⟨b, o, none⟩ = c[o]? := by
  unfold Blk at h; simp [World.cell?, h]
theorem Blk.fz (h : Blk w b c T) (o : Nat) : w.frozen? ⟨b, o, none⟩ = false := by
  unfold Blk at h; simp [World.frozen?, h]
theorem Blk.set (h : Blk w b c T) (o : Nat) (v : Value) : Blk (w.setCell ⟨b, o, none⟩ v) b (c.set o v) T := by
  have := heap_setCell_same w b o c.toArray T v h
  unfold Blk; rw [this]; simp
theorem Blk.set_ne (h : Blk w b c T) {a : Addr} (hne : a.block ≠ b) (v : Value) : Blk (w.setCell a v) b c T := by
  unfold Blk; rw [heap_setCell_other w a b v (Ne.symm hne)]; exact h
theorem Blk.alloc (h : Blk w b c T) (o : Obj) : Blk (w.alloc o) b c T := by
  unfold Blk; rw [Below.heap_alloc w o b h.lt]; exact h
theorem Blk.new (w : World) (c : List Value) (T : TypeId) : Blk (w.alloc (.cells c.toArray T)) w.heap.size c T := Go.heap_alloc_new w _
theorem Blk.new' (w : World) (c : Array Value) (T : TypeId) : Blk (w.alloc (.cells c T)) w.heap.size c.toList T := Go.heap_alloc_new w _
theorem Blk.at_new {w : World} {A : Array Value} {c : List Value} {T : TypeId} {n : Nat} (hn : n = w.heap.size) (hA : A = c.toArray) : Blk (w.alloc (.cells A T)) n c T := by
  subst hn hA; exact Blk.new w c T
theorem Blk.drew (h : Blk w b c T) : Blk w.drew b c T := h
theorem Blk.drewN (h : Blk w b c T) (n : Nat) : Blk (w.drewN n) b c T := h
theorem Blk.uniq {c' : List Value} {T' : TypeId} (h : Blk w b c T) (h' : Blk w b c' T') : c = c' := by
  unfold Blk at h h'; rw [h] at h'; simp at h'; exact h'.1
end

/-- The call has turned no old block but those of S. -/
structure Only (S : Nat → Prop) (w w' : World) : Prop where
  os : w'.os = w.os
  tape : w'.tape = w.tape
  output : w'.output = w.output
  size : w.heap.size ≤ w'.heap.size
  block : ∀ k, k < w.heap.size → ¬ S k → w'.heap[k]? = w.heap[k]?

section
variable {S S' : Nat → Prop} {w w0 w1 w2 : World}
theorem Only.refl (S : Nat → Prop) (w : World) : Only S w w := ⟨rfl, rfl, rfl, Nat.le_refl _, fun _ _ _ => rfl⟩
theorem Only.trans' (h : Only S w w1) (k : Only S' w1 w2) (hs : ∀ b, S' b → S b ∨ w.heap.size ≤ b) : Only S w w2 :=
  ⟨k.os.trans h.os, k.tape.trans h.tape, k.output.trans h.output, Nat.le_trans h.size k.size, fun b hb hn =>
    (k.block b (Nat.lt_of_lt_of_le hb h.size) (fun hs' => (hs b hs').elim hn (fun hg => absurd hb (Nat.not_lt.2 hg)))).trans (h.block b hb hn)⟩
theorem Only.trans (h : Only S w w1) (k : Only S w1 w2) : Only S w w2 := h.trans' k (fun _ hb => .inl hb)
theorem Only.mono (h : Only S w w1) (hs : ∀ b, S b → S' b ∨ w.heap.size ≤ b) : Only S' w w1 :=
  ⟨h.os, h.tape, h.output, h.size, fun b hb hn => h.block b hb (fun hs' => (hs b hs').elim hn (fun hg => absurd hb (Nat.not_lt.2 hg)))⟩
theorem Only.setCell (h : Only S w0 w) {a : Addr} (ha : S a.block ∨ w0.heap.size ≤ a.block) (v : Value) : Only S w0 (w.setCell a v) :=
  ⟨h.os, h.tape, h.output, by simp; exact h.size, fun b hb hn => by
    rw [heap_setCell_other w a b v (fun e => by subst e; exact ha.elim hn (fun hg => absurd hb (Nat.not_lt.2 hg)))]; exact h.block b hb hn⟩
theorem Only.st (h : Only S w0 w) {b : Nat} (hb : S b) (o : Nat) (v : Value) : Only S w0 (w.setCell ⟨b, o, none⟩ v) := h.setCell (.inl hb) v
theorem Only.alloc (h : Only S w0 w) (o : Obj) : Only S w0 (w.alloc o) :=
  ⟨h.os, h.tape, h.output, by simp; exact Nat.le_succ_of_le h.size, fun b hb hn => by
    rw [Below.heap_alloc w o b (Nat.lt_of_lt_of_le hb h.size)]; exact h.block b hb hn⟩
theorem Only.drew (h : Only S w0 w) : Only S w0 w.drew := ⟨h.os, h.tape, h.output, h.size, h.block⟩
theorem Only.drewN (h : Only S w0 w) (n : Nat) : Only S w0 (w.drewN n) := ⟨h.os, h.tape, h.output, h.size, h.block⟩
theorem Only.step (h : Only (fun _ => False) w w1) (k : Only S w1 w2) (hs : ∀ b, S b → w.heap.size ≤ b) : Only (fun _ => False) w w2 := h.trans' k (fun b hb => .inr (hs b hb))
theorem Only.blk (h : Only S w w1) {b : Nat} {c : List Value} {T : TypeId} (hb : Blk w b c T) (hn : ¬ S b) : Blk w1 b c T := by
  unfold Blk; rw [h.block b hb.lt hn]; exact hb
theorem Only.below (h : Only S w w1) (hs : ∀ b, S b → w.heap.size ≤ b) : Below w.heap.size w w1 :=
  ⟨h.os, h.tape, h.output, h.size, fun k hk => h.block k hk (fun hk' => absurd hk (Nat.not_lt.2 (hs k hk')))⟩
theorem Below.only {B : Nat} (h : Below B w w1) (hB : B = w.heap.size) : Only S w w1 := by
  subst hB; exact ⟨h.os, h.tape, h.output, h.size, fun k hk _ => h.block k hk⟩
theorem Only.cell (h : Only S w w1) {a : Addr} (hb : a.block < w.heap.size) (hn : ¬ S a.block) : w1.cell? a = w.cell? a :=
  World.cell?_of_block (w := w) (h.block a.block hb hn)
theorem Only.frozen (h : Only S w w1) {a : Addr} (hb : a.block < w.heap.size) (hn : ¬ S a.block) : w1.frozen? a = w.frozen? a :=
  World.frozen?_of_block (w := w) (h.block a.block hb hn)
end

theorem set_ne_at {c : List Value} {i o : Nat} {v : Value} (h : o ≠ i) : (c.set i v)[o]? = c[o]? := List.getElem?_set_ne (Ne.symm h)

/-- A byte as a cell. -/
abbrev bv (x : UInt8) : Value := .int .u8 (x.toNat : Int)

/-- A slice of bytes that reads as this list (its spare places are not looked at). -/
def BytesAt (w : World) (v : Value) (l : List UInt8) : Prop :=
  (∃ a c, v = .slice a 0 c ∧ (a = none → c = 0) ∧ l = []) ∨
  ∃ (b o cap : Nat), v = .slice (some ⟨b, o, none⟩) l.length cap ∧ l.length ≤ cap ∧ l.length ≤ 140737488351232 ∧ ∀ j (hj : j < l.length), w.cell? ⟨b, o + j, none⟩ = some (bv l[j])

theorem BytesAt.len {w : World} {v : Value} {l : List UInt8} (h : BytesAt w v l) : l.length ≤ 140737488351232 := by
  rcases h with ⟨_, _, _, _, rfl⟩ | ⟨b, o, cap, _, h1, h2, _⟩
  · simp
  · omega

theorem BytesAt.form {w : World} {v : Value} {l : List UInt8} (h : BytesAt w v l) : ∃ a cap, v = .slice a l.length cap := by
  rcases h with ⟨a, c, rfl, _, rfl⟩ | ⟨b, o, cap, rfl, _⟩
  · exact ⟨a, c, rfl⟩
  · exact ⟨_, _, rfl⟩

/-- The block of a slice, where it has cells. -/
def sliceIn (v : Value) (S : Nat → Prop) : Prop := ∀ (b o n cap : Nat), v = .slice (some ⟨b, o, none⟩) n cap → 0 < n → S b

theorem BytesAt.only {S : Nat → Prop} {w w1 : World} {v : Value} {l : List UInt8} (h : BytesAt w v l) (k : Only S w w1) (hs : sliceIn v (fun b => ¬ S b)) : BytesAt w1 v l := by
  rcases h with h | ⟨b, o, cap, hv, h1, h2, h3⟩
  · exact .inl h
  · refine .inr ⟨b, o, cap, hv, h1, h2, fun j hj => ?_⟩
    have hc := h3 j hj
    have hb : b < w.heap.size := block_lt_of_cell (a := ⟨b, o + j, none⟩) hc
    rw [k.cell (a := ⟨b, o + j, none⟩) hb (hs b o _ cap hv (by omega))]; exact hc

theorem BytesAt.lt {w : World} {v : Value} {l : List UInt8} (h : BytesAt w v l) : sliceIn v (fun b => b < w.heap.size) := by
  intro b o n cap hv hn
  rcases h with ⟨a, c, h, _⟩ | ⟨b', o', cap', hv', _, _, h3⟩
  · rw [h] at hv; simp at hv; omega
  · rw [hv'] at hv; simp at hv
    obtain ⟨⟨rfl, rfl⟩, rfl, rfl⟩ := hv
    exact block_lt_of_cell (a := ⟨b', o' + 0, none⟩) (h3 0 hn)

theorem BytesAt.nil (w : World) : BytesAt w (.slice none 0 0) [] := .inl ⟨_, _, rfl, fun _ => rfl, rfl⟩
theorem bv_one (x : UInt8) : (bv x).oneCell' = true := rfl

open Go.RowKit in
/-- 'copy' into a block that is known whole. -/
theorem wpList_copy_blk {P : Program} {w : World} {ops : Array Oper} {rest : List Oper} {o : Oper} {a : Act} {Q : Exit → Act → World → Prop} (hgd : o.guard = none) (d s : Operand) (dT sT : TypeId)
    (ho : o.op = .call { callee := .builtin .copy, args := #[d, s], argTypes := #[dT, sT] }) (elem : TypeId) (hu : P.underlying dT = some (.slice elem)) (hsz : (P.info? elem).map (·.size) = some 1)
    (g off dLen dCap : Nat) (hd : a.eval d = .slice (some ⟨g, off, none⟩) dLen dCap) (l : List UInt8) (hs : BytesAt w (a.eval s) l)
    (cur : List Value) (t : TypeId) (hg : Blk w g cur t) (hfit : off + dLen ≤ cur.length)
    (h : ∀ w', Blk w' g (splice cur off ((l.take dLen).map bv)) t → Only (fun k => k = g) w w' → wpList P ops Q rest (a.put o.dst (goInt (min l.length dLen : Nat))) w') :
    wpList P ops Q (o :: rest) a w := by
  by_cases hz : Nat.min l.length dLen = 0
  · obtain ⟨sa, cap, hv⟩ := hs.form
    refine wpList_copy_nothing hgd d s dT sT ho elem hu hsz (some ⟨g, off, none⟩) sa dLen dCap l.length cap hd hv hz ?_
    have hz' : min l.length dLen = 0 := hz
    have he : (l.take dLen) = [] := by
      apply List.eq_nil_of_length_eq_zero; rw [List.length_take]; omega
    have := h w (by rw [he]; simpa [splice] using hg) (Only.refl _ _)
    rw [hz'] at this; exact this
  · rcases hs with ⟨_, _, _, _, rfl⟩ | ⟨b, so, cap, hv, h1, h2, h3⟩
    · exact absurd (by simp) hz
    · have hlen : ((l.take dLen).map bv).length = Nat.min l.length dLen := by
        simp only [List.length_map, List.length_take]; exact Nat.min_comm _ _
      refine wpList_copy_own hgd d s dT sT ho elem hu hsz g off dLen dCap ⟨b, so, none⟩ l.length cap hd hv cur.toArray t hg ((l.take dLen).map bv) hlen ?_ ?_ ?_ ?_
      · intro j v hj
        have hj' : j < ((l.take dLen).map bv).length := (List.getElem?_eq_some_iff.1 hj).1
        simp only [List.length_map, List.length_take] at hj'
        have hjl : j < l.length := by omega
        have hadd : (⟨b, so, none⟩ : Addr).add j = ⟨b, so + j, none⟩ := by unfold Addr.add; split <;> simp_all
        rw [hadd, h3 j hjl]
        simp only [List.getElem?_map, List.getElem?_take] at hj
        rw [if_pos (by omega), List.getElem?_eq_getElem hjl] at hj
        simpa using hj
      · rw [hlen]; simp only [List.size_toArray]
        have : Nat.min l.length dLen ≤ dLen := Nat.min_le_right _ _
        omega
      · intro v hv
        obtain ⟨x, _, rfl⟩ := List.mem_map.1 hv
        rfl
      · rw [hlen]
        have hb2 := setRow_heap w g cur.toArray ((cur.take off ++ (((l.take dLen).map bv) ++ cur.drop (off + ((l.take dLen).map bv).length))).toArray) t (0, 0) hg
        have := h (w.setRow g ((cur.take off ++ (((l.take dLen).map bv) ++ cur.drop (off + ((l.take dLen).map bv).length))).toArray)) hb2
          ⟨rfl, rfl, rfl, by simp [World.setRow], fun k _ hk => setRow_other w g k _ hk⟩
        rw [hlen] at this
        exact this


/-- Bytes that a call has collected in a row of its own, at or behind block 'base'. -/
def OwnBytes (w : World) (base : Nat) (T : TypeId) (v : Value) (l : List UInt8) : Prop := w.ownsRow base T 1 v l.length (l.map bv)

theorem OwnBytes.form {w : World} {base : Nat} {T : TypeId} {v : Value} {l : List UInt8} (h : OwnBytes w base T v l) : ∃ a cap, v = .slice a l.length cap ∧ (a = none → cap = 0 ∧ l = []) := by
  rcases h.2 with ⟨rfl, h0⟩ | ⟨g, cap, cur, rfl, _⟩
  · exact ⟨none, 0, by rw [h0], fun _ => ⟨rfl, List.eq_nil_of_length_eq_zero h0⟩⟩
  · exact ⟨_, _, rfl, fun h => by cases h⟩

theorem OwnBytes.only {S : Nat → Prop} {w w1 : World} {base : Nat} {T : TypeId} {v : Value} {l : List UInt8} (h : OwnBytes w base T v l) (k : Only S w w1) (hs : ∀ b, base ≤ b → b < w.heap.size → ¬ S b) : OwnBytes w1 base T v l := by
  obtain ⟨h1, h2⟩ := h
  refine ⟨h1, ?_⟩
  rcases h2 with h2 | ⟨g, cap, cur, hv, hb, hg, h3⟩
  · exact .inl h2
  · have hlt : g < w.heap.size := (Array.getElem?_eq_some_iff.1 hg).1
    exact .inr ⟨g, cap, cur, hv, hb, by rw [k.block g hlt (hs g hb hlt)]; exact hg, h3⟩

theorem OwnBytes.reads {w : World} {base : Nat} {T : TypeId} {v : Value} {l : List UInt8} (h : OwnBytes w base T v l) {j : Nat} (hj : j < l.length) : ∃ g cap, v = .slice (some ⟨g, 0, none⟩) l.length cap ∧ base ≤ g ∧ w.cell? ⟨g, j, none⟩ = some (bv l[j]) := by
  rcases h.2 with ⟨_, h0⟩ | ⟨g, cap, cur, hv, hb, hg, hn, hc, hsz, ht⟩
  · omega
  · refine ⟨g, cap, hv, hb, ?_⟩
    rw [cell_of_row _ _ _ _ _ _ hg]
    have : (cur.toList.take (l.length * 1))[j]? = (l.map bv)[j]? := by rw [ht]
    rw [List.getElem?_take, if_pos (by omega), List.getElem?_map, List.getElem?_eq_getElem hj] at this
    simpa using this

theorem OwnBytes.bytes {w : World} {base : Nat} {T : TypeId} {v : Value} {l : List UInt8} (h : OwnBytes w base T v l) (hl : l.length ≤ 140737488351232) : BytesAt w v l := by
  rcases h.2 with ⟨rfl, h0⟩ | ⟨g, cap, cur, hv, hb, hg, hn, hc, hsz, ht⟩
  · exact .inl ⟨none, 0, rfl, fun _ => rfl, List.eq_nil_of_length_eq_zero h0⟩
  · refine .inr ⟨g, 0, cap, hv, hn, hl, fun j hj => ?_⟩
    obtain ⟨g', cap', hv', _, h⟩ := h.reads hj
    rw [hv] at hv'; simp at hv'
    rw [hv'.1, Nat.zero_add]; exact h

theorem grown_only {w w' : World} {row : Option Nat} (h : w.grownBy w' row) (S : Nat → Prop) (hr : ∀ k, row = some k → S k) : Only S w w' :=
  ⟨h.os, h.tape, h.output, h.size, fun k hk hn => h.block k hk (fun e => hn (hr k e.symm))⟩

/-- 'append(all, b...)' onto bytes of one's own. -/
theorem wpList_append_bytes {P : Program} {w : World} {ops : Array Oper} {rest : List Oper} {o : Oper} {a : Act} {Q : Exit → Act → World → Prop} (hgd : o.guard = none) (s x : Operand) (t e : TypeId)
    (ho : o.op = .call { callee := .builtin .append, args := #[s, x], argTypes := #[t, t] }) (ht : P.underlying t = some (.slice e))
    (hz : (P.info? e).map (fun i => (i.zero, i.size, i.bytes)) = some (some (.int .u8 0), 1, 1))
    (base : Nat) (l d : List UInt8) (hown : OwnBytes w base e (a.eval s) l) (hx : BytesAt w (a.eval x) d) (hl : l.length + d.length ≤ 140737488355328) (hbase : base ≤ w.heap.size)
    (h : ∀ v' w', OwnBytes w' base e v' (l ++ d) → Only (fun k => base ≤ k) w w' → wpList P ops Q rest (a.put o.dst v') w') : wpList P ops Q (o :: rest) a w := by
  obtain ⟨i, hi, hz0, h1, h2⟩ : ∃ i, P.info? e = some i ∧ i.zero = some (.int .u8 0) ∧ i.size = 1 ∧ i.bytes = 1 := by
    cases hi : P.info? e with
    | none => rw [hi] at hz; simp at hz
    | some i => rw [hi] at hz; simp at hz; exact ⟨i, rfl, hz.1, hz.2.1, hz.2.2⟩
  have hrow : ∀ k, (a.eval s).ownBlock = some k → base ≤ k := by
    intro k hk
    rcases hown.2 with ⟨hv, _⟩ | ⟨g, cap, cur, hv, hb, _⟩
    · rw [hv] at hk; simp [Value.ownBlock] at hk
    · rw [hv] at hk; simp [Value.ownBlock] at hk; omega
  rcases hx with ⟨b, c, hv, hbn, rfl⟩ | ⟨b, so, cap, hv, k1, k2, k3⟩
  · cases b with
    | none =>
      have hc := hbn rfl
      subst hc
      have := h (a.eval s) w (by simpa using hown) (Only.refl _ _)
      exact wpList_append_own_none hgd s x t ho base e i 1 ht hi _ _ _ rfl hown hv this
    | some b =>
      refine wpList_append_own w hgd s x t ho base e i (.int .u8 0) 1 1 ht hi hz0 h1 h2 rfl (by decide) _ _ _ rfl hown b 0 c [] hv rfl (by simp) (by simp) (by unfold maxLen; simp at hl ⊢; omega) (by simp at hl ⊢; omega) hbase ?_
      intro v' w' ho' hg' _
      exact h v' w' (by simpa [OwnBytes] using ho') (grown_only hg' _ hrow)
  · refine wpList_append_own w hgd s x t ho base e i (.int .u8 0) 1 1 ht hi hz0 h1 h2 rfl (by decide) _ _ _ rfl hown ⟨b, so, none⟩ d.length cap (d.map bv) hv (by simp) ?_ ?_ (by unfold maxLen; omega) (by omega) hbase ?_
    · intro j u hj
      have hjl : j < d.length := by have := (List.getElem?_eq_some_iff.1 hj).1; simpa using this
      have hadd : (⟨b, so, none⟩ : Addr).add j = ⟨b, so + j, none⟩ := by unfold Addr.add; split <;> simp_all
      rw [hadd, k3 j hjl]
      simp only [List.getElem?_map, List.getElem?_eq_getElem hjl, Option.map_some] at hj
      exact hj
    · intro u hu
      obtain ⟨y, _, rfl⟩ := List.mem_map.1 hu
      rfl
    · intro v' w' ho' hg' _
      exact h v' w' (by simpa [OwnBytes] using ho') (grown_only hg' _ hrow)

end Go.Proofs.Ytpgnklmmjdkhiaa

/-
  A struct read out of the midst of a block, and written into one, as one operation. No program is named here.
-/
namespace Go.Proofs.Ytpgnklmmjdkhiaa
open Go.RowKit
section
variable {P : Program}

theorem add_at (g o j : Nat) : (⟨g, o, none⟩ : Addr).add j = ⟨g, o + j, none⟩ := by unfold Addr.add; split <;> simp_all

theorem run_loadVar_at (w : World) (g off : Nat) (ty : TypeId) (cs : List Value) (d : TypeDesc) (hg : ∀ j, j < cs.length → w.cell? ⟨g, off + j, none⟩ = cs[j]?)
    (hu : P.underlying ty = some d) (hd : (match d with | .struct _ | .array _ _ => true | _ => false) = true) (hi : (P.info? ty).map (·.size) = some cs.length) :
    (loadVar ty ⟨g, off, none⟩).run P w = .ok (.agg cs.toArray) w := by
  have hl : (loadCells ⟨g, off, none⟩ cs.length).run P w = .ok cs.toArray w :=
    run_loadCells_list (P := P) w ⟨g, off, none⟩ cs (fun j v hv => by
      rw [add_at, hg j (List.getElem?_eq_some_iff.1 hv).1]; exact hv)
  cases hq : P.info? ty with
  | none => simp [hq] at hi
  | some i =>
    have hs : i.size = cs.length := by simpa [hq] using hi
    have hagg : (isAgg ty).run P w = .ok true w := by
      unfold isAgg
      rw [Sem.run_bind, run_underlying hu w]
      cases d <;> simp_all
    simp [loadVar, Sem.run_bind, hagg, sizeOf, typeInfo, hq, hs, hl]

/-- 'x.F' of a struct's kind, out of a block that is known whole. -/
theorem wpList_load_at {ops : Array Oper} {rest : List Oper} {o : Oper} {a : Act} {w : World} {Q : Exit → Act → World → Prop} (hgd : o.guard = none) (ty : TypeId) (x : Operand) (ho : o.op = .load ty x)
    (g off : Nat) (hx : a.eval x = .pointer (some ⟨g, off, none⟩)) (cs : List Value) (d : TypeDesc) (hg : ∀ j, j < cs.length → w.cell? ⟨g, off + j, none⟩ = cs[j]?)
    (hu : P.underlying ty = some d) (hd : (match d with | .struct _ | .array _ _ => true | _ => false) = true) (hi : (P.info? ty).map (·.size) = some cs.length)
    (h : wpList P ops Q rest (a.put o.dst (.agg cs.toArray)) w) : wpList P ops Q (o :: rest) a w :=
  wpList_plain hgd fun _ hK => by
    unfold Oper.wp execOp
    simp only [ho, hx, Instr.loadAt, Instr.sureAddr, Sem.run_bind, Sem.run_pure, Result.andThen_ok, run_loadVar_at w g off ty cs d hg hu hd hi]
    exact hK _ _ h
theorem setRow_alloc (w : World) (old new : Array Value) (t : TypeId) : (w.alloc (.cells old t)).setRow w.heap.size new = w.alloc (.cells new t) := by
  unfold World.setRow World.alloc
  simp only [World.mk.injEq, and_true]
  apply Array.ext_getElem?
  intro i
  by_cases h : i = w.heap.size
  · subst h; simp [Array.getElem_modify]
  · simp [Array.getElem?_modify, Array.getElem?_push, h, Ne.symm h]
/-- 'v := f(..)', v a struct: the value is laid into the block that was just made for it. -/
theorem wpList_store_new {ops : Array Oper} {rest : List Oper} {o : Oper} {a : Act} {w : World} {Q : Exit → Act → World → Prop} (hgd : o.guard = none) (ty : TypeId) (x y : Operand) (ho : o.op = .store ty x y)
    (cells : Array Value) (old : Array Value) (t : TypeId) (hx : a.eval x = .pointer (some ⟨w.heap.size, 0, none⟩)) (hy : a.eval y = .agg cells) (hi : (P.info? ty).map (·.size) = some cells.size)
    (hold : old.size = cells.size) (h1 : cells.all (·.oneCell') = true)
    (h : wpList P ops Q rest (a.put o.dst undef) (w.alloc (.cells cells t))) : wpList P ops Q (o :: rest) a (w.alloc (.cells old t)) :=
  wpList_store_row hgd ty x y ho w.heap.size cells hx hy t old (heap_alloc_new w _) hi hold h1 (by rw [setRow_alloc]; exact h)
theorem res_row_tmp {fn : Func} {p u : Tmp} {ty : TypeId} (h : fn.results = #[.cell p ty, .tmp u]) (tmps : Array Value) (w : World) (g : Nat) (t : TypeId) (cs : Array Value) (fr : Nat × Nat) (d : TypeDesc)
    (hp : tmps.getD p undef = .pointer (some ⟨g, 0, none⟩)) (hg : w.heap[g]? = some (.cells cs t fr))
    (hu : P.underlying ty = some d) (hd : (match d with | .struct _ | .array _ _ => true | _ => false) = true) (hi : (P.info? ty).map (·.size) = some cs.size) :
    (results fn tmps).run P w = .ok (.tuple #[.agg cs, tmps.getD u undef]) w := by
  have hp' : tmps[p]?.getD undef = .pointer (some ⟨g, 0, none⟩) := by simpa using hp
  rw [results_cell_tmp h]
  simp [hp', asAddr, run_loadVar_row w g t ty cs fr d hg hu hd hi]
end

/-- The cells of a part of a block. -/
theorem Blk.part {w : World} {b : Nat} {c : List Value} {T : TypeId} (h : Blk w b c T) {l r m : List Value} (e : c = l ++ m ++ r) {off : Nat} (ho : off = l.length) : ∀ j, j < m.length → w.cell? ⟨b, off + j, none⟩ = m[j]? := by
  intro j hj
  subst ho e
  rw [Blk.cell h, List.append_assoc, List.getElem?_append_right (by omega), Nat.add_sub_cancel_left, List.getElem?_append_left hj]
end Go.Proofs.Ytpgnklmmjdkhiaa

/-
  A region that draws its order: reads and quiet calls in a class of worlds, then a forced tail. After the kit's own two theorems (one world and a tail; a class and no tail), joined.
-/
namespace Go.Proofs.Ytpgnklmmjdkhiaa

section
variable {P : Program} {ops : Array Oper} {md : Region.Mode} {C : World → Prop}

def wpAnyC (P : Program) (md : Region.Mode) (ops : Array Oper) (C : World → Prop) (n : Nat) (L : Array Bool → Act → Prop) : Nat → Array Bool → Act → Prop
  | 0, listed, a => L listed a
  | f + 1, listed, a =>
    Region.ready md ops listed ≠ [] ∧ ∀ i ∈ Region.ready md ops listed, i < n ∧ qOp P ops C i (wpAnyC P md ops C n L f (listed.setIfInBounds i true)) a

theorem wpAny_of_headC {n g : Nat} {L : Array Bool → Act → Prop} {Q' : Exit → Act → World → Prop} (hL : ∀ listed a w, C w → L listed a → wpAny P md ops Q' g listed a w) :
    ∀ (f : Nat) (listed : Array Bool) (a : Act) (w : World), C w → wpAnyC P md ops C n L f listed a → wpAny P md ops Q' (f + g) listed a w
  | 0, listed, a, w, hw, h => by rw [Nat.zero_add]; exact hL _ _ _ hw h
  | f + 1, listed, a, w, hw, h => by
    rw [show f + 1 + g = (f + g) + 1 by omega]
    exact ⟨fun h0 => absurd h0 h.1, fun i hi => wpOp_of_qOp hw (fun a' w' hw' h' => wpAny_of_headC hL f _ a' w' hw' h') (h.2 i hi).2⟩

theorem wpAnyC_first {n i : Nat} {oi : Oper} {v : Value} {L : Array Bool → Act → Prop} (hi : ops[i]? = some oi) (hsel : ∀ (j : Nat) (o : Oper) cs b, ops[j]? = some o → o.op ≠ .select cs b)
    (hs : Region.sinkB md ops n = true) (hc : Region.chainB md ops n = true) (hn : n < ops.size) (hin : i < n)
    (hdone : ∀ listed a, L listed a → ∀ j ∈ Region.ready md ops listed, n ≤ j) :
    ∀ (f : Nat) (listed : Array Bool) (a : Act), HeadInv md ops n listed →
      (∀ j oj, ops[j]? = some oj → j ≠ i → listed.getD j true = false → (∀ e ∈ oj.after, Region.binds md e = true → e.on ≠ i) → oi.apart ops oj = true) →
      i ∈ Region.ready md ops listed → YieldsIn P ops C oi v a →
      wpAnyC P md ops C n L f (listed.setIfInBounds i true) (a.put oi.dst v) → wpAnyC P md ops C n L (f + 1) listed a := by
  intro f
  induction f with
  | zero =>
    intro listed a inv _ hr hy H
    have hun := (mem_ready.1 hr).1
    refine ⟨fun h => (by rw [h] at hr; cases hr), fun j hj => ?_⟩
    have hjn : j < n := by
      rcases Nat.lt_or_ge j n with h | h
      · exact h
      · exact absurd hj (tail_waits hs hc hn inv _ i rfl hin hun j h)
    refine ⟨hjn, ?_⟩
    by_cases hji : j = i
    · subst hji; exact hy.qOp hi H
    · have := hdone _ _ H j (ready_mono hj hji)
      omega
  | succ f ih =>
    intro listed a inv hfree hr hy H
    have hun := (mem_ready.1 hr).1
    refine ⟨fun h => (by rw [h] at hr; cases hr), fun j hj => ?_⟩
    have hjn : j < n := by
      rcases Nat.lt_or_ge j n with h | h
      · exact h
      · exact absurd hj (tail_waits hs hc hn inv _ i rfl hin hun j h)
    refine ⟨hjn, ?_⟩
    by_cases hji : j = i
    · subst hji; exact hy.qOp hi H
    · have h1 := (H.2 j (ready_mono hj hji)).2
      obtain ⟨hjun, oj, hoj, hall⟩ := mem_ready.1 hj
      have hnot : ∀ e ∈ oj.after, Region.binds md e = true → e.on ≠ i := fun e he hb heq => by
        have h1 := hall e he hb
        rw [heq, getD_both hun] at h1
        cases h1
      have h2 := qOp_put hoj (hfree j oj hoj hji hjun hnot) (fun cs b => hsel i oi cs b hi) (fun cs b => hsel j oj cs b hoj) hy h1
      have hfree' : ∀ k ok, ops[k]? = some ok → k ≠ i → (listed.setIfInBounds j true).getD k true = false →
          (∀ e ∈ ok.after, Region.binds md e = true → e.on ≠ i) → oi.apart ops ok = true := fun k ok hk hki hun hno => by
        refine hfree k ok hk hki ?_ hno
        by_cases hjk : j = k
        · subst hjk; exact hjun
        · rw [getD_set_ne true hjk] at hun; exact hun
      refine qOp_mono (fun a' h3 => ih (listed.setIfInBounds j true) a' (inv.set hj hjn) hfree' (ready_mono hr (Ne.symm hji)) h3.1 ?_) h2
      rw [Array.setIfInBounds_comm _ _ hji]
      exact h3.2

theorem wpAnyC_lex {n g : Nat} {Lq : Act → Prop} (hsel : Region.noSelect ops = true) (hs : Region.sinkB md ops n = true) (hc : Region.chainB md ops n = true) (hn : n < ops.size) :
    ∀ (l : List Oper) (k : Nat) (listed : Array Bool) (a : Act), (∀ j, j < l.length → l[j]? = ops[k + j]?) → k + l.length = n → HeadInv md ops n listed →
    Region.lexHead md ops g l.length k listed = true → wpQuiet P ops C Lq l a →
    wpAnyC P md ops C n (fun listed' a' => Region.seqB md ops g n listed' = true ∧ Lq a') l.length listed a
  | [], k, listed, a, _, hk, _, hB, h => by
    have : k = n := by simpa using hk
    subst this
    exact ⟨by simpa [Region.lexHead] using hB, h⟩
  | o :: l, k, listed, a, hl, hk, inv, hB, h => by
    have h0 : ops[k]? = some o := by simpa using (hl 0 (by simp)).symm
    simp only [List.length_cons, Region.lexHead, Bool.and_eq_true] at hB
    obtain ⟨⟨hr, hf⟩, hB'⟩ := hB
    have hkn : k < n := by simp only [List.length_cons] at hk; omega
    have hr' : k ∈ Region.ready md ops listed := by simpa using hr
    have hst : qOp P ops C k (wpQuiet P ops C Lq l) a := by unfold qOp; simp only [h0]; exact h
    obtain ⟨v, hy, hK⟩ := yieldsIn_of_qOp h0 hst
    exact wpAnyC_first h0 (Region.noSelect_spec hsel) hs hc hn hkn (fun listed' a' hL => seqB_ready hL.1) l.length listed a inv (Region.free_spec h0 hf) hr' hy
      (wpAnyC_lex hsel hs hc hn l (k + 1) _ _ (fun j hj => by have := hl (j + 1) (by simp; omega); simpa [Nat.add_assoc, Nat.add_comm 1 j] using this) (by simp only [List.length_cons] at hk; omega) (inv.set hr' hkn) hB' hK)

/-- A quiet head of n operations, in a class of worlds; then the others, in their order, from every world of the class. -/
theorem wp_region_quiet_tail {id : Nat} {Q : Exit → Act → World → Prop} {a : Act} {w : World} {l : List Oper} (n : Nat) (hm : P.follows .mixedOrders = true) (hB : Region.lexTailB .any l.toArray n = true)
    (hC : C { w with drawn := w.drawn + 1 })
    (h : wpQuiet P l.toArray C (fun a' => ∀ w', C w' → wpList P l.toArray Q (l.drop n) a' w') (l.take n) a) : (Code.region id l.toArray true).wp P Q a w := by
  simp only [Region.lexTailB, Bool.and_eq_true, decide_eq_true_eq] at hB
  obtain ⟨⟨⟨⟨hsel, hn⟩, hs⟩, hc⟩, hlex⟩ := hB
  have hn' : n < l.length := by simpa using hn
  have htl : (l.take n).length = n := by simp; omega
  have hdl : (l.drop n).length = l.toArray.size - n := by simp
  have inv0 : HeadInv .any l.toArray n (Array.replicate l.toArray.size false) :=
    ⟨by simp, fun j oj _ hl => (by rw [getD_replicate_false] at hl; cases hl), fun t _ ht => getD_in (by simpa using ht) (getD_replicate_false _ _)⟩
  have H := wpAnyC_lex (C := C) (md := .any) (g := l.toArray.size - n) hsel hs hc hn (l.take n) 0 _ a (fun j hj => by
    have hj' : j < n := by rw [htl] at hj; exact hj
    simp [hj']) (by simpa using htl) inv0 (by rw [htl]; exact hlex) h
  refine wp_region_any hm ?_
  have := wpAny_of_headC (Q' := Q) (g := l.toArray.size - n) (fun listed a' w' hw' hL => by
    have := wpAny_of_seq (md := .any) (Q' := Q) (l.drop n) n listed a' w' (fun j => by simp [List.getElem?_drop]) (by rw [hdl]; exact hL.1) (hL.2 w' hw')
    rwa [hdl] at this) _ _ _ _ hC H
  rw [htl, show n + (l.toArray.size - n) = l.toArray.size by omega] at this
  exact this

theorem wp_region_quiet_tail_lit {id : Nat} {Q : Exit → Act → World → Prop} {a : Act} {w : World} {l : List Oper} (n : Nat) (hm : P.follows .mixedOrders = true) (hB : Region.lexTailB .any l.toArray n = true)
    (h : wpQuiet P l.toArray (fun w' => ∃ q, w' = w.drewN q) (fun a' => ∀ q, wpList P l.toArray Q (l.drop n) a' (w.drewN q)) (l.take n) a) : (Code.region id l.toArray true).wp P Q a w :=
  wp_region_quiet_tail (C := fun w' => ∃ q, w' = w.drewN q) n hm hB ⟨1, rfl⟩ (by
    have e : (fun a' => ∀ q, wpList P l.toArray Q (l.drop n) a' (w.drewN q)) = (fun a' => ∀ w', (∃ q, w' = w.drewN q) → wpList P l.toArray Q (l.drop n) a' w') := by
      funext a'; apply propext
      exact ⟨fun H w' ⟨q, hq⟩ => hq ▸ H q, fun H q => H _ ⟨q, rfl⟩⟩
    rw [← e]; exact h)
end
end Go.Proofs.Ytpgnklmmjdkhiaa

/-
  A light machine for walks: the frame and the world stand behind what is known of them (a list of slots, a list of resources), and each operation is one law. No program is named here.
-/
namespace Go.Proofs.Ytpgnklmmjdkhiaa
open Go.RowKit

/-- What lies in memory, on these blocks. -/
structure Res where
  ok : World → Prop
  fp : Nat → Prop
  lt : ∀ w, ok w → ∀ b, fp b → b < w.heap.size
  st : ∀ w w', ok w → (∀ b, fp b → w'.heap[b]? = w.heap[b]?) → ok w'

/-- All of these, apart from one another. -/
def Sep (w : World) (l : List Res) : Prop := (∀ r ∈ l, r.ok w) ∧ l.Pairwise (fun r s => ∀ b, r.fp b → ¬ s.fp b)

structure Cx where
  n : Nat
  w0 : World
  S : Nat → Prop

def Inv (X : Cx) (w : World) (l : List Res) : Prop := Sep w l ∧ Only X.S X.w0 w

theorem Sep.get {w : World} {l : List Res} {i : Nat} {r : Res} (h : Sep w l) (hi : l[i]? = some r) : r.ok w := h.1 r (List.mem_of_getElem? hi)

theorem Sep.add {w w' : World} {l : List Res} {r : Res} (h : Sep w l) (hw : ∀ b, b < w.heap.size → w'.heap[b]? = w.heap[b]?) (hr : r.ok w') (hf : ∀ b, r.fp b → w.heap.size ≤ b) : Sep w' (l ++ [r]) := by
  refine ⟨fun s hs => ?_, ?_⟩
  · rcases List.mem_append.1 hs with hs | hs
    · exact s.st w w' (h.1 s hs) fun b hb => hw b (s.lt w (h.1 s hs) b hb)
    · have : s = r := by simpa using hs
      rw [this]; exact hr
  · rw [List.pairwise_append]
    refine ⟨h.2, by simp, fun s hs t ht b hb hc => ?_⟩
    have : t = r := by simpa using ht
    subst this
    have h1 := s.lt w (h.1 s hs) b hb
    have h2 := hf b hc
    omega

theorem Sep.upd {w w' : World} {l : List Res} {i : Nat} {r r' : Res} (h : Sep w l) (hi : l[i]? = some r) (hw : ∀ b, ¬ r.fp b → b < w.heap.size → w'.heap[b]? = w.heap[b]?)
    (hr : r'.ok w') (hf : ∀ b, r'.fp b → r.fp b ∨ w.heap.size ≤ b) : Sep w' (l.set i r') := by
  have hil : i < l.length := (List.getElem?_eq_some_iff.1 hi).1
  have hp := List.pairwise_iff_getElem.1 h.2
  have hli : l[i] = r := (List.getElem?_eq_some_iff.1 hi).2
  refine ⟨fun s hs => ?_, ?_⟩
  · obtain ⟨j, hj, e⟩ := List.getElem_of_mem hs
    have hj' : j < l.length := by simpa using hj
    rw [List.getElem_set] at e
    by_cases hij : i = j
    · rw [if_pos hij] at e; rw [← e]; exact hr
    · rw [if_neg hij] at e
      have hsl : s ∈ l := e ▸ List.getElem_mem hj'
      refine s.st w w' (h.1 s hsl) fun b hb => hw b (fun hrb => ?_) (s.lt w (h.1 s hsl) b hb)
      subst e; subst hli
      rcases Nat.lt_or_gt_of_ne hij with hlt | hlt
      · exact hp i j hil hj' hlt b hrb hb
      · exact hp j i hj' hil hlt b hb hrb
  · rw [List.pairwise_iff_getElem]
    intro j k hj hk hjk b hb hc
    have hj' : j < l.length := by simpa using hj
    have hk' : k < l.length := by simpa using hk
    rw [List.getElem_set] at hb hc
    by_cases e1 : i = j
    · rw [if_pos e1] at hb
      rw [if_neg (by omega)] at hc
      rcases hf b hb with h1 | h1
      · subst e1; subst hli; exact hp i k hil hk' hjk b h1 hc
      · have := (l[k]).lt w (h.1 _ (List.getElem_mem hk')) b hc; omega
    · rw [if_neg e1] at hb
      by_cases e2 : i = k
      · rw [if_pos e2] at hc
        rcases hf b hc with h1 | h1
        · subst e2; subst hli; exact hp j i hj' hil hjk b hb h1
        · have := (l[j]).lt w (h.1 _ (List.getElem_mem hj')) b hb; omega
      · rw [if_neg e2] at hc
        exact hp j k hj' hk' hjk b hb hc

theorem Sep.same {w w' : World} {l : List Res} (h : Sep w l) (hw : ∀ b, b < w.heap.size → w'.heap[b]? = w.heap[b]?) : Sep w' l :=
  ⟨fun s hs => s.st w w' (h.1 s hs) fun b hb => hw b (s.lt w (h.1 s hs) b hb), h.2⟩

theorem Inv.drew {X : Cx} {w : World} {l : List Res} (h : Inv X w l) : Inv X w.drew l := ⟨h.1.same (fun _ _ => rfl), h.2.drew⟩
theorem Inv.draw1 {X : Cx} {w : World} {l : List Res} (h : Inv X w l) : Inv X { w with drawn := w.drawn + 1 } l := h.drew
theorem Inv.only {X : Cx} {w w' : World} {l : List Res} (h : Inv X w l) (hO : Only (fun _ => False) w w') : Inv X w' l :=
  ⟨h.1.same (fun b hb => hO.block b hb id), h.2.trans' hO (fun _ h => h.elim)⟩
theorem Inv.add {X : Cx} {w w' : World} {l : List Res} {r : Res} (h : Inv X w l) (hO : Only (fun _ => False) w w') (hr : r.ok w') (hf : ∀ b, r.fp b → w.heap.size ≤ b) : Inv X w' (l ++ [r]) :=
  ⟨h.1.add (fun b hb => hO.block b hb id) hr hf, h.2.trans' hO (fun _ h => h.elim)⟩
theorem Inv.upd {X : Cx} {w w' : World} {l : List Res} {i : Nat} {r r' : Res} (h : Inv X w l) (hi : l[i]? = some r) (hO : Only r.fp w w') (hS : ∀ b, r.fp b → X.S b ∨ X.w0.heap.size ≤ b)
    (hr : r'.ok w') (hf : ∀ b, r'.fp b → r.fp b ∨ w.heap.size ≤ b) : Inv X w' (l.set i r') :=
  ⟨h.1.upd hi (fun b hb hlt => hO.block b hlt hb) hr hf, h.2.trans' hO hS⟩

/-- A block known whole. -/
def rBlk (b : Nat) (c : List Value) (T : TypeId) : Res where
  ok w := Blk w b c T
  fp k := k = b
  lt w h k hk := by subst hk; exact Blk.lt h
  st w w' h hw := by unfold Blk; rw [hw b rfl]; exact h

/-! ## The frame -/

def look : List (Nat × Value) → Nat → Option Value
  | [], _ => none
  | (k, v) :: r, t => bif Nat.beq k t then some v else look r t

def Fr (n : Nat) (a : Act) (m : List (Nat × Value)) : Prop := a.defers = [] ∧ a.tmps.size = n ∧ ∀ t v, look m t = some v → a.tmps[t]? = some v

theorem Fr.put {n : Nat} {a : Act} {m : List (Nat × Value)} (h : Fr n a m) {d : Nat} (hd : d < n) (v : Value) : Fr n (a.put (some d) v) ((d, v) :: m) := by
  refine ⟨h.1, by simp [Act.put, h.2.1], fun t u hu => ?_⟩
  simp only [look] at hu
  simp only [Act.put]
  cases hb : Nat.beq d t
  · rw [hb] at hu
    have hne : d ≠ t := fun e => by subst e; simp at hb
    rw [Array.getElem?_setIfInBounds_ne hne]
    exact h.2.2 t u (by simpa using hu)
  · rw [hb] at hu
    have e : d = t := Nat.eq_of_beq_eq_true hb
    subst e
    simp at hu; subst hu
    rw [Array.getElem?_setIfInBounds_self]
    simp [h.2.1, hd]

def evM (m : List (Nat × Value)) : Operand → Option Value
  | .tmp t => look m t
  | .const v => some v
  | .global g => some (.pointer (some ⟨g, 0, none⟩))
  | .func f => some (.func (.func f) #[] #[])

theorem Fr.ev {n : Nat} {a : Act} {m : List (Nat × Value)} (h : Fr n a m) {x : Operand} {v : Value} (hx : evM m x = some v) : a.eval x = v := by
  cases x with
  | tmp t => simp only [evM] at hx; simp [Act.eval, h.2.2 t v hx]
  | const u => simpa [evM, Act.eval] using hx
  | global g => simpa [evM, Act.eval] using hx
  | func f => simpa [evM, Act.eval] using hx

/-- Every slot of the second list stands so in the first one. -/
def Subs (m : List (Nat × Value)) : List (Nat × Value) → Prop
  | [] => True
  | (t, v) :: r => look m t = some v ∧ Subs m r
theorem Subs.look {m m' : List (Nat × Value)} (h : Subs m m') : ∀ t v, look m' t = some v → look m t = some v := by
  induction m' with
  | nil => intro t v hv; simp [Proofs.Ytpgnklmmjdkhiaa.look] at hv
  | cons x r ih =>
    obtain ⟨k, u⟩ := x
    intro t v hv
    simp only [Proofs.Ytpgnklmmjdkhiaa.look] at hv
    cases hb : Nat.beq k t
    · rw [hb] at hv; exact ih h.2 t v (by simpa using hv)
    · rw [hb] at hv
      have e : k = t := Nat.eq_of_beq_eq_true hb
      subst e
      simp at hv; subst hv
      exact h.1
theorem Fr.sub {n : Nat} {a : Act} {m m' : List (Nat × Value)} (h : Fr n a m) (hs : Subs m m') : Fr n a m' := ⟨h.1, h.2.1, fun t v hv => h.2.2 t v (hs.look t v hv)⟩

/-! ## Judgements -/
section
variable (P : Program) (X : Cx)
def SL (ops : Array Oper) (Q : Exit → Act → World → Prop) (rest : List Oper) (m : List (Nat × Value)) (l : List Res) : Prop := ∀ a w, Fr X.n a m → Inv X w l → wpList P ops Q rest a w
def SC (c : Code) (Q : Exit → Act → World → Prop) (m : List (Nat × Value)) (l : List Res) : Prop := ∀ a w, Fr X.n a m → Inv X w l → c.wp P Q a w
def SE (Q : Exit → Act → World → Prop) (e : Exit) (m : List (Nat × Value)) (l : List Res) : Prop := ∀ a w, Fr X.n a m → Inv X w l → Q e a w
/-- A quiet walk: the resources stay. -/
def SQ (ops : Array Oper) (K : Act → Prop) (rest : List Oper) (m : List (Nat × Value)) (l : List Res) : Prop := ∀ a, Fr X.n a m → wpQuiet P ops (fun w => Inv X w l) K rest a
/-- An operation that comes to a value, and leaves the world. -/
def Ru (o : Oper) (m : List (Nat × Value)) (l : List Res) (v : Value) : Prop := ∀ a w, Fr X.n a m → Inv X w l → (execOp a.eval o).run P w = .ok (.value v) w
end

section
variable {P : Program} {X : Cx} {ops : Array Oper} {Q : Exit → Act → World → Prop} {rest : List Oper} {o : Oper} {m : List (Nat × Value)} {l : List Res} {v : Value} {d : Nat}

/-! ## Code -/
theorem SC.norm {c : Code} (m' : List (Nat × Value)) (l' : List Res) (hm : Subs m m') (hl : l = l') (h : SC P X c Q m' l') : SC P X c Q m l := fun a w hf hi => h a w (hf.sub hm) (hl ▸ hi)
theorem SE.norm {e : Exit} (m' : List (Nat × Value)) (l' : List Res) (hm : Subs m m') (hl : l = l') (h : SE X Q e m' l') : SE X Q e m l := fun a w hf hi => h a w (hf.sub hm) (hl ▸ hi)
theorem SL.norm (m' : List (Nat × Value)) (l' : List Res) (hm : Subs m m') (hl : l = l') (h : SL P X ops Q rest m' l') : SL P X ops Q rest m l := fun a w hf hi => h a w (hf.sub hm) (hl ▸ hi)
theorem SC.seq {x y : Code} (h : SC P X x (Exit.then (y.wp P Q) Q) m l) : SC P X (x.seq y) Q m l := fun a w hf hi => wp_seq (h a w hf hi)
theorem SC.block {id : Nat} {c : Code} (h : SC P X c (Exit.inBlock id Q) m l) : SC P X (.block id c) Q m l := fun a w hf hi => wp_block (h a w hf hi)
theorem SC.scope {c : Code} (h : SC P X c (Exit.noGoto Q) m l) : SC P X (.scope c) Q m l := fun a w hf hi => wp_scope_straight (h a w hf hi)
theorem SC.skip (h : SE X Q .normal m l) : SC P X .skip Q m l := fun a w hf hi => wp_skip (h a w hf hi)
theorem SC.label {k : Nat} (h : SE X Q .normal m l) : SC P X (.label k) Q m l := fun a w hf hi => wp_label (h a w hf hi)
theorem SC.exit {id : Nat} (h : SE X Q (.exit id) m l) : SC P X (.exit id) Q m l := fun a w hf hi => wp_exit (h a w hf hi)
theorem SC.ret (h : SE X Q .ret m l) : SC P X .ret Q m l := fun a w hf hi => wp_ret (h a w hf hi)
theorem SC.yes {c : Operand} {x y : Code} (hc : evM m c = some (.bool true)) (h : SC P X x Q m l) : SC P X (.cond c x y) Q m l := fun a w hf hi => wp_cond_true (hf.ev hc) (h a w hf hi)
theorem SC.no {c : Operand} {x y : Code} (hc : evM m c = some (.bool false)) (h : SC P X y Q m l) : SC P X (.cond c x y) Q m l := fun a w hf hi => wp_cond_false (hf.ev hc) (h a w hf hi)
theorem SC.both {c : Operand} {x y : Code} (b : Bool) (hc : evM m c = some (.bool b)) (ht : b = true → SC P X x Q m l) (hn : b = false → SC P X y Q m l) : SC P X (.cond c x y) Q m l := fun a w hf hi => wp_cond_split (hf.ev hc) (fun e => ht e a w hf hi) (fun e => hn e a w hf hi)
theorem SC.region {id : Nat} {L : List Oper} (h : SL P X L.toArray Q L m l) : SC P X (.region id L.toArray false) Q m l := fun a w hf hi => wp_region_lit (h a w hf hi)
theorem SC.of_SE {y : Code} {m' : List (Nat × Value)} {l' : List Res} (h : SC P X y Q m' l') : SE X (Exit.then (y.wp P Q) Q) .normal m' l' := h
theorem SE.pass {e : Exit} {K : Act → World → Prop} (he : e ≠ .normal) (h : SE X Q e m l) : SE X (Exit.then K Q) e m l := fun a w hf hi => by
  have := h a w hf hi
  cases e <;> first | exact this | exact absurd rfl he
theorem SE.passr {K : Act → World → Prop} (h : SE X Q .ret m l) : SE X (Exit.then K Q) .ret m l := h
theorem SE.passe {K : Act → World → Prop} {id : Nat} (h : SE X Q (.exit id) m l) : SE X (Exit.then K Q) (.exit id) m l := h
theorem SE.blkn {id : Nat} (h : SE X Q .normal m l) : SE X (Exit.inBlock id Q) .normal m l := h
theorem SE.blkr {id : Nat} (h : SE X Q .ret m l) : SE X (Exit.inBlock id Q) .ret m l := h
theorem SE.blke {id : Nat} (h : SE X Q .normal m l) : SE X (Exit.inBlock id Q) (.exit id) m l := fun a w hf hi => by simp only [Exit.inBlock, if_true]; exact h a w hf hi
theorem SE.blko {id id' : Nat} (hne : id' ≠ id) (h : SE X Q (.exit id') m l) : SE X (Exit.inBlock id Q) (.exit id') m l := fun a w hf hi => by simp only [Exit.inBlock, if_neg hne]; exact h a w hf hi
theorem SC.region_quiet {id : Nat} {L : List Oper} (hm : P.follows .mixedOrders = true) (hB : Region.lexB .any L.toArray = true) (h : SQ P X L.toArray (fun a' => ∀ w', Inv X w' l → Q .normal a' w') L m l) : SC P X (.region id L.toArray true) Q m l :=
  fun a w hf hi => wp_region_quiet hm hB hi.draw1 (h a hf)
theorem SC.region_tail {id : Nat} {L : List Oper} (n : Nat) (hm : P.follows .mixedOrders = true) (hB : Region.lexTailB .any L.toArray n = true)
    (h : SQ P X L.toArray (fun a' => ∀ w', Inv X w' l → wpList P L.toArray Q (L.drop n) a' w') (L.take n) m l) : SC P X (.region id L.toArray true) Q m l :=
  fun a w hf hi => wp_region_quiet_tail n hm hB hi.draw1 (h a hf)
theorem SQ.nilE (h : SE X Q .normal m l) : SQ P X ops (fun a' => ∀ w', Inv X w' l → Q .normal a' w') [] m l := fun a hf w' hi => h a w' hf hi
theorem SQ.nilL {L : List Oper} (h : SL P X ops Q L m l) : SQ P X ops (fun a' => ∀ w', Inv X w' l → wpList P ops Q L a' w') [] m l := fun a hf w' hi => h a w' hf hi

/-! ## Operations -/
theorem SL.nil (h : SE X Q .normal m l) : SL P X ops Q [] m l := fun a w hf hi => wpList_nil (h a w hf hi)
theorem SL.ru (hg : o.guard = none) (hd : o.dst = some d) (hn : d < X.n) (hr : Ru P X o m l v) (k : SL P X ops Q rest ((d, v) :: m) l) : SL P X ops Q (o :: rest) m l := fun a w hf hi =>
  wpList_plain hg fun K hK => by
    unfold Oper.wp
    rw [hr a w hf hi, Oper.upon_value, hd]
    exact hK _ _ (k _ w (hf.put hn v) hi)
theorem SQ.ru {K : Act → Prop} (hg : o.guard = none) (hd : o.dst = some d) (hn : d < X.n) (hr : Ru P X o m l v) (k : SQ P X ops K rest ((d, v) :: m) l) : SQ P X ops K (o :: rest) m l := fun a hf => by
  unfold wpQuiet
  rw [if_pos (by simp [Region.wanted, hg])]
  refine ⟨v, fun w hi => ?_, ?_⟩
  · unfold Oper.quietAt; rw [hr a w hf hi]; exact ⟨rfl, rfl⟩
  · rw [hd]; exact k _ (hf.put hn v)
theorem guard_is {j : Nat} {want : Bool} {dj : Nat} {b : Bool} {a : Act} (hf : Fr X.n a m) (hg : o.guard = some (j, want)) (hj : (ops[j]?).bind (·.dst) = some dj) (hb : look m dj = some (.bool b)) : Region.wanted o (yielded ops a.tmps) = (b == want) := by
  have h1 : yielded ops a.tmps j = some b := by
    unfold yielded
    rw [hj]
    simp [hf.2.2 dj _ hb]
  unfold Region.wanted
  rw [hg]
  simp [h1]
theorem SL.rug {j : Nat} {want : Bool} {dj : Nat} (hg : o.guard = some (j, want)) (hj : (ops[j]?).bind (·.dst) = some dj) (hb : look m dj = some (.bool want)) (hd : o.dst = some d) (hn : d < X.n) (hr : Ru P X o m l v)
    (k : SL P X ops Q rest ((d, v) :: m) l) : SL P X ops Q (o :: rest) m l := fun a w hf hi =>
  wpList_step fun K hK => by
    rw [if_pos (by rw [guard_is hf hg hj hb]; simp)]
    unfold Oper.wp
    rw [hr a w hf hi, Oper.upon_value, hd]
    exact hK _ _ (k _ w (hf.put hn v) hi)
theorem SQ.rug {K : Act → Prop} {j : Nat} {want : Bool} {dj : Nat} (hg : o.guard = some (j, want)) (hj : (ops[j]?).bind (·.dst) = some dj) (hb : look m dj = some (.bool want)) (hd : o.dst = some d) (hn : d < X.n) (hr : Ru P X o m l v)
    (k : SQ P X ops K rest ((d, v) :: m) l) : SQ P X ops K (o :: rest) m l := fun a hf => by
  unfold wpQuiet
  rw [if_pos (by rw [guard_is hf hg hj hb]; simp)]
  refine ⟨v, fun w hi => ?_, ?_⟩
  · unfold Oper.quietAt; rw [hr a w hf hi]; exact ⟨rfl, rfl⟩
  · rw [hd]; exact k _ (hf.put hn v)
/-- The guard says no. -/
theorem SL.off {j : Nat} {want b : Bool} {dj : Nat} (hg : o.guard = some (j, want)) (hj : (ops[j]?).bind (·.dst) = some dj) (hb : look m dj = some (.bool b)) (hw : (b == want) = false) (hd : o.dst = some d) (hn : d < X.n)
    (k : SL P X ops Q rest ((d, undef) :: m) l) : SL P X ops Q (o :: rest) m l := fun a w hf hi =>
  wpList_step fun K hK => by
    rw [if_neg (by rw [guard_is hf hg hj hb]; simp [hw]), hd]
    exact hK _ _ (k _ w (hf.put hn _) hi)
theorem SQ.off {K : Act → Prop} {j : Nat} {want b : Bool} {dj : Nat} (hg : o.guard = some (j, want)) (hj : (ops[j]?).bind (·.dst) = some dj) (hb : look m dj = some (.bool b)) (hw : (b == want) = false) (hd : o.dst = some d) (hn : d < X.n)
    (k : SQ P X ops K rest ((d, undef) :: m) l) : SQ P X ops K (o :: rest) m l := fun a hf => by
  unfold wpQuiet
  rw [if_neg (by rw [guard_is hf hg hj hb]; simp [hw]), hd]
  exact k _ (hf.put hn _)

theorem ru_move {x : Operand} (ho : o.op = .move x) (hx : evM m x = some v) : Ru P X o m l v := fun a w hf _ => by
  unfold execOp; rw [ho]; simp only [hf.ev hx]; rfl
theorem ru_assign {x : Operand} (ho : o.op = .assign x) (hx : evM m x = some v) : Ru P X o m l v := fun a w hf _ => by
  unfold execOp; rw [ho]; simp only [hf.ev hx]; rfl
theorem ru_pick {c x y : Operand} {b : Bool} {u v : Value} (ho : o.op = .pick c x y) (hc : evM m c = some (.bool b)) (hx : evM m x = some u) (hy : evM m y = some v) : Ru P X o m l (if b then u else v) := fun a w hf _ => by
  unfold execOp; rw [ho]; simp only [hf.ev hc, hf.ev hx, hf.ev hy]; rfl
theorem ru_extract {t : Operand} {i : Nat} {vs : Array Value} (ho : o.op = .extract t i) (ht : evM m t = some (.tuple vs)) (hv : vs[i]? = some v) : Ru P X o m l v := fun a w hf _ => by
  unfold execOp; rw [ho]; simp only [hf.ev ht, Instr.extract, hv]; rfl
theorem ru_nilCheck {x : Operand} {a : Addr} (ho : o.op = .nilCheck x) (hx : evM m x = some (.pointer (some a))) : Ru P X o m l (.pointer (some a)) := fun a w hf _ => by
  unfold execOp; rw [ho]; simp only [hf.ev hx]; rfl
theorem ru_bin {op : BinOp} {t t' : TypeId} {x y : Operand} {k : IntKind} {p q : Int} (ho : o.op = .binOp op t x y t') (hx : evM m x = some (.int k p)) (hy : evM m y = some (.int k q))
    (hr : ∀ w, (binOp op t (.int k p) (.int k q)).run P w = .ok v w) : Ru P X o m l v := fun a w hf _ => by
  unfold execOp; rw [ho]; simp only [hf.ev hx, hf.ev hy]
  have hg : (eqGuard op t x y (.int k p) (.int k q)).run P w = .ok () w := by unfold eqGuard; split <;> rfl
  rw [Sem.run_bind, Sem.run_bind, hg]
  simp only [Result.andThen_ok, hr w]
  rfl
end
end Go.Proofs.Ytpgnklmmjdkhiaa

/-
  The light machine's laws: what each operation comes to. No program is named here.
-/
namespace Go.Proofs.Ytpgnklmmjdkhiaa
open Go.RowKit

def isAggD : TypeDesc → Bool
  | .struct _ | .array _ _ => true
  | _ => false
/-- A type of one cell. -/
structure TySc (P : Program) (t : TypeId) (z : Value) : Prop where
  d : ∃ d, P.underlying t = some d ∧ isAggD d = false
  i : (P.info? t).map (fun i => (i.size, i.zero)) = some (1, some z)
  one : z.oneCell' = true
/-- A struct's or an array's type. -/
structure TyAg (P : Program) (t : TypeId) (z : List Value) : Prop where
  d : ∃ d, P.underlying t = some d ∧ isAggD d = true
  i : (P.info? t).map (fun i => (i.size, i.zero)) = some (z.length, some (.agg z.toArray))
  one : z.all (·.oneCell') = true
def FldIs (P : Program) (s : TypeId) (k off : Nat) : Prop := ∃ fs f, P.underlying s = some (.struct fs) ∧ fs[k]? = some f ∧ f.offset = off ∧ (P.info? f.type).map (fun i => i.size == 0) = some false
def ArrIs (P : Program) (t : TypeId) (n elem size : Nat) : Prop := P.underlying t = some (.array n elem) ∧ (P.info? elem).map (·.size) = some size
def SliIs (P : Program) (t : TypeId) (elem size : Nat) : Prop := P.underlying t = some (.slice elem) ∧ (P.info? elem).map (·.size) = some size
def CallOk (P : Program) (f : FuncId) : Prop := ∃ fn, P.funcs[f]? = some fn ∧ fn.body.isNone = false ∧ (fn.name == "runtime.NumGoroutine") = false

section
variable {P : Program} {X : Cx} {ops : Array Oper} {Q : Exit → Act → World → Prop} {rest : List Oper} {o : Oper} {m : List (Nat × Value)} {l : List Res} {v : Value} {d : Nat}

theorem map_some {α β : Type} {x : Option α} {f : α → β} {y : β} (h : x.map f = some y) : ∃ a, x = some a ∧ f a = y := by
  cases x with
  | none => simp at h
  | some a => exact ⟨a, rfl, by simpa using h⟩
theorem TySc.run {t : TypeId} {z : Value} (h : TySc P t z) (w : World) : (isAgg t).run P w = .ok false w ∧ (sizeOf t).run P w = .ok 1 w ∧ (zeroValue t).run P w = .ok z w := by
  obtain ⟨⟨d, hd, hb⟩, hi, _⟩ := h
  obtain ⟨i, hi, hz⟩ := map_some hi
  simp only [Prod.mk.injEq] at hz
  refine ⟨?_, ?_, ?_⟩
  · unfold isAgg; rw [Sem.run_bind, run_underlying hd w]; cases d <;> simp_all [isAggD]
  · simp [sizeOf, typeInfo, hi, hz.1]
  · simp [zeroValue, typeInfo, hi, hz.2]
theorem TyAg.run {t : TypeId} {z : List Value} (h : TyAg P t z) (w : World) : (isAgg t).run P w = .ok true w ∧ (sizeOf t).run P w = .ok z.length w ∧ (zeroValue t).run P w = .ok (.agg z.toArray) w := by
  obtain ⟨⟨d, hd, hb⟩, hi, _⟩ := h
  obtain ⟨i, hi, hz⟩ := map_some hi
  simp only [Prod.mk.injEq] at hz
  refine ⟨?_, ?_, ?_⟩
  · unfold isAgg; rw [Sem.run_bind, run_underlying hd w]; cases d <;> simp_all [isAggD]
  · simp [sizeOf, typeInfo, hi, hz.1]
  · simp [zeroValue, typeInfo, hi, hz.2]
theorem size_run {t n : Nat} (h : (P.info? t).map (·.size) = some n) (w : World) : (sizeOf t).run P w = .ok n w := by
  obtain ⟨i, hi, hz⟩ := map_some h
  simp [sizeOf, typeInfo, hi, hz]

theorem ru_load {t : TypeId} {z : Value} {x : Operand} {i b o' : Nat} {c : List Value} {T : TypeId} (ht : TySc P t z) (ho : o.op = .load t x) (hx : evM m x = some (.pointer (some ⟨b, o', none⟩)))
    (hi : l[i]? = some (rBlk b c T)) (hc : c[o']? = some v) : Ru P X o m l v := fun a w hf hI => by
  have hb : Blk w b c T := hI.1.get hi
  unfold execOp; rw [ho]
  simp only [hf.ev hx, Instr.loadAt, Instr.sureAddr, Sem.run_bind, Sem.run_pure, Result.andThen_ok, loadVar, (ht.run w).1]
  have h1 : w.cell? ⟨b, o', none⟩ = some v := by rw [hb.cell]; exact hc
  simp [h1]
theorem ru_loada {t : TypeId} {z : List Value} {x : Operand} {i b o' : Nat} {c vs : List Value} {T : TypeId} (ht : TyAg P t z) (ho : o.op = .load t x) (hx : evM m x = some (.pointer (some ⟨b, o', none⟩)))
    (hi : l[i]? = some (rBlk b c T)) (hv : (c.drop o').take z.length = vs) (hlen : o' + z.length ≤ c.length) : Ru P X o m l (.agg vs.toArray) := fun a w hf hI => by
  have hb : Blk w b c T := hI.1.get hi
  have hl : vs.length = z.length := by rw [← hv]; simp; omega
  obtain ⟨⟨d, hd, hdb⟩, hsz, _⟩ := ht
  obtain ⟨inf, hinf, hz⟩ := map_some hsz
  simp only [Prod.mk.injEq] at hz
  unfold execOp; rw [ho]
  have hrun := run_loadVar_at (P := P) w b o' t vs d (fun j hj => by
    rw [hb.cell, ← hv, List.getElem?_take, if_pos (by omega), List.getElem?_drop]) hd (by cases d <;> simp_all [isAggD]) (by rw [hinf]; simp [hz.1, hl])
  simp only [hf.ev hx, Instr.loadAt, Instr.sureAddr, Sem.run_bind, Sem.run_pure, Result.andThen_ok, hrun]
theorem ru_fieldAddr {s : TypeId} {x : Operand} {k off b o' o2 : Nat} (hs : FldIs P s k off) (ho : o.op = .fieldAddr s x k) (hx : evM m x = some (.pointer (some ⟨b, o', none⟩))) (h2 : o' + off = o2) :
    Ru P X o m l (.pointer (some ⟨b, o2, none⟩)) := fun a w hf hI => by
  obtain ⟨fs, f, hu, hk, hoff, hsz⟩ := hs
  obtain ⟨inf, hinf, hz⟩ := map_some hsz
  unfold execOp; rw [ho]
  have hp : (fieldPlace ⟨b, o', none⟩ f).run P w = .ok ⟨b, o2, none⟩ w := by
    have h0 : (sizeOf f.type).run P w = .ok inf.size w := by simp [sizeOf, typeInfo, hinf]
    have hne : ¬ inf.size = 0 := by simpa using hz
    unfold fieldPlace
    rw [Sem.run_bind, h0, Result.andThen_ok, if_neg hne, hoff, add_at, h2]
    rfl
  simp only [hf.ev hx, Instr.fieldAt, Sem.run_bind, run_underlying hu w, Result.andThen_ok, hk, Instr.sureAddr, Sem.run_pure, hp]
theorem ru_indexA {t : TypeId} {x ix : Operand} {n e size b o' o2 : Nat} {i : Int} {k : IntKind} (hs : ArrIs P t n e size) (ho : o.op = .indexAddr t x ix) (hx : evM m x = some (.pointer (some ⟨b, o', none⟩))) (hix : evM m ix = some (.int k i))
    (h0 : 0 ≤ i) (hn : i < n) (h2 : o' + i.toNat * size = o2) : Ru P X o m l (.pointer (some ⟨b, o2, none⟩)) := fun a w hf hI => by
  obtain ⟨hu, hsz⟩ := hs
  unfold execOp; rw [ho]
  simp only [hf.ev hx, hf.ev hix, Instr.indexAt, asIntOf, Sem.run_bind, Sem.run_pure, run_underlying hu w, Result.andThen_ok, Instr.sureAddr]
  rw [if_pos ⟨h0, hn⟩]
  simp only [Sem.run_bind, size_run hsz w, Result.andThen_ok, add_at, h2, Sem.run_pure]
theorem ru_indexS {t : TypeId} {x ix : Operand} {e size b o' o2 n cp : Nat} {i : Int} {k : IntKind} (hs : SliIs P t e size) (ho : o.op = .indexAddr t x ix) (hx : evM m x = some (.slice (some ⟨b, o', none⟩) n cp)) (hix : evM m ix = some (.int k i))
    (h0 : 0 ≤ i) (hn : i < n) (h2 : o' + i.toNat * size = o2) : Ru P X o m l (.pointer (some ⟨b, o2, none⟩)) := fun a w hf hI => by
  obtain ⟨hu, hsz⟩ := hs
  unfold execOp; rw [ho]
  simp only [hf.ev hx, hf.ev hix, Instr.indexAt, asIntOf, Sem.run_bind, Sem.run_pure, run_underlying hu w, Result.andThen_ok]
  rw [if_pos ⟨h0, hn⟩]
  simp only [Sem.run_bind, size_run hsz w, Result.andThen_ok, add_at, h2, Sem.run_pure]
theorem ru_build {t : TypeId} {parts : List (Nat × Operand)} {vals : List (Nat × Value)} {cells : List Value} (ho : o.op = .build t parts.toArray)
    (hp : parts.mapM (fun x => (evM m x.2).map (x.1, ·)) = some vals) (hb : P.built t vals = some cells.toArray) : Ru P X o m l (.agg cells.toArray) := fun a w hf hI => by
  unfold execOp; rw [ho]
  have hv : (parts.toArray.map fun (i, x) => (i, a.eval x)) = vals.toArray := by
    have : parts.map (fun (x : Nat × Operand) => (x.1, a.eval x.2)) = vals := by
      clear ho hb
      induction parts generalizing vals with
      | nil => simp at hp; simpa using hp.symm
      | cons y r ih =>
        simp only [List.mapM_cons, Option.bind_eq_bind, Option.bind_eq_some_iff, Option.map_eq_some_iff] at hp
        obtain ⟨u, ⟨u', hu, rfl⟩, us, hus, h⟩ := hp
        cases h
        rw [List.map_cons, ih hus, hf.ev hu]
    rw [← this]; simp
  simp only [hv, Sem.run_bind, run_build w t vals.toArray cells.toArray (by simpa using hb), Result.andThen_ok]
  rfl

/-! Operations that turn memory. -/
theorem SL.store {t : TypeId} {x y : Operand} {i b o' : Nat} {c c' : List Value} {T : TypeId} {z : Value} (hg : o.guard = none) (hd : o.dst = none) (ht : TySc P t z) (ho : o.op = .store t x y) (hx : evM m x = some (.pointer (some ⟨b, o', none⟩)))
    (hy : evM m y = some v) (hv : v.oneCell' = true) (hi : l[i]? = some (rBlk b c T)) (hlen : o' < c.length) (hS : X.S b ∨ X.w0.heap.size ≤ b) (hc : c.set o' v = c')
    (k : SL P X ops Q rest m (l.set i (rBlk b c' T))) : SL P X ops Q (o :: rest) m l := fun a w hf hI =>
  wpList_plain hg fun K hK => by
    have hb : Blk w b c T := hI.1.get hi
    unfold Oper.wp execOp
    rw [ho]
    have hcell : w.cell? ⟨b, o', none⟩ = some (c[o']'hlen) := by rw [hb.cell]; exact List.getElem?_eq_getElem hlen
    have hvc : v.cells = #[v] := by cases v <;> first | rfl | simp [Value.oneCell'] at hv
    have hst : (storeVar t ⟨b, o', none⟩ v).run P w = .ok () (w.setCell ⟨b, o', none⟩ v) := by
      unfold storeVar
      rw [hvc, Sem.run_bind, (ht.run w).2.1]
      simp only [Result.andThen_ok, List.size_toArray, List.length_cons, List.length_nil, Nat.zero_add, ne_eq, not_true, if_false, storeCells]
      have ha : (⟨b, o', none⟩ : Addr).add 0 = ⟨b, o', none⟩ := rfl
      rw [Sem.run_bind, ha, run_store P w _ v _ hv, hcell]
      simp [hb.fz, Result.andThen]
    simp only [hf.ev hx, hf.ev hy, Instr.storeAt, Instr.sureAddr, Sem.run_bind, Sem.run_pure, Result.andThen_ok, hst, Oper.upon_skip, hd, Act.put]
    refine hK _ _ (k a _ hf ?_)
    subst hc
    exact hI.upd hi (Only.st (S := fun k => k = b) (Only.refl _ _) rfl _ _) (fun b' hb' => by cases hb'; exact hS) (hb.set o' v) (fun b' hb' => .inl hb')
theorem SL.storea {t : TypeId} {x y : Operand} {i b o' : Nat} {c c' vs z : List Value} {T : TypeId} (hg : o.guard = none) (hd : o.dst = none) (ht : TyAg P t z) (ho : o.op = .store t x y) (hx : evM m x = some (.pointer (some ⟨b, o', none⟩)))
    (hy : evM m y = some (.agg vs.toArray)) (hv : vs.all (·.oneCell') = true) (hvl : vs.length = z.length) (hi : l[i]? = some (rBlk b c T)) (hlen : o' + vs.length ≤ c.length) (hS : X.S b ∨ X.w0.heap.size ≤ b)
    (hc : c.take o' ++ vs ++ c.drop (o' + vs.length) = c') (k : SL P X ops Q rest m (l.set i (rBlk b c' T))) : SL P X ops Q (o :: rest) m l := fun a w hf hI =>
  wpList_plain hg fun K hK => by
    have hb : Blk w b c T := hI.1.get hi
    unfold Oper.wp execOp
    rw [ho]
    have hst : (storeVar t ⟨b, o', none⟩ (.agg vs.toArray)).run P w = .ok () (w.setRow b c'.toArray) := by
      have := run_storeCells_at (P := P) b o' T vs 0 c.toArray w hb (by simpa using hlen) (fun u hu => List.all_eq_true.1 hv u hu)
      unfold storeVar
      rw [show Value.cells (.agg vs.toArray) = vs.toArray from rfl, Sem.run_bind, (ht.run w).2.1]
      simp only [Result.andThen_ok, List.size_toArray, hvl, ne_eq, not_true, if_false]
      rw [← hvl] at *
      simpa [hc] using this
    simp only [hf.ev hx, hf.ev hy, Instr.storeAt, Instr.sureAddr, Sem.run_bind, Sem.run_pure, Result.andThen_ok, hst, Oper.upon_skip, hd, Act.put]
    refine hK _ _ (k a _ hf ?_)
    refine hI.upd hi ⟨rfl, rfl, rfl, by simp [World.setRow], fun k' _ hk' => setRow_other w b k' _ hk'⟩ (fun b' hb' => by cases hb'; exact hS) ?_ (fun b' hb' => .inl hb')
    exact setRow_heap w b c.toArray c'.toArray T (0, 0) hb
theorem new_blk {w : World} (hI : Inv X w l) (c : Array Value) (T : TypeId) : Inv X (w.alloc (.cells c T)) (l ++ [rBlk w.heap.size c.toList T]) :=
  hI.add ((Only.refl _ _).alloc _) (Blk.new' w c T) (fun b hb => by cases hb; exact Nat.le_refl _)
theorem SL.alloc {t : TypeId} {z : Value} (hg : o.guard = none) (hd : o.dst = some d) (hn : d < X.n) (ht : TySc P t z) (ho : o.op = .alloc t)
    (k : ∀ b, X.w0.heap.size ≤ b → SL P X ops Q rest ((d, .pointer (some ⟨b, 0, none⟩)) :: m) (l ++ [rBlk b [z] t])) : SL P X ops Q (o :: rest) m l := fun a w hf hI =>
  wpList_plain hg fun K hK => by
    unfold Oper.wp execOp
    rw [ho]
    have hvc : z.cells = #[z] := by have := ht.one; cases z <;> first | rfl | simp [Value.oneCell'] at this
    have hrun : (Instr.alloc t true (.tuple #[])).run P w = .ok (.pointer (some ⟨w.heap.size, 0, none⟩)) (w.alloc (.cells #[z] t)) := by
      unfold Instr.alloc
      rw [Sem.run_bind, (ht.run w).2.2]
      simp [newVar, newRow, newObj, hvc]; rfl
    simp only [Sem.run_bind, hrun, Result.andThen_ok, Sem.run_pure, Oper.upon_value, hd]
    exact hK _ _ (k _ hI.2.size _ _ (hf.put hn _) (new_blk hI _ _))
theorem SL.alloca {t : TypeId} {z : List Value} (hg : o.guard = none) (hd : o.dst = some d) (hn : d < X.n) (ht : TyAg P t z) (ho : o.op = .alloc t)
    (k : ∀ b, X.w0.heap.size ≤ b → SL P X ops Q rest ((d, .pointer (some ⟨b, 0, none⟩)) :: m) (l ++ [rBlk b z t])) : SL P X ops Q (o :: rest) m l := fun a w hf hI =>
  wpList_plain hg fun K hK => by
    unfold Oper.wp execOp
    rw [ho]
    have hrun : (Instr.alloc t true (.tuple #[])).run P w = .ok (.pointer (some ⟨w.heap.size, 0, none⟩)) (w.alloc (.cells z.toArray t)) := by
      unfold Instr.alloc
      rw [Sem.run_bind, (ht.run w).2.2]
      simp [newVar, newRow, newObj, Value.cells]; rfl
    simp only [Sem.run_bind, hrun, Result.andThen_ok, Sem.run_pure, Oper.upon_value, hd]
    exact hK _ _ (k _ hI.2.size _ _ (hf.put hn _) (new_blk hI _ _))
theorem SL.box {t : TypeId} {x : Operand} {c : List Value} (hg : o.guard = none) (hd : o.dst = some d) (hn : d < X.n) (ho : o.op = .box t x) (hx : evM m x = some v) (hc : v.cells = c.toArray)
    (k : ∀ b, X.w0.heap.size ≤ b → SL P X ops Q rest ((d, .pointer (some ⟨b, 0, none⟩)) :: m) (l ++ [rBlk b c t])) : SL P X ops Q (o :: rest) m l := fun a w hf hI =>
  wpList_plain hg fun K hK => by
    unfold Oper.wp execOp
    rw [ho]
    have hrun : (Instr.box t v).run P w = .ok (.pointer (some ⟨w.heap.size, 0, none⟩)) (w.alloc (.cells c.toArray t)) := by
      unfold Instr.box
      simp [newVar, newRow, newObj, hc]; rfl
    simp only [hf.ev hx, Sem.run_bind, hrun, Result.andThen_ok, Sem.run_pure, Oper.upon_value, hd]
    exact hK _ _ (k _ hI.2.size _ _ (hf.put hn _) (new_blk hI _ _))

/-! Calls. -/
def evL (m : List (Nat × Value)) : List Operand → Option (List Value)
  | [] => some []
  | x :: r => match evM m x, evL m r with
    | some v, some vs => some (v :: vs)
    | _, _ => none
theorem Fr.evL {n : Nat} {a : Act} {m : List (Nat × Value)} (h : Fr n a m) : ∀ {xs : List Operand} {vs : List Value}, Proofs.Ytpgnklmmjdkhiaa.evL m xs = some vs → xs.map a.eval = vs
  | [], vs, hv => by simpa [Proofs.Ytpgnklmmjdkhiaa.evL] using hv
  | x :: r, vs, hv => by
    simp only [Proofs.Ytpgnklmmjdkhiaa.evL] at hv
    split at hv
    · rename_i v us h1 h2
      cases hv
      rw [List.map_cons, h.ev h1, Fr.evL h h2]
    · cases hv
theorem call_enter {f : FuncId} {fs cs vals : List Value} {c : Operand} {args : List Operand} {aT : Array TypeId} (ho : o.op = .call { callee := .value c, args := args.toArray, argTypes := aT }) (hok : CallOk P f)
    (hc : evM m c = some (.func (.func f) fs.toArray cs.toArray)) (ha : evL m args = some vals) {a : Act} {n : Nat} (hf : Fr n a m) (w : World) : (execOp a.eval o).run P w = .ok (.enter f (fs ++ vals ++ cs).toArray) w := by
  obtain ⟨fn, h1, h2, h3⟩ := hok
  unfold execOp; rw [ho]
  have he : args.toArray.map a.eval = vals.toArray := by rw [← hf.evL ha]; simp
  have h2' : ¬ fn.body = none := by cases hfb : fn.body <;> simp_all
  have h3' : ¬ fn.name = "runtime.NumGoroutine" := by simpa using h3
  simp [resolve, hf.ev hc, Deferred.ofValue, he, invoke, callFunc, h1, h2', h3', Sem.run_bind, Result.andThen]
/-- A call whose answer and whose memory hang on what it draws (z). -/
theorem SL.call {ζ : Type} (val : ζ → Value) (l' : ζ → List Res) (p : ζ → Prop) {f : FuncId} {fs cs vals : List Value} {c : Operand} {args : List Operand} {aT : Array TypeId} (hg : o.guard = none)
    (ho : o.op = .call { callee := .value c, args := args.toArray, argTypes := aT }) (hok : CallOk P f) (hc : evM m c = some (.func (.func f) fs.toArray cs.toArray)) (ha : evL m args = some vals) (hd : o.dst = some d) (hn : d < X.n)
    (H : ∀ w, Inv X w l → Calls P f (fs ++ vals ++ cs).toArray w fun e w' => ∃ z, e = .returned (val z) ∧ Inv X w' (l' z) ∧ p z)
    (k : ∀ z, p z → SL P X ops Q rest ((d, val z) :: m) (l' z)) : SL P X ops Q (o :: rest) m l := fun a w hf hI =>
  wpList_plain hg fun K hK => by
    unfold Oper.wp
    rw [call_enter ho hok hc ha hf w, Oper.upon_enter]
    refine (H w hI).mono fun e w' ⟨z, he, hI', hp⟩ => ?_
    subst he
    rw [hd]
    exact hK _ _ (k z hp _ _ (hf.put hn _) hI')
theorem SL.callg {ζ : Type} (val : ζ → Value) (l' : ζ → List Res) (p : ζ → Prop) {j : Nat} {want : Bool} {dj : Nat} (hg : o.guard = some (j, want)) (hj : (ops[j]?).bind (·.dst) = some dj) (hb : look m dj = some (.bool want)) {f : FuncId} {fs cs vals : List Value} {c : Operand} {args : List Operand} {aT : Array TypeId}
    (ho : o.op = .call { callee := .value c, args := args.toArray, argTypes := aT }) (hok : CallOk P f) (hc : evM m c = some (.func (.func f) fs.toArray cs.toArray)) (ha : evL m args = some vals) (hd : o.dst = some d) (hn : d < X.n)
    (H : ∀ w, Inv X w l → Calls P f (fs ++ vals ++ cs).toArray w fun e w' => ∃ z, e = .returned (val z) ∧ Inv X w' (l' z) ∧ p z)
    (k : ∀ z, p z → SL P X ops Q rest ((d, val z) :: m) (l' z)) : SL P X ops Q (o :: rest) m l := fun a w hf hI =>
  wpList_step fun K hK => by
    rw [if_pos (by rw [guard_is hf hg hj hb]; simp)]
    unfold Oper.wp
    rw [call_enter ho hok hc ha hf w, Oper.upon_enter]
    refine (H w hI).mono fun e w' ⟨z, he, hI', hp⟩ => ?_
    subst he
    rw [hd]
    exact hK _ _ (k z hp _ _ (hf.put hn _) hI')
/-- A call in a quiet region: one value, nothing old turned. -/
theorem SQ.call {K : Act → Prop} {f : FuncId} {fs cs vals : List Value} {c : Operand} {args : List Operand} {aT : Array TypeId} (v : Value) (hg : o.guard = none)
    (ho : o.op = .call { callee := .value c, args := args.toArray, argTypes := aT }) (hok : CallOk P f) (hc : evM m c = some (.func (.func f) fs.toArray cs.toArray)) (ha : evL m args = some vals) (hd : o.dst = some d) (hn : d < X.n)
    (H : ∀ w, Inv X w l → Calls P f (fs ++ vals ++ cs).toArray w fun e w' => e = .returned v ∧ Inv X w' l)
    (k : SQ P X ops K rest ((d, v) :: m) l) : SQ P X ops K (o :: rest) m l := fun a hf => by
  unfold wpQuiet
  rw [if_pos (by simp [Region.wanted, hg])]
  refine ⟨v, fun w hi => ?_, ?_⟩
  · unfold Oper.quietAt; rw [call_enter ho hok hc ha hf w]; exact ⟨rfl, H w hi⟩
  · rw [hd]; exact k _ (hf.put hn v)
theorem SQ.callg {K : Act → Prop} {j : Nat} {want : Bool} {dj : Nat} {f : FuncId} {fs cs vals : List Value} {c : Operand} {args : List Operand} {aT : Array TypeId} (v : Value) (hg : o.guard = some (j, want)) (hj : (ops[j]?).bind (·.dst) = some dj) (hb : look m dj = some (.bool want))
    (ho : o.op = .call { callee := .value c, args := args.toArray, argTypes := aT }) (hok : CallOk P f) (hc : evM m c = some (.func (.func f) fs.toArray cs.toArray)) (ha : evL m args = some vals) (hd : o.dst = some d) (hn : d < X.n)
    (H : ∀ w, Inv X w l → Calls P f (fs ++ vals ++ cs).toArray w fun e w' => e = .returned v ∧ Inv X w' l)
    (k : SQ P X ops K rest ((d, v) :: m) l) : SQ P X ops K (o :: rest) m l := fun a hf => by
  unfold wpQuiet
  rw [if_pos (by rw [guard_is hf hg hj hb]; simp)]
  refine ⟨v, fun w hi => ?_, ?_⟩
  · unfold Oper.quietAt; rw [call_enter ho hok hc ha hf w]; exact ⟨rfl, H w hi⟩
  · rw [hd]; exact k _ (hf.put hn v)

/-! A function's end and beginning. -/
theorem SE.res {fn : Func} {R : Ending → World → Prop} {e : Exit} (he : e = .ret ∨ e = .normal) (hr : ∀ a w, Fr X.n a m → Inv X w l → (results fn a.tmps).run P w = .ok v w) (hR : ∀ w, Inv X w l → R (.returned v) w) : SE X (bodyPost P fn R) e m l := fun a w hf hI => by
  rcases he with rfl | rfl <;> exact ⟨hf.1, v, hr a w hf hI, hR w hI⟩
theorem look_tmps {n : Nat} {a : Act} {t : Nat} (hf : Fr n a m) (h : look m t = some v) : a.tmps.getD t undef = v := by simp [hf.2.2 t v h]
theorem res1 {fn : Func} {t : Nat} (h : fn.results = #[.tmp t]) (ht : look m t = some v) : ∀ a w, Fr X.n a m → Inv X w l → (results fn a.tmps).run P w = .ok v w := fun a w hf _ => by
  rw [results_tmp h, look_tmps hf ht]
theorem res2 {fn : Func} {t u : Nat} {v1 v2 : Value} (h : fn.results = #[.tmp t, .tmp u]) (ht : look m t = some v1) (hu : look m u = some v2) : ∀ a w, Fr X.n a m → Inv X w l → (results fn a.tmps).run P w = .ok (.tuple #[v1, v2]) w := fun a w hf _ => by
  rw [results_tmp2 h, look_tmps hf ht, look_tmps hf hu]
theorem res0 {fn : Func} (h : fn.results = #[]) : ∀ a w, Fr X.n a m → Inv X w l → (results fn a.tmps).run P w = .ok (.tuple #[]) w := fun a w _ _ => results_none h _ _ _
theorem calls_sc {f : FuncId} {fn : Func} {c : Code} {args : List Value} {w : World} {R : Ending → World → Prop} {l0 : List Res} (S : Nat → Prop) (hfn : P.funcs[f]? = some fn) (hb : fn.body = some c) (n : Nat) (hn : fn.ntmps = n) (hargs : args.length ≤ n)
    (hI : Inv ⟨n, w, S⟩ w l0) (h : SC P ⟨n, w, S⟩ c (bodyPost P fn R) (args.zipIdx.map fun x => (x.2, x.1)) l0) : Calls P f args.toArray w R := by
  refine calls_of_wp hfn hb (h _ w ⟨rfl, ?_, ?_⟩ hI)
  · simp; omega
  · intro t v hv
    have key : ∀ (xs : List Value) (k : Nat), look ((xs.zipIdx k).map fun x => (x.2, x.1)) t = some v → k ≤ t ∧ xs[t - k]? = some v := by
      intro xs
      induction xs with
      | nil => intro k h; simp [look] at h
      | cons x r ih =>
        intro k h
        simp only [List.zipIdx_cons, List.map_cons, look] at h
        cases hb : Nat.beq k t
        · rw [hb] at h
          have hne : k ≠ t := fun e => by subst e; simp at hb
          obtain ⟨h1, h2⟩ := ih (k + 1) (by simpa using h)
          refine ⟨by omega, ?_⟩
          rw [show t - k = (t - (k + 1)) + 1 by omega]; simpa using h2
        · rw [hb] at h
          have e : k = t := Nat.eq_of_beq_eq_true hb
          subst e
          simp at h; subst h
          exact ⟨Nat.le_refl _, by simp⟩
    have := (key args 0 hv).2
    simp only [Nat.sub_zero] at this
    have hlt : t < args.length := (List.getElem?_eq_some_iff.1 this).1
    rw [Array.getElem?_append_left (by simpa using hlt)]
    simpa using this
end
end Go.Proofs.Ytpgnklmmjdkhiaa

/-
  The light machine's laws: numbers, tests, small builtins; and a walk parted and joined again. No program is named here.
-/
namespace Go.Proofs.Ytpgnklmmjdkhiaa
open Go.RowKit

abbrev iw (x : Int) : Value := .int .i64 x
abbrev uw (x : Int) : Value := .int .u32 x
abbrev bo (b : Bool) : Value := .bool b
abbrev pt (b o : Nat) : Value := .pointer (some ⟨b, o, none⟩)
abbrev sl (b o n c : Nat) : Value := .slice (some ⟨b, o, none⟩) n c

theorem lt_b {a b : Nat} (h : Nat.blt a b = true) : a < b := by simpa [Nat.blt_eq] using h
theorem le_b {a b : Nat} (h : Nat.ble a b = true) : a ≤ b := Nat.le_of_ble_eq_true h

section
variable {P : Program} {X : Cx} {ops : Array Oper} {Q : Exit → Act → World → Prop} {rest : List Oper} {o : Oper} {m : List (Nat × Value)} {l : List Res} {v : Value} {d : Nat}
variable {t t' : TypeId} {x y : Operand} {k : IntKind} {p q r : Int} {b : Bool}

theorem ru_add (ho : o.op = .binOp .add t x y t') (hx : evM m x = some (.int k p)) (hy : evM m y = some (.int k q)) (hv : k.wrap (p + q) = r) : Ru P X o m l (.int k r) := ru_bin ho hx hy fun w => by subst hv; simp [binOp, Op.intArith]
theorem ru_sub (ho : o.op = .binOp .sub t x y t') (hx : evM m x = some (.int k p)) (hy : evM m y = some (.int k q)) (hv : k.wrap (p - q) = r) : Ru P X o m l (.int k r) := ru_bin ho hx hy fun w => by subst hv; simp [binOp, Op.intArith]
theorem ru_mul (ho : o.op = .binOp .mul t x y t') (hx : evM m x = some (.int k p)) (hy : evM m y = some (.int k q)) (hv : k.wrap (p * q) = r) : Ru P X o m l (.int k r) := ru_bin ho hx hy fun w => by subst hv; simp [binOp, Op.intArith]
theorem ru_quo (ho : o.op = .binOp .quo t x y t') (hx : evM m x = some (.int k p)) (hy : evM m y = some (.int k q)) (h0 : ¬ q = 0) (hv : k.wrap (p.tdiv q) = r) : Ru P X o m l (.int k r) := ru_bin ho hx hy fun w => by subst hv; simp [binOp, Op.intDiv, h0]
theorem ru_rem (ho : o.op = .binOp .rem t x y t') (hx : evM m x = some (.int k p)) (hy : evM m y = some (.int k q)) (h0 : ¬ q = 0) (hv : p.tmod q = r) : Ru P X o m l (.int k r) := ru_bin ho hx hy fun w => by subst hv; simp [binOp, Op.intDiv, h0]
theorem ru_eq (ho : o.op = .binOp .eql t x y t') (hx : evM m x = some (.int k p)) (hy : evM m y = some (.int k q)) (hv : (p == q) = b) : Ru P X o m l (.bool b) := ru_bin ho hx hy fun w => by subst hv; simp [binOp, Op.intCmp]
theorem ru_ne (ho : o.op = .binOp .neq t x y t') (hx : evM m x = some (.int k p)) (hy : evM m y = some (.int k q)) (hv : (p != q) = b) : Ru P X o m l (.bool b) := ru_bin ho hx hy fun w => by subst hv; simp [binOp, Op.intCmp]
theorem ru_lt (ho : o.op = .binOp .lss t x y t') (hx : evM m x = some (.int k p)) (hy : evM m y = some (.int k q)) (hv : decide (p < q) = b) : Ru P X o m l (.bool b) := ru_bin ho hx hy fun w => by subst hv; simp [binOp, Op.intCmp]
theorem ru_le (ho : o.op = .binOp .leq t x y t') (hx : evM m x = some (.int k p)) (hy : evM m y = some (.int k q)) (hv : decide (p ≤ q) = b) : Ru P X o m l (.bool b) := ru_bin ho hx hy fun w => by subst hv; simp [binOp, Op.intCmp]
theorem ru_gt (ho : o.op = .binOp .gtr t x y t') (hx : evM m x = some (.int k p)) (hy : evM m y = some (.int k q)) (hv : decide (q < p) = b) : Ru P X o m l (.bool b) := ru_bin ho hx hy fun w => by subst hv; simp [binOp, Op.intCmp]
theorem ru_ge (ho : o.op = .binOp .geq t x y t') (hx : evM m x = some (.int k p)) (hy : evM m y = some (.int k q)) (hv : decide (q ≤ p) = b) : Ru P X o m l (.bool b) := ru_bin ho hx hy fun w => by subst hv; simp [binOp, Op.intCmp]
theorem ru_or (ho : o.op = .binOp .or t x y t') (hx : evM m x = some (.int k p)) (hy : evM m y = some (.int k q)) (hv : bits .or k p q = r) : Ru P X o m l (.int k r) := ru_bin ho hx hy fun w => by subst hv; simp [binOp, Op.intBits, bits]
theorem ru_and (ho : o.op = .binOp .and t x y t') (hx : evM m x = some (.int k p)) (hy : evM m y = some (.int k q)) (hv : bits .and k p q = r) : Ru P X o m l (.int k r) := ru_bin ho hx hy fun w => by subst hv; simp [binOp, Op.intBits, bits]
theorem ru_not (ho : o.op = .unOp .not t x) (hx : evM m x = some (.bool b)) {c : Bool} (hv : (!b) = c) : Ru P X o m l (.bool c) := fun a w hf _ => by
  subst hv; unfold execOp; rw [ho]; simp only [hf.ev hx, Op.unary]; rfl
/-- A binary operation by its run. -/
theorem ru_binv {op : BinOp} {u1 u2 : Value} (ho : o.op = .binOp op t x y t') (hx : evM m x = some u1) (hy : evM m y = some u2) (hg : ∀ w, (eqGuard op t x y u1 u2).run P w = .ok () w)
    (hr : ∀ w, Inv X w l → (binOp op t u1 u2).run P w = .ok v w) : Ru P X o m l v := fun a w hf hI => by
  unfold execOp; rw [ho]; simp only [hf.ev hx, hf.ev hy]
  rw [Sem.run_bind, Sem.run_bind, hg w]
  simp only [Result.andThen_ok, hr w hI]
  rfl
theorem ru_eqb {p q : Bool} (hu : P.underlying t = some .bool) (ho : o.op = .binOp .eql t x y t') (hx : evM m x = some (.bool p)) (hy : evM m y = some (.bool q)) (hv : (p == q) = b) : Ru P X o m l (.bool b) :=
  ru_binv ho hx hy (fun w => rfl) fun w _ => by subst hv; obtain ⟨n, hn⟩ : ∃ n, Op.maxDepth = n + 1 := ⟨9999, rfl⟩; simp only [binOp, Op.equal, hn, Op.equalIn, Sem.run_bind, run_underlying hu w, Result.andThen_ok]; rfl
theorem ru_neb {p q : Bool} (hu : P.underlying t = some .bool) (ho : o.op = .binOp .neq t x y t') (hx : evM m x = some (.bool p)) (hy : evM m y = some (.bool q)) (hv : (!(p == q)) = b) : Ru P X o m l (.bool b) :=
  ru_binv ho hx hy (fun w => rfl) fun w _ => by subst hv; obtain ⟨n, hn⟩ : ∃ n, Op.maxDepth = n + 1 := ⟨9999, rfl⟩; simp only [binOp, Op.equal, hn, Op.equalIn, Sem.run_bind, run_underlying hu w, Result.andThen_ok]; rfl
theorem ru_eqnil {e : TypeId} {a : Option Addr} (hu : P.underlying t = some (.pointer e)) (ho : o.op = .binOp .eql t x y t') (hx : evM m x = some (.pointer a)) (hy : evM m y = some (.pointer none)) (hv : a.isNone = b) : Ru P X o m l (.bool b) :=
  ru_binv ho hx hy (fun w => rfl) fun w _ => by subst hv; obtain ⟨n, hn⟩ : ∃ n, Op.maxDepth = n + 1 := ⟨9999, rfl⟩; cases a <;> (simp only [binOp, Op.equal, hn, Op.equalIn, Sem.run_bind, run_underlying hu w, Result.andThen_ok]; rfl)
theorem ru_nenil {e : TypeId} {a : Option Addr} (hu : P.underlying t = some (.pointer e)) (ho : o.op = .binOp .neq t x y t') (hx : evM m x = some (.pointer a)) (hy : evM m y = some (.pointer none)) (hv : a.isSome = b) : Ru P X o m l (.bool b) :=
  ru_binv ho hx hy (fun w => rfl) fun w _ => by subst hv; obtain ⟨n, hn⟩ : ∃ n, Op.maxDepth = n + 1 := ⟨9999, rfl⟩; cases a <;> (simp only [binOp, Op.equal, hn, Op.equalIn, Sem.run_bind, run_underlying hu w, Result.andThen_ok]; rfl)
theorem ru_conv {k' : IntKind} (hs : ∃ d, P.underlying t = some d) (hd : P.underlying t' = some (.int k')) (ho : o.op = .convert t t' x) (hx : evM m x = some (.int k p)) (hv : k'.wrap p = r) : Ru P X o m l (.int k' r) := fun a w hf _ => by
  obtain ⟨d, hs⟩ := hs
  subst hv; unfold execOp; rw [ho]; simp only [hf.ev hx, Go.convert, Sem.run_bind, run_underlying hs w, run_underlying hd w, Result.andThen_ok, Conv.intToInt]
  rfl
theorem ru_len {e : TypeId} {a : Option Addr} {n c : Nat} (hu : P.underlying t = some (.slice e)) (ho : o.op = .call { callee := .builtin .len, args := #[x], argTypes := #[t] }) (hx : evM m x = some (.slice a n c)) : Ru P X o m l (.int .i64 n) := fun a w hf _ => by
  unfold execOp; rw [ho]
  simp [resolve, hf.ev hx, invoke, builtin, Builtin.len_, run_underlying hu w, goInt]
theorem ru_makeFunc {fn : Fn} {fs cs : List Operand} {v1 v2 : List Value} (ho : o.op = .makeFunc fn fs.toArray cs.toArray) (h1 : evL m fs = some v1) (h2 : evL m cs = some v2) : Ru P X o m l (.func fn v1.toArray v2.toArray) := fun a w hf _ => by
  have e1 : fs.toArray.map a.eval = v1.toArray := by rw [← hf.evL h1]; simp
  have e2 : cs.toArray.map a.eval = v2.toArray := by rw [← hf.evL h2]; simp
  unfold execOp; rw [ho]; simp only [e1, e2, Instr.makeFunc]; rfl

/-- The guard's own operation was left out. -/
theorem guard_un {j : Nat} {want : Bool} {dj : Nat} {a : Act} (hf : Fr X.n a m) (hg : o.guard = some (j, want)) (hj : (ops[j]?).bind (·.dst) = some dj) (hb : look m dj = some undef) : Region.wanted o (yielded ops a.tmps) = false := by
  have h1 : yielded ops a.tmps j = none := by
    unfold yielded
    rw [hj]
    simp [hf.2.2 dj _ hb, undef]
  unfold Region.wanted
  rw [hg]
  simp [h1]
theorem SL.offu {j : Nat} {want : Bool} {dj : Nat} (hg : o.guard = some (j, want)) (hj : (ops[j]?).bind (·.dst) = some dj) (hb : look m dj = some undef) (hd : o.dst = some d) (hn : d < X.n)
    (k : SL P X ops Q rest ((d, undef) :: m) l) : SL P X ops Q (o :: rest) m l := fun a w hf hi =>
  wpList_step fun K hK => by
    rw [if_neg (by rw [guard_un hf hg hj hb]; simp), hd]
    exact hK _ _ (k _ w (hf.put hn _) hi)
theorem SQ.offu {K : Act → Prop} {j : Nat} {want : Bool} {dj : Nat} (hg : o.guard = some (j, want)) (hj : (ops[j]?).bind (·.dst) = some dj) (hb : look m dj = some undef) (hd : o.dst = some d) (hn : d < X.n)
    (k : SQ P X ops K rest ((d, undef) :: m) l) : SQ P X ops K (o :: rest) m l := fun a hf => by
  unfold wpQuiet
  rw [if_neg (by rw [guard_un hf hg hj hb]; simp), hd]
  exact k _ (hf.put hn _)

/-! A walk parted and joined again. -/
theorem wpList_append {L2 : List Oper} : ∀ (L1 : List Oper) (a : Act) (w : World), wpList P ops (Exit.then (fun a w => wpList P ops Q L2 a w) Q) L1 a w → wpList P ops Q (L1 ++ L2) a w
  | [], a, w, h => h
  | o :: r, a, w, h => by
    rw [List.cons_append]
    unfold wpList at h ⊢
    have hout : LetsOut (Exit.then (fun a w => wpList P ops Q L2 a w) Q) → LetsOut Q := fun ⟨a, w, h⟩ => ⟨a, w, h⟩
    split
    · rename_i hw
      rw [if_pos hw] at h
      rcases h with h | ⟨h1, h2⟩
      · left
        unfold Oper.wp at h ⊢
        revert h
        generalize (execOp a.eval o).run P w = rr
        intro h
        cases rr with
        | ok n w' =>
          cases n <;> simp only [Oper.upon] at h ⊢ <;> first | exact h.elim | exact wpList_append r _ _ h | skip
          · refine h.mono fun e w'' he => ?_
            cases e with
            | returned v => exact wpList_append r _ _ he
            | panicked c => exact he
            | outgrown => exact hout he
          · exact h.mono fun v w'' he => wpList_append r _ _ he
        | halt hh w' =>
          cases hh <;> simp only [Oper.upon] at h ⊢ <;> first | exact h.elim | exact h
      · exact .inr ⟨h1, hout h2⟩
    · rename_i hw
      rw [if_neg hw] at h
      exact wpList_append r _ _ h
/-- The walk goes on behind n operations in one way (m', l'), however it comes there. -/
theorem SL.join (n : Nat) (m' : List (Nat × Value)) (l' : List Res) (hk : SL P X ops Q (rest.drop n) m' l')
    (h : ∀ K : Act → World → Prop, (∀ a w, Fr X.n a m' → Inv X w l' → K a w) → SL P X ops (Exit.then K Q) (rest.take n) m l) : SL P X ops Q rest m l := fun a w hf hI => by
  have := h (fun a w => wpList P ops Q (rest.drop n) a w) (fun a w hf hI => hk a w hf hI) a w hf hI
  have := wpList_append (Q := Q) (L2 := rest.drop n) _ _ _ this
  rwa [List.take_append_drop] at this
theorem SL.joined {K : Act → World → Prop} {m' : List (Nat × Value)} {l' : List Res} (hK : ∀ a w, Fr X.n a m' → Inv X w l' → K a w) (hm : Subs m m') (hl : l = l') : SL P X ops (Exit.then K Q) [] m l := fun a w hf hI => hK a w (hf.sub hm) (hl ▸ hI)
theorem SQ.append {K : Act → Prop} {L2 : List Oper} : ∀ (L1 : List Oper) (a : Act), wpQuiet P ops (fun w => Inv X w l) (wpQuiet P ops (fun w => Inv X w l) K L2) L1 a → wpQuiet P ops (fun w => Inv X w l) K (L1 ++ L2) a
  | [], a, h => h
  | o :: r, a, h => by
    rw [List.cons_append]
    unfold wpQuiet at h ⊢
    split
    · rename_i hw
      rw [if_pos hw] at h
      obtain ⟨v, h1, h2⟩ := h
      exact ⟨v, h1, SQ.append r _ h2⟩
    · rename_i hw
      rw [if_neg hw] at h
      exact SQ.append r _ h
theorem SQ.join {K : Act → Prop} (n : Nat) (m' : List (Nat × Value)) (hk : SQ P X ops K (rest.drop n) m' l)
    (h : ∀ K' : Act → Prop, (∀ a, Fr X.n a m' → K' a) → SQ P X ops K' (rest.take n) m l) : SQ P X ops K rest m l := fun a hf => by
  have := h (wpQuiet P ops (fun w => Inv X w l) K (rest.drop n)) (fun a hf => hk a hf) a hf
  have := SQ.append (K := K) (L2 := rest.drop n) _ _ this
  rwa [List.take_append_drop] at this
theorem SQ.joined {K : Act → Prop} {m' : List (Nat × Value)} (hK : ∀ a, Fr X.n a m' → K a) (hm : Subs m m') : SQ P X ops K [] m l := fun a hf => hK a (hf.sub hm)
theorem SQ.norm {K : Act → Prop} (m' : List (Nat × Value)) (hm : Subs m m') (h : SQ P X ops K rest m' l) : SQ P X ops K rest m l := fun a hf => h a (hf.sub hm)

/-- A call with one answer, that turns nothing of what is known. -/
theorem SL.callv {f : FuncId} {fs cs vals : List Value} {c : Operand} {args : List Operand} {aT : Array TypeId} (v : Value) (hg : o.guard = none)
    (ho : o.op = .call { callee := .value c, args := args.toArray, argTypes := aT }) (hok : CallOk P f) (hc : evM m c = some (.func (.func f) fs.toArray cs.toArray)) (ha : evL m args = some vals) (hd : o.dst = some d) (hn : d < X.n)
    (H : ∀ w, Inv X w l → Calls P f (fs ++ vals ++ cs).toArray w fun e w' => e = .returned v ∧ Inv X w' l)
    (k : SL P X ops Q rest ((d, v) :: m) l) : SL P X ops Q (o :: rest) m l :=
  SL.call (fun _ : Unit => v) (fun _ => l) (fun _ => True) hg ho hok hc ha hd hn (fun w hI => (H w hI).mono fun e w' ⟨h1, h2⟩ => ⟨(), h1, h2, trivial⟩) (fun _ _ => k)
theorem SL.callvg {j : Nat} {want : Bool} {dj : Nat} {f : FuncId} {fs cs vals : List Value} {c : Operand} {args : List Operand} {aT : Array TypeId} (v : Value) (hg : o.guard = some (j, want)) (hj : (ops[j]?).bind (·.dst) = some dj) (hb : look m dj = some (.bool want))
    (ho : o.op = .call { callee := .value c, args := args.toArray, argTypes := aT }) (hok : CallOk P f) (hc : evM m c = some (.func (.func f) fs.toArray cs.toArray)) (ha : evL m args = some vals) (hd : o.dst = some d) (hn : d < X.n)
    (H : ∀ w, Inv X w l → Calls P f (fs ++ vals ++ cs).toArray w fun e w' => e = .returned v ∧ Inv X w' l)
    (k : SL P X ops Q rest ((d, v) :: m) l) : SL P X ops Q (o :: rest) m l :=
  SL.callg (fun _ : Unit => v) (fun _ => l) (fun _ => True) hg hj hb ho hok hc ha hd hn (fun w hI => (H w hI).mono fun e w' ⟨h1, h2⟩ => ⟨(), h1, h2, trivial⟩) (fun _ _ => k)
theorem H_same {f : FuncId} {vs : Array Value} {w : World} (hI : Inv X w l) (h : Calls P f vs w fun e w' => e = .returned v ∧ w = w') : Calls P f vs w fun e w' => e = .returned v ∧ Inv X w' l := h.mono fun e w' ⟨h1, h2⟩ => ⟨h1, h2 ▸ hI⟩
theorem H_only {f : FuncId} {vs : Array Value} {w : World} (hI : Inv X w l) (h : Calls P f vs w fun e w' => e = .returned v ∧ Only (fun _ => False) w w') : Calls P f vs w fun e w' => e = .returned v ∧ Inv X w' l := h.mono fun e w' ⟨h1, h2⟩ => ⟨h1, hI.only h2⟩
theorem cond_t {α : Type} {b : Bool} {x y : α} (h : b = true) : cond b x y = x := by rw [h]; rfl
theorem cond_f {α : Type} {b : Bool} {x y : α} (h : b = false) : cond b x y = y := by rw [h]; rfl
theorem ret_bo {a b : Bool} (h : b = a) : Ending.returned (.bool a) = .returned (.bool b) := by rw [h]
theorem tf (b : Bool) : b = true ∨ b = false := by cases b <;> simp
end
end Go.Proofs.Ytpgnklmmjdkhiaa

/-
  The light machine's laws: slices that are made. No program is named here.
-/
namespace Go.Proofs.Ytpgnklmmjdkhiaa
open Go.RowKit

/-- A block that a constant's bytes were laid into: what lies behind it is marked. -/
def Fz (w : World) (b : Nat) (c : List Value) (T : TypeId) : Prop := w.heap[b]? = some (.cells c.toArray T (c.length, c.length + 1))
theorem Fz.lt {w : World} {b : Nat} {c : List Value} {T : TypeId} (h : Fz w b c T) : b < w.heap.size := (Array.getElem?_eq_some_iff.1 h).1
theorem Fz.cell {w : World} {b : Nat} {c : List Value} {T : TypeId} (h : Fz w b c T) (o : Nat) : w.cell? ⟨b, o, none⟩ = c[o]? := by unfold Fz at h; simp [World.cell?, h]
def rFz (b : Nat) (c : List Value) (T : TypeId) : Res where
  ok w := Fz w b c T
  fp k := k = b
  lt w h k hk := by subst hk; exact Fz.lt h
  st w w' h hw := by unfold Fz; rw [hw b rfl]; exact h
/-- No more is known of these blocks. -/
def rAny (b : Nat) : Res where
  ok w := b < w.heap.size
  fp k := k = b
  lt w h k hk := by subst hk; exact h
  st w w' h hw := by
    have h1 := hw b rfl
    rw [Array.getElem?_eq_getElem h] at h1
    exact (Array.getElem?_eq_some_iff.1 h1).1

section
variable {P : Program} {X : Cx} {ops : Array Oper} {Q : Exit → Act → World → Prop} {rest : List Oper} {o : Oper} {m : List (Nat × Value)} {l : List Res} {v : Value} {d : Nat}
variable {t : TypeId} {x y : Operand}

theorem built_slice {w : World} {e n size : Nat} {parts : Array (Nat × Value)} {z cs : List Value} (hu : P.underlying t = some (.slice e)) (hs : (P.info? e).map (fun i => (i.size, i.zero.map (·.cells.toList))) = some (size, some z)) (hn : n * size ≤ 2 ^ 24)
    (hc : Instr.fill (fun i => some (i * size, size)) ((Array.range (n * size)).map (z.toArray[· % z.toArray.size]!)) parts.toList = some cs.toArray) :
    (Instr.buildSlice t n parts).run P w = .ok (.slice (some ⟨w.heap.size, 0, none⟩) n n) (w.alloc (.cells cs.toArray e)) := by
  obtain ⟨i, hi, hz⟩ := map_some hs
  simp only [Prod.mk.injEq, Option.map_eq_some_iff] at hz
  obtain ⟨hz1, zv, hz2, hz3⟩ := hz
  have hzr : (zeroValue e).run P w = .ok zv w := by simp [zeroValue, typeInfo, hi, hz2]
  unfold Instr.buildSlice
  simp only [Sem.run_bind, run_underlying hu w, Result.andThen_ok, size_run (show (P.info? e).map (·.size) = some size by rw [hi]; simp [hz1]) w]
  rw [if_neg (by omega)]
  have hzc : zv.cells = z.toArray := by rw [← hz3]
  by_cases h0 : n * size = 0
  · rw [if_pos h0]
    have hr0 : Array.range (n * size) = #[] := by rw [h0]; rfl
    rw [hr0, Array.map_empty] at hc
    simp only [Sem.run_bind, Sem.run_pure, Result.andThen_ok, hr0, Array.map_empty, hc]
    rfl
  · rw [if_neg h0]
    simp only [Sem.run_bind, hzr, Result.andThen_ok, Sem.run_pure, hzc, hc]
    rfl
theorem SL.buildSlice {e n size : Nat} {parts : List (Nat × Operand)} {vals : List (Nat × Value)} {z cs : List Value} (hg : o.guard = none) (hd : o.dst = some d) (hn : d < X.n) (ho : o.op = .buildSlice t n parts.toArray)
    (hu : P.underlying t = some (.slice e)) (hs : (P.info? e).map (fun i => (i.size, i.zero.map (·.cells.toList))) = some (size, some z)) (hsz : Nat.ble (n * size) 16777216 = true) (hp : parts.mapM (fun x => (evM m x.2).map (x.1, ·)) = some vals)
    (hc : Instr.fill (fun i => some (i * size, size)) ((Array.range (n * size)).map (z.toArray[· % z.toArray.size]!)) vals = some cs.toArray)
    (k : ∀ b, X.w0.heap.size ≤ b → SL P X ops Q rest ((d, .slice (some ⟨b, 0, none⟩) n n) :: m) (l ++ [rBlk b cs e])) : SL P X ops Q (o :: rest) m l := fun a w hf hI =>
  wpList_plain hg fun K hK => by
    unfold Oper.wp execOp
    rw [ho]
    have hv : (parts.toArray.map fun (i, x) => (i, a.eval x)) = vals.toArray := by
      have : parts.map (fun (x : Nat × Operand) => (x.1, a.eval x.2)) = vals := by
        clear ho hc
        induction parts generalizing vals with
        | nil => simp at hp; simpa using hp.symm
        | cons y r ih =>
          simp only [List.mapM_cons, Option.bind_eq_bind, Option.bind_eq_some_iff, Option.map_eq_some_iff] at hp
          obtain ⟨u, ⟨u', hu, rfl⟩, us, hus, h⟩ := hp
          cases h
          rw [List.map_cons, ih hus, hf.ev hu]
      rw [← this]; simp
    have hrun := built_slice (P := P) (w := w) (parts := vals.toArray) hu hs (Nat.le_of_ble_eq_true hsz) hc
    simp only [hv, Sem.run_bind, hrun, Result.andThen_ok, Sem.run_pure, Oper.upon_value, hd]
    exact hK _ _ (k _ hI.2.size _ _ (hf.put hn _) (new_blk hI _ _))
theorem run_mark {w : World} {b : Nat} {c : List Value} {T e : TypeId} {n cp : Nat} (hb : Blk w b c T) (hu : P.underlying t = some (.slice e)) (he : P.underlying e = some (.int .u8)) :
    ∃ w', (Go.convert t t (.slice (some ⟨b, 0, none⟩) n cp)).run P w = .ok (.slice (some ⟨b, 0, none⟩) n cp) w' ∧ Fz w' b c T ∧ Only (fun k => k = b) w w' := by
  refine ⟨w.freeze ⟨b, c.length, none⟩ 1, ?_, ?_, ?_⟩
  · have hsh : w.shape? b = some (T, c.length) := by unfold Blk at hb; simp [World.shape?, hb]
    unfold Go.convert
    simp only [Sem.run_bind, run_underlying hu w, Result.andThen_ok, run_underlying he w, beq_self_eq_true]
    unfold markStringish
    simp only [Sem.run_bind, Go.shape, Sem.run, hsh, Result.andThen_ok, Go.freeze]
    rfl
  · unfold Fz World.freeze
    unfold Blk at hb
    simp [Array.getElem?_modify, hb]
  · refine ⟨by simp [World.freeze], by simp [World.freeze], by simp [World.freeze], by simp [World.freeze], fun k _ hk => ?_⟩
    have : ¬ b = k := fun e => hk e.symm
    simp [World.freeze, Array.getElem?_modify, this]
theorem SL.mark {e : TypeId} {i b n cp : Nat} {c : List Value} {T : TypeId} (hg : o.guard = none) (hd : o.dst = some d) (hn : d < X.n) (ho : o.op = .convert t t x) (hu : P.underlying t = some (.slice e)) (he : P.underlying e = some (.int .u8))
    (hx : evM m x = some (.slice (some ⟨b, 0, none⟩) n cp)) (hi : l[i]? = some (rBlk b c T)) (hS : X.S b ∨ X.w0.heap.size ≤ b)
    (k : SL P X ops Q rest ((d, .slice (some ⟨b, 0, none⟩) n cp) :: m) (l.set i (rFz b c T))) : SL P X ops Q (o :: rest) m l := fun a w hf hI =>
  wpList_plain hg fun K hK => by
    obtain ⟨w', hr, hz, hO⟩ := run_mark (P := P) (t := t) (e := e) (n := n) (cp := cp) (hI.1.get hi) hu he
    unfold Oper.wp execOp
    rw [ho]
    simp only [hf.ev hx, Sem.run_bind, hr, Result.andThen_ok, Sem.run_pure, Oper.upon_value, hd]
    exact hK _ _ (k _ _ (hf.put hn _) (hI.upd hi hO (fun b' hb' => by cases hb'; exact hS) hz (fun b' hb' => .inl hb')))

/-! Answers that lie in memory. -/
theorem run_cell {w : World} (hI : Inv X w l) {t : TypeId} {z : List Value} (ht : TyAg P t z) {i b : Nat} {c : List Value} {T : TypeId} (hi : l[i]? = some (rBlk b c T)) (hc : c.length = z.length) : (loadVar t ⟨b, 0, none⟩).run P w = .ok (.agg c.toArray) w := by
  have hb : Blk w b c T := hI.1.get hi
  obtain ⟨⟨d, hd, hdb⟩, hsz, _⟩ := ht
  obtain ⟨inf, hinf, hz⟩ := map_some hsz
  simp only [Prod.mk.injEq] at hz
  exact run_loadVar_at (P := P) w b 0 t c d (fun j hj => by rw [hb.cell, Nat.zero_add]) hd (by cases d <;> simp_all [isAggD]) (by rw [hinf]; simp [hz.1, hc])
theorem res_c {fn : Func} {p ty : Nat} {z : List Value} (h : fn.results = #[.cell p ty]) (ht : TyAg P ty z) {b : Nat} (hp : look m p = some (.pointer (some ⟨b, 0, none⟩))) (i : Nat) {c : List Value} {T : TypeId} (hi : l[i]? = some (rBlk b c T)) (hc : c.length = z.length) :
    ∀ a w, Fr X.n a m → Inv X w l → (results fn a.tmps).run P w = .ok (.agg c.toArray) w := fun a w hf hI => by
  have h1 := look_tmps hf hp
  have h1' : a.tmps[p]?.getD undef = .pointer (some ⟨b, 0, none⟩) := by simpa using h1
  simp [results, h, h1', asAddr, run_cell hI ht hi hc]
theorem res_ct {fn : Func} {p ty u : Nat} {z : List Value} (h : fn.results = #[.cell p ty, .tmp u]) (ht : TyAg P ty z) {b : Nat} (hp : look m p = some (.pointer (some ⟨b, 0, none⟩))) (hu : look m u = some v) (i : Nat) {c : List Value} {T : TypeId} (hi : l[i]? = some (rBlk b c T)) (hc : c.length = z.length) :
    ∀ a w, Fr X.n a m → Inv X w l → (results fn a.tmps).run P w = .ok (.tuple #[.agg c.toArray, v]) w := fun a w hf hI => by
  have h1 := look_tmps hf hp
  have h2 := look_tmps hf hu
  have h1' : a.tmps[p]?.getD undef = .pointer (some ⟨b, 0, none⟩) := by simpa using h1
  have h2' : a.tmps[u]?.getD undef = v := by simpa using h2
  simp [results, h, h1', h2', asAddr, run_cell hI ht hi hc]
theorem res_cct {fn : Func} {p q ty ty' u : Nat} {z z' : List Value} (h : fn.results = #[.cell p ty, .cell q ty', .tmp u]) (ht : TyAg P ty z) (ht' : TyAg P ty' z') {b b' : Nat} (hp : look m p = some (.pointer (some ⟨b, 0, none⟩))) (hq : look m q = some (.pointer (some ⟨b', 0, none⟩))) (hu : look m u = some v) (i i' : Nat) {c c' : List Value} {T T' : TypeId}
    (hi : l[i]? = some (rBlk b c T)) (hi' : l[i']? = some (rBlk b' c' T')) (hc : c.length = z.length) (hc' : c'.length = z'.length) :
    ∀ a w, Fr X.n a m → Inv X w l → (results fn a.tmps).run P w = .ok (.tuple #[.agg c.toArray, .agg c'.toArray, v]) w := fun a w hf hI => by
  have h1 := look_tmps hf hp
  have h2 := look_tmps hf hu
  have h3 := look_tmps hf hq
  have h1' : a.tmps[p]?.getD undef = .pointer (some ⟨b, 0, none⟩) := by simpa using h1
  have h2' : a.tmps[u]?.getD undef = v := by simpa using h2
  have h3' : a.tmps[q]?.getD undef = .pointer (some ⟨b', 0, none⟩) := by simpa using h3
  simp [results, h, h1', h2', h3', asAddr, run_cell hI ht hi hc, run_cell hI ht' hi' hc']
theorem res3 {fn : Func} {t u x : Nat} {v1 v2 v3 : Value} (h : fn.results = #[.tmp t, .tmp u, .tmp x]) (ht : look m t = some v1) (hu : look m u = some v2) (hx : look m x = some v3) : ∀ a w, Fr X.n a m → Inv X w l → (results fn a.tmps).run P w = .ok (.tuple #[v1, v2, v3]) w := fun a w hf _ => by
  have h1 : a.tmps[t]?.getD undef = v1 := by simpa using look_tmps hf ht
  have h2 : a.tmps[u]?.getD undef = v2 := by simpa using look_tmps hf hu
  have h3 : a.tmps[x]?.getD undef = v3 := by simpa using look_tmps hf hx
  simp [results, h, h1, h2, h3]

/-! make and append with room. -/
theorem made_len (z : Array Value) (n : Nat) : (madeCells z n).toList.length = n := by rw [Array.length_toList, size_madeCells]
theorem SL.make {e n c : Nat} {z : Value} {size bytes : Nat} {y : Operand} (hg : o.guard = none) (hd : o.dst = some d) (hn : d < X.n) (ho : o.op = .makeSlice t x y) (hu : P.underlying t = some (.slice e)) (hz : (P.info? e).map (fun i => (i.zero, i.size, i.bytes)) = some (some z, size, bytes))
    (hx : evM m x = some (.int .i64 (n : Int))) (hy : evM m y = some (.int .i64 (c : Int))) (hnc : n ≤ c) (hb : bytes * c ≤ 281474976710656) (h63 : c ≤ 9223372036854775807)
    (k : ∀ b, X.w0.heap.size ≤ b → SL P X ops Q rest ((d, .slice (some ⟨b, 0, none⟩) n c) :: m) (l ++ [rBlk b (madeCells z.cells (c * size)).toList e])) : SL P X ops Q (o :: rest) m l := fun a w hf hI =>
  wpList_plain hg fun K hK => by
    obtain ⟨i, hi, h3⟩ := map_some hz
    simp only [Prod.mk.injEq] at h3
    obtain ⟨z0, z1, z2⟩ := h3
    have hrun := run_make (P := P) w t e i z hu hi z0 .i64 .i64 (n : Int) (c : Int) (by omega) (by omega) (by rw [z2, ← Int.natCast_mul]; exact Int.ofNat_le.2 hb) (by omega)
    unfold Oper.wp execOp
    rw [ho]
    simp only [hf.ev hx, hf.ev hy, Sem.run_bind, hrun, Result.andThen_ok, Sem.run_pure, Oper.upon_value, hd]
    simp only [Int.toNat_natCast, z1]
    exact hK _ _ (k _ hI.2.size _ _ (hf.put hn _) (new_blk hI _ _))
theorem run_room {w : World} {ty e g n : Nat} {c : List Value} {v : Value} {f : List UInt8} (hu : P.underlying t = some (.slice e)) (hs : (P.info? e).map (·.size) = some 1) (hb : Blk w g c e) (hx : BytesAt w v f) (cap : Nat) (hr : n + f.length ≤ cap) (hc : n + f.length ≤ c.length) :
    ∃ w', (Builtin.append_ #[t, t] ty #[.slice (some ⟨g, 0, none⟩) n cap, v]).run P w = .ok (.slice (some ⟨g, 0, none⟩) (n + f.length) cap) w' ∧ Blk w' g (c.take n ++ f.map bv ++ c.drop (n + f.length)) e ∧ Only (fun k => k = g) w w' := by
  obtain ⟨i, hi, hsz⟩ := map_some hs
  rcases hx with ⟨a, q, rfl, hq, rfl⟩ | ⟨b, so, q, rfl, h1, h2, h3⟩
  · refine ⟨w, ?_, by simpa using hb, Only.refl _ _⟩
    have hso : (sizeOf e).run P w = .ok 1 w := by simp [sizeOf, typeInfo, hi, hsz]
    unfold Builtin.append_
    simp only [List.getElem?_toArray, List.getElem?_cons_zero, List.getElem?_cons_succ, Sem.run_bind, run_underlying hu w, Result.andThen_ok, hso, Sem.run_pure, Builtin.lenOf]
    simp only [List.length_nil, Nat.add_zero] at hr
    simp [hr, Builtin.firstCells]
    cases a with
    | none => rfl
    | some a => rfl
  · have hrun := run_append_room (P := P) (w := w) t ty e i hu hi g n cap c.toArray hb ⟨b, so, none⟩ f.length q (f.map bv) (by simp [hsz]) (fun j u hj => by
        have hjl : j < f.length := by have := (List.getElem?_eq_some_iff.1 hj).1; simpa using this
        rw [add_at, h3 j hjl]
        simp only [List.getElem?_map, List.getElem?_eq_getElem hjl, Option.map_some] at hj
        exact hj) (fun u hu => by obtain ⟨y, _, rfl⟩ := List.mem_map.1 hu; rfl) hr (by simp [hsz]; omega)
    refine ⟨_, hrun, ?_, ⟨rfl, rfl, rfl, by simp [World.setRow], fun k' _ hk' => setRow_other w g k' _ hk'⟩⟩
    have := setRow_heap w g c.toArray ((c.take n ++ f.map bv ++ c.drop (n + f.length))).toArray e (0, 0) hb
    unfold Blk
    simpa [hsz] using this
theorem SL.room {e i g n cap : Nat} {c c' : List Value} {v : Value} {f : List UInt8} {y : Operand} (hg : o.guard = none) (hd : o.dst = some d) (hn : d < X.n) (ho : o.op = .call { callee := .builtin .append, args := #[x, y], argTypes := #[t, t] }) (hu : P.underlying t = some (.slice e)) (hs : (P.info? e).map (·.size) = some 1)
    (hx : evM m x = some (.slice (some ⟨g, 0, none⟩) n cap)) (hy : evM m y = some v) (hi : l[i]? = some (rBlk g c e)) (hb : ∀ w, Inv X w l → BytesAt w v f) (hr : n + f.length ≤ cap) (hc : n + f.length ≤ c.length) (hS : X.S g ∨ X.w0.heap.size ≤ g) (hc' : c.take n ++ f.map bv ++ c.drop (n + f.length) = c')
    (k : SL P X ops Q rest ((d, .slice (some ⟨g, 0, none⟩) (n + f.length) cap) :: m) (l.set i (rBlk g c' e))) : SL P X ops Q (o :: rest) m l := fun a w hf hI =>
  wpList_plain hg fun K hK => by
    obtain ⟨w', hrun, hB, hO⟩ := run_room (P := P) (ty := o.type) hu hs (hI.1.get hi) (hb w hI) cap hr hc
    unfold Oper.wp execOp
    rw [ho]
    have he : #[x, y].map a.eval = #[.slice (some ⟨g, 0, none⟩) n cap, v] := by simp [hf.ev hx, hf.ev hy]
    simp only [resolve, he, Sem.run_bind, Sem.run_pure, Result.andThen_ok, invoke, builtin, hrun, Oper.upon_value, hd]
    exact hK _ _ (k _ _ (hf.put hn _) (hI.upd hi hO (fun b' hb' => by cases hb'; exact hS) (hc' ▸ hB) (fun b' hb' => .inl hb')))

theorem wpList_room {w : World} {a : Act} {e g n cap : Nat} {c : List Value} {v : Value} {f : List UInt8} {y : Operand} (hg : o.guard = none) (ho : o.op = .call { callee := .builtin .append, args := #[x, y], argTypes := #[t, t] }) (hu : P.underlying t = some (.slice e)) (hs : (P.info? e).map (·.size) = some 1)
    (hx : a.eval x = .slice (some ⟨g, 0, none⟩) n cap) (hy : a.eval y = v) (hb : Blk w g c e) (hv : BytesAt w v f) (hr : n + f.length ≤ cap) (hc : n + f.length ≤ c.length)
    (k : ∀ w', Blk w' g (c.take n ++ f.map bv ++ c.drop (n + f.length)) e → Only (fun k => k = g) w w' → wpList P ops Q rest (a.put o.dst (.slice (some ⟨g, 0, none⟩) (n + f.length) cap)) w') : wpList P ops Q (o :: rest) a w :=
  wpList_plain hg fun K hK => by
    obtain ⟨w', hrun, hB, hO⟩ := run_room (P := P) (ty := o.type) hu hs hb hv cap hr hc
    unfold Oper.wp execOp
    rw [ho]
    have he : #[x, y].map a.eval = #[.slice (some ⟨g, 0, none⟩) n cap, v] := by simp [hx, hy]
    simp only [resolve, he, Sem.run_bind, Sem.run_pure, Result.andThen_ok, invoke, builtin, hrun, Oper.upon_value]
    exact hK _ _ (k w' hB hO)
theorem make_u8 {e n : Nat} (hu : P.underlying t = some (.slice e)) (hz : (P.info? e).map (fun i => (i.zero, i.size, i.bytes)) = some (some (.int .u8 0), 1, 1)) (hn : n ≤ 281474976710656) (w : World) :
    (Instr.makeSlice t (.int .i64 0) (.int .i64 (n : Int))).run P w = .ok (.slice (some ⟨w.heap.size, 0, none⟩) 0 n) (w.alloc (.cells (madeCells #[.int .u8 0] n) e)) := by
  obtain ⟨i, hi, h3⟩ := map_some hz
  simp only [Prod.mk.injEq] at h3
  obtain ⟨z0, z1, z2⟩ := h3
  have := run_make (P := P) w t e i (.int .u8 0) hu hi z0 .i64 .i64 0 (n : Int) (by omega) (by omega) (by rw [z2]; omega) (by omega)
  rw [this]
  simp [z1, Value.cells]
end
end Go.Proofs.Ytpgnklmmjdkhiaa

/-
  A region that draws its order and holds operations that turn memory, each apart from the others: one walk in the order of the text serves every order. What is known of the world hangs on which of the listed operations have been.
-/
namespace Go.Proofs.Ytpgnklmmjdkhiaa
section
variable {P : Program} {ops : Array Oper} {md : Region.Mode} {sp : List Nat} {C : (Nat → Bool) → World → Prop}

/-- Operation i has been. -/
def doneSet (sp : List Nat) (i : Nat) (D : Nat → Bool) : Nat → Bool := if i ∈ sp then fun k => if k = i then true else D k else D

/-- What an operation may come to. -/
def spreadUpon (P : Program) (R : World → Prop) (v : Value) : Result Next → Prop
  | .ok (.value u) w' => u = v ∧ R w'
  | .ok .skip w' => v = undef ∧ R w'
  | .ok (.enter f args) w' => Calls P f args w' (fun e w'' => e = .returned v ∧ R w'')
  | _ => False

def spreadAt (P : Program) (sp : List Nat) (C : (Nat → Bool) → World → Prop) (i : Nat) (o : Oper) (a : Act) (v : Value) : Prop :=
  ∀ D w, C D w → (i ∈ sp → D i = false) → spreadUpon P (C (doneSet sp i D)) v ((execOp a.eval o).run P w)

/-- The walk in the order of the text. -/
def wpSpread (P : Program) (ops : Array Oper) (sp : List Nat) (C : (Nat → Bool) → World → Prop) (Q : Act → Prop) : Nat → List Oper → Act → Prop
  | _, [], a => Q a
  | k, o :: rest, a => if Region.wanted o (yielded ops a.tmps) then ∃ v, spreadAt P sp C k o a v ∧ wpSpread P ops sp C Q (k + 1) rest (a.put o.dst v) else wpSpread P ops sp C Q (k + 1) rest (a.put o.dst undef)

def sprOp (P : Program) (ops : Array Oper) (sp : List Nat) (C : (Nat → Bool) → World → Prop) (i : Nat) (K : Act → Prop) (a : Act) : Prop :=
  match ops[i]? with
  | none => K a
  | some o => if Region.wanted o (yielded ops a.tmps) then ∃ v, spreadAt P sp C i o a v ∧ K (a.put o.dst v) else K (a.put o.dst undef)

theorem sprOp_mono {i : Nat} {a : Act} {K K' : Act → Prop} (h : ∀ a, K a → K' a) (hh : sprOp P ops sp C i K a) : sprOp P ops sp C i K' a := by
  unfold sprOp at *
  split
  · exact h _ (by simpa [*] using hh)
  · rename_i o ho
    simp only [ho] at hh
    split
    · rename_i hw; simp only [hw, if_true] at hh; obtain ⟨v, h1, h2⟩ := hh; exact ⟨v, h1, h _ h2⟩
    · rename_i hw; simp only [hw] at hh; exact h _ hh

def wpAnySpr (P : Program) (md : Region.Mode) (ops : Array Oper) (sp : List Nat) (C : (Nat → Bool) → World → Prop) (Q : Act → Prop) : Nat → Array Bool → Act → Prop
  | 0, listed, a => Region.ready md ops listed = [] ∧ Q a
  | fuel + 1, listed, a =>
    (Region.ready md ops listed = [] → Q a) ∧
    ∀ i ∈ Region.ready md ops listed, sprOp P ops sp C i (wpAnySpr P md ops sp C Q fuel (listed.setIfInBounds i true)) a

/-- What the flags say. -/
def Flags (ops : Array Oper) (sp : List Nat) (listed : Array Bool) (D : Nat → Bool) : Prop := listed.size = ops.size ∧ ∀ i ∈ sp, i < ops.size → D i = listed.getD i true

theorem Flags.step {listed : Array Bool} {D : Nat → Bool} (h : Flags ops sp listed D) (i : Nat) : Flags ops sp (listed.setIfInBounds i true) (doneSet sp i D) := by
  refine ⟨by simp [h.1], fun j hj hlt => ?_⟩
  unfold doneSet
  by_cases hi : i ∈ sp
  · rw [if_pos hi]
    by_cases e : j = i
    · subst e; simp [h.1, hlt]
    · simp only [e, if_false]
      rw [getD_set_ne true (Ne.symm e)]; exact h.2 j hj hlt
  · rw [if_neg hi, getD_set_ne true (fun e => hi (by subst e; exact hj))]; exact h.2 j hj hlt

theorem wpAny_of_spr {Q : Act → Prop} {Q' : Exit → Act → World → Prop} (hg : ∀ i ∈ sp, ∀ o, ops[i]? = some o → o.guard = none) (hQ : ∀ a listed D w, Region.ready md ops listed = [] → Flags ops sp listed D → C D w → Q a → Q' .normal a w) :
    ∀ (fuel : Nat) (listed : Array Bool) (a : Act) (D : Nat → Bool) (w : World), Flags ops sp listed D → C D w → wpAnySpr P md ops sp C Q fuel listed a → wpAny P md ops Q' fuel listed a w
  | 0, listed, _, D, _, hf, hw, h => ⟨h.1, hQ _ listed D _ h.1 hf hw h.2⟩
  | fuel + 1, listed, a, D, w, hf, hw, h => ⟨fun h0 => hQ _ listed D _ h0 hf hw (h.1 h0), fun i hi => by
      have h2 := h.2 i hi
      have hun := (mem_ready.1 hi).1
      unfold sprOp at h2
      unfold wpOp
      split
      · rename_i ho
        obtain ⟨_, o, ho', _⟩ := mem_ready.1 hi
        rw [ho] at ho'; cases ho'
      · rename_i o ho
        simp only [ho] at h2
        have hlt : i < ops.size := (Array.getElem?_eq_some_iff.1 ho).1
        split
        · rename_i hwt
          simp only [hwt, if_true] at h2
          obtain ⟨v, h3, h4⟩ := h2
          left
          have h5 := h3 D w hw (fun hs => by rw [hf.2 i hs hlt]; exact hun)
          unfold Oper.wp
          generalize (execOp a.eval o).run P w = r at *
          cases r with
          | ok n w' =>
            cases n <;> simp only [spreadUpon] at h5 <;> simp only [Oper.upon]
            case value u => rw [h5.1]; exact wpAny_of_spr hg hQ fuel _ _ _ _ (hf.step i) h5.2 h4
            case skip => rw [← h5.1]; exact wpAny_of_spr hg hQ fuel _ _ _ _ (hf.step i) h5.2 h4
            case enter f args => exact h5.mono fun e w'' ⟨he, hc⟩ => by subst he; exact wpAny_of_spr hg hQ fuel _ _ _ _ (hf.step i) hc h4
          | halt x w' => simp only [spreadUpon] at h5
        · rename_i hwt
          simp only [hwt] at h2
          have hns : i ∉ sp := fun hs => hwt (by simp [Region.wanted, hg i hs o ho])
          have hf' := hf.step (sp := sp) i
          unfold doneSet at hf'
          rw [if_neg hns] at hf'
          exact wpAny_of_spr hg hQ fuel _ _ _ _ hf' hw h2⟩

/-- In state a, operation o (number i) comes to v. -/
def SprYields (P : Program) (ops : Array Oper) (sp : List Nat) (C : (Nat → Bool) → World → Prop) (i : Nat) (o : Oper) (v : Value) (a : Act) : Prop :=
  (Region.wanted o (yielded ops a.tmps) = true ∧ spreadAt P sp C i o a v) ∨ (Region.wanted o (yielded ops a.tmps) = false ∧ v = undef)

theorem SprYields.op {i : Nat} {o : Oper} {v : Value} {a : Act} (hi : ops[i]? = some o) (hy : SprYields P ops sp C i o v a) {K : Act → Prop} (h : K (a.put o.dst v)) : sprOp P ops sp C i K a := by
  unfold sprOp
  simp only [hi]
  rcases hy with ⟨hw, hv⟩ | ⟨hw, rfl⟩
  · simp only [hw, if_true]; exact ⟨v, hv, h⟩
  · simp only [hw, Bool.false_eq_true, if_false]; exact h

theorem SprYields.of_same {i : Nat} {o : Oper} {v : Value} {a a' : Act} (hy : SprYields P ops sp C i o v a) (he : execOp a'.eval o = execOp a.eval o)
    (hw : Region.wanted o (yielded ops a'.tmps) = Region.wanted o (yielded ops a.tmps)) : SprYields P ops sp C i o v a' := by
  unfold SprYields spreadAt at *
  rw [he, hw]
  exact hy

theorem sprYields_of_op {i : Nat} {o : Oper} {a : Act} {K : Act → Prop} (hi : ops[i]? = some o) (h : sprOp P ops sp C i K a) : ∃ v, SprYields P ops sp C i o v a ∧ K (a.put o.dst v) := by
  unfold sprOp at h
  simp only [hi] at h
  by_cases hw : Region.wanted o (yielded ops a.tmps) = true
  · simp only [hw, if_true] at h
    obtain ⟨v, h1, h2⟩ := h
    exact ⟨v, .inl ⟨hw, h1⟩, h2⟩
  · simp only [hw] at h
    exact ⟨undef, .inr ⟨by simpa using hw, rfl⟩, h⟩

theorem sprOp_put {i j : Nat} {oi oj : Oper} {v : Value} (hj : ops[j]? = some oj) (hap : oi.apart ops oj = true)
    (hsi : ∀ cs b, oi.op ≠ .select cs b) (hsj : ∀ cs b, oj.op ≠ .select cs b) {K : Act → Prop} {a : Act}
    (hy : SprYields P ops sp C i oi v a) (h : sprOp P ops sp C j K (a.put oi.dst v)) :
    sprOp P ops sp C j (fun a' => SprYields P ops sp C i oi v a' ∧ K (a'.put oi.dst v)) a := by
  obtain ⟨h1, h2, h3⟩ := Oper.apart_spec hap
  have keep : ∀ (a : Act), SprYields P ops sp C i oi v a → ∀ u, SprYields P ops sp C i oi v (a.put oj.dst u) := fun a hy u =>
    hy.of_same (execOp_put oi hsi a oj.dst u h3) (wanted_put oi a oj.dst u h3)
  unfold sprOp at *
  simp only [hj] at *
  rw [wanted_put oj a oi.dst v h1] at h
  split
  · rename_i hw
    simp only [hw, if_true] at h
    obtain ⟨u, hu, hn⟩ := h
    refine ⟨u, fun D w hD hs => ?_, keep a hy u, by rw [← Act.put_comm a v u h2]; exact hn⟩
    have := hu D w hD hs
    rwa [execOp_put oj hsj a oi.dst v h1] at this
  · rename_i hw
    simp only [hw] at h
    exact ⟨keep a hy _, by rw [← Act.put_comm a v undef h2]; exact h⟩

theorem wpAnySpr_first {Q : Act → Prop} {i : Nat} {oi : Oper} {v : Value} (hi : ops[i]? = some oi) (hsel : ∀ (j : Nat) (o : Oper) cs b, ops[j]? = some o → o.op ≠ .select cs b) :
    ∀ (fuel : Nat) (listed : Array Bool) (a : Act),
      (∀ j oj, ops[j]? = some oj → j ≠ i → listed.getD j true = false → (∀ e ∈ oj.after, Region.binds md e = true → e.on ≠ i) → oi.apart ops oj = true) →
      i ∈ Region.ready md ops listed → SprYields P ops sp C i oi v a →
      wpAnySpr P md ops sp C Q fuel (listed.setIfInBounds i true) (a.put oi.dst v) → wpAnySpr P md ops sp C Q (fuel + 1) listed a := by
  intro fuel
  induction fuel with
  | zero =>
    intro listed a _ hr hy H
    refine ⟨fun h => (by rw [h] at hr; cases hr), fun j hj => ?_⟩
    by_cases hji : j = i
    · subst hji; exact hy.op hi H
    · have := ready_mono hj hji
      rw [H.1] at this
      cases this
  | succ fuel ih =>
    intro listed a hfree hr hy H
    refine ⟨fun h => (by rw [h] at hr; cases hr), fun j hj => ?_⟩
    by_cases hji : j = i
    · subst hji; exact hy.op hi H
    · have h1 := H.2 j (ready_mono hj hji)
      obtain ⟨hjun, oj, hoj, hall⟩ := mem_ready.1 hj
      have hnot : ∀ e ∈ oj.after, Region.binds md e = true → e.on ≠ i := fun e he hb heq => by
        have h1 := hall e he hb
        have h0 := (mem_ready.1 hr).1
        rw [heq, getD_both h0] at h1
        cases h1
      have h2 := sprOp_put hoj (hfree j oj hoj hji hjun hnot) (fun cs b => hsel i oi cs b hi) (fun cs b => hsel j oj cs b hoj) hy h1
      have hfree' : ∀ k ok, ops[k]? = some ok → k ≠ i → (listed.setIfInBounds j true).getD k true = false →
          (∀ e ∈ ok.after, Region.binds md e = true → e.on ≠ i) → oi.apart ops ok = true := fun k ok hk hki hun hno => by
        refine hfree k ok hk hki ?_ hno
        by_cases hjk : j = k
        · subst hjk; exact hjun
        · rw [getD_set_ne true hjk] at hun; exact hun
      refine sprOp_mono (fun a' h3 => ih (listed.setIfInBounds j true) a' hfree' (ready_mono hr (Ne.symm hji)) h3.1 ?_) h2
      rw [Array.setIfInBounds_comm _ _ hji]
      exact h3.2

theorem wpAnySpr_lex {Q : Act → Prop} (hs : Region.noSelect ops = true) : ∀ (l : List Oper) (k : Nat) (listed : Array Bool) (a : Act), (∀ j, l[j]? = ops[k + j]?) →
    Region.lexFrom md ops l.length k listed = true → wpSpread P ops sp C Q k l a → wpAnySpr P md ops sp C Q l.length listed a
  | [], _, _, _, _, hB, h => ⟨by simpa [Region.lexFrom] using hB, h⟩
  | o :: l, k, listed, a, hl, hB, h => by
    have h0 : ops[k]? = some o := by simpa using (hl 0).symm
    simp only [List.length_cons, Region.lexFrom, Bool.and_eq_true] at hB
    obtain ⟨⟨hr, hf⟩, hB'⟩ := hB
    have hst : sprOp P ops sp C k (wpSpread P ops sp C Q (k + 1) l) a := by unfold sprOp; simp only [h0]; exact h
    obtain ⟨v, hy, hK⟩ := sprYields_of_op h0 hst
    exact wpAnySpr_first h0 (Region.noSelect_spec hs) l.length listed a (Region.free_spec h0 hf) (by simpa using hr) hy
      (wpAnySpr_lex hs l (k + 1) _ _ (fun j => by have := hl (j + 1); simpa [Nat.add_assoc, Nat.add_comm 1 j] using this) hB' hK)

/-- Each edge leads back. -/
def backB (ops : Array Oper) : Bool := (List.range ops.size).all fun i => ((ops[i]?).map (·.after.all fun e => !Region.binds .any e || decide (e.on < i))).getD false

theorem all_listed (hb : backB ops = true) {listed : Array Bool} (hs : listed.size = ops.size) (hr : Region.ready .any ops listed = []) : ∀ i, i < ops.size → listed.getD i true = true := by
  intro i
  induction i using Nat.strongRecOn with
  | _ i ih =>
    intro hi
    cases hl : listed.getD i true with
    | true => rfl
    | false =>
      have hb1 := List.all_eq_true.1 hb i (List.mem_range.2 hi)
      have ho : ops[i]? = some ops[i] := by simp [hi]
      rw [ho] at hb1
      simp only [Option.map_some, Option.getD_some, Array.all_eq_true_iff_forall_mem, Bool.or_eq_true, Bool.not_eq_true', decide_eq_true_eq] at hb1
      have : i ∈ Region.ready .any ops listed := mem_ready.2 ⟨hl, ops[i], ho, fun e he hbd => by
        rcases hb1 e he with h1 | h1
        · rw [h1] at hbd; cases hbd
        · have h2 := ih e.on h1 (by omega)
          have hlt : e.on < listed.size := by omega
          simpa [hlt] using h2⟩
      rw [hr] at this; cases this

/-- One walk, in the order of the text, serves every order: sp are the numbers of the operations that turn what C says. -/
theorem wp_region_spread {id : Nat} {Q : Exit → Act → World → Prop} {a : Act} {w : World} {l : List Oper} (sp : List Nat) (C : (Nat → Bool) → World → Prop) (hm : P.follows .mixedOrders = true) (hB : Region.lexB .any l.toArray = true) (hb : backB l.toArray = true)
    (hg : (sp.all fun i => ((l[i]?).map (fun o => o.guard.isNone)).getD false) = true) (hC : C (fun _ => false) { w with drawn := w.drawn + 1 })
    (h : wpSpread P l.toArray sp C (fun a' => ∀ D w', (∀ i ∈ sp, D i = true) → C D w' → Q .normal a' w') 0 l a) : (Code.region id l.toArray true).wp P Q a w := by
  simp only [Region.lexB, Bool.and_eq_true] at hB
  have hg' : ∀ i ∈ sp, i < l.length ∧ ∀ o, l.toArray[i]? = some o → o.guard = none := by
    intro i hi
    have := List.all_eq_true.1 hg i hi
    cases ho : l[i]? with
    | none => rw [ho] at this; simp at this
    | some o =>
      rw [ho] at this
      refine ⟨(List.getElem?_eq_some_iff.1 ho).1, fun o' ho' => ?_⟩
      have e : l[i]? = some o' := by simpa using ho'
      rw [ho] at e; cases e
      simpa using this
  refine wp_region_any hm (wpAny_of_spr (sp := sp) (C := C) (Q := fun a' => ∀ D w', (∀ i ∈ sp, D i = true) → C D w' → Q .normal a' w') (fun i hi o ho => (hg' i hi).2 o ho) (fun a' listed D w' hr hf hC' h => ?_) _ _ _ (fun _ => false) _ ?_ hC ?_)
  · refine h D w' (fun i hi => ?_) hC'
    have hlt : i < l.toArray.size := by simpa using (hg' i hi).1
    rw [hf.2 i hi hlt]
    exact all_listed hb hf.1 hr i hlt
  · refine ⟨by simp, fun i _ hlt => ?_⟩
    have hlt' : i < l.length := by simpa using hlt
    simp [hlt']
  · have := wpAnySpr_lex (sp := sp) (C := C) (md := .any) hB.1 l 0 (Array.replicate l.toArray.size false) a (by simp) (by simpa using hB.2) h
    simpa using this

/-! The same for a head of n operations; the others come behind all of them, in their order. -/
def wpAnySprL (P : Program) (md : Region.Mode) (ops : Array Oper) (sp : List Nat) (C : (Nat → Bool) → World → Prop) (n : Nat) (L : Array Bool → Act → Prop) : Nat → Array Bool → Act → Prop
  | 0, listed, a => L listed a
  | f + 1, listed, a =>
    Region.ready md ops listed ≠ [] ∧ ∀ i ∈ Region.ready md ops listed, i < n ∧ sprOp P ops sp C i (wpAnySprL P md ops sp C n L f (listed.setIfInBounds i true)) a

theorem wpAny_of_headSpr (hg : ∀ i ∈ sp, ∀ o, ops[i]? = some o → o.guard = none) {n g : Nat} {L : Array Bool → Act → Prop} {Q' : Exit → Act → World → Prop} (hL : ∀ listed a D w, Flags ops sp listed D → C D w → L listed a → wpAny P md ops Q' g listed a w) :
    ∀ (f : Nat) (listed : Array Bool) (a : Act) (D : Nat → Bool) (w : World), Flags ops sp listed D → C D w → wpAnySprL P md ops sp C n L f listed a → wpAny P md ops Q' (f + g) listed a w
  | 0, listed, a, D, w, hf, hw, h => by rw [Nat.zero_add]; exact hL _ _ _ _ hf hw h
  | f + 1, listed, a, D, w, hf, hw, h => by
    rw [show f + 1 + g = (f + g) + 1 by omega]
    refine ⟨fun h0 => absurd h0 h.1, fun i hi => ?_⟩
    have h2 := (h.2 i hi).2
    have hun := (mem_ready.1 hi).1
    unfold sprOp at h2
    unfold wpOp
    split
    · rename_i ho
      obtain ⟨_, o, ho', _⟩ := mem_ready.1 hi
      rw [ho] at ho'; cases ho'
    · rename_i o ho
      simp only [ho] at h2
      have hlt : i < ops.size := (Array.getElem?_eq_some_iff.1 ho).1
      split
      · rename_i hwt
        simp only [hwt, if_true] at h2
        obtain ⟨v, h3, h4⟩ := h2
        left
        have h5 := h3 D w hw (fun hs => by rw [hf.2 i hs hlt]; exact hun)
        unfold Oper.wp
        generalize (execOp a.eval o).run P w = r at *
        cases r with
        | ok n w' =>
          cases n <;> simp only [spreadUpon] at h5 <;> simp only [Oper.upon]
          case value u => rw [h5.1]; exact wpAny_of_headSpr hg hL f _ _ _ _ (hf.step i) h5.2 h4
          case skip => rw [← h5.1]; exact wpAny_of_headSpr hg hL f _ _ _ _ (hf.step i) h5.2 h4
          case enter f' args => exact h5.mono fun e w'' ⟨he, hc⟩ => by subst he; exact wpAny_of_headSpr hg hL f _ _ _ _ (hf.step i) hc h4
        | halt x w' => simp only [spreadUpon] at h5
      · rename_i hwt
        simp only [hwt] at h2
        have hns : i ∉ sp := fun hs => hwt (by simp [Region.wanted, hg i hs o ho])
        have hf' := hf.step (sp := sp) i
        unfold doneSet at hf'
        rw [if_neg hns] at hf'
        exact wpAny_of_headSpr hg hL f _ _ _ _ hf' hw h2

theorem wpAnySprL_first {n i : Nat} {oi : Oper} {v : Value} {L : Array Bool → Act → Prop} (hi : ops[i]? = some oi) (hsel : ∀ (j : Nat) (o : Oper) cs b, ops[j]? = some o → o.op ≠ .select cs b)
    (hs : Region.sinkB md ops n = true) (hc : Region.chainB md ops n = true) (hn : n < ops.size) (hin : i < n)
    (hdone : ∀ listed a, L listed a → ∀ j ∈ Region.ready md ops listed, n ≤ j) :
    ∀ (f : Nat) (listed : Array Bool) (a : Act), HeadInv md ops n listed →
      (∀ j oj, ops[j]? = some oj → j ≠ i → listed.getD j true = false → (∀ e ∈ oj.after, Region.binds md e = true → e.on ≠ i) → oi.apart ops oj = true) →
      i ∈ Region.ready md ops listed → SprYields P ops sp C i oi v a →
      wpAnySprL P md ops sp C n L f (listed.setIfInBounds i true) (a.put oi.dst v) → wpAnySprL P md ops sp C n L (f + 1) listed a := by
  intro f
  induction f with
  | zero =>
    intro listed a inv _ hr hy H
    have hun := (mem_ready.1 hr).1
    refine ⟨fun h => (by rw [h] at hr; cases hr), fun j hj => ?_⟩
    have hjn : j < n := by
      rcases Nat.lt_or_ge j n with h | h
      · exact h
      · exact absurd hj (tail_waits hs hc hn inv _ i rfl hin hun j h)
    refine ⟨hjn, ?_⟩
    by_cases hji : j = i
    · subst hji; exact hy.op hi H
    · have := hdone _ _ H j (ready_mono hj hji)
      omega
  | succ f ih =>
    intro listed a inv hfree hr hy H
    have hun := (mem_ready.1 hr).1
    refine ⟨fun h => (by rw [h] at hr; cases hr), fun j hj => ?_⟩
    have hjn : j < n := by
      rcases Nat.lt_or_ge j n with h | h
      · exact h
      · exact absurd hj (tail_waits hs hc hn inv _ i rfl hin hun j h)
    refine ⟨hjn, ?_⟩
    by_cases hji : j = i
    · subst hji; exact hy.op hi H
    · have h1 := (H.2 j (ready_mono hj hji)).2
      obtain ⟨hjun, oj, hoj, hall⟩ := mem_ready.1 hj
      have hnot : ∀ e ∈ oj.after, Region.binds md e = true → e.on ≠ i := fun e he hb heq => by
        have h1 := hall e he hb
        rw [heq, getD_both hun] at h1
        cases h1
      have h2 := sprOp_put hoj (hfree j oj hoj hji hjun hnot) (fun cs b => hsel i oi cs b hi) (fun cs b => hsel j oj cs b hoj) hy h1
      have hfree' : ∀ k ok, ops[k]? = some ok → k ≠ i → (listed.setIfInBounds j true).getD k true = false →
          (∀ e ∈ ok.after, Region.binds md e = true → e.on ≠ i) → oi.apart ops ok = true := fun k ok hk hki hun hno => by
        refine hfree k ok hk hki ?_ hno
        by_cases hjk : j = k
        · subst hjk; exact hjun
        · rw [getD_set_ne true hjk] at hun; exact hun
      refine sprOp_mono (fun a' h3 => ih (listed.setIfInBounds j true) a' (inv.set hj hjn) hfree' (ready_mono hr (Ne.symm hji)) h3.1 ?_) h2
      rw [Array.setIfInBounds_comm _ _ hji]
      exact h3.2

theorem wpAnySprL_lex {n g : Nat} {Lq : Act → Prop} (hsel : Region.noSelect ops = true) (hs : Region.sinkB md ops n = true) (hc : Region.chainB md ops n = true) (hn : n < ops.size) :
    ∀ (l : List Oper) (k : Nat) (listed : Array Bool) (a : Act), (∀ j, j < l.length → l[j]? = ops[k + j]?) → k + l.length = n → HeadInv md ops n listed →
    Region.lexHead md ops g l.length k listed = true → wpSpread P ops sp C Lq k l a →
    wpAnySprL P md ops sp C n (fun listed' a' => (Region.seqB md ops g n listed' = true ∧ ∀ j, j < n → listed'.getD j true = true) ∧ Lq a') l.length listed a ∨ ¬ (∀ j, j < k → listed.getD j true = true)
  | [], k, listed, a, _, hk, _, hB, h => by
    have : k = n := by simpa using hk
    subst this
    by_cases hq : ∀ j, j < k → listed.getD j true = true
    · exact .inl ⟨⟨by simpa [Region.lexHead] using hB, hq⟩, h⟩
    · exact .inr hq
  | o :: l, k, listed, a, hl, hk, inv, hB, h => by
    have h0 : ops[k]? = some o := by simpa using (hl 0 (by simp)).symm
    simp only [List.length_cons, Region.lexHead, Bool.and_eq_true] at hB
    obtain ⟨⟨hr, hf⟩, hB'⟩ := hB
    have hkn : k < n := by simp only [List.length_cons] at hk; omega
    have hr' : k ∈ Region.ready md ops listed := by simpa using hr
    have hst : sprOp P ops sp C k (wpSpread P ops sp C Lq (k + 1) l) a := by unfold sprOp; simp only [h0]; exact h
    obtain ⟨v, hy, hK⟩ := sprYields_of_op h0 hst
    by_cases hq : ∀ j, j < k → listed.getD j true = true
    · rcases wpAnySprL_lex (g := g) hsel hs hc hn l (k + 1) (listed.setIfInBounds k true) (a.put o.dst v) (fun j hj => by have := hl (j + 1) (by simp; omega); simpa [Nat.add_assoc, Nat.add_comm 1 j] using this) (by simp only [List.length_cons] at hk; omega) (inv.set hr' hkn) hB' hK with h1 | h1
      · exact .inl (wpAnySprL_first h0 (Region.noSelect_spec hsel) hs hc hn hkn (fun listed' a' hL => seqB_ready hL.1.1) l.length listed a inv (Region.free_spec h0 hf) hr' hy h1)
      · refine absurd (fun j hj => ?_) h1
        by_cases e : k = j
        · subst e
          have : k < listed.size := by rw [inv.size]; omega
          simp [this]
        · rw [getD_set_ne true e]; exact hq j (by omega)
    · exact .inr hq

theorem wp_region_spread_tail {id : Nat} {Q : Exit → Act → World → Prop} {a : Act} {w : World} {l : List Oper} (n : Nat) (sp : List Nat) (C : (Nat → Bool) → World → Prop) (hm : P.follows .mixedOrders = true) (hB : Region.lexTailB .any l.toArray n = true)
    (hg : (sp.all fun i => decide (i < n) && ((l[i]?).map (fun o => o.guard.isNone)).getD false) = true) (hC : C (fun _ => false) { w with drawn := w.drawn + 1 })
    (h : wpSpread P l.toArray sp C (fun a' => ∀ D w', (∀ i ∈ sp, D i = true) → C D w' → wpList P l.toArray Q (l.drop n) a' w') 0 (l.take n) a) : (Code.region id l.toArray true).wp P Q a w := by
  simp only [Region.lexTailB, Bool.and_eq_true, decide_eq_true_eq] at hB
  obtain ⟨⟨⟨⟨hsel, hn⟩, hs⟩, hc⟩, hlex⟩ := hB
  have hn' : n < l.length := by simpa using hn
  have htl : (l.take n).length = n := by simp; omega
  have hdl : (l.drop n).length = l.toArray.size - n := by simp
  have hg' : ∀ i ∈ sp, i < n ∧ ∀ o, l.toArray[i]? = some o → o.guard = none := by
    intro i hi
    have := List.all_eq_true.1 hg i hi
    simp only [Bool.and_eq_true, decide_eq_true_eq] at this
    refine ⟨this.1, fun o ho => ?_⟩
    have e : l[i]? = some o := by simpa using ho
    have h2 := this.2
    rw [e] at h2
    simpa using h2
  have inv0 : HeadInv .any l.toArray n (Array.replicate l.toArray.size false) :=
    ⟨by simp, fun j oj _ hl => (by rw [getD_replicate_false] at hl; cases hl), fun t _ ht => getD_in (by simpa using ht) (getD_replicate_false _ _)⟩
  have H := wpAnySprL_lex (sp := sp) (C := C) (md := .any) (g := l.toArray.size - n) hsel hs hc hn (l.take n) 0 _ a (fun j hj => by
    have hj' : j < n := by rw [htl] at hj; exact hj
    simp [hj']) (by simpa using htl) inv0 (by rw [htl]; exact hlex) h
  rcases H with H | H
  · refine wp_region_any hm ?_
    have := wpAny_of_headSpr (Q' := Q) (g := l.toArray.size - n) (fun i hi o ho => (hg' i hi).2 o ho) (fun listed a' D w' hf hw' hL => by
      have hD : ∀ i ∈ sp, D i = true := fun i hi => by
        rw [hf.2 i hi (by have := (hg' i hi).1; omega)]; exact hL.1.2 i (hg' i hi).1
      have := wpAny_of_seq (md := .any) (Q' := Q) (l.drop n) n listed a' w' (fun j => by simp [List.getElem?_drop]) (by rw [hdl]; exact hL.1.1) (hL.2 D w' hD hw')
      rwa [hdl] at this) _ _ _ (fun _ => false) _ (⟨by simp, fun i _ hlt => by
        have hlt' : i < l.length := by simpa using hlt
        simp [hlt']⟩) hC H
    rw [htl, show n + (l.toArray.size - n) = l.toArray.size by omega] at this
    exact this
  · exact absurd (fun j hj => absurd hj (Nat.not_lt_zero j)) H

/-! One operation that turns the world, at a known place: two worlds. -/
def twoW (i : Nat) (w0 w1 : World) : (Nat → Bool) → World → Prop := fun D w => w = if D i then w1 else w0

theorem two_quiet {i k : Nat} {w0 w1 : World} (hki : k ≠ i) {Q : Act → Prop} {o : Oper} {rest : List Oper} {a : Act} {v : Value} (hg : o.guard = none)
    (h0 : (execOp a.eval o).run P w0 = .ok (.value v) w0) (h1 : (execOp a.eval o).run P w1 = .ok (.value v) w1)
    (hr : wpSpread P ops [i] (twoW i w0 w1) Q (k + 1) rest (a.put o.dst v)) : wpSpread P ops [i] (twoW i w0 w1) Q k (o :: rest) a := by
  unfold wpSpread
  rw [if_pos (by simp [Region.wanted, hg])]
  refine ⟨v, fun D w hD _ => ?_, hr⟩
  have hns : k ∉ [i] := by simpa using hki
  unfold twoW at hD
  subst hD
  have e : doneSet [i] k D = D := by unfold doneSet; rw [if_neg hns]
  rw [e]
  cases hDi : D i with
  | true => simp only [if_true]; rw [h1]; exact ⟨rfl, by unfold twoW; rw [hDi]; rfl⟩
  | false => simp only [Bool.false_eq_true, if_false]; rw [h0]; exact ⟨rfl, by unfold twoW; rw [hDi]; rfl⟩

theorem two_turns {i : Nat} {w0 w1 : World} {Q : Act → Prop} {o : Oper} {rest : List Oper} {a : Act} {v : Value} (hg : o.guard = none)
    (h0 : (execOp a.eval o).run P w0 = .ok (.value v) w1)
    (hr : wpSpread P ops [i] (twoW i w0 w1) Q (i + 1) rest (a.put o.dst v)) : wpSpread P ops [i] (twoW i w0 w1) Q i (o :: rest) a := by
  unfold wpSpread
  rw [if_pos (by simp [Region.wanted, hg])]
  refine ⟨v, fun D w hD hf => ?_, hr⟩
  have hDi := hf (by simp)
  unfold twoW at hD
  rw [hDi] at hD
  simp only [Bool.false_eq_true, if_false] at hD
  subst hD
  rw [h0]
  refine ⟨rfl, ?_⟩
  unfold twoW doneSet
  simp

theorem two_skip {i k : Nat} {w0 w1 : World} (hki : k ≠ i) {Q : Act → Prop} {o : Oper} {rest : List Oper} {a : Act} (hg : o.guard = none)
    (h0 : (execOp a.eval o).run P w0 = .ok .skip w0) (h1 : (execOp a.eval o).run P w1 = .ok .skip w1)
    (hr : wpSpread P ops [i] (twoW i w0 w1) Q (k + 1) rest (a.put o.dst undef)) : wpSpread P ops [i] (twoW i w0 w1) Q k (o :: rest) a := by
  unfold wpSpread
  rw [if_pos (by simp [Region.wanted, hg])]
  refine ⟨undef, fun D w hD _ => ?_, hr⟩
  have hns : k ∉ [i] := by simpa using hki
  unfold twoW at hD
  subst hD
  have e : doneSet [i] k D = D := by unfold doneSet; rw [if_neg hns]
  rw [e]
  cases hDi : D i with
  | true => simp only [if_true]; rw [h1]; exact ⟨rfl, by unfold twoW; rw [hDi]; rfl⟩
  | false => simp only [Bool.false_eq_true, if_false]; rw [h0]; exact ⟨rfl, by unfold twoW; rw [hDi]; rfl⟩

theorem wpSpread_end {k : Nat} {Q : Act → Prop} {a : Act} (h : Q a) : wpSpread P ops sp C Q k [] a := by unfold wpSpread; exact h

theorem wp_region_two {id : Nat} {Q : Exit → Act → World → Prop} {a : Act} {w : World} {l : List Oper} (n i : Nat) (w1 : World) (hm : P.follows .mixedOrders = true) (hB : Region.lexTailB .any l.toArray n = true)
    (hg : ([i].all fun i => decide (i < n) && ((l[i]?).map (fun o => o.guard.isNone)).getD false) = true)
    (h : wpSpread P l.toArray [i] (twoW i w.drew w1) (fun a' => wpList P l.toArray Q (l.drop n) a' w1) 0 (l.take n) a) : (Code.region id l.toArray true).wp P Q a w := by
  refine wp_region_spread_tail n [i] (twoW i w.drew w1) hm hB hg (by unfold twoW; rfl) ?_
  have e : (fun a' => ∀ D w', (∀ j ∈ [i], D j = true) → twoW i w.drew w1 D w' → wpList P l.toArray Q (l.drop n) a' w') = (fun a' => wpList P l.toArray Q (l.drop n) a' w1) := by
    funext a'; apply propext
    constructor
    · intro H; exact H (fun _ => true) w1 (fun _ _ => rfl) (by unfold twoW; rfl)
    · intro H D w' hD hw
      have := hD i (by simp)
      unfold twoW at hw
      rw [this] at hw
      simp only [if_true] at hw
      subst hw; exact H
  rw [e]; exact h
end
end Go.Proofs.Ytpgnklmmjdkhiaa

/-
  The light machine: regions that draw their order and make memory. No program is named here.
-/
namespace Go.Proofs.Ytpgnklmmjdkhiaa
open Go.RowKit
section
variable (P : Program) (X : Cx)
def SS (ops : Array Oper) (sp : List Nat) (C : (Nat → Bool) → World → Prop) (K : Act → Prop) (k : Nat) (rest : List Oper) (m : List (Nat × Value)) : Prop := ∀ a, Fr X.n a m → wpSpread P ops sp C K k rest a
end
section
variable {P : Program} {X : Cx} {ops : Array Oper} {Q : Exit → Act → World → Prop} {rest : List Oper} {o : Oper} {m : List (Nat × Value)} {l : List Res} {v : Value} {d k : Nat} {sp : List Nat} {C : (Nat → Bool) → World → Prop} {K : Act → Prop}

theorem done_same (hk : sp.contains k = false) (D : Nat → Bool) : doneSet sp k D = D := by
  unfold doneSet; rw [if_neg (by simpa using hk)]
theorem SS.norm (m' : List (Nat × Value)) (hm : Subs m m') (h : SS P X ops sp C K k rest m') : SS P X ops sp C K k rest m := fun a hf => h a (hf.sub hm)
theorem SS.ru (l : List Res) (hC : ∀ D w, C D w → Inv X w l) (hk : sp.contains k = false) (hg : o.guard = none) (hd : o.dst = some d) (hn : d < X.n) (hr : Ru P X o m l v) (h : SS P X ops sp C K (k + 1) rest ((d, v) :: m)) : SS P X ops sp C K k (o :: rest) m := fun a hf => by
  unfold wpSpread
  rw [if_pos (by simp [Region.wanted, hg])]
  refine ⟨v, fun D w hD _ => ?_, ?_⟩
  · rw [hr a w hf (hC D w hD), done_same hk]; exact ⟨rfl, hD⟩
  · rw [hd]; exact h _ (hf.put hn v)
theorem SS.rug (l : List Res) (hC : ∀ D w, C D w → Inv X w l) (hk : sp.contains k = false) {j : Nat} {want : Bool} {dj : Nat} (hg : o.guard = some (j, want)) (hj : (ops[j]?).bind (·.dst) = some dj) (hb : look m dj = some (.bool want)) (hd : o.dst = some d) (hn : d < X.n) (hr : Ru P X o m l v)
    (h : SS P X ops sp C K (k + 1) rest ((d, v) :: m)) : SS P X ops sp C K k (o :: rest) m := fun a hf => by
  unfold wpSpread
  rw [if_pos (by rw [guard_is hf hg hj hb]; simp)]
  refine ⟨v, fun D w hD _ => ?_, ?_⟩
  · rw [hr a w hf (hC D w hD), done_same hk]; exact ⟨rfl, hD⟩
  · rw [hd]; exact h _ (hf.put hn v)
theorem SS.off {j : Nat} {want b : Bool} {dj : Nat} (hg : o.guard = some (j, want)) (hj : (ops[j]?).bind (·.dst) = some dj) (hb : look m dj = some (.bool b)) (hw : (b == want) = false) (hd : o.dst = some d) (hn : d < X.n)
    (h : SS P X ops sp C K (k + 1) rest ((d, undef) :: m)) : SS P X ops sp C K k (o :: rest) m := fun a hf => by
  unfold wpSpread
  rw [if_neg (by rw [guard_is hf hg hj hb]; simp [hw]), hd]
  exact h _ (hf.put hn _)
theorem SS.offu {j : Nat} {want : Bool} {dj : Nat} (hg : o.guard = some (j, want)) (hj : (ops[j]?).bind (·.dst) = some dj) (hb : look m dj = some undef) (hd : o.dst = some d) (hn : d < X.n)
    (h : SS P X ops sp C K (k + 1) rest ((d, undef) :: m)) : SS P X ops sp C K k (o :: rest) m := fun a hf => by
  unfold wpSpread
  rw [if_neg (by rw [guard_un hf hg hj hb]; simp), hd]
  exact h _ (hf.put hn _)
theorem SS.append {L2 : List Oper} : ∀ (L1 : List Oper) (k : Nat) (a : Act), wpSpread P ops sp C (fun a => wpSpread P ops sp C K (k + L1.length) L2 a) k L1 a → wpSpread P ops sp C K k (L1 ++ L2) a
  | [], k, a, h => by simpa [wpSpread] using h
  | o :: r, k, a, h => by
    rw [List.cons_append]
    unfold wpSpread at h ⊢
    have e : k + (o :: r).length = k + 1 + r.length := by simp; omega
    rw [e] at h
    split
    · rename_i hw
      rw [if_pos hw] at h
      obtain ⟨v, h1, h2⟩ := h
      exact ⟨v, h1, SS.append r (k + 1) _ h2⟩
    · rename_i hw
      rw [if_neg hw] at h
      exact SS.append r (k + 1) _ h
theorem SS.join (n : Nat) (m' : List (Nat × Value)) (hl : (rest.take n).length = n) (hk : SS P X ops sp C K (k + n) (rest.drop n) m')
    (h : ∀ K' : Act → Prop, (∀ a, Fr X.n a m' → K' a) → SS P X ops sp C K' k (rest.take n) m) : SS P X ops sp C K k rest m := fun a hf => by
  have := h (fun a => wpSpread P ops sp C K (k + (rest.take n).length) (rest.drop n) a) (fun a hf => by rw [hl]; exact hk a hf) a hf
  have := SS.append (K := K) (L2 := rest.drop n) _ _ _ this
  rwa [List.take_append_drop] at this
theorem SS.joined {m' : List (Nat × Value)} (hK : ∀ a, Fr X.n a m' → K a) (hm : Subs m m') : SS P X ops sp C K k [] m := fun a hf => by unfold wpSpread; exact hK a (hf.sub hm)
/-- A quiet call. -/
theorem SS.call {f : FuncId} {fs cs vals : List Value} {c : Operand} {args : List Operand} {aT : Array TypeId} (v : Value) (hk : sp.contains k = false) (hg : o.guard = none)
    (ho : o.op = .call { callee := .value c, args := args.toArray, argTypes := aT }) (hok : CallOk P f) (hc : evM m c = some (.func (.func f) fs.toArray cs.toArray)) (ha : evL m args = some vals) (hd : o.dst = some d) (hn : d < X.n)
    (H : ∀ D w, C D w → Calls P f (fs ++ vals ++ cs).toArray w fun e w' => e = .returned v ∧ C D w')
    (h : SS P X ops sp C K (k + 1) rest ((d, v) :: m)) : SS P X ops sp C K k (o :: rest) m := fun a hf => by
  unfold wpSpread
  rw [if_pos (by simp [Region.wanted, hg])]
  refine ⟨v, fun D w hD _ => ?_, ?_⟩
  · rw [call_enter ho hok hc ha hf w, done_same hk]; exact H D w hD
  · rw [hd]; exact h _ (hf.put hn v)
/-- A call that turns memory, in its turn. -/
theorem SS.turn {f : FuncId} {fs cs vals : List Value} {c : Operand} {args : List Operand} {aT : Array TypeId} (v : Value) (hk : sp.contains k = true) (hg : o.guard = none)
    (ho : o.op = .call { callee := .value c, args := args.toArray, argTypes := aT }) (hok : CallOk P f) (hc : evM m c = some (.func (.func f) fs.toArray cs.toArray)) (ha : evL m args = some vals) (hd : o.dst = some d) (hn : d < X.n)
    (H : ∀ D w, C D w → D k = false → Calls P f (fs ++ vals ++ cs).toArray w fun e w' => e = .returned v ∧ C (fun j => if j = k then true else D j) w')
    (h : SS P X ops sp C K (k + 1) rest ((d, v) :: m)) : SS P X ops sp C K k (o :: rest) m := fun a hf => by
  have hs : k ∈ sp := by simpa using hk
  unfold wpSpread
  rw [if_pos (by simp [Region.wanted, hg])]
  refine ⟨v, fun D w hD hf' => ?_, ?_⟩
  · rw [call_enter ho hok hc ha hf w]
    unfold doneSet; rw [if_pos hs]
    exact H D w hD (hf' hs)
  · rw [hd]; exact h _ (hf.put hn v)

/-! One place made, whenever. -/
def CA (X : Cx) (l : List Res) (k b : Nat) (r : Res) : (Nat → Bool) → World → Prop := fun D w => if D k then Inv X w (l ++ [r]) else Inv X w l ∧ w.heap.size = b
theorem CA.base {r : Res} {b : Nat} : ∀ D w, CA X l k b r D w → Inv X w l := fun D w h => by
  unfold CA at h
  split at h
  · refine ⟨⟨fun s hs => h.1.1 s (by simp [hs]), ?_⟩, h.2⟩
    have := h.1.2
    rw [List.pairwise_append] at this
    exact this.1
  · exact h.1
theorem SC.region_alloc {id : Nat} {L : List Oper} (n k : Nat) (r : Nat → Res) (hm : P.follows .mixedOrders = true) (hB : Region.lexTailB .any L.toArray n = true)
    (hg : ([k].all fun i => decide (i < n) && ((L[i]?).map (fun o => o.guard.isNone)).getD false) = true)
    (h : ∀ b, X.w0.heap.size ≤ b → SS P X L.toArray [k] (CA X l k b (r b)) (fun a' => ∀ D w', (∀ i ∈ [k], D i = true) → CA X l k b (r b) D w' → wpList P L.toArray Q (L.drop n) a' w') 0 (L.take n) m) : SC P X (.region id L.toArray true) Q m l :=
  fun a w hf hi => wp_region_spread_tail n [k] (CA X l k w.heap.size (r w.heap.size)) hm hB hg (by unfold CA; exact ⟨hi.draw1, rfl⟩) (h _ hi.2.size a hf)
theorem SC.region_alloc0 {id : Nat} {L : List Oper} (k : Nat) (r : Nat → Res) (hm : P.follows .mixedOrders = true) (hB : Region.lexB .any L.toArray = true) (hb : backB L.toArray = true)
    (hg : ([k].all fun i => ((L[i]?).map (fun o => o.guard.isNone)).getD false) = true)
    (h : ∀ b, X.w0.heap.size ≤ b → SS P X L.toArray [k] (CA X l k b (r b)) (fun a' => ∀ D w', (∀ i ∈ [k], D i = true) → CA X l k b (r b) D w' → Q .normal a' w') 0 L m) : SC P X (.region id L.toArray true) Q m l :=
  fun a w hf hi => wp_region_spread [k] (CA X l k w.heap.size (r w.heap.size)) hm hB hb hg (by unfold CA; exact ⟨hi.draw1, rfl⟩) (h _ hi.2.size a hf)
theorem SS.nilA {r : Res} {b k : Nat} {L : List Oper} {j : Nat} (h : SL P X ops Q L m (l ++ [r])) : SS P X ops sp C (fun a' => ∀ D w', (∀ i ∈ [k], D i = true) → CA X l k b r D w' → wpList P ops Q L a' w') j [] m := fun a hf => by
  unfold wpSpread
  intro D w' hD hC
  unfold CA at hC
  rw [if_pos (hD k (by simp))] at hC
  exact h a w' hf hC
theorem SS.nilE {r : Res} {b k : Nat} {j : Nat} (h : SE X Q .normal m (l ++ [r])) : SS P X ops sp C (fun a' => ∀ D w', (∀ i ∈ [k], D i = true) → CA X l k b r D w' → Q .normal a' w') j [] m := fun a hf => by
  unfold wpSpread
  intro D w' hD hC
  unfold CA at hC
  rw [if_pos (hD k (by simp))] at hC
  exact h a w' hf hC
theorem SS.alloca {t : TypeId} {z : List Value} {b : Nat} (hg : o.guard = none) (hd : o.dst = some d) (hn : d < X.n) (ht : TyAg P t z) (ho : o.op = .alloc t)
    (h : SS P X ops [k] (CA X l k b (rBlk b z t)) K (k + 1) rest ((d, .pointer (some ⟨b, 0, none⟩)) :: m)) : SS P X ops [k] (CA X l k b (rBlk b z t)) K k (o :: rest) m := fun a hf => by
  unfold wpSpread
  rw [if_pos (by simp [Region.wanted, hg])]
  refine ⟨.pointer (some ⟨b, 0, none⟩), fun D w hD hf' => ?_, ?_⟩
  · have hk := hf' (by simp)
    unfold CA at hD
    rw [if_neg (by simp [hk])] at hD
    obtain ⟨hI, hb⟩ := hD
    have hrun : (Instr.alloc t true (.tuple #[])).run P w = .ok (.pointer (some ⟨w.heap.size, 0, none⟩)) (w.alloc (.cells z.toArray t)) := by
      unfold Instr.alloc
      rw [Sem.run_bind, (ht.run w).2.2]
      simp [newVar, newRow, newObj, Value.cells]; rfl
    unfold execOp; rw [ho]
    simp only [Sem.run_bind, hrun, Result.andThen_ok, Sem.run_pure]
    refine ⟨by rw [hb], ?_⟩
    unfold doneSet CA
    rw [if_pos (by simp)]
    subst hb
    have := new_blk hI z.toArray t
    simpa using this
  · rw [hd]; exact h _ (hf.put hn _)
theorem SS.alloc {t : TypeId} {z : Value} {b : Nat} (hg : o.guard = none) (hd : o.dst = some d) (hn : d < X.n) (ht : TySc P t z) (ho : o.op = .alloc t)
    (h : SS P X ops [k] (CA X l k b (rBlk b [z] t)) K (k + 1) rest ((d, .pointer (some ⟨b, 0, none⟩)) :: m)) : SS P X ops [k] (CA X l k b (rBlk b [z] t)) K k (o :: rest) m := fun a hf => by
  unfold wpSpread
  rw [if_pos (by simp [Region.wanted, hg])]
  refine ⟨.pointer (some ⟨b, 0, none⟩), fun D w hD hf' => ?_, ?_⟩
  · have hk := hf' (by simp)
    unfold CA at hD
    rw [if_neg (by simp [hk])] at hD
    obtain ⟨hI, hb⟩ := hD
    have hvc : z.cells = #[z] := by have := ht.one; cases z <;> first | rfl | simp [Value.oneCell'] at this
    have hrun : (Instr.alloc t true (.tuple #[])).run P w = .ok (.pointer (some ⟨w.heap.size, 0, none⟩)) (w.alloc (.cells #[z] t)) := by
      unfold Instr.alloc
      rw [Sem.run_bind, (ht.run w).2.2]
      simp [newVar, newRow, newObj, hvc]; rfl
    unfold execOp; rw [ho]
    simp only [Sem.run_bind, hrun, Result.andThen_ok, Sem.run_pure]
    refine ⟨by rw [hb], ?_⟩
    unfold doneSet CA
    rw [if_pos (by simp)]
    subst hb
    have := new_blk hI #[z] t
    simpa using this
  · rw [hd]; exact h _ (hf.put hn _)
theorem SS.box {t : TypeId} {x : Operand} {c : List Value} {b : Nat} (hg : o.guard = none) (hd : o.dst = some d) (hn : d < X.n) (ho : o.op = .box t x) (hx : evM m x = some v) (hc : v.cells = c.toArray)
    (h : SS P X ops [k] (CA X l k b (rBlk b c t)) K (k + 1) rest ((d, .pointer (some ⟨b, 0, none⟩)) :: m)) : SS P X ops [k] (CA X l k b (rBlk b c t)) K k (o :: rest) m := fun a hf => by
  unfold wpSpread
  rw [if_pos (by simp [Region.wanted, hg])]
  refine ⟨.pointer (some ⟨b, 0, none⟩), fun D w hD hf' => ?_, ?_⟩
  · have hk := hf' (by simp)
    unfold CA at hD
    rw [if_neg (by simp [hk])] at hD
    obtain ⟨hI, hb⟩ := hD
    have hrun : (Instr.box t v).run P w = .ok (.pointer (some ⟨w.heap.size, 0, none⟩)) (w.alloc (.cells c.toArray t)) := by
      unfold Instr.box
      simp [newVar, newRow, newObj, hc]; rfl
    unfold execOp; rw [ho]
    simp only [hf.ev hx, Sem.run_bind, hrun, Result.andThen_ok, Sem.run_pure]
    refine ⟨by rw [hb], ?_⟩
    unfold doneSet CA
    rw [if_pos (by simp)]
    subst hb
    have := new_blk hI c.toArray t
    simpa using this
  · rw [hd]; exact h _ (hf.put hn _)

/-! Stores that may come early or late. -/
theorem rAny_of {b : Nat} {c : List Value} {T : TypeId} {w : World} (h : (rBlk b c T).ok w) : (rAny b).ok w := Blk.lt h
theorem Inv.any {w : World} {i b : Nat} {c : List Value} {T : TypeId} (h : Inv X w l) (hi : l[i]? = some (rBlk b c T)) : Inv X w (l.set i (rAny b)) :=
  ⟨h.1.upd hi (fun _ _ _ => rfl) (rAny_of (h.1.get hi)) (fun b' hb' => .inl hb'), h.2⟩
theorem SC.region_sp {id : Nat} {L : List Oper} (sp : List Nat) (lD : (Nat → Bool) → List Res) (hm : P.follows .mixedOrders = true) (hB : Region.lexB .any L.toArray = true) (hb : backB L.toArray = true)
    (hg : (sp.all fun i => ((L[i]?).map (fun o => o.guard.isNone)).getD false) = true) (h0 : l = lD (fun _ => false))
    (h : SS P X L.toArray sp (fun D w => Inv X w (lD D)) (fun a' => ∀ D w', (∀ i ∈ sp, D i = true) → Inv X w' (lD D) → Q .normal a' w') 0 L m) : SC P X (.region id L.toArray true) Q m l :=
  fun a w hf hi => wp_region_spread sp (fun D w => Inv X w (lD D)) hm hB hb hg (by have := hi.draw1; rw [h0] at this; exact this) (h a hf)
theorem SS.nilD {lD : (Nat → Bool) → List Res} {l' : List Res} {j : Nat} (hl : ∀ D : Nat → Bool, (∀ i ∈ sp, D i = true) → lD D = l') (h : SE X Q .normal m l') : SS P X ops sp C (fun a' => ∀ D w', (∀ i ∈ sp, D i = true) → Inv X w' (lD D) → Q .normal a' w') j [] m := fun a hf => by
  unfold wpSpread
  intro D w' hD hC
  rw [hl D hD] at hC
  exact h a w' hf hC
theorem SS.storea {lD : (Nat → Bool) → List Res} {t : TypeId} {x y : Operand} {i b : Nat} {c vs z : List Value} {T : TypeId} (hk : sp.contains k = true) (hg : o.guard = none) (hd : o.dst = none) (ht : TyAg P t z) (ho : o.op = .store t x y) (hx : evM m x = some (.pointer (some ⟨b, 0, none⟩)))
    (hy : evM m y = some (.agg vs.toArray)) (hv : vs.all (·.oneCell') = true) (hvl : vs.length = z.length) (hcl : c.length = vs.length) (hi : ∀ D, D k = false → (lD D)[i]? = some (rBlk b c T)) (hS : X.S b ∨ X.w0.heap.size ≤ b)
    (hl : ∀ D : Nat → Bool, D k = false → (lD D).set i (rBlk b vs T) = lD (fun j => if j = k then true else D j)) (h : SS P X ops sp (fun D w => Inv X w (lD D)) K (k + 1) rest m) : SS P X ops sp (fun D w => Inv X w (lD D)) K k (o :: rest) m := fun a hf => by
  have hs : k ∈ sp := by simpa using hk
  unfold wpSpread
  rw [if_pos (by simp [Region.wanted, hg])]
  refine ⟨undef, fun D w hI hf' => ?_, ?_⟩
  · have hDk := hf' hs
    have hb : Blk w b c T := hI.1.get (hi D hDk)
    have hst : (storeVar t ⟨b, 0, none⟩ (.agg vs.toArray)).run P w = .ok () (w.setRow b vs.toArray) := by
      have := run_storeCells_at (P := P) b 0 T vs 0 c.toArray w hb (by simp; omega) (fun u hu => List.all_eq_true.1 hv u hu)
      unfold storeVar
      rw [show Value.cells (.agg vs.toArray) = vs.toArray from rfl, Sem.run_bind, (ht.run w).2.1]
      simp only [Result.andThen_ok, List.size_toArray, hvl, ne_eq, not_true, if_false]
      rw [← hvl] at *
      have e : List.take (0 + 0) c.toArray.toList ++ vs ++ List.drop (0 + 0 + vs.length) c.toArray.toList = vs := by simp; omega
      rw [e] at this
      exact this
    unfold execOp; rw [ho]
    simp only [hf.ev hx, hf.ev hy, Instr.storeAt, Instr.sureAddr, Sem.run_bind, Sem.run_pure, Result.andThen_ok, hst]
    refine ⟨rfl, ?_⟩
    unfold doneSet
    rw [if_pos hs, ← hl D hDk]
    exact hI.upd (hi D hDk) ⟨rfl, rfl, rfl, by simp [World.setRow], fun k' _ hk' => setRow_other w b k' _ hk'⟩ (fun b' hb' => by cases hb'; exact hS) (setRow_heap w b c.toArray vs.toArray T (0, 0) hb) (fun b' hb' => .inl hb')
  · rw [hd]; exact h a hf
theorem SS.store {lD : (Nat → Bool) → List Res} {t : TypeId} {x y : Operand} {i b o' : Nat} {z : Value} {T : TypeId} (cD : (Nat → Bool) → List Value) (hk : sp.contains k = true) (hg : o.guard = none) (hd : o.dst = none) (ht : TySc P t z) (ho : o.op = .store t x y) (hx : evM m x = some (.pointer (some ⟨b, o', none⟩)))
    (hy : evM m y = some v) (hv : v.oneCell' = true) (hi : ∀ D, D k = false → (lD D)[i]? = some (rBlk b (cD D) T)) (hlen : ∀ D, o' < (cD D).length) (hS : X.S b ∨ X.w0.heap.size ≤ b)
    (hl : ∀ D : Nat → Bool, D k = false → (lD D).set i (rBlk b ((cD D).set o' v) T) = lD (fun j => if j = k then true else D j)) (h : SS P X ops sp (fun D w => Inv X w (lD D)) K (k + 1) rest m) : SS P X ops sp (fun D w => Inv X w (lD D)) K k (o :: rest) m := fun a hf => by
  have hs : k ∈ sp := by simpa using hk
  unfold wpSpread
  rw [if_pos (by simp [Region.wanted, hg])]
  refine ⟨undef, fun D w hI hf' => ?_, ?_⟩
  · have hDk := hf' hs
    have hb : Blk w b (cD D) T := hI.1.get (hi D hDk)
    have hcell : w.cell? ⟨b, o', none⟩ = some ((cD D)[o']'(hlen D)) := by rw [hb.cell]; exact List.getElem?_eq_getElem (hlen D)
    have hvc : v.cells = #[v] := by cases v <;> first | rfl | simp [Value.oneCell'] at hv
    have hst : (storeVar t ⟨b, o', none⟩ v).run P w = .ok () (w.setCell ⟨b, o', none⟩ v) := by
      unfold storeVar
      rw [hvc, Sem.run_bind, (ht.run w).2.1]
      simp only [Result.andThen_ok, List.size_toArray, List.length_cons, List.length_nil, Nat.zero_add, ne_eq, not_true, if_false, storeCells]
      have ha : (⟨b, o', none⟩ : Addr).add 0 = ⟨b, o', none⟩ := rfl
      rw [Sem.run_bind, ha, run_store P w _ v _ hv, hcell]
      simp [hb.fz, Result.andThen]
    unfold execOp; rw [ho]
    simp only [hf.ev hx, hf.ev hy, Instr.storeAt, Instr.sureAddr, Sem.run_bind, Sem.run_pure, Result.andThen_ok, hst]
    refine ⟨rfl, ?_⟩
    unfold doneSet
    rw [if_pos hs, ← hl D hDk]
    exact hI.upd (hi D hDk) (Only.st (S := fun k => k = b) (Only.refl _ _) rfl _ _) (fun b' hb' => by cases hb'; exact hS) (hb.set o' v) (fun b' hb' => .inl hb')
  · rw [hd]; exact h a hf

/-! Loops; labels. -/
theorem SE.scopen (h : SE X Q .normal m l) : SE X (Exit.noGoto Q) .normal m l := h
theorem SE.scoper (h : SE X Q .ret m l) : SE X (Exit.noGoto Q) .ret m l := h
theorem SE.scopee {id : Nat} (h : SE X Q (.exit id) m l) : SE X (Exit.noGoto Q) (.exit id) m l := h
/-- A loop: n rounds at most are still to come; g is what the proof knows besides. -/
theorem SC.loop {c : Code} {γ : Type} (M : Nat → γ → List (Nat × Value)) (R : Nat → γ → List Res) (p : Nat → γ → Prop) (n0 : Nat) (g0 : γ) (hp : p n0 g0) (h0 : Subs m (M n0 g0)) (hl : l = R n0 g0)
    (round : ∀ n g, p n g → SC P X c (Exit.then (fun a w => ∃ n', n' < n ∧ ∃ g', p n' g' ∧ Fr X.n a (M n' g') ∧ Inv X w (R n' g')) Q) (M n g) (R n g)) : SC P X (.loop c) Q m l := fun a w hf hi =>
  wp_loop_ghost (fun n a w => ∃ g, p n g ∧ Fr X.n a (M n g) ∧ Inv X w (R n g)) n0 ⟨g0, hp, hf.sub h0, hl ▸ hi⟩ fun n a w ⟨g, h1, h2, h3⟩ => round n g h1 a w h2 h3
theorem SE.again {γ : Type} {M : Nat → γ → List (Nat × Value)} {R : Nat → γ → List Res} {p : Nat → γ → Prop} {n : Nat} (n' : Nat) (g' : γ) (hn : n' < n) (hp : p n' g') (hm : Subs m (M n' g')) (hl : l = R n' g') :
    SE X (Exit.then (fun a w => ∃ n', n' < n ∧ ∃ g', p n' g' ∧ Fr X.n a (M n' g') ∧ Inv X w (R n' g')) Q) .normal m l := fun a w hf hi => ⟨n', hn, g', hp, hf.sub hm, hl ▸ hi⟩
/-- A call that makes one place, whenever. -/
theorem SS.newcall {f : FuncId} {fs cs vals : List Value} {c : Operand} {args : List Operand} {aT : Array TypeId} {b : Nat} {r : Res} (v : Value) (hg : o.guard = none)
    (ho : o.op = .call { callee := .value c, args := args.toArray, argTypes := aT }) (hok : CallOk P f) (hc : evM m c = some (.func (.func f) fs.toArray cs.toArray)) (ha : evL m args = some vals) (hd : o.dst = some d) (hn : d < X.n)
    (H : ∀ w, Inv X w l → w.heap.size = b → Calls P f (fs ++ vals ++ cs).toArray w fun e w' => e = .returned v ∧ Inv X w' (l ++ [r]))
    (h : SS P X ops [k] (CA X l k b r) K (k + 1) rest ((d, v) :: m)) : SS P X ops [k] (CA X l k b r) K k (o :: rest) m :=
  SS.turn v (by simp) hg ho hok hc ha hd hn (fun D w hC hD => by
    unfold CA at hC
    rw [if_neg (by simp [hD])] at hC
    refine (H w hC.1 hC.2).mono fun e w' ⟨h1, h2⟩ => ⟨h1, ?_⟩
    unfold CA
    rw [if_pos (by simp)]
    exact h2) h
/-- A quiet call beside. -/
theorem CA.keep {b : Nat} {r : Res} {f : FuncId} {vs : Array Value} (h : ∀ w, Inv X w l → Calls P f vs w fun e w' => e = .returned v ∧ w = w') : ∀ D w, CA X l k b r D w → Calls P f vs w fun e w' => e = .returned v ∧ CA X l k b r D w' := fun D w hC => (h w (CA.base D w hC)).mono fun e w' ⟨h1, h2⟩ => ⟨h1, h2 ▸ hC⟩
end
end Go.Proofs.Ytpgnklmmjdkhiaa

/-
  The light machine: bytes of one's own (append), strings. No program is named here.
-/
namespace Go.Proofs.Ytpgnklmmjdkhiaa
open Go.RowKit

def appA (t : World) (n : Nat) : Option Addr := if n = 0 then none else some ⟨t.heap.size, 0, none⟩
def appC (t : World) (e : TypeId) (n : Nat) : Nat := if n = 0 then 0 else grownCap t n 0 e
def appV (t : World) (e : TypeId) (n : Nat) : Value := .slice (appA t n) n (appC t e n)
theorem appV_own {t : World} {e : TypeId} {n b : Nat} (h : (appV t e n).ownBlock = some b) : b = t.heap.size := by
  by_cases h0 : n = 0
  · simp [appV, appA, h0, Value.ownBlock] at h
  · simp [appV, appA, h0, Value.ownBlock] at h; exact h.symm
/-- Bytes of one's own: a row that no one else holds. -/
def rMine (v : Value) (f : List UInt8) (e : TypeId) : Res where
  ok w := OwnBytes w 0 e v f
  fp j := v.ownBlock = some j
  lt w h b hb := (World.ownsRow.lt h b hb).2
  st w w' h hw := by
    refine ⟨h.1, ?_⟩
    rcases h.2 with ⟨h1, h2⟩ | ⟨g, cap, cur, rfl, h1, h2, h3⟩
    · exact .inl ⟨h1, h2⟩
    · exact .inr ⟨g, cap, cur, rfl, h1, by rw [hw g rfl]; exact h2, h3⟩
theorem ownb_new {w : World} {g : Nat} {f : List UInt8} {e : TypeId} (h : Blk w g (f.map bv) e) (hl : f.length ≤ 140737488351232) : OwnBytes w 0 e (sl g 0 f.length f.length) f :=
  ⟨by simp, .inr ⟨g, f.length, (f.map bv).toArray, rfl, Nat.zero_le _, h, Nat.le_refl _, by unfold maxLen; omega, by simp, by rw [Nat.mul_one]; exact List.take_of_length_le (by simp)⟩⟩
theorem ownb_nil (w : World) (e : TypeId) : OwnBytes w 0 e (.slice none 0 0) [] := World.ownsRow_nil w 0 e 1
/-- Its two ways. -/
theorem OwnBytes.blk {w : World} {v : Value} {f : List UInt8} {e : TypeId} (h : OwnBytes w 0 e v f) : (v = .slice none 0 0 ∧ f = []) ∨ ∃ g cap tl, v = sl g 0 f.length cap ∧ f.length + tl.length = cap ∧ cap ≤ maxLen ∧ Blk w g (f.map bv ++ tl) e := by
  rcases h.2 with ⟨h1, h2⟩ | ⟨g, cap, cur, rfl, h1, h2, h3, h4, h5, h6⟩
  · exact .inl ⟨h1, List.eq_nil_of_length_eq_zero h2⟩
  · refine .inr ⟨g, cap, cur.toList.drop f.length, rfl, by have hc : cur.toList.length = cur.size := Array.length_toList; rw [List.length_drop, hc]; omega, h4, ?_⟩
    rw [Nat.mul_one] at h6
    rw [← h6, List.take_append_drop]
    exact h2
theorem OwnBytes.of_blk {w : World} {g cap : Nat} {f : List UInt8} {tl : List Value} {e : TypeId} (h : Blk w g (f.map bv ++ tl) e) (h2 : cap ≤ maxLen) (h3 : f.length + tl.length = cap) : OwnBytes w 0 e (sl g 0 f.length cap) f :=
  ⟨by simp, .inr ⟨g, cap, (f.map bv ++ tl).toArray, rfl, Nat.zero_le _, h, by omega, h2, by simp; omega, by simp⟩⟩
/-- Nothing. -/
def rNone : Res where
  ok _ := True
  fp _ := False
  lt _ _ _ h := h.elim
  st _ _ _ _ := trivial
theorem get_at {q : List UInt8} {tl : List Value} {j : Nat} (h : j < q.length) : (q.map bv ++ tl)[j]? = some (Value.int .u8 ((q.getD j 0).toNat : Int)) := by
  rw [List.getElem?_append_left (by simpa using h), List.getElem?_map, List.getElem?_eq_getElem h]
  simp [bv, h]
theorem set_inc {q : List UInt8} {tl : List Value} {j : Nat} (h : j < q.length) : (q.map bv ++ tl).set j (Value.int .u8 (IntKind.u8.wrap (((q.getD j 0).toNat : Int) + 1))) = (q.set j (q.getD j 0 + 1)).map bv ++ tl := by
  rw [List.set_append_left _ _ (by simpa using h), List.map_set]
  congr 2
theorem Inv.weak {X : Cx} {w : World} {l : List Res} {i : Nat} {r r' : Res} (h : Inv X w l) (hi : l[i]? = some r) (hr : r.ok w → r'.ok w) (hf : ∀ b, r'.fp b → r.fp b) : Inv X w (l.set i r') :=
  ⟨h.1.upd hi (fun _ _ _ => rfl) (hr (h.1.get hi)) (fun b hb => .inl (hf b hb)), h.2⟩

section
variable {P : Program} {X : Cx} {ops : Array Oper} {Q : Exit → Act → World → Prop} {rest : List Oper} {o : Oper} {m : List (Nat × Value)} {l : List Res} {v : Value} {d k : Nat} {sp : List Nat} {C : (Nat → Bool) → World → Prop} {K : Act → Prop} {x y : Operand} {t t' : TypeId}

theorem push_all (l : List UInt8) (s : ByteArray) : ((l.map fun x => (x.toNat : Int)).foldl (fun r n => r.push (UInt8.ofNat n.toNat)) s) = ⟨s.data ++ l.toArray⟩ := by
  induction l generalizing s with
  | nil => simp
  | cons x l ih =>
    simp only [List.map_cons, List.foldl_cons, ih]
    simp [ByteArray.push]
/-- 'string(b)': the bytes. -/
theorem run_str {P : Program} {src dst e : TypeId} (hs : P.underlying src = some (.slice e)) (he : P.underlying e = some (.int .u8)) (hd : P.underlying dst = some .string)
    {w : World} {v : Value} {l : List UInt8} (h : BytesAt w v l) : (convert src dst v).run P w = .ok (.string ⟨l.toArray⟩) w := by
  rcases h with ⟨a, c, rfl, _, rfl⟩ | ⟨b, o, cap, rfl, h1, h2, h3⟩
  · rw [run_convert_bytes_string w src dst e a 0 c hs he hd]
    cases a with
    | none => rfl
    | some a =>
      have hl := run_loadCells_list (P := P) w a [] (by simp)
      rw [run_bytesToString w a 0 c [] (by simpa using hl)]
      rfl
  · rw [run_convert_bytes_string w src dst e _ _ _ hs he hd]
    have hl := run_loadCells_list (P := P) w ⟨b, o, none⟩ (l.map bv) (by
      intro j v hj
      have hjl : j < l.length := by have := (List.getElem?_eq_some_iff.1 hj).1; simpa using this
      have hadd : (⟨b, o, none⟩ : Addr).add j = ⟨b, o + j, none⟩ := by unfold Addr.add; split <;> simp_all
      rw [hadd, h3 j hjl]
      simp only [List.getElem?_map, List.getElem?_eq_getElem hjl, Option.map_some] at hj
      exact hj)
    rw [List.length_map] at hl
    have e : l.map bv = (l.map fun x => (x.toNat : Int)).map (Value.int .u8) := by simp
    rw [e] at hl
    rw [run_bytesToString w ⟨b, o, none⟩ l.length cap _ hl, push_all]
    simp
theorem ru_str {e : TypeId} {f : List UInt8} {vx : Value} (hs : P.underlying t = some (.slice e)) (he : P.underlying e = some (.int .u8)) (hd : P.underlying t' = some .string) (ho : o.op = .convert t t' x) (hx : evM m x = some vx) (hb : ∀ w, Inv X w l → BytesAt w vx f) :
    Ru P X o m l (.string ⟨f.toArray⟩) := fun a w hf hI => by
  unfold execOp; rw [ho]
  simp only [hf.ev hx, Sem.run_bind, run_str hs he hd (hb w hI), Result.andThen_ok, Sem.run_pure]
theorem ru_streq {f h : List UInt8} (hu : P.underlying t = some .string) (ho : o.op = .binOp .eql t x y t') (hx : evM m x = some (.string ⟨f.toArray⟩)) (hy : evM m y = some (.string ⟨h.toArray⟩)) {b : Bool} (hv : decide (f = h) = b) : Ru P X o m l (.bool b) :=
  ru_binv ho hx hy (fun w => rfl) fun w _ => by
    subst hv
    simp [binOp, Op.stringOp]
    rw [Bool.eq_iff_iff]; simp

/-! 'append(nil, b...)' in a region that draws its order: one row made, whenever. -/
def CT (X : Cx) (l : List Res) (k : Nat) (t : World) (r : Res) : (Nat → Bool) → World → Prop := fun D w => if D k then Inv X w (l ++ [r]) else Inv X w l ∧ w.heap.size = t.heap.size ∧ w.tape = t.tape ∧ w.drawn = t.drawn
theorem CT.base {r : Res} {t : World} : ∀ D w, CT X l k t r D w → Inv X w l := fun D w h => by
  unfold CT at h
  split at h
  · refine ⟨⟨fun s hs => h.1.1 s (by simp [hs]), ?_⟩, h.2⟩
    have := h.1.2
    rw [List.pairwise_append] at this
    exact this.1
  · exact h.1
theorem SC.region_app {id : Nat} {L : List Oper} (n k : Nat) (r : World → Res) (hm : P.follows .mixedOrders = true) (hB : Region.lexTailB .any L.toArray n = true)
    (hg : ([k].all fun i => decide (i < n) && ((L[i]?).map (fun o => o.guard.isNone)).getD false) = true)
    (h : ∀ t : World, X.w0.heap.size ≤ t.heap.size → SS P X L.toArray [k] (CT X l k t (r t)) (fun a' => ∀ D w', (∀ i ∈ [k], D i = true) → CT X l k t (r t) D w' → wpList P L.toArray Q (L.drop n) a' w') 0 (L.take n) m) : SC P X (.region id L.toArray true) Q m l :=
  fun a w hf hi => wp_region_spread_tail n [k] (CT X l k { w with drawn := w.drawn + 1 } (r { w with drawn := w.drawn + 1 })) hm hB hg (by unfold CT; exact ⟨hi.draw1, rfl, rfl, rfl⟩) (h { w with drawn := w.drawn + 1 } hi.2.size a hf)
theorem SS.nilT {r : Res} {t : World} {k : Nat} {L : List Oper} {j : Nat} (h : SL P X ops Q L m (l ++ [r])) : SS P X ops sp C (fun a' => ∀ D w', (∀ i ∈ [k], D i = true) → CT X l k t r D w' → wpList P ops Q L a' w') j [] m := fun a hf => by
  unfold wpSpread
  intro D w' hD hC
  unfold CT at hC
  rw [if_pos (hD k (by simp))] at hC
  exact h a w' hf hC
theorem run_app0 {w : World} {e ty : TypeId} {vx : Value} {f : List UInt8} (ht : P.underlying t = some (.slice e)) (hz : (P.info? e).map (fun i => (i.zero, i.size, i.bytes)) = some (some (.int .u8 0), 1, 1)) (hb : BytesAt w vx f) :
    ∃ w', (Builtin.append_ #[t, t] ty #[.slice none 0 0, vx]).run P w = .ok (appV w e f.length) w' ∧ OwnBytes w' 0 e (appV w e f.length) f ∧ Only (fun _ => False) w w' := by
  obtain ⟨i, hi, h3⟩ := map_some hz
  simp only [Prod.mk.injEq] at h3
  obtain ⟨z0, z1, z2⟩ := h3
  have hlen := hb.len
  by_cases h0 : f.length = 0
  · have : f = [] := List.eq_nil_of_length_eq_zero h0
    subst this
    obtain ⟨a, c, rfl⟩ := hb.form
    refine ⟨w, ?_, ownb_nil w e, Only.refl _ _⟩
    cases a <;> simp [Builtin.append_, run_underlying ht, sizeOf, typeInfo, hi, Builtin.lenOf, Builtin.firstCells, loadCells, loadCellsFrom, appV, appA, appC]
  · rcases hb with ⟨a, c, rfl, _, rfl⟩ | ⟨b, so, cap, rfl, h1, h2, h4⟩
    · exact absurd rfl h0
    · have hr := run_append_nil (P := P) w t ty e i (.int .u8 0) ht hi z0 ⟨b, so, none⟩ f.length cap (f.map bv) (by simp [z1]) (fun j u hj => by
          have hjl : j < f.length := by have := (List.getElem?_eq_some_iff.1 hj).1; simpa using this
          rw [add_at, h4 j hjl]
          simp only [List.getElem?_map, List.getElem?_eq_getElem hjl, Option.map_some] at hj
          exact hj) (by omega) (by omega) (by rw [z2]; omega)
      have hv : appV w e f.length = sl w.heap.size 0 f.length (grownCap w f.length 0 e) := by unfold appV appA appC; rw [if_neg h0, if_neg h0]
      rw [hv]
      refine ⟨_, hr, ⟨by simp, .inr ⟨w.heap.size, _, _, rfl, Nat.zero_le _, heap_alloc_new w.drew _, grownCap_ge _ _ _ _, grownCap_le_maxLen _ _ _ _ (by unfold maxLen; omega), ?_, ?_⟩⟩, ⟨rfl, rfl, rfl, by simp, fun k hk _ => heap_alloc_old w.drew _ hk⟩⟩
      · have := grownCap_ge w f.length 0 e
        simp only [Array.size_append, List.size_toArray, size_zeroCells, List.length_map]
        simp [Value.cells]; omega
      · simp
theorem run_call_app {w : World} {a : Act} {z : Operand} (ho : o.op = .call { callee := .builtin .append, args := #[z, x], argTypes := #[t, t] }) {vz vx v : Value} {w' : World} (hz : a.eval z = vz) (hx : a.eval x = vx)
    (h : (Builtin.append_ #[t, t] o.type #[vz, vx]).run P w = .ok v w') : (execOp a.eval o).run P w = .ok (.value v) w' := by
  unfold execOp; rw [ho]
  have he : #[z, x].map a.eval = #[vz, vx] := by simp [hz, hx]
  simp only [resolve, he, Sem.run_bind, Sem.run_pure, Result.andThen_ok, invoke, builtin, h]
theorem SS.append0 {t0 : World} {e : TypeId} {z : Operand} {vx : Value} {f : List UInt8} (hg : o.guard = none) (hd : o.dst = some d) (hn : d < X.n) (ho : o.op = .call { callee := .builtin .append, args := #[z, x], argTypes := #[t, t] })
    (ht : P.underlying t = some (.slice e)) (hz : (P.info? e).map (fun i => (i.zero, i.size, i.bytes)) = some (some (.int .u8 0), 1, 1)) (h0 : evM m z = some (.slice none 0 0)) (hx : evM m x = some vx) (hb : ∀ w, Inv X w l → BytesAt w vx f)
    (h : SS P X ops [k] (CT X l k t0 (rMine (appV t0 e f.length) f e)) K (k + 1) rest ((d, appV t0 e f.length) :: m)) : SS P X ops [k] (CT X l k t0 (rMine (appV t0 e f.length) f e)) K k (o :: rest) m := fun a hf => by
  unfold wpSpread
  rw [if_pos (by simp [Region.wanted, hg])]
  refine ⟨appV t0 e f.length, fun D w hD hf' => ?_, ?_⟩
  · have hk := hf' (by simp)
    unfold CT at hD
    rw [if_neg (by simp [hk])] at hD
    obtain ⟨hI, hs, htp, hdr⟩ := hD
    obtain ⟨w', hr, hO, hU⟩ := run_app0 (P := P) (ty := o.type) ht hz (hb w hI)
    have ev : appV w e f.length = appV t0 e f.length := by unfold appV appA appC grownCap; rw [hs, htp, hdr]
    rw [ev] at hr hO
    rw [run_call_app ho (hf.ev h0) (hf.ev hx) hr]
    refine ⟨rfl, ?_⟩
    unfold doneSet CT
    rw [if_pos (by simp)]
    refine hI.add hU hO (fun b hb => ?_)
    have := appV_own (show (appV t0 e f.length).ownBlock = some b from hb)
    omega
  · rw [hd]; exact h _ (hf.put hn _)
/-- .. and in a region that goes in order. -/
theorem SL.append0 {e : TypeId} {z : Operand} {vx : Value} {f : List UInt8} (hg : o.guard = none) (hd : o.dst = some d) (hn : d < X.n) (ho : o.op = .call { callee := .builtin .append, args := #[z, x], argTypes := #[t, t] })
    (ht : P.underlying t = some (.slice e)) (hz : (P.info? e).map (fun i => (i.zero, i.size, i.bytes)) = some (some (.int .u8 0), 1, 1)) (h0 : evM m z = some (.slice none 0 0)) (hx : evM m x = some vx) (hb : ∀ w, Inv X w l → BytesAt w vx f)
    (h : ∀ (q : Option Addr) (c : Nat), (∀ b, (Value.slice q f.length c).ownBlock = some b → X.w0.heap.size ≤ b) → SL P X ops Q rest ((d, .slice q f.length c) :: m) (l ++ [rMine (.slice q f.length c) f e])) : SL P X ops Q (o :: rest) m l := fun a w hf hI =>
  wpList_plain hg fun K' hK => by
    obtain ⟨w', hr, hO, hU⟩ := run_app0 (P := P) (ty := o.type) ht hz (hb w hI)
    unfold Oper.wp
    rw [run_call_app ho (hf.ev h0) (hf.ev hx) hr]
    simp only [Oper.upon_value, hd]
    have hown : ∀ b, (appV w e f.length).ownBlock = some b → w.heap.size ≤ b := fun b hb => Nat.le_of_eq (appV_own hb).symm
    exact hK _ _ (h _ _ (fun b hb => Nat.le_trans hI.2.size (hown b hb)) _ _ (hf.put hn _) (hI.add hU hO hown))
/-- 'append(b, ..)' onto bytes of one's own, where but the length is asked for. -/
theorem SL.append1 {e : TypeId} {z : Operand} {vx : Value} {f h : List UInt8} {tl : List Value} {i g n cap : Nat} (hfn : f.length = n) (hg : o.guard = none) (hd : o.dst = some d) (hn : d < X.n) (ho : o.op = .call { callee := .builtin .append, args := #[z, x], argTypes := #[t, t] })
    (ht : P.underlying t = some (.slice e)) (hz : (P.info? e).map (fun i => (i.zero, i.size, i.bytes)) = some (some (.int .u8 0), 1, 1)) (h0 : evM m z = some (sl g 0 n cap)) (hx : evM m x = some vx) (hi : l[i]? = some (rBlk g (f.map bv ++ tl) e)) (hc1 : f.length + tl.length = cap) (hc2 : cap ≤ maxLen) (hb : ∀ w, Inv X w l → BytesAt w vx h)
    (hl : f.length + h.length ≤ 140737488355328) (hS : X.S g ∨ X.w0.heap.size ≤ g)
    (k : ∀ (q : Option Addr) (c : Nat), SL P X ops Q rest ((d, .slice q (n + h.length) c) :: m) (l.set i (rAny g))) : SL P X ops Q (o :: rest) m l := fun a w hf hI => by
  subst hfn
  have hB : Blk w g (f.map bv ++ tl) e := hI.1.get hi
  obtain ⟨j, hj, h3⟩ := map_some hz
  simp only [Prod.mk.injEq] at h3
  obtain ⟨z0, z1, z2⟩ := h3
  have hown := OwnBytes.of_blk hB hc2 hc1
  have done : ∀ v' w', w'.ownsRow 0 e 1 v' (f.length + h.length) ((f.map bv) ++ (h.map bv)) → w.grownBy w' (some g) → wpList P ops Q rest (a.put o.dst v') w' := by
    intro v' w' h1 h2
    rw [hd]
    have hO := grown_only h2 (fun k => k = g) (fun k e => by cases e; rfl)
    have hI' : Inv X w' (l.set i (rAny g)) := hI.upd hi hO (fun b' hb' => by cases hb'; exact hS) (Nat.lt_of_lt_of_le hB.lt h2.size) (fun b' hb' => .inl hb')
    rcases h1.2 with ⟨hv, hn0⟩ | ⟨g', cap', cur, hv, _⟩
    · subst hv
      have := k none 0
      rw [hn0] at this
      exact this _ _ (hf.put hn _) hI'
    · subst hv
      exact k _ _ _ _ (hf.put hn _) hI'
  have hbx := hb w hI
  rcases hbx with ⟨b, c, rfl, hbn, rfl⟩ | ⟨b, so, cp, rfl, k1, k2, k3⟩
  · cases b with
    | none =>
      have hc := hbn rfl
      subst hc
      exact wpList_append_own_none hg z x t ho 0 e j 1 ht hj _ _ _ (hf.ev h0) hown (hf.ev hx) (done _ w (by have := hown; unfold OwnBytes at this; simpa using this) ⟨rfl, rfl, rfl, Nat.le_refl _, fun _ _ _ => rfl⟩)
    | some b =>
      refine wpList_append_own w hg z x t ho 0 e j (.int .u8 0) 1 1 ht hj z0 z1 z2 rfl (by decide) _ _ _ (hf.ev h0) hown b 0 c [] (hf.ev hx) rfl (by simp) (by simp) (by unfold maxLen; simp at hl ⊢; omega) (by simp at hl ⊢; omega) (Nat.zero_le _) ?_
      intro v' w' h1 h2 _
      exact done v' w' (by simpa using h1) h2
  · refine wpList_append_own w hg z x t ho 0 e j (.int .u8 0) 1 1 ht hj z0 z1 z2 rfl (by decide) _ _ _ (hf.ev h0) hown ⟨b, so, none⟩ h.length cp (h.map bv) (hf.ev hx) (by simp) ?_ ?_ (by unfold maxLen; omega) (by omega) (Nat.zero_le _) ?_
    · intro j u hj
      have hjl : j < h.length := by have := (List.getElem?_eq_some_iff.1 hj).1; simpa using this
      rw [add_at, k3 j hjl]
      simp only [List.getElem?_map, List.getElem?_eq_getElem hjl, Option.map_some] at hj
      exact hj
    · intro u hu
      obtain ⟨y, _, rfl⟩ := List.mem_map.1 hu
      rfl
    · intro v' w' h1 h2 _
      exact done v' w' h1 h2

/-- Bytes of one's own: none, or a block. -/
theorem SC.mine {cd : Code} {i c : Nat} {q : Option Addr} {f : List UInt8} {e : TypeId} (hi : l[i]? = some (rMine (.slice q f.length c) f e)) (h0 : q = none → f = [] → SC P X cd Q m l)
    (h1 : ∀ (g : Nat) (tl : List Value), q = some ⟨g, 0, none⟩ → f.length + tl.length = c → c ≤ maxLen → SC P X cd Q m (l.set i (rBlk g (f.map bv ++ tl) e))) : SC P X cd Q m l := fun a w hf hI => by
  rcases (show OwnBytes w 0 e (.slice q f.length c) f from hI.1.get hi).blk with ⟨k1, k2⟩ | ⟨g, cap, tl, k1, k2, k3, k4⟩
  · simp only [Value.slice.injEq] at k1
    exact h0 k1.1 k2 a w hf hI
  · simp only [Value.slice.injEq, true_and] at k1
    obtain ⟨rfl, rfl⟩ := k1
    exact h1 g tl rfl k2 k3 a w hf (hI.weak hi (fun _ => k4) (fun b hb => by cases hb; rfl))

/-! A loop, round by round. -/
def SR (P : Program) (X : Cx) (c : Code) (Q : Exit → Act → World → Prop) (n : Nat) (m : List (Nat × Value)) (l : List Res) : Prop := ∀ a w, Fr X.n a m → Inv X w l → Code.rounds P c Q n a w
theorem SC.rounds {c : Code} (n : Nat) (h : SR P X c Q n m l) : SC P X (.loop c) Q m l := fun a w hf hI => wp_loop_rounds n (h a w hf hI)
theorem SR.next {c : Code} {n : Nat} (h : SC P X c (Exit.then (Code.rounds P c Q n) Q) m l) : SR P X c Q (n + 1) m l := fun a w hf hI => h a w hf hI
theorem SR.norm {c : Code} {n : Nat} (m' : List (Nat × Value)) (l' : List Res) (hm : Subs m m') (hl : l = l') (h : SR P X c Q n m' l') : SR P X c Q n m l := fun a w hf hI => h a w (hf.sub hm) (hl ▸ hI)
theorem Inv.keep {w : World} (h : Inv X w l) (n : Nat) : Inv X w (l.take n) := ⟨⟨fun s hs => h.1.1 s (List.mem_of_mem_take hs), h.1.2.sublist (List.take_sublist _ _)⟩, h.2⟩
theorem SR.keep {c : Code} {n : Nat} (j : Nat) (h : SR P X c Q n m (l.take j)) : SR P X c Q n m l := fun a w hf hI => h a w hf (hI.keep j)
theorem SE.round {c : Code} {n : Nat} (h : SR P X c Q n m l) : SE X (Exit.then (Code.rounds P c Q n) Q) .normal m l := fun a w hf hI => h a w hf hI
end
end Go.Proofs.Ytpgnklmmjdkhiaa

/-
  The light machine: rows of one's own, of elements of one cell, that grow. No program is named here.
-/
namespace Go.Proofs.Ytpgnklmmjdkhiaa
open Go.RowKit

def rRow (v : Value) (xs : List Value) (e : TypeId) : Res where
  ok w := w.ownsRow 0 e 1 v xs.length xs
  fp j := v.ownBlock = some j
  lt w h b hb := (World.ownsRow.lt h b hb).2
  st w w' h hw := by
    refine ⟨h.1, ?_⟩
    rcases h.2 with ⟨h1, h2⟩ | ⟨g, cap, cur, rfl, h1, h2, h3⟩
    · exact .inl ⟨h1, h2⟩
    · exact .inr ⟨g, cap, cur, rfl, h1, by rw [hw g rfl]; exact h2, h3⟩
theorem row_nil (w : World) (e : TypeId) : w.ownsRow 0 e 1 (.slice none 0 0) ([] : List Value).length [] := World.ownsRow_nil w 0 e 1
def rowAddr (q : Option Addr) (i : Nat) : Addr := ⟨(q.getD ⟨0, 0, none⟩).block, (q.getD ⟨0, 0, none⟩).off + i, none⟩
section
variable {P : Program} {X : Cx} {ops : Array Oper} {Q : Exit → Act → World → Prop} {rest : List Oper} {o : Oper} {m : List (Nat × Value)} {l : List Res} {v : Value} {d k : Nat} {x y : Operand} {t t' : TypeId}
/-- An empty row, laid as one. -/
theorem SC.rows {c : Code} (r : Res) (hf : ∀ b, ¬ r.fp b) (hr : ∀ w, r.ok w) (h : SC P X c Q m (l ++ [r])) : SC P X c Q m l := fun a w hfr hI => h a w hfr (hI.add (Only.refl _ _) (hr w) (fun b hb => (hf b hb).elim))
theorem row_form {w : World} {q : Option Addr} {n c : Nat} {xs : List Value} {e : TypeId} (h : w.ownsRow 0 e 1 (.slice q n c) xs.length xs) : n = xs.length ∧ (0 < n → ∃ g cur, q = some ⟨g, 0, none⟩ ∧ w.heap[g]? = some (.cells cur e (0, 0)) ∧ cur.toList.take n = xs) := by
  rcases h.2 with ⟨h1, h2⟩ | ⟨g, cap, cur, h1, _, h2, h3, h4, h5, h6⟩
  · simp only [Value.slice.injEq] at h1
    exact ⟨by omega, fun h => by omega⟩
  · simp only [Value.slice.injEq] at h1
    obtain ⟨rfl, rfl, rfl⟩ := h1
    exact ⟨rfl, fun _ => ⟨g, cur, rfl, h2, by simpa using h6⟩⟩
theorem ru_index_row {e ri : Nat} {ix : Operand} {q : Option Addr} {n c : Nat} {xs : List Value} {i : Int} {kk : IntKind} (hs : SliIs P t e 1) (ho : o.op = .indexAddr t x ix) (hx : evM m x = some (.slice q n c)) (hix : evM m ix = some (.int kk i)) (hi : l[ri]? = some (rRow (.slice q n c) xs e))
    (h0 : 0 ≤ i) (hn : i < n) : Ru P X o m l (.pointer (some (rowAddr q i.toNat))) := fun a w hf hI => by
  obtain ⟨rfl, h2⟩ := row_form (show w.ownsRow 0 e 1 (.slice q n c) xs.length xs from hI.1.get hi)
  obtain ⟨g, cur, rfl, _⟩ := h2 (by omega)
  exact ru_indexS (P := P) (X := X) (m := m) (l := l) hs ho hx hix h0 hn (by rw [Nat.mul_one]; rfl) a w hf hI
theorem ru_load_row {e ri : Nat} {q : Option Addr} {n c i : Nat} {xs : List Value} {z u : Value} (ht : TySc P t z) (ho : o.op = .load t x) (hx : evM m x = some (.pointer (some (rowAddr q i)))) (hi : l[ri]? = some (rRow (.slice q n c) xs e)) (hu : xs[i]? = some u) : Ru P X o m l u := fun a w hf hI => by
  obtain ⟨rfl, h2⟩ := row_form (show w.ownsRow 0 e 1 (.slice q n c) xs.length xs from hI.1.get hi)
  have hil : i < xs.length := (List.getElem?_eq_some_iff.1 hu).1
  obtain ⟨g, cur, rfl, h3, h4⟩ := h2 (by omega)
  have hc : w.cell? ⟨g, 0 + i, none⟩ = some u := by
    rw [cell_of_row _ _ _ _ _ _ h3]
    have : (cur.toList.take xs.length)[i]? = some u := by rw [h4]; exact hu
    rw [List.getElem?_take, if_pos hil] at this
    simpa using this
  unfold execOp; rw [ho]
  simp only [hf.ev hx, Instr.loadAt, Instr.sureAddr, Sem.run_bind, Sem.run_pure, Result.andThen_ok, loadVar, (ht.run w).1]
  have h5 : w.cell? (rowAddr (some ⟨g, 0, none⟩) i) = some u := hc
  simp [h5]
theorem run_row1 {w : World} {e ty : TypeId} {v u z : Value} {xs : List Value} {g2 : Nat} {bytes : Nat} (ht : P.underlying t = some (.slice e)) (hz : (P.info? e).map (fun i => (i.zero, i.size, i.bytes)) = some (some z, 1, bytes)) (hzs : z.cells.size = 1) (hu : u.oneCell' = true)
    (hv : w.ownsRow 0 e 1 v xs.length xs) (hx : Blk w g2 [u] e) (hb : (xs.length + 1) * bytes ≤ 140737488355328) (hn : xs.length + 1 ≤ maxLen) :
    ∃ v' w', (Builtin.append_ #[t, t] ty #[v, sl g2 0 1 1]).run P w = .ok v' w' ∧ w'.ownsRow 0 e 1 v' (xs ++ [u]).length (xs ++ [u]) ∧ Only (fun k => v.ownBlock = some k) w w' ∧ (∀ b, v'.ownBlock = some b → v.ownBlock = some b ∨ w.heap.size ≤ b) := by
  obtain ⟨i, hi, h3⟩ := map_some hz
  simp only [Prod.mk.injEq] at h3
  obtain ⟨z0, z1, z2⟩ := h3
  have hnews : ∀ j q, ([u] : List Value)[j]? = some q → w.cell? ((⟨g2, 0, none⟩ : Addr).add j) = some q := by
    intro j q hj
    rw [add_at, hx.cell]
    simpa using hj
  obtain ⟨v', w', hr, hO, hG, _⟩ := run_append_own (P := P) w 0 t ty e i z 1 bytes ht hi z0 z1 z2 hzs (by decide) v xs.length xs hv ⟨g2, 0, none⟩ 1 1 [u] (by simp) hnews (fun q hq => by simp at hq; subst hq; exact hu) hn hb (Nat.zero_le _)
  refine ⟨v', w', hr, by simpa using hO, grown_only hG _ (fun k h => h), ?_⟩
  rcases hv.2 with ⟨rfl, h0⟩ | ⟨g, cap, cur, rfl, _, hg, hnc, hcm, hcs, htake⟩
  · have hxs : xs = [] := List.eq_nil_of_length_eq_zero h0
    subst hxs
    have h2 := run_append_nil (P := P) w t ty e i z ht hi z0 ⟨g2, 0, none⟩ 1 1 [u] (by simp [z1]) hnews (by omega) (by omega) (by rw [z2]; simp at hb; omega)
    rw [hr] at h2
    injection h2 with e1
    subst e1
    exact fun b hb => .inr (by simp [Value.ownBlock] at hb; omega)
  · by_cases hroom : xs.length + 1 ≤ cap
    · have h2 := run_append_room (P := P) w t ty e i ht hi g xs.length cap cur hg ⟨g2, 0, none⟩ 1 1 [u] (by simp [z1]) hnews (fun q hq => by simp at hq; subst hq; exact hu) hroom (by rw [z1]; simp; omega)
      rw [hr] at h2
      injection h2 with e1
      subst e1
      exact fun b hb => .inl (by simpa [Value.ownBlock] using hb)
    · have holds : ∀ j q, xs[j]? = some q → w.cell? ((⟨g, 0, none⟩ : Addr).add j) = some q := World.ownsRow.cells hv (g := g) rfl
      have h2 := run_append_grow (P := P) w t ty e i z ht hi z0 ⟨g, 0, none⟩ xs.length cap xs (by simp [z1]) holds ⟨g2, 0, none⟩ 1 1 [u] (by simp [z1]) hnews (by omega) (by unfold maxLen at hn; omega) (growslice_fits (by omega) (by rw [z2]; exact hb))
      rw [hr] at h2
      injection h2 with e1
      subst e1
      exact fun b hb => .inr (by simp [Value.ownBlock] at hb; omega)
/-- 'all = append(all, u)'. -/
theorem SL.append_row {e ri rj : Nat} {a1 a2 : Operand} {u z : Value} {xs : List Value} {g2 bytes : Nat} {q : Option Addr} {n c : Nat} (hg : o.guard = none) (hd : o.dst = some d) (hn : d < X.n) (ho : o.op = .call { callee := .builtin .append, args := #[a1, a2], argTypes := #[t, t] })
    (ht : P.underlying t = some (.slice e)) (hz : (P.info? e).map (fun i => (i.zero, i.size, i.bytes)) = some (some z, 1, bytes)) (hzs : z.cells.size = 1) (hu : u.oneCell' = true) (h1 : evM m a1 = some (.slice q n c)) (h2 : evM m a2 = some (sl g2 0 1 1)) (hi : l[ri]? = some (rRow (.slice q n c) xs e)) (hj : l[rj]? = some (rBlk g2 [u] e))
    (hb : (xs.length + 1) * bytes ≤ 140737488355328) (hl : xs.length + 1 ≤ maxLen) (hS : ∀ b, (Value.slice q n c).ownBlock = some b → X.S b ∨ X.w0.heap.size ≤ b)
    (k : ∀ (q' : Option Addr) (c' : Nat), (∀ b, (Value.slice q' (n + 1) c').ownBlock = some b → X.S b ∨ X.w0.heap.size ≤ b) → SL P X ops Q rest ((d, .slice q' (n + 1) c') :: m) (l.set ri (rRow (.slice q' (n + 1) c') (xs ++ [u]) e))) : SL P X ops Q (o :: rest) m l := fun a w hf hI =>
  wpList_plain hg fun K' hK => by
    obtain ⟨en, _⟩ := row_form (show w.ownsRow 0 e 1 (.slice q n c) xs.length xs from hI.1.get hi)
    obtain ⟨v', w', hr, hO, hU, hN⟩ := run_row1 (P := P) (ty := o.type) ht hz hzs hu (hI.1.get hi) (hI.1.get hj) hb hl
    unfold Oper.wp
    rw [run_call_app ho (hf.ev h1) (hf.ev h2) hr]
    simp only [Oper.upon_value, hd]
    obtain ⟨q', c', rfl⟩ : ∃ q' c', v' = .slice q' (n + 1) c' := by
      rcases hO.2 with ⟨_, h0⟩ | ⟨g, cap, cur, rfl, _⟩
      · simp at h0
      · exact ⟨some ⟨g, 0, none⟩, cap, by rw [en]; simp⟩
    refine hK _ _ (k q' c' (fun b hb => ?_) _ _ (hf.put hn _) (hI.upd hi hU hS hO (fun b hb => hN b hb)))
    rcases hN b hb with h | h
    · exact hS b h
    · exact .inr (Nat.le_trans hI.2.size h)
theorem SE.keep {e : Exit} (j : Nat) (h : SE X Q e m (l.take j)) : SE X Q e m l := fun a w hf hI => h a w hf (hI.keep j)
theorem ru_strne {f h : List UInt8} (hu : P.underlying t = some .string) (ho : o.op = .binOp .neq t x y t') (hx : evM m x = some (.string ⟨f.toArray⟩)) (hy : evM m y = some (.string ⟨h.toArray⟩)) {b : Bool} (hv : (!decide (f = h)) = b) : Ru P X o m l (.bool b) :=
  ru_binv ho hx hy (fun w => rfl) fun w _ => by
    subst hv
    simp [binOp, Op.stringOp]
    rw [Bool.eq_iff_iff]; simp
theorem ru_load_old {u z : Value} {b o' : Nat} (hS : ∀ b, ¬ X.S b) (ht : TySc P t z) (ho : o.op = .load t x) (hx : evM m x = some (.pointer (some ⟨b, o', none⟩))) (hc : X.w0.cell? ⟨b, o', none⟩ = some u) : Ru P X o m l u := fun a w hf hI => by
  unfold execOp; rw [ho]
  simp only [hf.ev hx, Instr.loadAt, Instr.sureAddr, Sem.run_bind, Sem.run_pure, Result.andThen_ok, loadVar, (ht.run w).1]
  have h1 : w.cell? ⟨b, o', none⟩ = some u := by rw [← hc]; exact hI.2.cell (a := ⟨b, o', none⟩) (block_lt_of_cell hc) (hS b)
  simp [h1]
end
end Go.Proofs.Ytpgnklmmjdkhiaa

/-
  The light machine: rows of one's own, of structs, that grow. No program is named here.
-/
namespace Go.Proofs.Ytpgnklmmjdkhiaa
open Go.RowKit

/-- The structs rs (each of 'size' cells) in a row that no one else holds. -/
def RowsN (w : World) (v : Value) (rs : List (List Value)) (e size : Nat) : Prop := (∀ r ∈ rs, r.length = size) ∧ w.ownsRow 0 e size v rs.length rs.flatten
def rRowN (v : Value) (rs : List (List Value)) (e size : Nat) : Res where
  ok w := RowsN w v rs e size
  fp j := v.ownBlock = some j
  lt w h b hb := (World.ownsRow.lt h.2 b hb).2
  st w w' h hw := by
    refine ⟨h.1, h.2.1, ?_⟩
    rcases h.2.2 with ⟨h1, h2⟩ | ⟨g, cap, cur, rfl, h1, h2, h3⟩
    · exact .inl ⟨h1, h2⟩
    · exact .inr ⟨g, cap, cur, rfl, h1, by rw [hw g rfl]; exact h2, h3⟩
theorem rowN_nil (w : World) (e size : Nat) : RowsN w (.slice none 0 0) [] e size := ⟨by simp, World.ownsRow_nil w 0 e size⟩
abbrev rowB (q : Option Addr) : Nat := (q.getD ⟨0, 0, none⟩).block
theorem flat_len {rs : List (List Value)} {size : Nat} (h : ∀ r ∈ rs, r.length = size) : rs.flatten.length = rs.length * size := by
  induction rs with
  | nil => simp
  | cons r rs ih =>
    rw [List.flatten_cons, List.length_append, h r (by simp), ih (fun r hr => h r (by simp [hr])), List.length_cons, Nat.add_mul, Nat.one_mul, Nat.add_comm]
theorem flat_get {rs : List (List Value)} {size i k : Nat} (h : ∀ r ∈ rs, r.length = size) {r : List Value} (hr : rs[i]? = some r) (hk : k < size) : rs.flatten[i * size + k]? = r[k]? := by
  induction rs generalizing i with
  | nil => simp at hr
  | cons r0 rs ih =>
    rw [List.flatten_cons]
    have h0 := h r0 (by simp)
    cases i with
    | zero =>
      simp at hr; subst hr
      rw [Nat.zero_mul, Nat.zero_add, List.getElem?_append_left (by omega)]
    | succ i =>
      simp at hr
      rw [List.getElem?_append_right (by rw [Nat.add_mul]; omega), show (i + 1) * size + k - r0.length = i * size + k by rw [Nat.add_mul]; omega]
      exact ih (fun r hr => h r (by simp [hr])) hr
theorem flat_set {rs : List (List Value)} {size i k : Nat} (h : ∀ r ∈ rs, r.length = size) {r : List Value} (hr : rs[i]? = some r) (hk : k < size) (v : Value) : rs.flatten.set (i * size + k) v = (rs.set i (r.set k v)).flatten := by
  induction rs generalizing i with
  | nil => simp at hr
  | cons r0 rs ih =>
    rw [List.flatten_cons]
    have h0 := h r0 (by simp)
    cases i with
    | zero =>
      simp at hr; subst hr
      rw [Nat.zero_mul, Nat.zero_add, List.set_append_left _ _ (by omega), List.set_cons_zero, List.flatten_cons]
    | succ i =>
      simp at hr
      rw [List.set_append_right _ _ (by rw [Nat.add_mul]; omega), show (i + 1) * size + k - r0.length = i * size + k by rw [Nat.add_mul]; omega, List.set_cons_succ, List.flatten_cons, ih (fun r hr => h r (by simp [hr])) hr]
section
variable {P : Program} {X : Cx} {ops : Array Oper} {Q : Exit → Act → World → Prop} {rest : List Oper} {o : Oper} {m : List (Nat × Value)} {l : List Res} {v : Value} {d k : Nat} {x y : Operand} {t t' : TypeId}
theorem rowN_form {w : World} {q : Option Addr} {n c size : Nat} {rs : List (List Value)} {e : TypeId} (h : RowsN w (.slice q n c) rs e size) : n = rs.length ∧ (0 < n → ∃ g cur, q = some ⟨g, 0, none⟩ ∧ w.heap[g]? = some (.cells cur e (0, 0)) ∧ n ≤ c ∧ c ≤ maxLen ∧ cur.size = c * size ∧ cur.toList.take (n * size) = rs.flatten) := by
  rcases h.2.2 with ⟨h1, h2⟩ | ⟨g, cap, cur, h1, _, h2, h3, h4, h5, h6⟩
  · simp only [Value.slice.injEq] at h1
    exact ⟨by omega, fun h => by omega⟩
  · simp only [Value.slice.injEq] at h1
    obtain ⟨rfl, rfl, rfl⟩ := h1
    exact ⟨rfl, fun _ => ⟨g, cur, rfl, h2, h3, h4, h5, h6⟩⟩
theorem ru_index_rowN {e ri size : Nat} {ix : Operand} {q : Option Addr} {n c : Nat} {rs : List (List Value)} {i : Int} {kk : IntKind} (hs : SliIs P t e size) (ho : o.op = .indexAddr t x ix) (hx : evM m x = some (.slice q n c)) (hix : evM m ix = some (.int kk i)) (hi : l[ri]? = some (rRowN (.slice q n c) rs e size))
    (h0 : 0 ≤ i) (hn : i < n) : Ru P X o m l (.pointer (some ⟨rowB q, i.toNat * size, none⟩)) := fun a w hf hI => by
  obtain ⟨rfl, h2⟩ := rowN_form (show RowsN w (.slice q n c) rs e size from hI.1.get hi)
  obtain ⟨g, cur, rfl, _⟩ := h2 (by omega)
  exact ru_indexS (P := P) (X := X) (m := m) (l := l) hs ho hx hix h0 hn (by rw [Nat.zero_add]) a w hf hI
theorem rowN_cell {w : World} {q : Option Addr} {n c size i k : Nat} {rs : List (List Value)} {e : TypeId} (h : RowsN w (.slice q n c) rs e size) {r : List Value} (hr : rs[i]? = some r) (hk : k < size) : w.cell? ⟨rowB q, i * size + k, none⟩ = r[k]? := by
  obtain ⟨rfl, h2⟩ := rowN_form h
  have hil : i < rs.length := (List.getElem?_eq_some_iff.1 hr).1
  obtain ⟨g, cur, rfl, h3, _, _, _, h4⟩ := h2 (by omega)
  have hlt : i * size + k < rs.length * size := by
    have : (i + 1) * size ≤ rs.length * size := Nat.mul_le_mul_right _ hil
    rw [Nat.add_mul, Nat.one_mul] at this; omega
  show w.cell? ⟨g, i * size + k, none⟩ = _
  rw [cell_of_row _ _ _ _ _ _ h3, ← flat_get h.1 hr hk, ← h4, List.getElem?_take, if_pos hlt]
  simp
theorem ru_load_rowN {e ri size : Nat} {q : Option Addr} {n c i k : Nat} {rs : List (List Value)} {r : List Value} {z u : Value} (ht : TySc P t z) (ho : o.op = .load t x) (hx : evM m x = some (.pointer (some ⟨rowB q, i * size + k, none⟩))) (hi : l[ri]? = some (rRowN (.slice q n c) rs e size)) (hr : rs[i]? = some r) (hk : k < size) (hu : r[k]? = some u) : Ru P X o m l u := fun a w hf hI => by
  unfold execOp; rw [ho]
  simp only [hf.ev hx, Instr.loadAt, Instr.sureAddr, Sem.run_bind, Sem.run_pure, Result.andThen_ok, loadVar, (ht.run w).1]
  have h5 : w.cell? ⟨rowB q, i * size + k, none⟩ = some u := by rw [rowN_cell (hI.1.get hi) hr hk]; exact hu
  simp [h5]
theorem ru_loada_rowN {e ri size : Nat} {q : Option Addr} {n c i : Nat} {rs : List (List Value)} {r z : List Value} (ht : TyAg P t z) (ho : o.op = .load t x) (hx : evM m x = some (.pointer (some ⟨rowB q, i * size, none⟩))) (hi : l[ri]? = some (rRowN (.slice q n c) rs e size)) (hr : rs[i]? = some r) (hz : z.length = size) (hrl : r.length = size) : Ru P X o m l (.agg r.toArray) := fun a w hf hI => by
  obtain ⟨⟨d, hd, hdb⟩, hsz, _⟩ := ht
  obtain ⟨inf, hinf, hz'⟩ := map_some hsz
  simp only [Prod.mk.injEq] at hz'
  unfold execOp; rw [ho]
  simp only [hf.ev hx, Instr.loadAt, Instr.sureAddr, Sem.run_bind, Sem.run_pure, Result.andThen_ok]
  have := run_loadVar_at (P := P) w (rowB q) (i * size) t r d (fun j hj => rowN_cell (hI.1.get hi) hr (by omega)) hd (by cases d <;> simp_all [isAggD]) (by rw [hinf]; simp [hz'.1, hz, hrl])
  rw [this]; rfl
theorem SL.store_rowN {e ri size : Nat} {q : Option Addr} {n c i k : Nat} {rs : List (List Value)} {r : List Value} {z : Value} (hg : o.guard = none) (hd : o.dst = none) (ht : TySc P t z) (ho : o.op = .store t x y) (hx : evM m x = some (.pointer (some ⟨rowB q, i * size + k, none⟩))) (hy : evM m y = some v) (hv : v.oneCell' = true)
    (hi : l[ri]? = some (rRowN (.slice q n c) rs e size)) (hr : rs[i]? = some r) (hk : k < size) (hS : ∀ b, (Value.slice q n c).ownBlock = some b → X.S b ∨ X.w0.heap.size ≤ b)
    (K : SL P X ops Q rest m (l.set ri (rRowN (.slice q n c) (rs.set i (r.set k v)) e size))) : SL P X ops Q (o :: rest) m l := fun a w hf hI => by
  have hR : RowsN w (.slice q n c) rs e size := hI.1.get hi
  obtain ⟨rfl, h2⟩ := rowN_form hR
  have hil : i < rs.length := (List.getElem?_eq_some_iff.1 hr).1
  obtain ⟨g, cur, rfl, h3, h4, h5, h6, h7⟩ := h2 (by omega)
  have hlt : i * size + k < rs.length * size := by
    have : (i + 1) * size ≤ rs.length * size := Nat.mul_le_mul_right _ hil
    rw [Nat.add_mul, Nat.one_mul] at this; omega
  have hcs : rs.length * size ≤ cur.size := by rw [h6]; exact Nat.mul_le_mul_right _ h4
  have hb : Blk w g cur.toList e := by unfold Blk; simpa using h3
  refine SL.store (X := ⟨X.n, w, fun b => b = g⟩) (l := [rBlk g cur.toList e]) (i := 0) (c' := cur.toList.set (i * size + k) v) hg hd ht ho hx hy hv rfl (by rw [Array.length_toList]; omega) (.inl rfl) rfl (fun a' w' hf' hI' => ?_) a w hf ⟨⟨fun s hs => by simp at hs; subst hs; exact hb, List.pairwise_singleton _ _⟩, Only.refl _ _⟩
  have hO := hI'.2
  have hb' : Blk w' g (cur.toList.set (i * size + k) v) e := hI'.1.get (i := 0) rfl
  refine K a' w' hf' ⟨hI.1.upd hi (fun b hn hlt => hO.block b hlt (fun e => hn (by rw [e]; rfl))) ⟨?_, ?_, .inr ⟨g, c, (cur.toList.set (i * size + k) v).toArray, by rw [List.length_set], Nat.zero_le _, hb', by rw [List.length_set]; exact h4, h5, by simp [h6], ?_⟩⟩ (fun b hb => .inl hb), hI.2.trans' hO (fun b hb => hS b (by rw [hb]; rfl))⟩
  · intro r' hr'
    rcases List.mem_or_eq_of_mem_set hr' with h | rfl
    · exact hR.1 r' h
    · rw [List.length_set]; exact hR.1 r (List.mem_of_getElem? hr)
  · rw [← flat_set hR.1 hr hk v, List.length_set, List.length_set]; exact hR.2.1
  · rw [List.length_set, ← flat_set hR.1 hr hk v, ← h7, List.take_set]
theorem run_rowN1 {w : World} {e ty : TypeId} {v z : Value} {rs : List (List Value)} {r : List Value} {g2 size bytes : Nat} (hs0 : 0 < size) (ht : P.underlying t = some (.slice e)) (hz : (P.info? e).map (fun i => (i.zero, i.size, i.bytes)) = some (some z, size, bytes)) (hzs : z.cells.size = size) (hu : ∀ u ∈ r, u.oneCell' = true) (hrl : r.length = size)
    (hv : RowsN w v rs e size) (hx : Blk w g2 r e) (hb : (rs.length + 1) * bytes ≤ 140737488355328) (hn : rs.length + 1 ≤ maxLen) :
    ∃ v' w', (Builtin.append_ #[t, t] ty #[v, sl g2 0 1 1]).run P w = .ok v' w' ∧ RowsN w' v' (rs ++ [r]) e size ∧ Only (fun k => v.ownBlock = some k) w w' ∧ (∀ b, v'.ownBlock = some b → v.ownBlock = some b ∨ w.heap.size ≤ b) := by
  obtain ⟨i, hi, h3⟩ := map_some hz
  simp only [Prod.mk.injEq] at h3
  obtain ⟨z0, z1, z2⟩ := h3
  have hnews : ∀ j q, r[j]? = some q → w.cell? ((⟨g2, 0, none⟩ : Addr).add j) = some q := by
    intro j q hj
    rw [add_at, hx.cell, Nat.zero_add]; exact hj
  obtain ⟨v', w', hr, hO, hG, _⟩ := run_append_own (P := P) w 0 t ty e i z size bytes ht hi z0 z1 z2 hzs hs0 v rs.length rs.flatten hv.2 ⟨g2, 0, none⟩ 1 1 r (by rw [Nat.one_mul]; exact hrl) hnews hu hn hb (Nat.zero_le _)
  refine ⟨v', w', hr, ⟨fun r' h => ?_, by simpa using hO⟩, grown_only hG _ (fun k h => h), ?_⟩
  · rcases List.mem_append.1 h with h | h
    · exact hv.1 r' h
    · simp at h; subst h; exact hrl
  rcases hv.2.2 with ⟨rfl, h0⟩ | ⟨g, cap, cur, rfl, _, hg, hnc, hcm, hcs, htake⟩
  · have hxs : rs = [] := List.eq_nil_of_length_eq_zero h0
    subst hxs
    have h2 := run_append_nil (P := P) w t ty e i z ht hi z0 ⟨g2, 0, none⟩ 1 1 r (by rw [z1, Nat.one_mul]; exact hrl) hnews (by omega) (by omega) (by rw [z2]; simp at hb; omega)
    rw [hr] at h2
    injection h2 with e1
    subst e1
    exact fun b hb => .inr (by simp [Value.ownBlock] at hb; omega)
  · by_cases hroom : rs.length + 1 ≤ cap
    · have hfit : rs.length * size + r.length ≤ cur.size := by
        rw [hcs, hrl]; have := Nat.mul_le_mul_right size hroom; rw [Nat.add_mul, Nat.one_mul] at this; exact this
      have h2 := run_append_room (P := P) w t ty e i ht hi g rs.length cap cur hg ⟨g2, 0, none⟩ 1 1 r (by rw [z1, Nat.one_mul]; exact hrl) hnews hu hroom (by rw [z1]; exact hfit)
      rw [hr] at h2
      injection h2 with e1
      subst e1
      exact fun b hb => .inl (by simpa [Value.ownBlock] using hb)
    · have holds : ∀ j q, rs.flatten[j]? = some q → w.cell? ((⟨g, 0, none⟩ : Addr).add j) = some q := World.ownsRow.cells hv.2 (g := g) rfl
      have h2 := run_append_grow (P := P) w t ty e i z ht hi z0 ⟨g, 0, none⟩ rs.length cap rs.flatten (by rw [z1]; exact hv.2.1) holds ⟨g2, 0, none⟩ 1 1 r (by rw [z1, Nat.one_mul]; exact hrl) hnews (by omega) (by unfold maxLen at hn; omega) (growslice_fits (by omega) (by rw [z2]; exact hb))
      rw [hr] at h2
      injection h2 with e1
      subst e1
      exact fun b hb => .inr (by simp [Value.ownBlock] at hb; omega)
/-- 'all = append(all, r)'. -/
theorem SL.append_rowN {e ri rj size : Nat} {a1 a2 : Operand} {z : Value} {rs : List (List Value)} {r : List Value} {g2 bytes : Nat} {q : Option Addr} {n c : Nat} (hg : o.guard = none) (hd : o.dst = some d) (hn : d < X.n) (ho : o.op = .call { callee := .builtin .append, args := #[a1, a2], argTypes := #[t, t] })
    (hs0 : 0 < size) (ht : P.underlying t = some (.slice e)) (hz : (P.info? e).map (fun i => (i.zero, i.size, i.bytes)) = some (some z, size, bytes)) (hzs : z.cells.size = size) (hu : r.all (·.oneCell') = true) (hrl : r.length = size) (h1 : evM m a1 = some (.slice q n c)) (h2 : evM m a2 = some (sl g2 0 1 1))
    (hi : l[ri]? = some (rRowN (.slice q n c) rs e size)) (hj : l[rj]? = some (rBlk g2 r e)) (hb : (rs.length + 1) * bytes ≤ 140737488355328) (hl : rs.length + 1 ≤ maxLen) (hS : ∀ b, (Value.slice q n c).ownBlock = some b → X.S b ∨ X.w0.heap.size ≤ b)
    (k : ∀ (q' : Option Addr) (c' : Nat), (∀ b, (Value.slice q' (n + 1) c').ownBlock = some b → X.S b ∨ X.w0.heap.size ≤ b) → SL P X ops Q rest ((d, .slice q' (n + 1) c') :: m) (l.set ri (rRowN (.slice q' (n + 1) c') (rs ++ [r]) e size))) : SL P X ops Q (o :: rest) m l := fun a w hf hI =>
  wpList_plain hg fun K' hK => by
    have hR : RowsN w (.slice q n c) rs e size := hI.1.get hi
    obtain ⟨en, _⟩ := rowN_form hR
    obtain ⟨v', w', hr, hO, hU, hN⟩ := run_rowN1 (P := P) (ty := o.type) hs0 ht hz hzs (fun u hu' => List.all_eq_true.1 hu u hu') hrl hR (hI.1.get hj) hb hl
    unfold Oper.wp
    rw [run_call_app ho (hf.ev h1) (hf.ev h2) hr]
    simp only [Oper.upon_value, hd]
    obtain ⟨q', c', rfl⟩ : ∃ q' c', v' = .slice q' (n + 1) c' := by
      rcases hO.2.2 with ⟨_, h0⟩ | ⟨g, cap, cur, rfl, _⟩
      · simp at h0
      · exact ⟨some ⟨g, 0, none⟩, cap, by rw [en]; simp⟩
    refine hK _ _ (k q' c' (fun b hb => ?_) _ _ (hf.put hn _) (hI.upd hi hU hS hO (fun b hb => hN b hb)))
    rcases hN b hb with h | h
    · exact hS b h
    · exact .inr (Nat.le_trans hI.2.size h)
end
end Go.Proofs.Ytpgnklmmjdkhiaa

/-
  The light machine: slices of slices. No program is named here.
-/
namespace Go.Proofs.Ytpgnklmmjdkhiaa
open Go.RowKit
def optIs (m : List (Nat × Value)) (o : Option Operand) (d k : Nat) : Prop := match o with | none => k = d | some y => evM m y = some (iw (k : Int))
section
variable {P : Program} {X : Cx} {o : Oper} {m : List (Nat × Value)} {l : List Res} {x : Operand} {t : TypeId}
theorem run_bound {w : World} {k y : Nat} (h : k ≤ y) (code : BoundsCode) : (Instr.sliceBound (iw (k : Int)) y code).run P w = .ok k w := by
  have h1 : (0 : Int) ≤ (k : Int) ∧ (k : Int) ≤ (y : Int) := by omega
  simp [Instr.sliceBound, asIntOf, h, h1]
theorem ru_slice {e size n c l0 h0 m0 : Nat} {q : Option Addr} {lo hi mx : Option Operand} (hs : SliIs P t e size) (ho : o.op = .slice t x lo hi mx) (hx : evM m x = some (.slice q n c)) (hm : optIs m mx c m0) (hh : optIs m hi n h0) (hl : optIs m lo 0 l0) (hmx : mx.isSome = true → hi.isSome = true) (h1 : m0 ≤ c) (h2 : h0 ≤ m0) (h3 : l0 ≤ h0) :
    Ru P X o m l (.slice (if m0 = l0 then q else q.map (·.add (l0 * size))) (h0 - l0) (m0 - l0)) := fun a w hf hI => by
  obtain ⟨hu, hsz⟩ := hs
  unfold execOp; rw [ho]
  have hb : (Instr.sliceBounds true n c (lo.map a.eval) (hi.map a.eval) (mx.map a.eval)).run P w = .ok (l0, h0, m0) w := by
    unfold Instr.sliceBounds
    cases mx with
    | none =>
      have hm' : m0 = c := hm
      subst hm'
      cases hi with
      | none =>
        have hh' : h0 = n := hh
        subst hh'
        cases lo with
        | none => have hl' : l0 = 0 := hl; subst hl'; simp
        | some y => have := hf.ev hl; simp [this, run_bound h3]
      | some yh =>
        have e1 := hf.ev hh
        cases lo with
        | none => have hl' : l0 = 0 := hl; subst hl'; simp [e1, run_bound h2]
        | some y => have := hf.ev hl; simp [this, e1, run_bound h2, run_bound h3]
    | some ym =>
      have e0 := hf.ev hm
      cases hi with
      | none => exact absurd (hmx rfl) (by simp)
      | some yh =>
        have e1 := hf.ev hh
        cases lo with
        | none => have hl' : l0 = 0 := hl; subst hl'; simp [e0, e1, run_bound h1, run_bound h2]
        | some y => have := hf.ev hl; simp [this, e0, e1, run_bound h1, run_bound h2, run_bound h3]
  simp only [hf.ev hx, Instr.sliceAt, Instr.slice, Sem.run_bind, run_underlying hu w, Result.andThen_ok, hb, size_run hsz w, Sem.run_pure]
theorem ru_sliceV {e size n c l0 h0 m0 : Nat} {q : Option Addr} {lo hi mx : Option Operand} {v : Value} (hv : Value.slice (if m0 = l0 then q else q.map (·.add (l0 * size))) (h0 - l0) (m0 - l0) = v) (hs : SliIs P t e size) (ho : o.op = .slice t x lo hi mx) (hx : evM m x = some (.slice q n c)) (hm : optIs m mx c m0) (hh : optIs m hi n h0) (hl : optIs m lo 0 l0) (hmx : mx.isSome = true → hi.isSome = true) (h1 : m0 ≤ c) (h2 : h0 ≤ m0) (h3 : l0 ≤ h0) : Ru P X o m l v :=
  hv ▸ ru_slice hs ho hx hm hh hl hmx h1 h2 h3
theorem ru_max {x y : Operand} {a1 b1 : Int} {r : Int} (ho : o.op = .call { callee := .builtin .max, args := #[x, y], argTypes := #[t, t] }) (hx : evM m x = some (iw a1)) (hy : evM m y = some (iw b1)) (hv : max a1 b1 = r) : Ru P X o m l (iw r) := fun a w hf _ => by
  subst hv
  unfold execOp; rw [ho]
  have e : (if b1 > a1 then b1 else a1) = max a1 b1 := by rw [Int.max_def]; split <;> split <;> omega
  simp [resolve, hf.ev hx, hf.ev hy, invoke, builtin, run_max_int2, e]
theorem ru_min {x y : Operand} {a1 b1 : Int} {r : Int} (ho : o.op = .call { callee := .builtin .min, args := #[x, y], argTypes := #[t, t] }) (hx : evM m x = some (iw a1)) (hy : evM m y = some (iw b1)) (hv : min a1 b1 = r) : Ru P X o m l (iw r) := fun a w hf _ => by
  subst hv
  unfold execOp; rw [ho]
  have e : (if b1 < a1 then b1 else a1) = min a1 b1 := by rw [Int.min_def]; split <;> split <;> omega
  simp [resolve, hf.ev hx, hf.ev hy, invoke, builtin, run_min_int2, e]
end
end Go.Proofs.Ytpgnklmmjdkhiaa

/-
  The light machine: what slices.Delete does within a row. No program is named here.
-/
namespace Go.Proofs.Ytpgnklmmjdkhiaa
open Go.RowKit
section
variable {P : Program} {X : Cx} {ops : Array Oper} {Q : Exit → Act → World → Prop} {rest : List Oper} {o : Oper} {m : List (Nat × Value)} {l : List Res} {d : Nat} {t t' : TypeId}
/-- 'append' with room, of elements that lie anywhere (in the same row too). -/
theorem SL.appendB {e ri size i c m2 c2 g o2 : Nat} {a1 a2 : Operand} {g2 : Nat} {cs news : List Value} (hg : o.guard = none) (hd : o.dst = some d) (hn : d < X.n) (ho : o.op = .call { callee := .builtin .append, args := #[a1, a2], argTypes := #[t, t] })
    (ht : P.underlying t = some (.slice e)) (hz : (P.info? e).map (·.size) = some size) (h1 : evM m a1 = some (sl g 0 i c)) (h2 : evM m a2 = some (.slice (some ⟨g2, o2, none⟩) m2 c2)) (hi : l[ri]? = some (rBlk g cs e)) (hl : news.length = m2 * size)
    (hnews : ∀ w, Inv X w l → ∀ j u, news[j]? = some u → w.cell? ⟨g2, o2 + j, none⟩ = some u) (hone : ∀ u ∈ news, u.oneCell' = true) (hroom : i + m2 ≤ c) (hfit : i * size + news.length ≤ cs.length) (hS : X.S g ∨ X.w0.heap.size ≤ g)
    (k : SL P X ops Q rest ((d, sl g 0 (i + m2) c) :: m) (l.set ri (rBlk g (cs.take (i * size) ++ news ++ cs.drop (i * size + news.length)) e))) : SL P X ops Q (o :: rest) m l := fun a w hf hI =>
  wpList_plain hg fun K' hK => by
    have hb : Blk w g cs e := hI.1.get hi
    obtain ⟨inf, hinf, hsz⟩ := map_some hz
    have hr := run_append_room (P := P) w t o.type e inf ht hinf g i c cs.toArray hb ⟨g2, o2, none⟩ m2 c2 news (by rw [hsz]; exact hl) (fun j u hj => by rw [add_at]; exact hnews w hI j u hj) hone hroom (by rw [hsz]; simpa using hfit)
    unfold Oper.wp
    rw [run_call_app ho (hf.ev h1) (hf.ev h2) hr]
    simp only [Oper.upon_value, hd, hsz]
    refine hK _ _ (k _ _ (hf.put hn _) (hI.upd hi ⟨rfl, rfl, rfl, by simp [World.setRow], fun k' _ hk' => setRow_other w g k' _ hk'⟩ (fun b' hb' => by cases hb'; exact hS) ?_ (fun b' hb' => .inl hb')))
    have := setRow_heap w g cs.toArray ((cs.take (i * size) ++ news ++ cs.drop (i * size + news.length))).toArray e (0, 0) hb
    show Blk _ g _ e
    unfold Blk
    simpa using this
/-- 'clear' of a part of a row. -/
theorem SL.clearB {e ri size n1 c1 g o1 : Nat} {a1 : Operand} {z : Value} {cs : List Value} (hg : o.guard = none) (hd : o.dst = none) (ho : o.op = .call { callee := .builtin .clear, args := #[a1], argTypes := #[t] })
    (ht : P.underlying t = some (.slice e)) (hz : (P.info? e).map (·.zero) = some (some z)) (hzs : z.cells.size = size) (hz1 : ∀ u ∈ z.cells.toList, u.oneCell' = true) (h1 : evM m a1 = some (.slice (some ⟨g, o1, none⟩) n1 c1)) (hn1 : 0 < n1) (hi : l[ri]? = some (rBlk g cs e)) (hfit : o1 + n1 * size ≤ cs.length) (hS : X.S g ∨ X.w0.heap.size ≤ g)
    (k : SL P X ops Q rest m (l.set ri (rBlk g (cs.take o1 ++ (Builtin.zeroCells z.cells n1).toList ++ cs.drop (o1 + n1 * size)) e))) : SL P X ops Q (o :: rest) m l := fun a w hf hI =>
  wpList_plain hg fun K' hK => by
    have hb : Blk w g cs e := hI.1.get hi
    obtain ⟨inf, hinf, hsz⟩ := map_some hz
    have hzl : (Builtin.zeroCells z.cells n1).toList.length = n1 * size := by rw [Array.length_toList, size_zeroCells, hzs]
    have hst := run_storeCells_at P g o1 e (Builtin.zeroCells z.cells n1).toList 0 cs.toArray w hb (by rw [hzl]; simpa using hfit) (fun u hu => by
      unfold Builtin.zeroCells at hu
      simp at hu
      obtain ⟨q, hq, h⟩ := hu
      have hpos : 0 < z.cells.size := by
        rcases Nat.eq_zero_or_pos z.cells.size with h0 | h0
        · rw [h0, Nat.mul_zero] at hq; omega
        · exact h0
      have hlt : q % z.cells.size < z.cells.size := Nat.mod_lt _ hpos
      rw [getElem!_pos z.cells (q % z.cells.size) hlt] at h
      subst h
      exact hz1 _ (by simp))
    have hcl : (Builtin.clear_ #[t] o.type #[.slice (some ⟨g, o1, none⟩) n1 c1]).run P w = .ok (.tuple #[]) (w.setRow g (cs.take o1 ++ (Builtin.zeroCells z.cells n1).toList ++ cs.drop (o1 + n1 * size)).toArray) := by
      obtain ⟨n2, rfl⟩ : ∃ n2, n1 = n2 + 1 := ⟨n1 - 1, by omega⟩
      rw [Nat.add_zero, hzl] at hst
      simp [Builtin.clear_, run_underlying ht, zeroValue, typeInfo, hinf, hsz, hst]
    unfold Oper.wp execOp
    rw [ho]
    have he : #[a1].map a.eval = #[.slice (some ⟨g, o1, none⟩) n1 c1] := by simp [hf.ev h1]
    simp only [resolve, he, Sem.run_bind, Sem.run_pure, Result.andThen_ok, invoke, builtin, hcl, Oper.upon_value, hd, Act.put]
    refine hK _ _ (k _ _ hf (hI.upd hi ⟨rfl, rfl, rfl, by simp [World.setRow], fun k' _ hk' => setRow_other w g k' _ hk'⟩ (fun b' hb' => by cases hb'; exact hS) ?_ (fun b' hb' => .inl hb')))
    have := setRow_heap w g cs.toArray ((cs.take o1 ++ (Builtin.zeroCells z.cells n1).toList ++ cs.drop (o1 + n1 * size))).toArray e (0, 0) hb
    show Blk _ g _ e
    unfold Blk
    simpa using this
end
end Go.Proofs.Ytpgnklmmjdkhiaa

/-
  Facts on the types and functions of this seat's program.
-/
namespace Go.Proofs.Ytpgnklmmjdkhiaa
open Go.RowKit
set_option maxRecDepth 100000
set_option maxHeartbeats 4000000
theorem ts1 : TySc Try.prog 1 (Value.nilFunc) := ⟨⟨_, Try.underlying1, rfl⟩, by kernel_rfl, rfl⟩
theorem ts2 : TySc Try.prog 2 (iw 0) := ⟨⟨_, Try.underlying2, rfl⟩, by kernel_rfl, rfl⟩
theorem ts3 : TySc Try.prog 3 (iw 0) := ⟨⟨_, Try.underlying3, rfl⟩, by kernel_rfl, rfl⟩
theorem ts4 : TySc Try.prog 4 (bo false) := ⟨⟨_, Try.underlying4, rfl⟩, by kernel_rfl, rfl⟩
theorem ts5 : TySc Try.prog 5 (Value.int .u8 0) := ⟨⟨_, Try.underlying5, rfl⟩, by kernel_rfl, rfl⟩
theorem ts6 : TySc Try.prog 6 (Value.int .u8 0) := ⟨⟨_, Try.underlying6, rfl⟩, by kernel_rfl, rfl⟩
theorem ts12 : TySc Try.prog 12 (Value.int .u64 0) := ⟨⟨_, Try.underlying12, rfl⟩, by kernel_rfl, rfl⟩
theorem ts15 : TySc Try.prog 15 (Value.pointer none) := ⟨⟨_, Try.underlying15, rfl⟩, by kernel_rfl, rfl⟩
theorem ts16 : TySc Try.prog 16 (Value.pointer none) := ⟨⟨_, Try.underlying16, rfl⟩, by kernel_rfl, rfl⟩
theorem ts17 : TySc Try.prog 17 (Value.pointer none) := ⟨⟨_, Try.underlying17, rfl⟩, by kernel_rfl, rfl⟩
theorem ts21 : TySc Try.prog 21 (Value.int .i32 0) := ⟨⟨_, Try.underlying21, rfl⟩, by kernel_rfl, rfl⟩
theorem ts22 : TySc Try.prog 22 (Value.slice none 0 0) := ⟨⟨_, Try.underlying22, rfl⟩, by kernel_rfl, rfl⟩
theorem ts23 : TySc Try.prog 23 (Value.slice none 0 0) := ⟨⟨_, Try.underlying23, rfl⟩, by kernel_rfl, rfl⟩
theorem ts24 : TySc Try.prog 24 (Value.nilFunc) := ⟨⟨_, Try.underlying24, rfl⟩, by kernel_rfl, rfl⟩
theorem ts25 : TySc Try.prog 25 (Value.pointer none) := ⟨⟨_, Try.underlying25, rfl⟩, by kernel_rfl, rfl⟩
theorem ts26 : TySc Try.prog 26 (iw 0) := ⟨⟨_, Try.underlying26, rfl⟩, by kernel_rfl, rfl⟩
theorem ts28 : TySc Try.prog 28 (Value.nilFunc) := ⟨⟨_, Try.underlying28, rfl⟩, by kernel_rfl, rfl⟩
theorem ts29 : TySc Try.prog 29 (Value.pointer none) := ⟨⟨_, Try.underlying29, rfl⟩, by kernel_rfl, rfl⟩
theorem ts30 : TySc Try.prog 30 (Value.nilFunc) := ⟨⟨_, Try.underlying30, rfl⟩, by kernel_rfl, rfl⟩
theorem ts34 : TySc Try.prog 34 (Value.nilFunc) := ⟨⟨_, Try.underlying34, rfl⟩, by kernel_rfl, rfl⟩
theorem ts35 : TySc Try.prog 35 (Value.nilFunc) := ⟨⟨_, Try.underlying35, rfl⟩, by kernel_rfl, rfl⟩
theorem ts36 : TySc Try.prog 36 (Value.nilFunc) := ⟨⟨_, Try.underlying36, rfl⟩, by kernel_rfl, rfl⟩
theorem ts37 : TySc Try.prog 37 (Value.nilFunc) := ⟨⟨_, Try.underlying37, rfl⟩, by kernel_rfl, rfl⟩
theorem ts38 : TySc Try.prog 38 (Value.nilFunc) := ⟨⟨_, Try.underlying38, rfl⟩, by kernel_rfl, rfl⟩
theorem ts39 : TySc Try.prog 39 (Value.nilFunc) := ⟨⟨_, Try.underlying39, rfl⟩, by kernel_rfl, rfl⟩
theorem ts42 : TySc Try.prog 42 (Value.nilFunc) := ⟨⟨_, Try.underlying42, rfl⟩, by kernel_rfl, rfl⟩
theorem ts43 : TySc Try.prog 43 (Value.slice none 0 0) := ⟨⟨_, Try.underlying43, rfl⟩, by kernel_rfl, rfl⟩
theorem ts44 : TySc Try.prog 44 (Value.nilFunc) := ⟨⟨_, Try.underlying44, rfl⟩, by kernel_rfl, rfl⟩
theorem ts46 : TySc Try.prog 46 (Value.nilFunc) := ⟨⟨_, Try.underlying46, rfl⟩, by kernel_rfl, rfl⟩
theorem ts47 : TySc Try.prog 47 (Value.slice none 0 0) := ⟨⟨_, Try.underlying47, rfl⟩, by kernel_rfl, rfl⟩
theorem ts50 : TySc Try.prog 50 (Value.slice none 0 0) := ⟨⟨_, Try.underlying50, rfl⟩, by kernel_rfl, rfl⟩
theorem ts56 : TySc Try.prog 56 (Value.pointer none) := ⟨⟨_, Try.underlying56, rfl⟩, by kernel_rfl, rfl⟩
theorem ts58 : TySc Try.prog 58 (Value.nilFunc) := ⟨⟨_, Try.underlying58, rfl⟩, by kernel_rfl, rfl⟩
theorem ts59 : TySc Try.prog 59 (Value.nilFunc) := ⟨⟨_, Try.underlying59, rfl⟩, by kernel_rfl, rfl⟩
theorem ts62 : TySc Try.prog 62 (Value.nilFunc) := ⟨⟨_, Try.underlying62, rfl⟩, by kernel_rfl, rfl⟩
theorem ts63 : TySc Try.prog 63 (Value.nilFunc) := ⟨⟨_, Try.underlying63, rfl⟩, by kernel_rfl, rfl⟩
theorem ts64 : TySc Try.prog 64 (Value.nilFunc) := ⟨⟨_, Try.underlying64, rfl⟩, by kernel_rfl, rfl⟩
theorem ts65 : TySc Try.prog 65 (Value.nilFunc) := ⟨⟨_, Try.underlying65, rfl⟩, by kernel_rfl, rfl⟩
theorem ts66 : TySc Try.prog 66 (Value.nilFunc) := ⟨⟨_, Try.underlying66, rfl⟩, by kernel_rfl, rfl⟩
theorem ts67 : TySc Try.prog 67 (Value.pointer none) := ⟨⟨_, Try.underlying67, rfl⟩, by kernel_rfl, rfl⟩
theorem ts68 : TySc Try.prog 68 (Value.nilFunc) := ⟨⟨_, Try.underlying68, rfl⟩, by kernel_rfl, rfl⟩
theorem ts69 : TySc Try.prog 69 (Value.nilFunc) := ⟨⟨_, Try.underlying69, rfl⟩, by kernel_rfl, rfl⟩
theorem ts70 : TySc Try.prog 70 (Value.nilFunc) := ⟨⟨_, Try.underlying70, rfl⟩, by kernel_rfl, rfl⟩
theorem ts71 : TySc Try.prog 71 (Value.nilFunc) := ⟨⟨_, Try.underlying71, rfl⟩, by kernel_rfl, rfl⟩
theorem ts72 : TySc Try.prog 72 (Value.nilFunc) := ⟨⟨_, Try.underlying72, rfl⟩, by kernel_rfl, rfl⟩
theorem ts73 : TySc Try.prog 73 (Value.nilFunc) := ⟨⟨_, Try.underlying73, rfl⟩, by kernel_rfl, rfl⟩
theorem ts77 : TySc Try.prog 77 (Value.nilFunc) := ⟨⟨_, Try.underlying77, rfl⟩, by kernel_rfl, rfl⟩
theorem ts78 : TySc Try.prog 78 (Value.nilFunc) := ⟨⟨_, Try.underlying78, rfl⟩, by kernel_rfl, rfl⟩
theorem ts79 : TySc Try.prog 79 (Value.nilFunc) := ⟨⟨_, Try.underlying79, rfl⟩, by kernel_rfl, rfl⟩
theorem ts80 : TySc Try.prog 80 (Value.nilFunc) := ⟨⟨_, Try.underlying80, rfl⟩, by kernel_rfl, rfl⟩
theorem ts81 : TySc Try.prog 81 (Value.nilFunc) := ⟨⟨_, Try.underlying81, rfl⟩, by kernel_rfl, rfl⟩
theorem ts87 : TySc Try.prog 87 (uw 0) := ⟨⟨_, Try.underlying87, rfl⟩, by kernel_rfl, rfl⟩
theorem ts88 : TySc Try.prog 88 (Value.int .u8 0) := ⟨⟨_, Try.underlying88, rfl⟩, by kernel_rfl, rfl⟩
theorem ts89 : TySc Try.prog 89 (Value.int .u8 0) := ⟨⟨_, Try.underlying89, rfl⟩, by kernel_rfl, rfl⟩
theorem ts90 : TySc Try.prog 90 (Value.nilFunc) := ⟨⟨_, Try.underlying90, rfl⟩, by kernel_rfl, rfl⟩
theorem ts91 : TySc Try.prog 91 (Value.pointer none) := ⟨⟨_, Try.underlying91, rfl⟩, by kernel_rfl, rfl⟩
theorem ts92 : TySc Try.prog 92 (Value.int .i32 0) := ⟨⟨_, Try.underlying92, rfl⟩, by kernel_rfl, rfl⟩
theorem ts93 : TySc Try.prog 93 (Value.int .i32 0) := ⟨⟨_, Try.underlying93, rfl⟩, by kernel_rfl, rfl⟩
theorem ta7 : TyAg Try.prog 7 [iw 0, iw 0, bo false, Value.int .u8 0] := ⟨⟨_, Try.underlying7, rfl⟩, by kernel_rfl, rfl⟩
theorem ta8 : TyAg Try.prog 8 [iw 0, iw 0, bo false, Value.int .u8 0] := ⟨⟨_, Try.underlying8, rfl⟩, by kernel_rfl, rfl⟩
theorem ta13 : TyAg Try.prog 13 [Value.string .empty, Value.int .u64 0] := ⟨⟨_, Try.underlying13, rfl⟩, by kernel_rfl, rfl⟩
theorem ta14 : TyAg Try.prog 14 [Value.string .empty, Value.int .u64 0] := ⟨⟨_, Try.underlying14, rfl⟩, by kernel_rfl, rfl⟩
theorem ta18 : TyAg Try.prog 18 [Value.pointer none] := ⟨⟨_, Try.underlying18, rfl⟩, by kernel_rfl, rfl⟩
theorem ta19 : TyAg Try.prog 19 [Value.pointer none] := ⟨⟨_, Try.underlying19, rfl⟩, by kernel_rfl, rfl⟩
theorem ta31 : TyAg Try.prog 31 [iw 0, iw 0, Value.slice none 0 0, iw 0, iw 0, bo false, iw 0] := ⟨⟨_, Try.underlying31, rfl⟩, by kernel_rfl, rfl⟩
theorem ta32 : TyAg Try.prog 32 [iw 0, iw 0, Value.slice none 0 0, iw 0, iw 0, bo false, iw 0] := ⟨⟨_, Try.underlying32, rfl⟩, by kernel_rfl, rfl⟩
theorem ta40 : TyAg Try.prog 40 [iw 0, iw 0, iw 0, iw 0] := ⟨⟨_, Try.underlying40, rfl⟩, by kernel_rfl, rfl⟩
theorem ta41 : TyAg Try.prog 41 [iw 0, iw 0, iw 0, iw 0] := ⟨⟨_, Try.underlying41, rfl⟩, by kernel_rfl, rfl⟩
theorem ta45 : TyAg Try.prog 45 [iw 0, iw 0] := ⟨⟨_, Try.underlying45, rfl⟩, by kernel_rfl, rfl⟩
theorem ta48 : TyAg Try.prog 48 [Value.slice none 0 0, iw 0] := ⟨⟨_, Try.underlying48, rfl⟩, by kernel_rfl, rfl⟩
theorem ta49 : TyAg Try.prog 49 [Value.slice none 0 0, iw 0] := ⟨⟨_, Try.underlying49, rfl⟩, by kernel_rfl, rfl⟩
theorem ta51 : TyAg Try.prog 51 [Value.pointer none, Value.slice none 0 0, Value.slice none 0 0, iw 0, iw 0, iw 0, bo false] := ⟨⟨_, Try.underlying51, rfl⟩, by kernel_rfl, rfl⟩
theorem ta52 : TyAg Try.prog 52 [Value.pointer none, Value.slice none 0 0, Value.slice none 0 0, iw 0, iw 0, iw 0, bo false] := ⟨⟨_, Try.underlying52, rfl⟩, by kernel_rfl, rfl⟩
theorem ta60 : TyAg Try.prog 60 [iw 0, iw 0, iw 0, iw 0, bo false] := ⟨⟨_, Try.underlying60, rfl⟩, by kernel_rfl, rfl⟩
theorem ta61 : TyAg Try.prog 61 [iw 0, iw 0, iw 0, iw 0, bo false] := ⟨⟨_, Try.underlying61, rfl⟩, by kernel_rfl, rfl⟩
theorem ta74 : TyAg Try.prog 74 [iw 0, Value.slice none 0 0, Value.slice none 0 0] := ⟨⟨_, Try.underlying74, rfl⟩, by kernel_rfl, rfl⟩
theorem ta75 : TyAg Try.prog 75 [iw 0, Value.slice none 0 0, Value.slice none 0 0] := ⟨⟨_, Try.underlying75, rfl⟩, by kernel_rfl, rfl⟩
theorem ta82 : TyAg Try.prog 82 [Value.pointer none, Value.pointer none, Value.pointer none, Value.string .empty] := ⟨⟨_, Try.underlying82, rfl⟩, by kernel_rfl, rfl⟩
theorem ta83 : TyAg Try.prog 83 [Value.pointer none, Value.pointer none, Value.pointer none, Value.string .empty] := ⟨⟨_, Try.underlying83, rfl⟩, by kernel_rfl, rfl⟩
theorem ta84 : TyAg Try.prog 84 [] := ⟨⟨_, Try.underlying84, rfl⟩, by kernel_rfl, rfl⟩
theorem ta85 : TyAg Try.prog 85 [] := ⟨⟨_, Try.underlying85, rfl⟩, by kernel_rfl, rfl⟩
theorem ta86 : TyAg Try.prog 86 [] := ⟨⟨_, Try.underlying86, rfl⟩, by kernel_rfl, rfl⟩
theorem ta94 : TyAg Try.prog 94 [Value.int .u64 0, Value.int .u64 0, uw 0, Value.int .u8 0, Value.int .u8 0, Value.int .u8 0, Value.int .u8 0, Value.nilFunc, Value.pointer none, Value.int .i32 0, Value.int .i32 0] := ⟨⟨_, Try.underlying94, rfl⟩, by kernel_rfl, rfl⟩
theorem ta95 : TyAg Try.prog 95 [Value.int .u64 0, Value.int .u64 0, uw 0, Value.int .u8 0, Value.int .u8 0, Value.int .u8 0, Value.int .u8 0, Value.nilFunc, Value.pointer none, Value.int .i32 0, Value.int .i32 0] := ⟨⟨_, Try.underlying95, rfl⟩, by kernel_rfl, rfl⟩
theorem fd7_0 : FldIs Try.prog 7 0 0 := ⟨_, _, Try.underlying7, rfl, rfl, by kernel_rfl⟩
theorem fd7_1 : FldIs Try.prog 7 1 1 := ⟨_, _, Try.underlying7, rfl, rfl, by kernel_rfl⟩
theorem fd7_2 : FldIs Try.prog 7 2 2 := ⟨_, _, Try.underlying7, rfl, rfl, by kernel_rfl⟩
theorem fd7_3 : FldIs Try.prog 7 3 3 := ⟨_, _, Try.underlying7, rfl, rfl, by kernel_rfl⟩
theorem fd8_0 : FldIs Try.prog 8 0 0 := ⟨_, _, Try.underlying8, rfl, rfl, by kernel_rfl⟩
theorem fd8_1 : FldIs Try.prog 8 1 1 := ⟨_, _, Try.underlying8, rfl, rfl, by kernel_rfl⟩
theorem fd8_2 : FldIs Try.prog 8 2 2 := ⟨_, _, Try.underlying8, rfl, rfl, by kernel_rfl⟩
theorem fd8_3 : FldIs Try.prog 8 3 3 := ⟨_, _, Try.underlying8, rfl, rfl, by kernel_rfl⟩
theorem fd13_0 : FldIs Try.prog 13 0 0 := ⟨_, _, Try.underlying13, rfl, rfl, by kernel_rfl⟩
theorem fd13_1 : FldIs Try.prog 13 1 1 := ⟨_, _, Try.underlying13, rfl, rfl, by kernel_rfl⟩
theorem fd14_0 : FldIs Try.prog 14 0 0 := ⟨_, _, Try.underlying14, rfl, rfl, by kernel_rfl⟩
theorem fd14_1 : FldIs Try.prog 14 1 1 := ⟨_, _, Try.underlying14, rfl, rfl, by kernel_rfl⟩
theorem fd18_0 : FldIs Try.prog 18 0 0 := ⟨_, _, Try.underlying18, rfl, rfl, by kernel_rfl⟩
theorem fd19_0 : FldIs Try.prog 19 0 0 := ⟨_, _, Try.underlying19, rfl, rfl, by kernel_rfl⟩
theorem fd31_0 : FldIs Try.prog 31 0 0 := ⟨_, _, Try.underlying31, rfl, rfl, by kernel_rfl⟩
theorem fd31_1 : FldIs Try.prog 31 1 1 := ⟨_, _, Try.underlying31, rfl, rfl, by kernel_rfl⟩
theorem fd31_2 : FldIs Try.prog 31 2 2 := ⟨_, _, Try.underlying31, rfl, rfl, by kernel_rfl⟩
theorem fd31_3 : FldIs Try.prog 31 3 3 := ⟨_, _, Try.underlying31, rfl, rfl, by kernel_rfl⟩
theorem fd31_4 : FldIs Try.prog 31 4 4 := ⟨_, _, Try.underlying31, rfl, rfl, by kernel_rfl⟩
theorem fd31_5 : FldIs Try.prog 31 5 5 := ⟨_, _, Try.underlying31, rfl, rfl, by kernel_rfl⟩
theorem fd31_6 : FldIs Try.prog 31 6 6 := ⟨_, _, Try.underlying31, rfl, rfl, by kernel_rfl⟩
theorem fd32_0 : FldIs Try.prog 32 0 0 := ⟨_, _, Try.underlying32, rfl, rfl, by kernel_rfl⟩
theorem fd32_1 : FldIs Try.prog 32 1 1 := ⟨_, _, Try.underlying32, rfl, rfl, by kernel_rfl⟩
theorem fd32_2 : FldIs Try.prog 32 2 2 := ⟨_, _, Try.underlying32, rfl, rfl, by kernel_rfl⟩
theorem fd32_3 : FldIs Try.prog 32 3 3 := ⟨_, _, Try.underlying32, rfl, rfl, by kernel_rfl⟩
theorem fd32_4 : FldIs Try.prog 32 4 4 := ⟨_, _, Try.underlying32, rfl, rfl, by kernel_rfl⟩
theorem fd32_5 : FldIs Try.prog 32 5 5 := ⟨_, _, Try.underlying32, rfl, rfl, by kernel_rfl⟩
theorem fd32_6 : FldIs Try.prog 32 6 6 := ⟨_, _, Try.underlying32, rfl, rfl, by kernel_rfl⟩
theorem fd40_0 : FldIs Try.prog 40 0 0 := ⟨_, _, Try.underlying40, rfl, rfl, by kernel_rfl⟩
theorem fd40_1 : FldIs Try.prog 40 1 1 := ⟨_, _, Try.underlying40, rfl, rfl, by kernel_rfl⟩
theorem fd40_2 : FldIs Try.prog 40 2 2 := ⟨_, _, Try.underlying40, rfl, rfl, by kernel_rfl⟩
theorem fd40_3 : FldIs Try.prog 40 3 3 := ⟨_, _, Try.underlying40, rfl, rfl, by kernel_rfl⟩
theorem fd41_0 : FldIs Try.prog 41 0 0 := ⟨_, _, Try.underlying41, rfl, rfl, by kernel_rfl⟩
theorem fd41_1 : FldIs Try.prog 41 1 1 := ⟨_, _, Try.underlying41, rfl, rfl, by kernel_rfl⟩
theorem fd41_2 : FldIs Try.prog 41 2 2 := ⟨_, _, Try.underlying41, rfl, rfl, by kernel_rfl⟩
theorem fd41_3 : FldIs Try.prog 41 3 3 := ⟨_, _, Try.underlying41, rfl, rfl, by kernel_rfl⟩
theorem fd48_0 : FldIs Try.prog 48 0 0 := ⟨_, _, Try.underlying48, rfl, rfl, by kernel_rfl⟩
theorem fd48_1 : FldIs Try.prog 48 1 1 := ⟨_, _, Try.underlying48, rfl, rfl, by kernel_rfl⟩
theorem fd49_0 : FldIs Try.prog 49 0 0 := ⟨_, _, Try.underlying49, rfl, rfl, by kernel_rfl⟩
theorem fd49_1 : FldIs Try.prog 49 1 1 := ⟨_, _, Try.underlying49, rfl, rfl, by kernel_rfl⟩
theorem fd51_0 : FldIs Try.prog 51 0 0 := ⟨_, _, Try.underlying51, rfl, rfl, by kernel_rfl⟩
theorem fd51_1 : FldIs Try.prog 51 1 1 := ⟨_, _, Try.underlying51, rfl, rfl, by kernel_rfl⟩
theorem fd51_2 : FldIs Try.prog 51 2 2 := ⟨_, _, Try.underlying51, rfl, rfl, by kernel_rfl⟩
theorem fd51_3 : FldIs Try.prog 51 3 3 := ⟨_, _, Try.underlying51, rfl, rfl, by kernel_rfl⟩
theorem fd51_4 : FldIs Try.prog 51 4 4 := ⟨_, _, Try.underlying51, rfl, rfl, by kernel_rfl⟩
theorem fd51_5 : FldIs Try.prog 51 5 5 := ⟨_, _, Try.underlying51, rfl, rfl, by kernel_rfl⟩
theorem fd51_6 : FldIs Try.prog 51 6 6 := ⟨_, _, Try.underlying51, rfl, rfl, by kernel_rfl⟩
theorem fd52_0 : FldIs Try.prog 52 0 0 := ⟨_, _, Try.underlying52, rfl, rfl, by kernel_rfl⟩
theorem fd52_1 : FldIs Try.prog 52 1 1 := ⟨_, _, Try.underlying52, rfl, rfl, by kernel_rfl⟩
theorem fd52_2 : FldIs Try.prog 52 2 2 := ⟨_, _, Try.underlying52, rfl, rfl, by kernel_rfl⟩
theorem fd52_3 : FldIs Try.prog 52 3 3 := ⟨_, _, Try.underlying52, rfl, rfl, by kernel_rfl⟩
theorem fd52_4 : FldIs Try.prog 52 4 4 := ⟨_, _, Try.underlying52, rfl, rfl, by kernel_rfl⟩
theorem fd52_5 : FldIs Try.prog 52 5 5 := ⟨_, _, Try.underlying52, rfl, rfl, by kernel_rfl⟩
theorem fd52_6 : FldIs Try.prog 52 6 6 := ⟨_, _, Try.underlying52, rfl, rfl, by kernel_rfl⟩
theorem fd54_0 : FldIs Try.prog 54 0 0 := ⟨_, _, Try.underlying54, rfl, rfl, by kernel_rfl⟩
theorem fd54_1 : FldIs Try.prog 54 1 1 := ⟨_, _, Try.underlying54, rfl, rfl, by kernel_rfl⟩
theorem fd54_2 : FldIs Try.prog 54 2 393 := ⟨_, _, Try.underlying54, rfl, rfl, by kernel_rfl⟩
theorem fd54_3 : FldIs Try.prog 54 3 394 := ⟨_, _, Try.underlying54, rfl, rfl, by kernel_rfl⟩
theorem fd54_4 : FldIs Try.prog 54 4 395 := ⟨_, _, Try.underlying54, rfl, rfl, by kernel_rfl⟩
theorem fd55_0 : FldIs Try.prog 55 0 0 := ⟨_, _, Try.underlying55, rfl, rfl, by kernel_rfl⟩
theorem fd55_1 : FldIs Try.prog 55 1 1 := ⟨_, _, Try.underlying55, rfl, rfl, by kernel_rfl⟩
theorem fd55_2 : FldIs Try.prog 55 2 393 := ⟨_, _, Try.underlying55, rfl, rfl, by kernel_rfl⟩
theorem fd55_3 : FldIs Try.prog 55 3 394 := ⟨_, _, Try.underlying55, rfl, rfl, by kernel_rfl⟩
theorem fd55_4 : FldIs Try.prog 55 4 395 := ⟨_, _, Try.underlying55, rfl, rfl, by kernel_rfl⟩
theorem fd60_0 : FldIs Try.prog 60 0 0 := ⟨_, _, Try.underlying60, rfl, rfl, by kernel_rfl⟩
theorem fd60_1 : FldIs Try.prog 60 1 1 := ⟨_, _, Try.underlying60, rfl, rfl, by kernel_rfl⟩
theorem fd60_2 : FldIs Try.prog 60 2 2 := ⟨_, _, Try.underlying60, rfl, rfl, by kernel_rfl⟩
theorem fd60_3 : FldIs Try.prog 60 3 3 := ⟨_, _, Try.underlying60, rfl, rfl, by kernel_rfl⟩
theorem fd60_4 : FldIs Try.prog 60 4 4 := ⟨_, _, Try.underlying60, rfl, rfl, by kernel_rfl⟩
theorem fd61_0 : FldIs Try.prog 61 0 0 := ⟨_, _, Try.underlying61, rfl, rfl, by kernel_rfl⟩
theorem fd61_1 : FldIs Try.prog 61 1 1 := ⟨_, _, Try.underlying61, rfl, rfl, by kernel_rfl⟩
theorem fd61_2 : FldIs Try.prog 61 2 2 := ⟨_, _, Try.underlying61, rfl, rfl, by kernel_rfl⟩
theorem fd61_3 : FldIs Try.prog 61 3 3 := ⟨_, _, Try.underlying61, rfl, rfl, by kernel_rfl⟩
theorem fd61_4 : FldIs Try.prog 61 4 4 := ⟨_, _, Try.underlying61, rfl, rfl, by kernel_rfl⟩
theorem fd74_0 : FldIs Try.prog 74 0 0 := ⟨_, _, Try.underlying74, rfl, rfl, by kernel_rfl⟩
theorem fd74_1 : FldIs Try.prog 74 1 1 := ⟨_, _, Try.underlying74, rfl, rfl, by kernel_rfl⟩
theorem fd74_2 : FldIs Try.prog 74 2 2 := ⟨_, _, Try.underlying74, rfl, rfl, by kernel_rfl⟩
theorem fd75_0 : FldIs Try.prog 75 0 0 := ⟨_, _, Try.underlying75, rfl, rfl, by kernel_rfl⟩
theorem fd75_1 : FldIs Try.prog 75 1 1 := ⟨_, _, Try.underlying75, rfl, rfl, by kernel_rfl⟩
theorem fd75_2 : FldIs Try.prog 75 2 2 := ⟨_, _, Try.underlying75, rfl, rfl, by kernel_rfl⟩
theorem fd82_0 : FldIs Try.prog 82 0 0 := ⟨_, _, Try.underlying82, rfl, rfl, by kernel_rfl⟩
theorem fd82_1 : FldIs Try.prog 82 1 1 := ⟨_, _, Try.underlying82, rfl, rfl, by kernel_rfl⟩
theorem fd82_2 : FldIs Try.prog 82 2 2 := ⟨_, _, Try.underlying82, rfl, rfl, by kernel_rfl⟩
theorem fd82_3 : FldIs Try.prog 82 3 3 := ⟨_, _, Try.underlying82, rfl, rfl, by kernel_rfl⟩
theorem fd83_0 : FldIs Try.prog 83 0 0 := ⟨_, _, Try.underlying83, rfl, rfl, by kernel_rfl⟩
theorem fd83_1 : FldIs Try.prog 83 1 1 := ⟨_, _, Try.underlying83, rfl, rfl, by kernel_rfl⟩
theorem fd83_2 : FldIs Try.prog 83 2 2 := ⟨_, _, Try.underlying83, rfl, rfl, by kernel_rfl⟩
theorem fd83_3 : FldIs Try.prog 83 3 3 := ⟨_, _, Try.underlying83, rfl, rfl, by kernel_rfl⟩
theorem fd94_0 : FldIs Try.prog 94 0 0 := ⟨_, _, Try.underlying94, rfl, rfl, by kernel_rfl⟩
theorem fd94_1 : FldIs Try.prog 94 1 1 := ⟨_, _, Try.underlying94, rfl, rfl, by kernel_rfl⟩
theorem fd94_2 : FldIs Try.prog 94 2 2 := ⟨_, _, Try.underlying94, rfl, rfl, by kernel_rfl⟩
theorem fd94_3 : FldIs Try.prog 94 3 3 := ⟨_, _, Try.underlying94, rfl, rfl, by kernel_rfl⟩
theorem fd94_4 : FldIs Try.prog 94 4 4 := ⟨_, _, Try.underlying94, rfl, rfl, by kernel_rfl⟩
theorem fd94_5 : FldIs Try.prog 94 5 5 := ⟨_, _, Try.underlying94, rfl, rfl, by kernel_rfl⟩
theorem fd94_6 : FldIs Try.prog 94 6 6 := ⟨_, _, Try.underlying94, rfl, rfl, by kernel_rfl⟩
theorem fd94_7 : FldIs Try.prog 94 7 7 := ⟨_, _, Try.underlying94, rfl, rfl, by kernel_rfl⟩
theorem fd94_8 : FldIs Try.prog 94 8 8 := ⟨_, _, Try.underlying94, rfl, rfl, by kernel_rfl⟩
theorem fd94_9 : FldIs Try.prog 94 9 9 := ⟨_, _, Try.underlying94, rfl, rfl, by kernel_rfl⟩
theorem fd94_10 : FldIs Try.prog 94 10 10 := ⟨_, _, Try.underlying94, rfl, rfl, by kernel_rfl⟩
theorem fd95_0 : FldIs Try.prog 95 0 0 := ⟨_, _, Try.underlying95, rfl, rfl, by kernel_rfl⟩
theorem fd95_1 : FldIs Try.prog 95 1 1 := ⟨_, _, Try.underlying95, rfl, rfl, by kernel_rfl⟩
theorem fd95_2 : FldIs Try.prog 95 2 2 := ⟨_, _, Try.underlying95, rfl, rfl, by kernel_rfl⟩
theorem fd95_3 : FldIs Try.prog 95 3 3 := ⟨_, _, Try.underlying95, rfl, rfl, by kernel_rfl⟩
theorem fd95_4 : FldIs Try.prog 95 4 4 := ⟨_, _, Try.underlying95, rfl, rfl, by kernel_rfl⟩
theorem fd95_5 : FldIs Try.prog 95 5 5 := ⟨_, _, Try.underlying95, rfl, rfl, by kernel_rfl⟩
theorem fd95_6 : FldIs Try.prog 95 6 6 := ⟨_, _, Try.underlying95, rfl, rfl, by kernel_rfl⟩
theorem fd95_7 : FldIs Try.prog 95 7 7 := ⟨_, _, Try.underlying95, rfl, rfl, by kernel_rfl⟩
theorem fd95_8 : FldIs Try.prog 95 8 8 := ⟨_, _, Try.underlying95, rfl, rfl, by kernel_rfl⟩
theorem fd95_9 : FldIs Try.prog 95 9 9 := ⟨_, _, Try.underlying95, rfl, rfl, by kernel_rfl⟩
theorem fd95_10 : FldIs Try.prog 95 10 10 := ⟨_, _, Try.underlying95, rfl, rfl, by kernel_rfl⟩
theorem ar45 : ArrIs Try.prog 45 2 3 1 := ⟨Try.underlying45, by kernel_rfl⟩
theorem ar53 : ArrIs Try.prog 53 392 5 1 := ⟨Try.underlying53, by kernel_rfl⟩
theorem ar84 : ArrIs Try.prog 84 0 16 1 := ⟨Try.underlying84, by kernel_rfl⟩
theorem si22 : SliIs Try.prog 22 5 1 := ⟨Try.underlying22, by kernel_rfl⟩
theorem si23 : SliIs Try.prog 23 32 7 := ⟨Try.underlying23, by kernel_rfl⟩
theorem si43 : SliIs Try.prog 43 45 2 := ⟨Try.underlying43, by kernel_rfl⟩
theorem si47 : SliIs Try.prog 47 55 396 := ⟨Try.underlying47, by kernel_rfl⟩
theorem si50 : SliIs Try.prog 50 61 5 := ⟨Try.underlying50, by kernel_rfl⟩
theorem co3 : CallOk Try.prog 3 := ⟨_, Try.func3, rfl, rfl⟩
theorem co4 : CallOk Try.prog 4 := ⟨_, Try.func4, rfl, rfl⟩
theorem co5 : CallOk Try.prog 5 := ⟨_, Try.func5, rfl, rfl⟩
theorem co6 : CallOk Try.prog 6 := ⟨_, Try.func6, rfl, rfl⟩
theorem co7 : CallOk Try.prog 7 := ⟨_, Try.func7, rfl, rfl⟩
theorem co8 : CallOk Try.prog 8 := ⟨_, Try.func8, rfl, rfl⟩
theorem co9 : CallOk Try.prog 9 := ⟨_, Try.func9, rfl, rfl⟩
theorem co10 : CallOk Try.prog 10 := ⟨_, Try.func10, rfl, rfl⟩
theorem co11 : CallOk Try.prog 11 := ⟨_, Try.func11, rfl, rfl⟩
theorem co12 : CallOk Try.prog 12 := ⟨_, Try.func12, rfl, rfl⟩
theorem co13 : CallOk Try.prog 13 := ⟨_, Try.func13, rfl, rfl⟩
theorem co14 : CallOk Try.prog 14 := ⟨_, Try.func14, rfl, rfl⟩
theorem co15 : CallOk Try.prog 15 := ⟨_, Try.func15, rfl, rfl⟩
theorem co16 : CallOk Try.prog 16 := ⟨_, Try.func16, rfl, rfl⟩
theorem co17 : CallOk Try.prog 17 := ⟨_, Try.func17, rfl, rfl⟩
theorem co18 : CallOk Try.prog 18 := ⟨_, Try.func18, rfl, rfl⟩
theorem co19 : CallOk Try.prog 19 := ⟨_, Try.func19, rfl, rfl⟩
theorem co20 : CallOk Try.prog 20 := ⟨_, Try.func20, rfl, rfl⟩
theorem co21 : CallOk Try.prog 21 := ⟨_, Try.func21, rfl, rfl⟩
theorem co22 : CallOk Try.prog 22 := ⟨_, Try.func22, rfl, rfl⟩
theorem co23 : CallOk Try.prog 23 := ⟨_, Try.func23, rfl, rfl⟩
theorem co24 : CallOk Try.prog 24 := ⟨_, Try.func24, rfl, rfl⟩
theorem co25 : CallOk Try.prog 25 := ⟨_, Try.func25, rfl, rfl⟩
theorem co26 : CallOk Try.prog 26 := ⟨_, Try.func26, rfl, rfl⟩
theorem co27 : CallOk Try.prog 27 := ⟨_, Try.func27, rfl, rfl⟩
theorem co28 : CallOk Try.prog 28 := ⟨_, Try.func28, rfl, rfl⟩
theorem co29 : CallOk Try.prog 29 := ⟨_, Try.func29, rfl, rfl⟩
theorem co30 : CallOk Try.prog 30 := ⟨_, Try.func30, rfl, rfl⟩
theorem co31 : CallOk Try.prog 31 := ⟨_, Try.func31, rfl, rfl⟩
theorem co32 : CallOk Try.prog 32 := ⟨_, Try.func32, rfl, rfl⟩
theorem co33 : CallOk Try.prog 33 := ⟨_, Try.func33, rfl, rfl⟩
theorem co34 : CallOk Try.prog 34 := ⟨_, Try.func34, rfl, rfl⟩

end Go.Proofs.Ytpgnklmmjdkhiaa

/-
  slices.Delete within a row.
-/
namespace Go.Proofs.Ytpgnklmmjdkhiaa
open Go.RowKit
set_option maxRecDepth 100000
set_option maxHeartbeats 4000000
def delA (cs : List Value) (i j n s : Nat) : List Value := cs.take (i * s) ++ (cs.drop (j * s)).take ((n - j) * s) ++ cs.drop (i * s + ((cs.drop (j * s)).take ((n - j) * s)).length)
def delB (cs : List Value) (i j n s : Nat) (z : Array Value) : List Value := (delA cs i j n s).take ((i + (n - j)) * s) ++ (Builtin.zeroCells z (n - (i + (n - j)))).toList ++ (delA cs i j n s).drop ((i + (n - j)) * s + (n - (i + (n - j))) * s)
theorem del_news {w : World} {g c j n s q : Nat} {cs : List Value} {e : TypeId} {u : Value} (hb : Blk w g cs e) (hjn : j ≤ n) (hnc : n ≤ c) (hq : ((cs.drop (j * s)).take ((n - j) * s))[q]? = some u) : w.cell? ⟨g, (if c = j then 0 else j * s) + q, none⟩ = some u := by
  by_cases e : c = j
  · have h0 : n - j = 0 := by omega
    rw [h0, Nat.zero_mul] at hq; simp at hq
  · rw [if_neg e, hb.cell]
    rw [List.getElem?_take] at hq
    split at hq
    · rw [List.getElem?_drop] at hq; exact hq
    · cases hq
theorem del_blk {w : World} {g i j n c : Nat} {cs : List Value} (hb : Blk w g cs 61) (hij : i < j) (hjn : j ≤ n) (hnc : n ≤ c) (hcl : cs.length = c * 5) (hone : ∀ u ∈ (cs.drop (j * 5)).take ((n - j) * 5), u.oneCell' = true) :
    Calls Try.prog 24 #[sl g 0 n c, iw (i : Int), iw (j : Int)] w fun e w' => e = .returned (sl g 0 (i + (n - j)) c) ∧ Blk w' g (delB cs i j n 5 (Value.agg #[iw 0, iw 0, iw 0, iw 0, bo false]).cells) 61 ∧ Only (fun b => b = g) w w' := by
  refine calls_sc (l0 := [rBlk g cs 61]) (args := [sl g 0 n c, iw (i : Int), iw (j : Int)]) (fun b => b = g) Try.func24 rfl 33 Try.ntmps24 (le_b rfl) ⟨⟨fun q hq => by simp at hq; subst hq; exact hb, List.pairwise_singleton _ _⟩, Only.refl _ _⟩ ?_
  show SC _ _ _ _ [(0, sl g 0 n c), (1, iw (i : Int)), (2, iw (j : Int))] [rBlk g cs 61]
  refine SC.seq ?_
  refine SC.region ?_
  refine SL.ru rfl rfl (lt_b rfl) (ru_assign rfl rfl) ?_
  refine SL.nil ?_
  refine SC.of_SE ?_
  refine SC.norm [(0, sl g 0 n c), (1, iw (i : Int)), (2, iw (j : Int)), (6, Value.slice none 0 0)] [rBlk g cs 61] ⟨rfl, rfl, rfl, rfl, trivial⟩ rfl ?_
  refine SC.seq ?_
  refine SC.region ?_
  refine SL.ru rfl rfl (lt_b rfl) (ru_move rfl rfl) ?_
  refine SL.ru rfl rfl (lt_b rfl) (ru_move rfl rfl) ?_
  refine SL.ru rfl rfl (lt_b rfl) (ru_move rfl rfl) ?_
  refine SL.ru rfl rfl (lt_b rfl) (ru_move rfl rfl) ?_
  refine SL.ru rfl rfl (lt_b rfl) (ru_len Try.underlying50 rfl rfl) ?_
  refine SL.ru rfl rfl (lt_b rfl) (ru_sliceV (l0 := i) (h0 := j) (m0 := n) (v := Value.slice (if n = i then some (⟨g, 0, none⟩ : Addr) else (some (⟨g, 0, none⟩ : Addr)).map (·.add (i * 5))) (j - i) (n - i)) rfl si50 rfl rfl rfl rfl rfl (by simp) (by omega) (by omega) (by omega)) ?_
  refine SL.nil ?_
  refine SC.of_SE ?_
  refine SC.norm [(0, sl g 0 n c), (1, iw (i : Int)), (2, iw (j : Int)), (6, Value.slice none 0 0)] [rBlk g cs 61] ⟨rfl, rfl, rfl, rfl, trivial⟩ rfl ?_
  refine SC.seq ?_
  refine SC.seq ?_
  refine SC.region ?_
  refine SL.ru rfl rfl (lt_b rfl) (ru_move rfl rfl) ?_
  refine SL.ru rfl rfl (lt_b rfl) (ru_move rfl rfl) ?_
  refine SL.ru rfl rfl (lt_b rfl) (ru_eq (b := (((i : Int) : Int) == (j : Int))) rfl rfl rfl rfl) ?_
  refine SL.nil ?_
  refine SC.of_SE ?_
  refine SC.norm [(0, sl g 0 n c), (1, iw (i : Int)), (2, iw (j : Int)), (6, Value.slice none 0 0), (16, bo (((i : Int) : Int) == (j : Int)))] [rBlk g cs 61] ⟨rfl, rfl, rfl, rfl, rfl, trivial⟩ rfl ?_
  refine SC.no (show some (Value.bool (((i : Int) : Int) == (j : Int))) = some (Value.bool false) from congrArg (fun x => some (Value.bool x)) (beq_eq_false_iff_ne.2 (by omega))) ?_
  refine SC.skip ?_
  refine SC.of_SE ?_
  refine SC.norm [(0, sl g 0 n c), (1, iw (i : Int)), (2, iw (j : Int)), (6, Value.slice none 0 0)] [rBlk g cs 61] ⟨rfl, rfl, rfl, rfl, trivial⟩ rfl ?_
  refine SC.seq ?_
  refine SC.region ?_
  refine SL.ru rfl rfl (lt_b rfl) (ru_move rfl rfl) ?_
  refine SL.ru rfl rfl (lt_b rfl) (ru_len Try.underlying50 rfl rfl) ?_
  refine SL.ru rfl rfl (lt_b rfl) (ru_assign rfl rfl) ?_
  refine SL.nil ?_
  refine SC.of_SE ?_
  refine SC.norm [(0, sl g 0 n c), (1, iw (i : Int)), (2, iw (j : Int)), (6, Value.slice none 0 0), (7, iw (n : Int))] [rBlk g cs 61] ⟨rfl, rfl, rfl, rfl, rfl, trivial⟩ rfl ?_
  refine SC.seq ?_
  refine SC.region_tail 6 (by kernel_rfl) (by kernel_rfl) ?_
  refine SQ.ru rfl rfl (lt_b rfl) (ru_move rfl rfl) ?_
  refine SQ.ru rfl rfl (lt_b rfl) (ru_move rfl rfl) ?_
  refine SQ.ru rfl rfl (lt_b rfl) (ru_sliceV (l0 := 0) (h0 := i) (m0 := c) (v := sl g 0 i c) (by rw [if_neg (by omega)]; rfl) si50 rfl rfl rfl rfl rfl (by simp) (by omega) (by omega) (by omega)) ?_
  refine SQ.ru rfl rfl (lt_b rfl) (ru_move rfl rfl) ?_
  refine SQ.ru rfl rfl (lt_b rfl) (ru_move rfl rfl) ?_
  refine SQ.ru rfl rfl (lt_b rfl) (ru_sliceV (l0 := j) (h0 := n) (m0 := c) (v := Value.slice (some ⟨g, (if c = j then 0 else j * 5), none⟩) (n - j) (c - j)) (by split; rfl; rw [Option.map_some, add_at, Nat.zero_add]) si50 rfl rfl rfl rfl rfl (by simp) (by omega) (by omega) (by omega)) ?_
  refine SQ.nilL ?_
  refine SL.appendB (ri := 0) (size := 5) (news := (cs.drop (j * 5)).take ((n - j) * 5)) rfl rfl (lt_b rfl) rfl Try.underlying50 (by kernel_rfl) rfl rfl rfl (by simp; omega) (fun w hI q u hq => del_news (hI.1.get (i := 0) rfl) hjn hnc hq) hone (by omega) (by simp; omega) (.inl rfl) ?_
  refine SL.ru rfl rfl (lt_b rfl) (ru_assign rfl rfl) ?_
  refine SL.nil ?_
  refine SC.of_SE ?_
  refine SC.norm [(0, sl g 0 (i + (n - j)) c), (6, Value.slice none 0 0), (7, iw (n : Int))] [rBlk g (delA cs i j n 5) 61] ⟨rfl, rfl, rfl, trivial⟩ rfl ?_
  refine SC.seq ?_
  refine SC.region ?_
  refine SL.ru rfl rfl (lt_b rfl) (ru_move rfl rfl) ?_
  refine SL.ru rfl rfl (lt_b rfl) (ru_move rfl rfl) ?_
  refine SL.ru rfl rfl (lt_b rfl) (ru_len Try.underlying50 rfl rfl) ?_
  refine SL.ru rfl rfl (lt_b rfl) (ru_move rfl rfl) ?_
  refine SL.ru rfl rfl (lt_b rfl) (ru_sliceV (l0 := i + (n - j)) (h0 := n) (m0 := c) (v := Value.slice (some ⟨g, (i + (n - j)) * 5, none⟩) (n - (i + (n - j))) (c - (i + (n - j)))) (by rw [if_neg (by omega), Option.map_some, add_at, Nat.zero_add]) si50 rfl rfl rfl rfl rfl (by simp) (by omega) (by omega) (by omega)) ?_
  refine SL.clearB (ri := 0) (size := 5) (z := Value.agg #[iw 0, iw 0, iw 0, iw 0, bo false]) rfl rfl rfl Try.underlying50 (by kernel_rfl) rfl (by decide) rfl (by omega) rfl (by unfold delA; simp; omega) (.inl rfl) ?_
  refine SL.nil ?_
  refine SC.of_SE ?_
  refine SC.norm [(0, sl g 0 (i + (n - j)) c), (6, Value.slice none 0 0)] [rBlk g (delB cs i j n 5 (Value.agg #[iw 0, iw 0, iw 0, iw 0, bo false]).cells) 61] ⟨rfl, rfl, trivial⟩ rfl ?_
  refine SC.seq ?_
  refine SC.region ?_
  refine SL.ru rfl rfl (lt_b rfl) (ru_move rfl rfl) ?_
  refine SL.ru rfl rfl (lt_b rfl) (ru_assign rfl rfl) ?_
  refine SL.nil ?_
  refine SC.of_SE ?_
  refine SC.norm [(6, sl g 0 (i + (n - j)) c)] [rBlk g (delB cs i j n 5 (Value.agg #[iw 0, iw 0, iw 0, iw 0, bo false]).cells) 61] ⟨rfl, trivial⟩ rfl ?_
  refine SC.ret ?_
  refine SE.res (.inl rfl) (res1 Try.results24 rfl) fun w1 hI => ⟨rfl, hI.1.get (i := 0) rfl, hI.2⟩

theorem del_same {w : World} {q : Option Addr} {i n c : Nat} (hin : i ≤ n) (hnc : n ≤ c) : Calls Try.prog 24 #[.slice q n c, iw (i : Int), iw (i : Int)] w fun e w' => e = .returned (.slice q n c) ∧ Only (fun _ => False) w w' := by
  refine calls_sc (l0 := []) (args := [.slice q n c, iw (i : Int), iw (i : Int)]) (fun _ => False) Try.func24 rfl 33 Try.ntmps24 (le_b rfl) ⟨⟨by simp, List.Pairwise.nil⟩, Only.refl _ _⟩ ?_
  show SC _ _ _ _ [(0, .slice q n c), (1, iw (i : Int)), (2, iw (i : Int))] []
  refine SC.seq ?_
  refine SC.region ?_
  refine SL.ru rfl rfl (lt_b rfl) (ru_assign rfl rfl) ?_
  refine SL.nil ?_
  refine SC.of_SE ?_
  refine SC.norm [(0, Value.slice q n c), (1, iw (i : Int)), (2, iw (i : Int)), (6, Value.slice none 0 0)] [] ⟨rfl, rfl, rfl, rfl, trivial⟩ rfl ?_
  refine SC.seq ?_
  refine SC.region ?_
  refine SL.ru rfl rfl (lt_b rfl) (ru_move rfl rfl) ?_
  refine SL.ru rfl rfl (lt_b rfl) (ru_move rfl rfl) ?_
  refine SL.ru rfl rfl (lt_b rfl) (ru_move rfl rfl) ?_
  refine SL.ru rfl rfl (lt_b rfl) (ru_move rfl rfl) ?_
  refine SL.ru rfl rfl (lt_b rfl) (ru_len Try.underlying50 rfl rfl) ?_
  refine SL.ru rfl rfl (lt_b rfl) (ru_sliceV (l0 := i) (h0 := i) (m0 := n) (v := Value.slice (if n = i then q else q.map (·.add (i * 5))) (i - i) (n - i)) rfl si50 rfl rfl rfl rfl rfl (by simp) (by omega) (by omega) (by omega)) ?_
  refine SL.nil ?_
  refine SC.of_SE ?_
  refine SC.norm [(0, Value.slice q n c), (1, iw (i : Int)), (2, iw (i : Int)), (6, Value.slice none 0 0)] [] ⟨rfl, rfl, rfl, rfl, trivial⟩ rfl ?_
  refine SC.seq ?_
  refine SC.seq ?_
  refine SC.region ?_
  refine SL.ru rfl rfl (lt_b rfl) (ru_move rfl rfl) ?_
  refine SL.ru rfl rfl (lt_b rfl) (ru_move rfl rfl) ?_
  refine SL.ru rfl rfl (lt_b rfl) (ru_eq (b := true) rfl rfl rfl (by simp)) ?_
  refine SL.nil ?_
  refine SC.of_SE ?_
  refine SC.norm [(0, Value.slice q n c), (1, iw (i : Int)), (2, iw (i : Int)), (6, Value.slice none 0 0), (16, bo true)] [] ⟨rfl, rfl, rfl, rfl, rfl, trivial⟩ rfl ?_
  refine SC.yes rfl ?_
  refine SC.seq ?_
  refine SC.region ?_
  refine SL.ru rfl rfl (lt_b rfl) (ru_move rfl rfl) ?_
  refine SL.ru rfl rfl (lt_b rfl) (ru_assign rfl rfl) ?_
  refine SL.nil ?_
  refine SC.of_SE ?_
  refine SC.norm [(0, Value.slice q n c), (1, iw (i : Int)), (2, iw (i : Int)), (6, Value.slice q n c)] [] ⟨rfl, rfl, rfl, rfl, trivial⟩ rfl ?_
  refine SC.ret ?_
  refine SE.passr ?_
  refine SE.res (.inl rfl) (res1 Try.results24 rfl) fun w1 hI => ⟨rfl, hI.2⟩

theorem del_any {w : World} {q : Option Addr} {i j n c : Nat} {rs : List (List Value)} (h : RowsN w (.slice q n c) rs 61 5) (hone : ∀ r ∈ rs, ∀ u ∈ r, u.oneCell' = true) (hij : i < j) (hjn : j ≤ n) :
    Calls Try.prog 24 #[.slice q n c, iw (i : Int), iw (j : Int)] w fun e w' => e = .returned (.slice q (i + (n - j)) c) ∧ RowsN w' (.slice q (i + (n - j)) c) (rs.take i ++ rs.drop j) 61 5 ∧ Only (fun b => (Value.slice q n c).ownBlock = some b) w w' := by
  obtain ⟨rfl, h2⟩ := rowN_form h
  obtain ⟨g, cur, rfl, h3, h4, h5, h6, h7⟩ := h2 (by omega)
  have hb : Blk w g cur.toList 61 := by unfold Blk; simpa using h3
  have hfl := flat_len h.1
  have hcl : cur.toList.length = c * 5 := by rw [Array.length_toList]; exact h6
  have etd : ∀ a b : Nat, b ≤ rs.length → (cur.toList.drop (a * 5)).take ((b - a) * 5) = (rs.flatten.drop (a * 5)).take ((b - a) * 5) := by
    intro a b hab
    rw [← h7, List.drop_take, List.take_take]
    congr 1
    omega
  have hflat : ∀ (rs : List (List Value)), (∀ r ∈ rs, r.length = 5) → ∀ k, rs.flatten.take (k * 5) = (rs.take k).flatten ∧ rs.flatten.drop (k * 5) = (rs.drop k).flatten := by
    intro rs hr
    induction rs with
    | nil => intro k; simp
    | cons r rs ih =>
      intro k
      have hr0 := hr r (by simp)
      cases k with
      | zero => simp
      | succ k =>
        have := ih (fun r h => hr r (by simp [h])) k
        rw [List.flatten_cons, List.take_append, List.drop_append, List.take_succ_cons, List.drop_succ_cons, List.flatten_cons, show (k + 1) * 5 - r.length = k * 5 by omega, this.1, this.2, List.take_of_length_le (by omega), List.drop_eq_nil_of_le (by omega)]
        exact ⟨rfl, by simp⟩
  refine (del_blk hb hij hjn h4 hcl (fun u hu => ?_)).mono ?_
  · rw [etd j rs.length (Nat.le_refl _)] at hu
    have hu' := List.mem_of_mem_drop (List.mem_of_mem_take hu)
    obtain ⟨r, hr, hur⟩ := List.mem_flatten.1 hu'
    exact hone r hr u hur
  · rintro e w' ⟨rfl, k1, k2⟩
    have hlen : (rs.take i ++ rs.drop j).length = i + (rs.length - j) := by simp; omega
    refine ⟨rfl, ⟨fun r hr => ?_, ?_, .inr ⟨g, c, (delB cur.toList i j rs.length 5 _).toArray, by rw [hlen], Nat.zero_le _, k1, by omega, h5, ?_, ?_⟩⟩, k2.mono (fun b hb => .inl (by rw [hb]; rfl))⟩
    · rcases List.mem_append.1 hr with hr | hr
      · exact h.1 r (List.mem_of_mem_take hr)
      · exact h.1 r (List.mem_of_mem_drop hr)
    · exact flat_len (fun r hr => by
        rcases List.mem_append.1 hr with hr | hr
        · exact h.1 r (List.mem_of_mem_take hr)
        · exact h.1 r (List.mem_of_mem_drop hr))
    · unfold delB delA
      simp [size_zeroCells, Value.cells]
      omega
    · rw [hlen, List.flatten_append, ← (hflat rs h.1 i).1, ← (hflat rs h.1 j).2]
      have hM : (cur.toList.drop (j * 5)).take ((rs.length - j) * 5) = rs.flatten.drop (j * 5) := by
        rw [etd j rs.length (Nat.le_refl _)]; exact List.take_of_length_le (by rw [List.length_drop, hfl]; omega)
      have hT : cur.toList.take (i * 5) = rs.flatten.take (i * 5) := by
        rw [← h7, List.take_take]; congr 1; omega
      have hl1 : (rs.flatten.take (i * 5) ++ rs.flatten.drop (j * 5)).length = (i + (rs.length - j)) * 5 := by
        rw [List.length_append, List.length_take, List.length_drop, hfl]; omega
      have hA : (delA cur.toList i j rs.length 5).take ((i + (rs.length - j)) * 5) = rs.flatten.take (i * 5) ++ rs.flatten.drop (j * 5) := by
        unfold delA
        rw [hM, hT]
        exact List.take_left' hl1
      unfold delB
      rw [hA, List.append_assoc]
      exact List.take_left' hl1

end Go.Proofs.Ytpgnklmmjdkhiaa

/-
  How a pool lies in memory, and what its calls do to the buffers: each call's answer, for every input.
-/
namespace Go.Proofs.Ytpgnklmmjdkhiaa
open Go.RowKit

/-- A buffer, as the document has it. -/
structure Bf where
  refs : Nat
  head : List UInt8
  data : List UInt8

/-- A buffer's 396 cells, from o on. -/
def BufAt (c : List Value) (o : Nat) (b : Bf) : Prop :=
  ∃ (mem : List UInt8) (fr : Nat), mem.length = 392 ∧ c[o]? = some (.int .i64 (b.refs : Int)) ∧ (∀ j (hj : j < mem.length), c[o + 1 + j]? = some (bv mem[j])) ∧
    c[o + 393]? = some (.int .i64 (b.head.length : Int)) ∧ c[o + 394]? = some (.int .i64 (b.data.length : Int)) ∧ c[o + 395]? = some (.int .i64 (fr : Int)) ∧
    b.head = mem.take b.head.length ∧ b.data = (mem.drop (104 + fr)).take b.data.length ∧ b.head.length ≤ 104 ∧ fr + b.data.length ≤ 288

theorem BufAt.frame {c c' : List Value} {o : Nat} {b : Bf} (h : BufAt c o b) (hc : ∀ j, j < 396 → c'[o + j]? = c[o + j]?) : BufAt c' o b := by
  obtain ⟨mem, fr, hm, h0, h1, h2, h3, h4, h5⟩ := h
  refine ⟨mem, fr, hm, ?_, ?_, ?_, ?_, ?_, h5⟩
  · have := hc 0 (by omega); simp only [Nat.add_zero] at this; rw [this]; exact h0
  · intro j hj; have := hc (1 + j) (by omega); rw [← Nat.add_assoc] at this; rw [this]; exact h1 j hj
  · rw [hc 393 (by omega)]; exact h2
  · rw [hc 394 (by omega)]; exact h3
  · rw [hc 395 (by omega)]; exact h4

def nfree (L : List Bf) : Nat := L.countP (fun b => b.refs == 0)

/-- The pool at p, its buffers in the block ab. -/
def PoolAt (w : World) (p ab : Nat) (L : List Bf) : Prop :=
  Blk w p [.slice (some ⟨ab, 0, none⟩) L.length L.length, .int .i64 (nfree L : Int)] 49 ∧ p ≠ ab ∧ 1 ≤ L.length ∧ L.length ≤ 4096 ∧
  ∃ c, Blk w ab c 55 ∧ c.length = L.length * 396 ∧ ∀ k b, L[k]? = some b → BufAt c (k * 396) b

theorem PoolAt.frame {w w' : World} {p ab : Nat} {L : List Bf} (h : PoolAt w p ab L) {S : Nat → Prop} (k : Only S w w') (h1 : ¬ S p) (h2 : ¬ S ab) : PoolAt w' p ab L := by
  obtain ⟨hp, hne, a1, a2, c, hc, hr⟩ := h
  exact ⟨k.blk hp h1, hne, a1, a2, c, k.blk hc h2, hr⟩

theorem PoolAt.alloc {w : World} {p ab : Nat} {L : List Bf} (h : PoolAt w p ab L) (o : Obj) : PoolAt (w.alloc o) p ab L := by
  obtain ⟨hp, hne, a1, a2, c, hc, hr⟩ := h
  exact ⟨hp.alloc o, hne, a1, a2, c, hc.alloc o, hr⟩

theorem PoolAt.drew {w : World} {p ab : Nat} {L : List Bf} (h : PoolAt w p ab L) : PoolAt w.drew p ab L := h
theorem PoolAt.lt {w : World} {p ab : Nat} {L : List Bf} (h : PoolAt w p ab L) : p < w.heap.size ∧ ab < w.heap.size := by
  obtain ⟨hp, hne, a1, a2, c, hc, hr⟩ := h
  exact ⟨hp.lt, hc.lt⟩

/-- The buffer k is turned. -/
theorem bufs_set {L : List Bf} {c c' : List Value} {k : Nat} {b1 : Bf} (hb : ∀ k b, L[k]? = some b → BufAt c (k * 396) b)
    (hout : ∀ o, (o < k * 396 ∨ k * 396 + 396 ≤ o) → c'[o]? = c[o]?) (hin : BufAt c' (k * 396) b1) :
    ∀ j b, (L.set k b1)[j]? = some b → BufAt c' (j * 396) b := by
  intro j b hj
  by_cases e : k = j
  · subst e
    rw [List.getElem?_set] at hj
    simp at hj
    obtain ⟨_, rfl⟩ := hj
    exact hin
  · rw [List.getElem?_set_ne e] at hj
    exact (hb j b hj).frame (fun i hi => hout _ (by omega))

theorem nfree_set {L : List Bf} {k : Nat} {b b1 : Bf} (hk : L[k]? = some b) :
    nfree (L.set k b1) + (if b.refs = 0 then 1 else 0) = nfree L + (if b1.refs = 0 then 1 else 0) := by
  unfold nfree
  induction L generalizing k with
  | nil => simp at hk
  | cons x L ih =>
    cases k with
    | zero =>
      simp at hk; subst hk
      simp only [List.set_cons_zero, List.countP_cons]
      simp only [beq_iff_eq]; omega
    | succ k =>
      simp only [List.getElem?_cons_succ] at hk
      simp only [List.set_cons_succ, List.countP_cons]
      have := ih hk
      omega

theorem nfree_le (L : List Bf) : nfree L ≤ L.length := List.countP_le_length

/-- The cells that a walk reads. -/
theorem PoolAt.cell0 {w : World} {p ab : Nat} {L : List Bf} (h : PoolAt w p ab L) : w.cell? ⟨p, 0, none⟩ = some (.slice (some ⟨ab, 0, none⟩) L.length L.length) := by
  rw [h.1.cell]; rfl
theorem PoolAt.cell1 {w : World} {p ab : Nat} {L : List Bf} (h : PoolAt w p ab L) : w.cell? ⟨p, 1, none⟩ = some (.int .i64 (nfree L : Int)) := by
  rw [h.1.cell]; rfl
theorem PoolAt.cellr {w : World} {p ab : Nat} {L : List Bf} (h : PoolAt w p ab L) {k : Nat} {b : Bf} (hk : L[k]? = some b) : w.cell? ⟨ab, k * 396, none⟩ = some (.int .i64 (b.refs : Int)) := by
  obtain ⟨hp, hne, a1, a2, c, hc, hl, hr⟩ := h
  obtain ⟨mem, fr, hm, h0, _⟩ := hr k b hk
  rw [hc.cell]; exact h0

/-- Is it in use? -/
def Used (L : List Bf) (id : Int) : Prop := ∃ (k : Nat) (b : Bf), id = (k : Int) ∧ L[k]? = some b ∧ 0 < b.refs

theorem not_used {L : List Bf} {id : Int} (h : ¬ Used L id) : id < 0 ∨ (L.length : Int) ≤ id ∨ ∃ (k : Nat) (b : Bf), id = (k : Int) ∧ k < L.length ∧ L[k]? = some b ∧ b.refs = 0 := by
  by_cases h0 : id < 0
  · exact .inl h0
  · by_cases h1 : (L.length : Int) ≤ id
    · exact .inr (.inl h1)
    · obtain ⟨k, rfl⟩ := Int.eq_ofNat_of_zero_le (Int.not_lt.1 h0)
      have hk : k < L.length := by omega
      refine .inr (.inr ⟨k, L[k], rfl, hk, List.getElem?_eq_getElem hk, ?_⟩)
      by_cases hr : L[k].refs = 0
      · exact hr
      · exact absurd ⟨k, L[k], rfl, List.getElem?_eq_getElem hk, by omega⟩ h

set_option maxRecDepth 100000
set_option maxHeartbeats 400000

theorem used_in {w : World} {p ab : Nat} {L : List Bf} (h : PoolAt w p ab L) {k : Nat} {b : Bf} (hk : L[k]? = some b) (hr : 0 < b.refs) :
    Calls Try.prog 28 #[.pointer (some ⟨p, 0, none⟩), .int .i64 (k : Int)] w fun e w' => e = .returned (.pointer (some ⟨ab, k * 396, none⟩)) ∧ w = w' := by
  have hp0 := h.cell0
  have hb0 := h.cellr hk
  have hkl : k < L.length := (List.getElem?_eq_some_iff.1 hk).1
  have hL := h.2.2.2.1
  have hr0 : ((b.refs : Int) == 0) = false := by simp; omega
  clear h hk
  go_enter Try.func28, Try.ntmps28
  go_wp2
  go_ret
  exact ⟨rfl, rfl⟩

theorem used_no {w : World} {p ab : Nat} {L : List Bf} (h : PoolAt w p ab L) {id : Int} (hn : ¬ Used L id) :
    Calls Try.prog 28 #[.pointer (some ⟨p, 0, none⟩), .int .i64 id] w fun e w' => e = .returned (.pointer none) ∧ w = w' := by
  have hp0 := h.cell0
  have hL := h.2.2.2.1
  rcases not_used hn with h0 | h1 | ⟨k, b, rfl, hkl, hk, hr⟩
  · clear h hn
    go_enter Try.func28, Try.ntmps28
    go_wp2
    go_ret
    exact ⟨rfl, rfl⟩
  · clear h hn
    have h0 : 0 ≤ id := by omega
    go_enter Try.func28, Try.ntmps28
    go_wp2
    go_ret
    exact ⟨rfl, rfl⟩
  · have hb0 := h.cellr hk
    rw [hr] at hb0
    clear h hn hk hr
    go_enter Try.func28, Try.ntmps28
    go_wp2
    go_ret
    exact ⟨rfl, rfl⟩

/-- own: none, shared, one's own. -/
theorem own_no {w : World} {p ab : Nat} {L : List Bf} (h : PoolAt w p ab L) {id : Int} (hn : ¬ Used L id) :
    Calls Try.prog 16 #[.pointer (some ⟨p, 0, none⟩), .int .i64 id] w fun e w' => e = .returned (.tuple #[.pointer none, .int .i64 7]) ∧ w = w' := by
  go_enter Try.func16, Try.ntmps16
  go_wp2_with (go_at_call 28; refine (used_no h hn).mono ?_; rintro e w' ⟨rfl, rfl⟩)
  go_ret2
  exact ⟨rfl, rfl⟩

theorem own_shared {w : World} {p ab : Nat} {L : List Bf} (h : PoolAt w p ab L) {k : Nat} {b : Bf} (hk : L[k]? = some b) (hr : 1 < b.refs) :
    Calls Try.prog 16 #[.pointer (some ⟨p, 0, none⟩), .int .i64 (k : Int)] w fun e w' => e = .returned (.tuple #[.pointer none, .int .i64 9]) ∧ w = w' := by
  have hb0 := h.cellr hk
  have hr1 : decide (1 < b.refs) = true := by simpa using hr
  have hr2 : (1 : Int) < (b.refs : Int) := by omega
  go_enter Try.func16, Try.ntmps16
  go_wp2_with (go_at_call 28; refine (used_in h hk (by omega)).mono ?_; rintro e w' ⟨rfl, rfl⟩)
  go_ret2
  exact ⟨rfl, rfl⟩

theorem own_in {w : World} {p ab : Nat} {L : List Bf} (h : PoolAt w p ab L) {k : Nat} {b : Bf} (hk : L[k]? = some b) (hr : b.refs = 1) :
    Calls Try.prog 16 #[.pointer (some ⟨p, 0, none⟩), .int .i64 (k : Int)] w fun e w' => e = .returned (.tuple #[.pointer (some ⟨ab, k * 396, none⟩), .int .i64 0]) ∧ w = w' := by
  have hb0 := h.cellr hk
  have hr' : 0 < b.refs := by omega
  rw [hr] at hb0
  clear hr
  go_enter Try.func16, Try.ntmps16
  go_wp2_with (go_at_call 28; refine (used_in h hk hr').mono ?_; rintro e w' ⟨rfl, rfl⟩)
  go_ret2
  exact ⟨rfl, rfl⟩

theorem left_any {w : World} {p ab : Nat} {L : List Bf} (h : PoolAt w p ab L) :
    Calls Try.prog 13 #[.pointer (some ⟨p, 0, none⟩)] w fun e w' => e = .returned (.int .i64 (nfree L : Int)) ∧ w = w' := by
  have hp0 := h.cell1
  go_enter Try.func13, Try.ntmps13
  go_wp2
  go_ret
  exact ⟨rfl, rfl⟩

/-- What a change of one buffer comes to. -/
theorem PoolAt.turn {w w' : World} {p ab : Nat} {L : List Bf} (h : PoolAt w p ab L) {k : Nat} {b1 : Bf} {c c' : List Value}
    (hc : Blk w ab c 55) (hp' : Blk w' p [.slice (some ⟨ab, 0, none⟩) L.length L.length, .int .i64 (nfree (L.set k b1) : Int)] 49)
    (hc' : Blk w' ab c' 55) (hl : c'.length = c.length) (hout : ∀ o, (o < k * 396 ∨ k * 396 + 396 ≤ o) → c'[o]? = c[o]?) (hin : BufAt c' (k * 396) b1) : PoolAt w' p ab (L.set k b1) := by
  obtain ⟨hp, hne, a1, a2, c0, hc0, hl0, hr⟩ := h
  have e := hc.uniq hc0
  subst e
  refine ⟨by simpa using hp', hne, by simpa using a1, by simpa using a2, c', hc', by simp; omega, bufs_set hr hout hin⟩

/-- A count is turned. -/
theorem BufAt.refs {c : List Value} {o : Nat} {b : Bf} (h : BufAt c o b) (ho : o < c.length) {x : Int} {n : Nat} (hx : x = (n : Int)) : BufAt (c.set o (.int .i64 x)) o { b with refs := n } := by
  obtain ⟨mem, fr, hm, h0, h1, h2, h3, h4, h5⟩ := h
  refine ⟨mem, fr, hm, ?_, ?_, ?_, ?_, ?_, h5⟩
  · rw [List.getElem?_set_self ho, hx]
  · intro j hj; rw [set_ne_at (by omega)]; exact h1 j hj
  · rw [set_ne_at (by omega)]; exact h2
  · rw [set_ne_at (by omega)]; exact h3
  · rw [set_ne_at (by omega)]; exact h4

end Go.Proofs.Ytpgnklmmjdkhiaa

/-
  What the pool's calls that change a buffer do, for every input.
-/
namespace Go.Proofs.Ytpgnklmmjdkhiaa
open Go.RowKit
set_option maxRecDepth 100000
set_option maxHeartbeats 400000

theorem free_no {w : World} {p ab : Nat} {L : List Bf} (h : PoolAt w p ab L) {id : Int} (hn : ¬ Used L id) :
    Calls Try.prog 21 #[.pointer (some ⟨p, 0, none⟩), .int .i64 id] w fun e w' => e = .returned (.int .i64 7) ∧ w = w' := by
  go_enter Try.func21, Try.ntmps21
  go_wp2_with (go_at_call 28; refine (used_no h hn).mono ?_; rintro e w' ⟨rfl, rfl⟩)
  go_ret
  exact ⟨rfl, rfl⟩

theorem free_in {w : World} {p ab : Nat} {L : List Bf} (h : PoolAt w p ab L) {k : Nat} {b : Bf} (hk : L[k]? = some b) (hr : 0 < b.refs) (hm : b.refs < 1000000000000000) :
    Calls Try.prog 21 #[.pointer (some ⟨p, 0, none⟩), .int .i64 (k : Int)] w fun e w' => e = .returned (.int .i64 0) ∧ PoolAt w' p ab (L.set k { b with refs := b.refs - 1 }) ∧ Only (fun b => b = p ∨ b = ab) w w' := by
  have hb0 := h.cellr hk
  have hp1 := h.cell1
  obtain ⟨c, hc, hcl, hcb⟩ := h.2.2.2.2
  have hz := fun o => hc.fz o
  have hzp := fun o => h.1.fz o
  have hne : ¬ p = ab := h.2.1
  have hne' : ¬ ab = p := fun e => h.2.1 e.symm
  have hnf := nfree_le L
  have hL := h.2.2.2.1
  have hkl : k < L.length := (List.getElem?_eq_some_iff.1 hk).1
  have hU := used_in h hk hr
  have H := Lib.hid (And.intro h (And.intro hk (And.intro hc (And.intro hcl hcb))))
  clear hk hc hcl hcb h
  by_cases h1 : b.refs = 1
  · have H1 := Lib.hid h1
    have ht0 : ((b.refs : Int) - 1 == 0) = true := by simp; omega
    clear h1
    go_enter Try.func21, Try.ntmps21
    go_wp2_with (go_at_call 28; refine hU.mono ?_; rintro e w' ⟨rfl, rfl⟩)
    go_ret
    obtain ⟨h, hk, hc, hcl, hcb⟩ := H.out
    have h1 := H1.out
    refine ⟨rfl, h.turn hc ?_ ((hc.set _ _).set_ne hne _) (by simp) (fun o ho => set_ne_at (by omega)) ?_, Only.st (Only.st (Only.refl (fun b => b = p ∨ b = ab) _) (.inr rfl) _ _) (.inl rfl) _ _⟩
    · have e := nfree_set (b1 := { b with refs := b.refs - 1 }) hk
      rw [if_neg (by omega), if_pos (by simp; omega)] at e
      have e' : nfree (L.set k { b with refs := b.refs - 1 }) = nfree L + 1 := by omega
      rw [e']
      have := (h.1.set_ne (a := ⟨ab, k * 396, none⟩) hne' (.int .i64 ((b.refs : Int) - 1))).set 1 (.int .i64 ((nfree L : Int) + 1))
      simpa using this
    · exact (hcb k b hk).refs (by omega) (by omega)
  · have H1 := Lib.hid h1
    have ht0 : ((b.refs : Int) - 1 == 0) = false := by simp; omega
    clear h1
    go_enter Try.func21, Try.ntmps21
    go_wp2_with (go_at_call 28; refine hU.mono ?_; rintro e w' ⟨rfl, rfl⟩)
    go_ret
    obtain ⟨h, hk, hc, hcl, hcb⟩ := H.out
    have h1 := H1.out
    refine ⟨rfl, h.turn hc ?_ (hc.set _ _) (by simp) (fun o ho => set_ne_at (by omega)) ?_, Only.st (Only.refl (fun b => b = p ∨ b = ab) _) (.inr rfl) _ _⟩
    · have e := nfree_set (b1 := { b with refs := b.refs - 1 }) hk
      rw [if_neg (by omega), if_neg (by simp; omega)] at e
      have e' : nfree (L.set k { b with refs := b.refs - 1 }) = nfree L := by omega
      rw [e']
      exact h.1.set_ne hne' _
    · exact (hcb k b hk).refs (by omega) (by omega)

/-- What keeps a buffer from being changed. -/
def OwnErr (L : List Bf) (id : Int) (e : Int) : Prop := (¬ Used L id ∧ e = 7) ∨ ∃ (k : Nat) (b : Bf), id = (k : Int) ∧ L[k]? = some b ∧ 1 < b.refs ∧ e = 9

theorem own_cases (L : List Bf) (id : Int) : OwnErr L id 7 ∨ OwnErr L id 9 ∨ ∃ (k : Nat) (b : Bf), id = (k : Int) ∧ L[k]? = some b ∧ b.refs = 1 := by
  by_cases hu : Used L id
  · obtain ⟨k, b, h1, h2, h3⟩ := hu
    by_cases h : b.refs = 1
    · exact .inr (.inr ⟨k, b, h1, h2, h⟩)
    · exact .inr (.inl (.inr ⟨k, b, h1, h2, by omega, rfl⟩))
  · exact .inl (.inl ⟨hu, rfl⟩)

theorem OwnErr.ne {L : List Bf} {id e : Int} (h : OwnErr L id e) : (e != 0) = true := by
  rcases h with ⟨_, rfl⟩ | ⟨_, _, _, _, _, rfl⟩ <;> rfl

theorem own_err {w : World} {p ab : Nat} {L : List Bf} (h : PoolAt w p ab L) {id x : Int} (hn : OwnErr L id x) :
    Calls Try.prog 16 #[.pointer (some ⟨p, 0, none⟩), .int .i64 id] w fun e w' => e = .returned (.tuple #[.pointer none, .int .i64 x]) ∧ w = w' := by
  rcases hn with ⟨hn, rfl⟩ | ⟨k, b, rfl, hk, hr, rfl⟩
  · exact own_no h hn
  · exact own_shared h hk hr

theorem trim_err {w : World} {p ab : Nat} {L : List Bf} (h : PoolAt w p ab L) {id x : Int} (hn : OwnErr L id x) (f g : Int) :
    Calls Try.prog 23 #[.pointer (some ⟨p, 0, none⟩), .int .i64 id, .int .i64 f, .int .i64 g] w fun e w' => e = .returned (.int .i64 x) ∧ w = w' := by
  have hx := hn.ne
  go_enter Try.func23, Try.ntmps23
  go_wp2_with (go_at_call 16; refine (own_err h hn).mono ?_; rintro e w' ⟨rfl, rfl⟩)
  go_ret
  exact ⟨rfl, rfl⟩

theorem set_err {w : World} {p ab : Nat} {L : List Bf} (h : PoolAt w p ab L) {id x : Int} (hn : OwnErr L id x) (a : Option Addr) (n m : Nat) :
    Calls Try.prog 9 #[.pointer (some ⟨p, 0, none⟩), .int .i64 id, .slice a n m] w fun e w' => e = .returned (.int .i64 x) ∧ w = w' := by
  have hx := hn.ne
  go_enter Try.func9, Try.ntmps9
  go_wp2_with (go_at_call 16; refine (own_err h hn).mono ?_; rintro e w' ⟨rfl, rfl⟩)
  go_ret
  exact ⟨rfl, rfl⟩

theorem append_err {w : World} {p ab : Nat} {L : List Bf} (h : PoolAt w p ab L) {id x : Int} (hn : OwnErr L id x) (a : Option Addr) (n m : Nat) :
    Calls Try.prog 34 #[.pointer (some ⟨p, 0, none⟩), .int .i64 id, .slice a n m] w fun e w' => e = .returned (.int .i64 x) ∧ w = w' := by
  have hx := hn.ne
  go_enter Try.func34, Try.ntmps34
  go_wp2_with (go_at_call 16; refine (own_err h hn).mono ?_; rintro e w' ⟨rfl, rfl⟩)
  go_ret
  exact ⟨rfl, rfl⟩

/-- May so much be trimmed? -/
def MayTrim (b : Bf) (f g : Int) : Prop := 0 ≤ f ∧ 0 ≤ g ∧ f ≤ b.data.length ∧ g ≤ b.data.length - f

theorem trim_arg {w : World} {p ab : Nat} {L : List Bf} (h : PoolAt w p ab L) {k : Nat} {b : Bf} (hk : L[k]? = some b) (hr : b.refs = 1) {f g : Int} (hm : ¬ MayTrim b f g) :
    Calls Try.prog 23 #[.pointer (some ⟨p, 0, none⟩), .int .i64 (k : Int), .int .i64 f, .int .i64 g] w fun e w' => e = .returned (.int .i64 1) ∧ w = w' := by
  have hO := own_in h hk hr
  obtain ⟨c, hc, hcl, hcb⟩ := h.2.2.2.2
  obtain ⟨mem, fr, hmm, h0, h1, h2, h3, h4, h5, h6, h7, h8⟩ := hcb k b hk
  have hs : w.cell? ⟨ab, k * 396 + 394, none⟩ = some (.int .i64 (b.data.length : Int)) := by rw [hc.cell]; exact h3
  unfold MayTrim at hm
  generalize b.data.length = n at *
  clear h6 h5 h4 h3 h2 h1 h0 hcb hcl hc hk h hmm hr h7
  by_cases c0 : f < 0
  · go_enter Try.func23, Try.ntmps23
    go_wp2_with (go_at_call 16; refine hO.mono ?_; rintro e w' ⟨rfl, rfl⟩)
    go_ret
    exact ⟨rfl, rfl⟩
  have c0' : 0 ≤ f := by omega
  by_cases c1 : g < 0
  · clear hm
    go_enter Try.func23, Try.ntmps23
    go_wp2_with (go_at_call 16; refine hO.mono ?_; rintro e w' ⟨rfl, rfl⟩)
    go_ret
    exact ⟨rfl, rfl⟩
  have c1' : 0 ≤ g := by omega
  by_cases c2 : (n : Int) < f
  · clear hm
    go_enter Try.func23, Try.ntmps23
    go_wp2_with (go_at_call 16; refine hO.mono ?_; rintro e w' ⟨rfl, rfl⟩)
    go_ret
    exact ⟨rfl, rfl⟩
  have c2' : f ≤ (n : Int) := by omega
  have c3 : (n : Int) - f < g := by omega
  clear hm
  go_enter Try.func23, Try.ntmps23
  go_wp2_with (go_at_call 16; refine hO.mono ?_; rintro e w' ⟨rfl, rfl⟩)
  go_ret
  exact ⟨rfl, rfl⟩

theorem drop_take_cut {l : List UInt8} {a n f m : Nat} (h : m + f ≤ n) : (((l.drop a).take n).drop f).take m = (l.drop (a + f)).take m := by
  rw [List.drop_take, List.take_take, List.drop_drop, Nat.min_eq_left (by omega)]

theorem trim_in {w : World} {p ab : Nat} {L : List Bf} (h : PoolAt w p ab L) {k : Nat} {b : Bf} (hk : L[k]? = some b) (hr : b.refs = 1) {f g : Int} (hm : MayTrim b f g) :
    Calls Try.prog 23 #[.pointer (some ⟨p, 0, none⟩), .int .i64 (k : Int), .int .i64 f, .int .i64 g] w fun e w' => e = .returned (.int .i64 0) ∧
      PoolAt w' p ab (L.set k { b with data := (b.data.drop f.toNat).take (b.data.length - f.toNat - g.toNat) }) ∧ Only (fun b => b = ab) w w' := by
  have hO := own_in h hk hr
  obtain ⟨c, hc, hcl, hcb⟩ := h.2.2.2.2
  obtain ⟨mem, fr, hmm, h0, h1, h2, h3, h4, h5, h6, h7, h8⟩ := hcb k b hk
  have hs : w.cell? ⟨ab, k * 396 + 394, none⟩ = some (.int .i64 (b.data.length : Int)) := by rw [hc.cell]; exact h3
  have hf : w.cell? ⟨ab, k * 396 + 395, none⟩ = some (.int .i64 (fr : Int)) := by rw [hc.cell]; exact h4
  have hz := fun o => hc.fz o
  have hne' : ¬ ab = p := fun e => h.2.1 e.symm
  obtain ⟨m1, m2, m3, m4⟩ := hm
  obtain ⟨f, rfl⟩ := Int.eq_ofNat_of_zero_le m1
  obtain ⟨g, rfl⟩ := Int.eq_ofNat_of_zero_le m2
  rw [Int.toNat_natCast, Int.toNat_natCast]
  have hkl : k < L.length := (List.getElem?_eq_some_iff.1 hk).1
  have H := Lib.hid (And.intro h (And.intro hk (And.intro hc (And.intro hcl (And.intro hmm (And.intro h0 (And.intro h1 (And.intro h2 (And.intro h3 (And.intro h4 (And.intro h5 (And.intro h6 h7))))))))))))
  clear h6 h5 h4 h3 h2 h1 h0 hcb hcl hc hk h hmm hr h7
  go_enter Try.func23, Try.ntmps23
  go_wp2_with (go_at_call 16; refine hO.mono ?_; rintro e w' ⟨rfl, rfl⟩)
  go_ret
  obtain ⟨h, hk, hc, hcl, hmm, h0, h1, h2, h3, h4, h5, h6, h7⟩ := H.out
  refine ⟨rfl, h.turn hc ?_ ((hc.set _ _).set _ _) (by simp) (fun o ho => by rw [set_ne_at (by omega), set_ne_at (by omega)]) ?_, Only.st (Only.st (Only.refl (fun b => b = ab) _) rfl _ _) rfl _ _⟩
  · have e := nfree_set (b1 := { b with data := (b.data.drop f).take (b.data.length - f - g) }) hk
    have e' : nfree (L.set k { b with data := (b.data.drop f).take (b.data.length - f - g) }) = nfree L := by simp only at e; omega
    rw [e']
    exact (h.1.set_ne hne' _).set_ne hne' _
  · have hlen : ((b.data.drop f).take (b.data.length - f - g)).length = b.data.length - f - g := by rw [List.length_take, List.length_drop]; omega
    refine ⟨mem, fr + f, hmm, ?_, ?_, ?_, ?_, ?_, h5, ?_, h7, ?_⟩
    · rw [set_ne_at (by omega), set_ne_at (by omega)]; exact h0
    · intro j hj; rw [set_ne_at (by omega), set_ne_at (by omega)]; exact h1 j hj
    · rw [set_ne_at (by omega), set_ne_at (by omega)]; exact h2
    · rw [List.getElem?_set_self (by simp; omega), hlen]; congr 2; omega
    · rw [set_ne_at (by omega), List.getElem?_set_self (by omega)]; congr 2
    · simp only [hlen]
      have key : (b.data.drop f).take (b.data.length - f - g) = (((mem.drop (104 + fr)).take b.data.length).drop f).take (b.data.length - f - g) := by rw [← h6]
      rw [key, drop_take_cut (by omega), Nat.add_assoc]
    · simp only [hlen]; omega

end Go.Proofs.Ytpgnklmmjdkhiaa

/-
  What the pool's calls that move bytes do, for every input.
-/
namespace Go.Proofs.Ytpgnklmmjdkhiaa
open Go.RowKit
set_option maxRecDepth 100000
set_option maxHeartbeats 400000

/-- Where a buffer's data begins (a slice expression at a slice's very end leaves the address). -/
def dOff (o fr : Nat) : Nat := if fr = 288 then o + 1 else o + 105 + fr

theorem ret_slice {b o o' n c c' : Nat} (h : o = o') (hc : c = c') : Ending.returned (.slice (some ⟨b, o, none⟩) n c) = .returned (.slice (some ⟨b, o', none⟩) n c') := by subst h hc; rfl

theorem data_any {w : World} {ab o fr n : Nat} (hs : w.cell? ⟨ab, o + 394, none⟩ = some (.int .i64 (n : Int))) (hf : w.cell? ⟨ab, o + 395, none⟩ = some (.int .i64 (fr : Int))) (h8 : fr + n ≤ 288) :
    Calls Try.prog 17 #[.pointer (some ⟨ab, o, none⟩)] w fun e w' => e = .returned (.slice (some ⟨ab, dOff o fr, none⟩) n (288 - fr)) ∧ ∃ q, w' = w.drewN q := by
  have e1 : IntKind.i64.wrap (104 + (fr : Int)) = 104 + (fr : Int) := IntWalk.i64_in _ (by omega)
  have e2 : (0 : Int) ≤ 104 + (fr : Int) := by omega
  have e3 : (104 + (fr : Int)).toNat = 104 + fr := by omega
  have e4 : 104 + (fr : Int) ≤ 392 := by omega
  have e5 : n ≤ 392 - (104 + fr) := by omega
  by_cases h288 : fr = 288
  · have hn : n = 0 := by omega
    subst hn h288
    go_enter Try.func17, Try.ntmps17
    go_wp2
    go_quiet (fail)
    go_wp2
    go_ret
    refine ⟨?_, _, rfl⟩
    simp [dOff]
  · have hd : dOff o fr = o + 105 + fr := by simp [dOff, h288]
    rw [hd]
    have e6 : ¬ (392 : Nat) = 104 + fr := by omega
    have e7 : ¬ (288 - fr) = 0 := by omega
    go_enter Try.func17, Try.ntmps17
    go_wp2
    go_quiet (fail)
    go_wp2
    go_ret
    refine ⟨?_, _, rfl⟩
    exact ret_slice (by omega) (by omega)

theorem splice_get {α : Type} {L : List α} {off : Nat} {cs : List α} (h : off + cs.length ≤ L.length) (i : Nat) :
    (splice L off cs)[i]? = if i < off then L[i]? else if i < off + cs.length then cs[i - off]? else L[i]? := by
  unfold splice
  have hlo : (L.take off).length = off := by rw [List.length_take]; omega
  by_cases h1 : i < off
  · rw [if_pos h1, List.getElem?_append_left (by omega), List.getElem?_take, if_pos h1]
  · rw [if_neg h1, List.getElem?_append_right (by omega), hlo]
    by_cases h2 : i < off + cs.length
    · rw [if_pos h2, List.getElem?_append_left (by omega)]
    · rw [if_neg h2, List.getElem?_append_right (by omega), List.getElem?_drop]
      congr 1; omega

/-- A buffer's cells as numbers. -/
structure Raw (c : List Value) (o : Nat) (refs : Int) (mem : List UInt8) (hd sz fr : Int) : Prop where
  len : mem.length = 392
  fit : o + 396 ≤ c.length
  r : c[o]? = some (.int .i64 refs)
  m : ∀ j (hj : j < mem.length), c[o + 1 + j]? = some (bv mem[j])
  h : c[o + 393]? = some (.int .i64 hd)
  s : c[o + 394]? = some (.int .i64 sz)
  f : c[o + 395]? = some (.int .i64 fr)

section
variable {c : List Value} {o : Nat} {refs : Int} {mem : List UInt8} {hd sz fr : Int}
theorem Raw.setR (H : Raw c o refs mem hd sz fr) (x : Int) : Raw (c.set o (.int .i64 x)) o x mem hd sz fr := by
  obtain ⟨l, ft, r, m, h, s, f⟩ := H
  refine ⟨l, by simpa using ft, List.getElem?_set_self (by omega), fun j hj => ?_, ?_, ?_, ?_⟩
  · rw [set_ne_at (by omega)]; exact m j hj
  · rw [set_ne_at (by omega)]; exact h
  · rw [set_ne_at (by omega)]; exact s
  · rw [set_ne_at (by omega)]; exact f
theorem Raw.setH (H : Raw c o refs mem hd sz fr) (x : Int) : Raw (c.set (o + 393) (.int .i64 x)) o refs mem x sz fr := by
  obtain ⟨l, ft, r, m, h, s, f⟩ := H
  refine ⟨l, by simpa using ft, ?_, fun j hj => ?_, List.getElem?_set_self (by omega), ?_, ?_⟩
  · rw [set_ne_at (by omega)]; exact r
  · rw [set_ne_at (by omega)]; exact m j hj
  · rw [set_ne_at (by omega)]; exact s
  · rw [set_ne_at (by omega)]; exact f
theorem Raw.setS (H : Raw c o refs mem hd sz fr) (x : Int) : Raw (c.set (o + 394) (.int .i64 x)) o refs mem hd x fr := by
  obtain ⟨l, ft, r, m, h, s, f⟩ := H
  refine ⟨l, by simpa using ft, ?_, fun j hj => ?_, ?_, List.getElem?_set_self (by omega), ?_⟩
  · rw [set_ne_at (by omega)]; exact r
  · rw [set_ne_at (by omega)]; exact m j hj
  · rw [set_ne_at (by omega)]; exact h
  · rw [set_ne_at (by omega)]; exact f
theorem Raw.setF (H : Raw c o refs mem hd sz fr) (x : Int) : Raw (c.set (o + 395) (.int .i64 x)) o refs mem hd sz x := by
  obtain ⟨l, ft, r, m, h, s, f⟩ := H
  refine ⟨l, by simpa using ft, ?_, fun j hj => ?_, ?_, ?_, List.getElem?_set_self (by omega)⟩
  · rw [set_ne_at (by omega)]; exact r
  · rw [set_ne_at (by omega)]; exact m j hj
  · rw [set_ne_at (by omega)]; exact h
  · rw [set_ne_at (by omega)]; exact s
theorem Raw.write (H : Raw c o refs mem hd sz fr) {off p : Nat} {l : List UInt8} (hp : p = o + 1 + off) (hl : off + l.length ≤ 392) : Raw (splice c p (l.map bv)) o refs (splice mem off l) hd sz fr := by
  subst hp
  obtain ⟨ln, ft, r, m, h, s, f⟩ := H
  have hfit : o + 1 + off + (l.map bv).length ≤ c.length := by simp; omega
  have hm : off + l.length ≤ mem.length := by omega
  refine ⟨by rw [length_splice _ _ _ hm]; exact ln, by rw [length_splice _ _ _ hfit]; exact ft, ?_, fun j hj => ?_, ?_, ?_, ?_⟩
  · rw [splice_get hfit, if_pos (by omega)]; exact r
  · rw [length_splice _ _ _ hm] at hj
    have e : (splice mem off l)[j]? = some ((splice mem off l)[j]'(by rw [length_splice _ _ _ hm]; exact hj)) := List.getElem?_eq_getElem _
    rw [splice_get hm] at e
    rw [splice_get hfit]
    simp only [List.length_map]
    by_cases h1 : j < off
    · rw [if_pos h1, List.getElem?_eq_getElem hj] at e
      rw [if_pos (by omega), m j hj]
      simp only [Option.some.injEq] at e
      rw [e]
    · by_cases h2 : j < off + l.length
      · rw [if_neg h1, if_pos h2] at e
        rw [if_neg (by omega), if_pos (by omega), List.getElem?_map, show o + 1 + j - (o + 1 + off) = j - off by omega, e]; rfl
      · rw [if_neg h1, if_neg h2, List.getElem?_eq_getElem hj] at e
        rw [if_neg (by omega), if_neg (by omega), m j hj]
        simp only [Option.some.injEq] at e
        rw [e]
  · rw [splice_get hfit, if_neg (by omega), if_neg (by simp; omega)]; exact h
  · rw [splice_get hfit, if_neg (by omega), if_neg (by simp; omega)]; exact s
  · rw [splice_get hfit, if_neg (by omega), if_neg (by simp; omega)]; exact f
end

theorem BufAt.raw {c : List Value} {o : Nat} {b : Bf} (h : BufAt c o b) (hl : o + 396 ≤ c.length) : ∃ (mem : List UInt8) (fr : Nat), Raw c o b.refs mem b.head.length b.data.length fr ∧
    b.head = mem.take b.head.length ∧ b.data = (mem.drop (104 + fr)).take b.data.length ∧ b.head.length ≤ 104 ∧ fr + b.data.length ≤ 288 := by
  obtain ⟨mem, fr, hm, h0, h1, h2, h3, h4, h5⟩ := h
  exact ⟨mem, fr, ⟨hm, hl, h0, h1, h2, h3, h4⟩, h5⟩

theorem Raw.buf {c : List Value} {o : Nat} {b : Bf} {refs : Int} {mem : List UInt8} {hd sz : Int} {fr : Nat} (H : Raw c o refs mem hd sz fr) (e0 : refs = b.refs) (e1 : hd = b.head.length) (e2 : sz = b.data.length)
    (h1 : b.head = mem.take b.head.length) (h2 : b.data = (mem.drop (104 + fr)).take b.data.length) (h3 : b.head.length ≤ 104) (h4 : fr + b.data.length ≤ 288) : BufAt c o b := by
  subst e0 e1 e2
  exact ⟨mem, fr, H.len, H.r, H.m, H.h, H.s, H.f, h1, h2, h3, h4⟩

/-- Outside of a stretch nothing is turned. -/
def SameOut (c c' : List Value) (lo hi : Nat) : Prop := c'.length = c.length ∧ ∀ o, (o < lo ∨ hi ≤ o) → c'[o]? = c[o]?
theorem SameOut.refl (c : List Value) (lo hi : Nat) : SameOut c c lo hi := ⟨rfl, fun _ _ => rfl⟩
theorem SameOut.set {c c' : List Value} {lo hi : Nat} (h : SameOut c c' lo hi) {i : Nat} (h1 : lo ≤ i) (h2 : i < hi) (v : Value) : SameOut c (c'.set i v) lo hi :=
  ⟨by simpa using h.1, fun o ho => by rw [set_ne_at (by omega)]; exact h.2 o ho⟩
theorem SameOut.splice {c c' : List Value} {lo hi : Nat} (h : SameOut c c' lo hi) {i : Nat} {l : List Value} (h1 : lo ≤ i) (h2 : i + l.length ≤ hi) (h3 : hi ≤ c.length) : SameOut c (splice c' i l) lo hi := by
  have hf : i + l.length ≤ c'.length := by have := h.1; omega
  refine ⟨by rw [length_splice _ _ _ hf]; exact h.1, fun o ho => ?_⟩
  rw [splice_get hf]
  by_cases a : o < i
  · rw [if_pos a]; exact h.2 o ho
  · rw [if_neg a, if_neg (by omega)]; exact h.2 o ho

theorem splice_cut {α : Type} (L : List α) (off : Nat) (l : List α) (h : off + l.length ≤ L.length) : ((Go.splice L off l).drop off).take l.length = l := by
  unfold Go.splice
  have hlo : (L.take off).length = off := by rw [List.length_take]; omega
  rw [List.drop_append_of_le_length (by omega), List.drop_eq_nil_of_le (by omega), List.nil_append, List.take_left']
  rfl
theorem splice_below {α : Type} (L : List α) (off : Nat) (l : List α) (n : Nat) (hn : n ≤ off) (h : off + l.length ≤ L.length) : (Go.splice L off l).take n = L.take n := by
  unfold Go.splice
  have hlo : (L.take off).length = off := by rw [List.length_take]; omega
  rw [List.take_append_of_le_length (by omega), List.take_take, Nat.min_eq_left hn]

/-- A pool's buffer k, turned. -/
theorem PoolAt.turned {w w' : World} {p ab : Nat} {L : List Bf} (h : PoolAt w p ab L) {k : Nat} {b b1 : Bf} {c c' : List Value} (hk : L[k]? = some b)
    (hc : Blk w ab c 55) (ho : Only (fun x => x = ab) w w') (hz : b.refs = 0 ↔ b1.refs = 0)
    (hc' : Blk w' ab c' 55) (hs : SameOut c c' (k * 396) (k * 396 + 396)) (hin : BufAt c' (k * 396) b1) : PoolAt w' p ab (L.set k b1) := by
  refine h.turn hc ?_ hc' hs.1 hs.2 hin
  have e := nfree_set (b1 := b1) hk
  have e' : nfree (L.set k b1) = nfree L := by
    by_cases hb : b.refs = 0
    · rw [if_pos hb, if_pos (hz.1 hb)] at e; omega
    · rw [if_neg hb, if_neg (fun h => hb (hz.2 h))] at e; omega
  rw [e']
  exact ho.blk h.1 h.2.1

theorem set_long {w : World} {p ab : Nat} {L : List Bf} (h : PoolAt w p ab L) {k : Nat} {b : Bf} (hk : L[k]? = some b) (hr : b.refs = 1) (a : Option Addr) (n m : Nat) (hn : 288 < n) :
    Calls Try.prog 9 #[.pointer (some ⟨p, 0, none⟩), .int .i64 (k : Int), .slice a n m] w fun e w' => e = .returned (.int .i64 2) ∧ w = w' := by
  have hO := own_in h hk hr
  have hn' : (288 : Int) < (n : Int) := by omega
  clear hr hk h
  go_enter Try.func9, Try.ntmps9
  go_wp2_with (go_at_call 16; refine hO.mono ?_; rintro e w' ⟨rfl, rfl⟩)
  go_ret
  exact ⟨rfl, rfl⟩

theorem set_in {w : World} {p ab : Nat} {L : List Bf} (h : PoolAt w p ab L) {k : Nat} {b : Bf} (hk : L[k]? = some b) (hr : b.refs = 1) {d : List UInt8} {v : Value} (hd : BytesAt w v d) (hx : sliceIn v (fun b => ¬ b = ab)) (hn : d.length ≤ 288) :
    Calls Try.prog 9 #[.pointer (some ⟨p, 0, none⟩), .int .i64 (k : Int), v] w fun e w' => e = .returned (.int .i64 0) ∧ PoolAt w' p ab (L.set k ⟨1, [], d⟩) ∧ Only (fun b => b = ab) w w' := by
  have hO := own_in h hk hr
  obtain ⟨a, m, rfl⟩ := hd.form
  obtain ⟨c, hc, hcl, hcb⟩ := h.2.2.2.2
  have hkl : k < L.length := (List.getElem?_eq_some_iff.1 hk).1
  obtain ⟨mem, fr, hraw, -⟩ := (hcb k b hk).raw (by omega)
  have g1 : w.cell? ⟨ab, k * 396 + 393, none⟩ = some (.int .i64 (b.head.length : Int)) := by rw [hc.cell]; exact hraw.h
  have g2 : w.cell? ⟨ab, k * 396 + 394, none⟩ = some (.int .i64 (b.data.length : Int)) := by rw [hc.cell]; exact hraw.s
  have g3 : w.cell? ⟨ab, k * 396 + 395, none⟩ = some (.int .i64 (fr : Int)) := by rw [hc.cell]; exact hraw.f
  have hz := fun o => hc.fz o
  have hne' : ¬ ab = p := fun e => h.2.1 e.symm
  have hn' : (d.length : Int) ≤ 288 := by omega
  have H := Lib.hid (And.intro h (And.intro hk (And.intro hc (And.intro hcl (And.intro hraw (And.intro hd (And.intro hx hr)))))))
  clear hraw hcb hcl hc hk h hr hd hx
  go_enter Try.func9, Try.ntmps9
  go_wp2_with (first | (go_at_call 16; refine hO.mono ?_; rintro e w' ⟨rfl, rfl⟩) | (go_at_call 17; refine (data_any (fr := 0) (n := d.length) (by go_simp) (by go_simp) (by omega)).mono ?_; rintro e w' ⟨rfl, q, rfl⟩) | (refine wpList_copy_blk (o := ⟨some 37, _, _, _, _, _⟩) (by rfl) (.tmp 35) (.tmp 36) 22 22 (by rfl) 5 Try.underlying22 (by kernel_rfl) ab (dOff (k * 396) 0) d.length 288 (by rfl) d ?c1 (((c.set (k * 396 + 393) (.int .i64 0)).set (k * 396 + 395) (.int .i64 0)).set (k * 396 + 394) (.int .i64 d.length)) 55 ?c2 ?c3 ?_; rotate_left 3; intro w1 hb1 ho1))
  · go_ret
    obtain ⟨h, hk, hc, hcl, hraw, hd, hx, hr⟩ := H.out
    have e1 : dOff (k * 396) 0 = k * 396 + 105 := by unfold dOff; rw [if_neg (by decide)]
    rw [e1, List.take_length] at hb1
    have hl : 104 + d.length ≤ mem.length := by have := hraw.len; omega
    refine ⟨rfl, h.turned hk hc (Only.trans (Only.drewN (Only.st (Only.st (Only.st (Only.refl (fun b => b = ab) w) rfl _ _) rfl _ _) rfl _ _) q) ho1) (by simp; omega) hb1 ?_ ?_,
      Only.trans (Only.drewN (Only.st (Only.st (Only.st (Only.refl (fun b => b = ab) w) rfl _ _) rfl _ _) rfl _ _) q) ho1⟩
    · exact ((((SameOut.refl c _ _).set (by omega) (by omega) _).set (by omega) (by omega) _).set (by omega) (by omega) _).splice (by omega) (by simp; omega) (by omega)
    · have R := (((hraw.setH 0).setF 0).setS (d.length : Int)).write (p := k * 396 + 105) (off := 104) (l := d) (by omega) (by omega)
      exact R.buf (b := ⟨1, [], d⟩) (fr := 0) (by rw [hr]) rfl rfl rfl (splice_cut mem 104 d hl).symm (by simp) (by simpa using hn)
  case c1 =>
    obtain ⟨h, hk, hc, hcl, hraw, hd, hx, hr⟩ := H.out
    exact hd.only (Only.drewN (Only.st (Only.st (Only.st (Only.refl (fun b => b = ab) w) rfl _ _) rfl _ _) rfl _ _) q) hx
  case c2 =>
    obtain ⟨h, hk, hc, hcl, hraw, hd, hx, hr⟩ := H.out
    exact ((hc.set _ _).set _ _).set _ _
  case c3 =>
    obtain ⟨h, hk, hc, hcl, hraw, hd, hx, hr⟩ := H.out
    unfold dOff; rw [if_neg (by decide)]; simp; omega

end Go.Proofs.Ytpgnklmmjdkhiaa
