/-
  What is known of a block of memory, and what a call has left alone. No program is named here.
-/
import Derived.WalkKit
import Derived.WalkSpells
import Derived.Laws.CopyOwn
import Derived.Deep.Draws
import Derived.Laws.AppendOwnNone
namespace Go.Proofs.Ytloejpkefoagfaa
open Go.RowKit

/-- Block b holds just these cells. -/
def Blk (w : World) (b : Nat) (c : List Value) (T : TypeId) : Prop := w.heap[b]? = some (.cells c.toArray T (0, 0))

section
variable {w w' : World} {b : Nat} {c : List Value} {T : TypeId}
theorem Blk.lt (h : Blk w b c T) : b < w.heap.size := (Array.getElem?_eq_some_iff.1 h).1
theorem Blk.cell (h : Blk w b c T) (o : Nat) : w.cell? ⟨b, o, none⟩ = c[o]? := by
  unfold Blk at h; simp [World.cell?, h]
theorem Blk.fz (h : Blk w b c T) (o : Nat) : w.frozen? ⟨b, o, none⟩ = false := by
  unfold Blk at h; simp [World.frozen?, h]
theorem Blk.set (h : Blk w b c T) (o : Nat) (v : Value) : Blk (w.setCell ⟨b, o, none⟩ v) b (c.set o v) T := by
  have := heap_setCell_same w b o c.toArray T v h
  unfold Blk; rw [this]; simp
theorem Blk.set_ne (h : Blk w b c T) {a : Addr} (hne : a.block ≠ b) (v : Value) : Blk (w.setCell a v) b c T := by
  unfold Blk; rw [heap_setCell_other w a b v (Ne.symm hne)]; exact h
theorem Blk.alloc (h : Blk w b c T) (o : Obj) : Blk (w.alloc o) b c T := by
  unfold Blk; rw [Below.heap_alloc w o b h.lt]; exact h
theorem Blk.new (w : World) (c : List Value) (T : TypeId) : Blk (w.alloc (.cells c.toArray T)) w.heap.size c T := Go.heap_alloc_new w _
theorem Blk.new' (w : World) (c : Array Value) (T : TypeId) : Blk (w.alloc (.cells c T)) w.heap.size c.toList T := Go.heap_alloc_new w _
theorem Blk.at_new {w : World} {A : Array Value} {c : List Value} {T : TypeId} {n : Nat} (hn : n = w.heap.size) (hA : A = c.toArray) : Blk (w.alloc (.cells A T)) n c T := by
  subst hn hA; exact Blk.new w c T
theorem Blk.drew (h : Blk w b c T) : Blk w.drew b c T := h
theorem Blk.drewN (h : Blk w b c T) (n : Nat) : Blk (w.drewN n) b c T := h
theorem Blk.uniq {c' : List Value} {T' : TypeId} (h : Blk w b c T) (h' : Blk w b c' T') : c = c' := by
  unfold Blk at h h'; rw [h] at h'; simp at h'; exact h'.1
end

/-- The call has turned no old block but those of S. -/
structure Only (S : Nat → Prop) (w w' : World) : Prop where
  os : w'.os = w.os
  tape : w'.tape = w.tape
  output : w'.output = w.output
  size : w.heap.size ≤ w'.heap.size
  block : ∀ k, k < w.heap.size → ¬ S k → w'.heap[k]? = w.heap[k]?

section
variable {S S' : Nat → Prop} {w w0 w1 w2 : World}
theorem Only.refl (S : Nat → Prop) (w : World) : Only S w w := ⟨rfl, rfl, rfl, Nat.le_refl _, fun _ _ _ => rfl⟩
theorem Only.trans' (h : Only S w w1) (k : Only S' w1 w2) (hs : ∀ b, S' b → S b ∨ w.heap.size ≤ b) : Only S w w2 :=
  ⟨k.os.trans h.os, k.tape.trans h.tape, k.output.trans h.output, Nat.le_trans h.size k.size, fun b hb hn =>
    (k.block b (Nat.lt_of_lt_of_le hb h.size) (fun hs' => (hs b hs').elim hn (fun hg => absurd hb (Nat.not_lt.2 hg)))).trans (h.block b hb hn)⟩
theorem Only.trans (h : Only S w w1) (k : Only S w1 w2) : Only S w w2 := h.trans' k (fun _ hb => .inl hb)
theorem Only.mono (h : Only S w w1) (hs : ∀ b, S b → S' b ∨ w.heap.size ≤ b) : Only S' w w1 :=
  ⟨h.os, h.tape, h.output, h.size, fun b hb hn => h.block b hb (fun hs' => (hs b hs').elim hn (fun hg => absurd hb (Nat.not_lt.2 hg)))⟩
theorem Only.setCell (h : Only S w0 w) {a : Addr} (ha : S a.block ∨ w0.heap.size ≤ a.block) (v : Value) : Only S w0 (w.setCell a v) :=
  ⟨h.os, h.tape, h.output, by simp; exact h.size, fun b hb hn => by
    rw [heap_setCell_other w a b v (fun e => by subst e; exact ha.elim hn (fun hg => absurd hb (Nat.not_lt.2 hg)))]; exact h.block b hb hn⟩
theorem Only.st (h : Only S w0 w) {b : Nat} (hb : S b) (o : Nat) (v : Value) : Only S w0 (w.setCell ⟨b, o, none⟩ v) := h.setCell (.inl hb) v
theorem Only.alloc (h : Only S w0 w) (o : Obj) : Only S w0 (w.alloc o) :=
  ⟨h.os, h.tape, h.output, by simp; exact Nat.le_succ_of_le h.size, fun b hb hn => by
    rw [Below.heap_alloc w o b (Nat.lt_of_lt_of_le hb h.size)]; exact h.block b hb hn⟩
theorem Only.drew (h : Only S w0 w) : Only S w0 w.drew := ⟨h.os, h.tape, h.output, h.size, h.block⟩
theorem Only.drewN (h : Only S w0 w) (n : Nat) : Only S w0 (w.drewN n) := ⟨h.os, h.tape, h.output, h.size, h.block⟩
theorem Only.step (h : Only (fun _ => False) w w1) (k : Only S w1 w2) (hs : ∀ b, S b → w.heap.size ≤ b) : Only (fun _ => False) w w2 := h.trans' k (fun b hb => .inr (hs b hb))
theorem Only.blk (h : Only S w w1) {b : Nat} {c : List Value} {T : TypeId} (hb : Blk w b c T) (hn : ¬ S b) : Blk w1 b c T := by
  unfold Blk; rw [h.block b hb.lt hn]; exact hb
theorem Only.below (h : Only S w w1) (hs : ∀ b, S b → w.heap.size ≤ b) : Below w.heap.size w w1 :=
  ⟨h.os, h.tape, h.output, h.size, fun k hk => h.block k hk (fun hk' => absurd hk (Nat.not_lt.2 (hs k hk')))⟩
theorem Below.only {B : Nat} (h : Below B w w1) (hB : B = w.heap.size) : Only S w w1 := by
  subst hB; exact ⟨h.os, h.tape, h.output, h.size, fun k hk _ => h.block k hk⟩
theorem Only.cell (h : Only S w w1) {a : Addr} (hb : a.block < w.heap.size) (hn : ¬ S a.block) : w1.cell? a = w.cell? a :=
  World.cell?_of_block (w := w) (h.block a.block hb hn)
theorem Only.frozen (h : Only S w w1) {a : Addr} (hb : a.block < w.heap.size) (hn : ¬ S a.block) : w1.frozen? a = w.frozen? a :=
  World.frozen?_of_block (w := w) (h.block a.block hb hn)
end

theorem set_ne_at {c : List Value} {i o : Nat} {v : Value} (h : o ≠ i) : (c.set i v)[o]? = c[o]? := List.getElem?_set_ne (Ne.symm h)

/-- A byte as a cell. -/
abbrev bv (x : UInt8) : Value := .int .u8 (x.toNat : Int)

/-- A slice of bytes that reads as this list (its spare places are not looked at). -/
def BytesAt (w : World) (v : Value) (l : List UInt8) : Prop :=
  (∃ a c, v = .slice a 0 c ∧ (a = none → c = 0) ∧ l = []) ∨
  ∃ (b o cap : Nat), v = .slice (some ⟨b, o, none⟩) l.length cap ∧ l.length ≤ cap ∧ l.length ≤ 140737488351232 ∧ ∀ j (hj : j < l.length), w.cell? ⟨b, o + j, none⟩ = some (bv l[j])

theorem BytesAt.len {w : World} {v : Value} {l : List UInt8} (h : BytesAt w v l) : l.length ≤ 140737488351232 := by
  rcases h with ⟨_, _, _, _, rfl⟩ | ⟨b, o, cap, _, h1, h2, _⟩
  · simp
  · omega

theorem BytesAt.form {w : World} {v : Value} {l : List UInt8} (h : BytesAt w v l) : ∃ a cap, v = .slice a l.length cap := by
  rcases h with ⟨a, c, rfl, _, rfl⟩ | ⟨b, o, cap, rfl, _⟩
  · exact ⟨a, c, rfl⟩
  · exact ⟨_, _, rfl⟩

/-- The block of a slice, where it has cells. -/
def sliceIn (v : Value) (S : Nat → Prop) : Prop := ∀ (b o n cap : Nat), v = .slice (some ⟨b, o, none⟩) n cap → 0 < n → S b

theorem BytesAt.only {S : Nat → Prop} {w w1 : World} {v : Value} {l : List UInt8} (h : BytesAt w v l) (k : Only S w w1) (hs : sliceIn v (fun b => ¬ S b)) : BytesAt w1 v l := by
  rcases h with h | ⟨b, o, cap, hv, h1, h2, h3⟩
  · exact .inl h
  · refine .inr ⟨b, o, cap, hv, h1, h2, fun j hj => ?_⟩
    have hc := h3 j hj
    have hb : b < w.heap.size := block_lt_of_cell (a := ⟨b, o + j, none⟩) hc
    rw [k.cell (a := ⟨b, o + j, none⟩) hb (hs b o _ cap hv (by omega))]; exact hc

theorem BytesAt.lt {w : World} {v : Value} {l : List UInt8} (h : BytesAt w v l) : sliceIn v (fun b => b < w.heap.size) := by
  intro b o n cap hv hn
  rcases h with ⟨a, c, h, _⟩ | ⟨b', o', cap', hv', _, _, h3⟩
  · rw [h] at hv; simp at hv; omega
  · rw [hv'] at hv; simp at hv
    obtain ⟨⟨rfl, rfl⟩, rfl, rfl⟩ := hv
    exact block_lt_of_cell (a := ⟨b', o' + 0, none⟩) (h3 0 hn)

theorem BytesAt.nil (w : World) : BytesAt w (.slice none 0 0) [] := .inl ⟨_, _, rfl, fun _ => rfl, rfl⟩
theorem bv_one (x : UInt8) : (bv x).oneCell' = true := rfl

open Go.RowKit in
/-- 'copy' into a block that is known whole. -/
theorem wpList_copy_blk {P : Program} {w : World} {ops : Array Oper} {rest : List Oper} {o : Oper} {a : Act} {Q : Exit → Act → World → Prop} (hgd : o.guard = none) (d s : Operand) (dT sT : TypeId)
    (ho : o.op = .call { callee := .builtin .copy, args := #[d, s], argTypes := #[dT, sT] }) (elem : TypeId) (hu : P.underlying dT = some (.slice elem)) (hsz : (P.info? elem).map (·.size) = some 1)
    (g off dLen dCap : Nat) (hd : a.eval d = .slice (some ⟨g, off, none⟩) dLen dCap) (l : List UInt8) (hs : BytesAt w (a.eval s) l)
    (cur : List Value) (t : TypeId) (hg : Blk w g cur t) (hfit : off + dLen ≤ cur.length)
    (h : ∀ w', Blk w' g (splice cur off ((l.take dLen).map bv)) t → Only (fun k => k = g) w w' → wpList P ops Q rest (a.put o.dst (goInt (min l.length dLen : Nat))) w') :
    wpList P ops Q (o :: rest) a w := by
  by_cases hz : Nat.min l.length dLen = 0
  · obtain ⟨sa, cap, hv⟩ := hs.form
    refine wpList_copy_nothing hgd d s dT sT ho elem hu hsz (some ⟨g, off, none⟩) sa dLen dCap l.length cap hd hv hz ?_
    have hz' : min l.length dLen = 0 := hz
    have he : (l.take dLen) = [] := by
      apply List.eq_nil_of_length_eq_zero; rw [List.length_take]; omega
    have := h w (by rw [he]; simpa [splice] using hg) (Only.refl _ _)
    rw [hz'] at this; exact this
  · rcases hs with ⟨_, _, _, _, rfl⟩ | ⟨b, so, cap, hv, h1, h2, h3⟩
    · exact absurd (by simp) hz
    · have hlen : ((l.take dLen).map bv).length = Nat.min l.length dLen := by
        simp only [List.length_map, List.length_take]; exact Nat.min_comm _ _
      refine wpList_copy_own hgd d s dT sT ho elem hu hsz g off dLen dCap ⟨b, so, none⟩ l.length cap hd hv cur.toArray t hg ((l.take dLen).map bv) hlen ?_ ?_ ?_ ?_
      · intro j v hj
        have hj' : j < ((l.take dLen).map bv).length := (List.getElem?_eq_some_iff.1 hj).1
        simp only [List.length_map, List.length_take] at hj'
        have hjl : j < l.length := by omega
        have hadd : (⟨b, so, none⟩ : Addr).add j = ⟨b, so + j, none⟩ := by unfold Addr.add; split <;> simp_all
        rw [hadd, h3 j hjl]
        simp only [List.getElem?_map, List.getElem?_take] at hj
        rw [if_pos (by omega), List.getElem?_eq_getElem hjl] at hj
        simpa using hj
      · rw [hlen]; simp only [List.size_toArray]
        have : Nat.min l.length dLen ≤ dLen := Nat.min_le_right _ _
        omega
      · intro v hv
        obtain ⟨x, _, rfl⟩ := List.mem_map.1 hv
        rfl
      · rw [hlen]
        have hb2 := setRow_heap w g cur.toArray ((cur.take off ++ (((l.take dLen).map bv) ++ cur.drop (off + ((l.take dLen).map bv).length))).toArray) t (0, 0) hg
        have := h (w.setRow g ((cur.take off ++ (((l.take dLen).map bv) ++ cur.drop (off + ((l.take dLen).map bv).length))).toArray)) hb2
          ⟨rfl, rfl, rfl, by simp [World.setRow], fun k _ hk => setRow_other w g k _ hk⟩
        rw [hlen] at this
        exact this


/-- Bytes that a call has collected in a row of its own, at or behind block 'base'. -/
def OwnBytes (w : World) (base : Nat) (T : TypeId) (v : Value) (l : List UInt8) : Prop := w.ownsRow base T 1 v l.length (l.map bv)

theorem OwnBytes.form {w : World} {base : Nat} {T : TypeId} {v : Value} {l : List UInt8} (h : OwnBytes w base T v l) : ∃ a cap, v = .slice a l.length cap ∧ (a = none → cap = 0 ∧ l = []) := by
  rcases h.2 with ⟨rfl, h0⟩ | ⟨g, cap, cur, rfl, _⟩
  · exact ⟨none, 0, by rw [h0], fun _ => ⟨rfl, List.eq_nil_of_length_eq_zero h0⟩⟩
  · exact ⟨_, _, rfl, fun h => by cases h⟩

theorem OwnBytes.only {S : Nat → Prop} {w w1 : World} {base : Nat} {T : TypeId} {v : Value} {l : List UInt8} (h : OwnBytes w base T v l) (k : Only S w w1) (hs : ∀ b, base ≤ b → b < w.heap.size → ¬ S b) : OwnBytes w1 base T v l := by
  obtain ⟨h1, h2⟩ := h
  refine ⟨h1, ?_⟩
  rcases h2 with h2 | ⟨g, cap, cur, hv, hb, hg, h3⟩
  · exact .inl h2
  · have hlt : g < w.heap.size := (Array.getElem?_eq_some_iff.1 hg).1
    exact .inr ⟨g, cap, cur, hv, hb, by rw [k.block g hlt (hs g hb hlt)]; exact hg, h3⟩

theorem OwnBytes.reads {w : World} {base : Nat} {T : TypeId} {v : Value} {l : List UInt8} (h : OwnBytes w base T v l) {j : Nat} (hj : j < l.length) : ∃ g cap, v = .slice (some ⟨g, 0, none⟩) l.length cap ∧ base ≤ g ∧ w.cell? ⟨g, j, none⟩ = some (bv l[j]) := by
  rcases h.2 with ⟨_, h0⟩ | ⟨g, cap, cur, hv, hb, hg, hn, hc, hsz, ht⟩
  · omega
  · refine ⟨g, cap, hv, hb, ?_⟩
    rw [cell_of_row _ _ _ _ _ _ hg]
    have : (cur.toList.take (l.length * 1))[j]? = (l.map bv)[j]? := by rw [ht]
    rw [List.getElem?_take, if_pos (by omega), List.getElem?_map, List.getElem?_eq_getElem hj] at this
    simpa using this

theorem OwnBytes.bytes {w : World} {base : Nat} {T : TypeId} {v : Value} {l : List UInt8} (h : OwnBytes w base T v l) (hl : l.length ≤ 140737488351232) : BytesAt w v l := by
  rcases h.2 with ⟨rfl, h0⟩ | ⟨g, cap, cur, hv, hb, hg, hn, hc, hsz, ht⟩
  · exact .inl ⟨none, 0, rfl, fun _ => rfl, List.eq_nil_of_length_eq_zero h0⟩
  · refine .inr ⟨g, 0, cap, hv, hn, hl, fun j hj => ?_⟩
    obtain ⟨g', cap', hv', _, h⟩ := h.reads hj
    rw [hv] at hv'; simp at hv'
    rw [hv'.1, Nat.zero_add]; exact h

theorem grown_only {w w' : World} {row : Option Nat} (h : w.grownBy w' row) (S : Nat → Prop) (hr : ∀ k, row = some k → S k) : Only S w w' :=
  ⟨h.os, h.tape, h.output, h.size, fun k hk hn => h.block k hk (fun e => hn (hr k e.symm))⟩

/-- 'append(all, b...)' onto bytes of one's own. -/
theorem wpList_append_bytes {P : Program} {w : World} {ops : Array Oper} {rest : List Oper} {o : Oper} {a : Act} {Q : Exit → Act → World → Prop} (hgd : o.guard = none) (s x : Operand) (t e : TypeId)
    (ho : o.op = .call { callee := .builtin .append, args := #[s, x], argTypes := #[t, t] }) (ht : P.underlying t = some (.slice e))
    (hz : (P.info? e).map (fun i => (i.zero, i.size, i.bytes)) = some (some (.int .u8 0), 1, 1))
    (base : Nat) (l d : List UInt8) (hown : OwnBytes w base e (a.eval s) l) (hx : BytesAt w (a.eval x) d) (hl : l.length + d.length ≤ 140737488355328) (hbase : base ≤ w.heap.size)
    (h : ∀ v' w', OwnBytes w' base e v' (l ++ d) → Only (fun k => base ≤ k) w w' → wpList P ops Q rest (a.put o.dst v') w') : wpList P ops Q (o :: rest) a w := by
  obtain ⟨i, hi, hz0, h1, h2⟩ : ∃ i, P.info? e = some i ∧ i.zero = some (.int .u8 0) ∧ i.size = 1 ∧ i.bytes = 1 := by
    cases hi : P.info? e with
    | none => rw [hi] at hz; simp at hz
    | some i => rw [hi] at hz; simp at hz; exact ⟨i, rfl, hz.1, hz.2.1, hz.2.2⟩
  have hrow : ∀ k, (a.eval s).ownBlock = some k → base ≤ k := by
    intro k hk
    rcases hown.2 with ⟨hv, _⟩ | ⟨g, cap, cur, hv, hb, _⟩
    · rw [hv] at hk; simp [Value.ownBlock] at hk
    · rw [hv] at hk; simp [Value.ownBlock] at hk; omega
  rcases hx with ⟨b, c, hv, hbn, rfl⟩ | ⟨b, so, cap, hv, k1, k2, k3⟩
  · cases b with
    | none =>
      have hc := hbn rfl
      subst hc
      have := h (a.eval s) w (by simpa using hown) (Only.refl _ _)
      exact wpList_append_own_none hgd s x t ho base e i 1 ht hi _ _ _ rfl hown hv this
    | some b =>
      refine wpList_append_own w hgd s x t ho base e i (.int .u8 0) 1 1 ht hi hz0 h1 h2 rfl (by decide) _ _ _ rfl hown b 0 c [] hv rfl (by simp) (by simp) (by unfold maxLen; simp at hl ⊢; omega) (by simp at hl ⊢; omega) hbase ?_
      intro v' w' ho' hg' _
      exact h v' w' (by simpa [OwnBytes] using ho') (grown_only hg' _ hrow)
  · refine wpList_append_own w hgd s x t ho base e i (.int .u8 0) 1 1 ht hi hz0 h1 h2 rfl (by decide) _ _ _ rfl hown ⟨b, so, none⟩ d.length cap (d.map bv) hv (by simp) ?_ ?_ (by unfold maxLen; omega) (by omega) hbase ?_
    · intro j u hj
      have hjl : j < d.length := by have := (List.getElem?_eq_some_iff.1 hj).1; simpa using this
      have hadd : (⟨b, so, none⟩ : Addr).add j = ⟨b, so + j, none⟩ := by unfold Addr.add; split <;> simp_all
      rw [hadd, k3 j hjl]
      simp only [List.getElem?_map, List.getElem?_eq_getElem hjl, Option.map_some] at hj
      exact hj
    · intro u hu
      obtain ⟨y, _, rfl⟩ := List.mem_map.1 hu
      rfl
    · intro v' w' ho' hg' _
      exact h v' w' (by simpa [OwnBytes] using ho') (grown_only hg' _ hrow)

end Go.Proofs.Ytloejpkefoagfaa
