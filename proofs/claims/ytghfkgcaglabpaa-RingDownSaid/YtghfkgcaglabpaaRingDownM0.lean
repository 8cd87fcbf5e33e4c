/-
  What the proof of RingDown stands on, part 0: each theorem by itself, under the conditions that it names.
-/
import Derived.WalkKit
import Derived.WalkSpells
import Derived.Laws.CopyOwn
import Derived.Deep.Draws
import Derived.Laws.AppendOwnNone
import Derived.Test.YtghfkgcaglabpaaProg
import Derived.Lib.Hide
import Derived.StillTailTactics
import Derived.Deep.QuietTactic
import Derived.BigQuiet
import Derived.BigRegion
import Derived.Deep.DeepCutAuto
import Derived.Deep.LoopGhost
import Derived.Laws.Rows
import Derived.Laws.Tables
import Derived.Laws.ResultCell
import Derived.Laws.CopyRow
import Derived.Laws.MakeOwn
import Derived.Laws.BytesString
/-
  What is known of a block of memory, and what a call has left alone. No program is named here.
-/
namespace Go.Proofs.Ytghfkgcaglabpaa
open Go.RowKit

def Blk (w : World) (b : Nat) (c : List Value) (T : TypeId) : Prop := w.heap[b]? = some (.cells c.toArray T (0, 0))

section
variable {w w' : World} {b : Nat} {c : List Value} {T : TypeId}
theorem Blk.lt (h : Blk w b c T) : b < w.heap.size := (Array.getElem?_eq_some_iff.1 h).1
theorem Blk.cell (h : Blk w b c T) (o : Nat) : w.cell? ⟨b, o, none⟩ = c[o]? := by
  unfold Blk at h; simp [World.cell?, h]
theorem Blk.fz (h : Blk w b c T) (o : Nat) : w.frozen? ⟨b, o, none⟩ = false := by
  unfold Blk at h; simp [World.frozen?, h]
theorem Blk.set (h : Blk w b c T) (o : Nat) (v : Value) : Blk (w.setCell ⟨b, o, none⟩ v) b (c.set o v) T := by
  have := heap_setCell_same w b o c.toArray T v h
  unfold Blk; rw [this]; simp
theorem Blk.set_ne (h : Blk w b c T) {a : Addr} (hne : a.block ≠ b) (v : Value) : Blk (w.setCell a v) b c T := by
  unfold Blk; rw [heap_setCell_other w a b v (Ne.symm hne)]; exact h
theorem Blk.alloc (h : Blk w b c T) (o : Obj) : Blk (w.alloc o) b c T := by
  unfold Blk; rw [Below.heap_alloc w o b h.lt]; exact h
theorem Blk.new (w : World) (c : List Value) (T : TypeId) : Blk (w.alloc (.cells c.toArray T)) w.heap.size c T := Go.heap_alloc_new w _
theorem Blk.new' (w : World) (c : Array Value) (T : TypeId) : Blk (w.alloc (.cells c T)) w.heap.size c.toList T := Go.heap_alloc_new w _
theorem Blk.at_new {w : World} {A : Array Value} {c : List Value} {T : TypeId} {n : Nat} (hn : n = w.heap.size) (hA : A = c.toArray) : Blk (w.alloc (.cells A T)) n c T := by
  subst hn hA; exact Blk.new w c T
theorem Blk.drewN (h : Blk w b c T) (n : Nat) : Blk (w.drewN n) b c T := h
theorem Blk.uniq {c' : List Value} {T' : TypeId} (h : Blk w b c T) (h' : Blk w b c' T') : c = c' := by
  unfold Blk at h h'; rw [h] at h'; simp at h'; exact h'.1
end

structure Only (S : Nat → Prop) (w w' : World) : Prop where
  os : w'.os = w.os
  tape : w'.tape = w.tape
  output : w'.output = w.output
  size : w.heap.size ≤ w'.heap.size
  block : ∀ k, k < w.heap.size → ¬ S k → w'.heap[k]? = w.heap[k]?

section
variable {S S' : Nat → Prop} {w w0 w1 w2 : World}
theorem Only.refl (S : Nat → Prop) (w : World) : Only S w w := ⟨rfl, rfl, rfl, Nat.le_refl _, fun _ _ _ => rfl⟩
theorem Only.trans' (h : Only S w w1) (k : Only S' w1 w2) (hs : ∀ b, S' b → S b ∨ w.heap.size ≤ b) : Only S w w2 :=
  ⟨k.os.trans h.os, k.tape.trans h.tape, k.output.trans h.output, Nat.le_trans h.size k.size, fun b hb hn =>
    (k.block b (Nat.lt_of_lt_of_le hb h.size) (fun hs' => (hs b hs').elim hn (fun hg => absurd hb (Nat.not_lt.2 hg)))).trans (h.block b hb hn)⟩
theorem Only.trans (h : Only S w w1) (k : Only S w1 w2) : Only S w w2 := h.trans' k (fun _ hb => .inl hb)
theorem Only.mono (h : Only S w w1) (hs : ∀ b, S b → S' b ∨ w.heap.size ≤ b) : Only S' w w1 :=
  ⟨h.os, h.tape, h.output, h.size, fun b hb hn => h.block b hb (fun hs' => (hs b hs').elim hn (fun hg => absurd hb (Nat.not_lt.2 hg)))⟩
theorem Only.setCell (h : Only S w0 w) {a : Addr} (ha : S a.block ∨ w0.heap.size ≤ a.block) (v : Value) : Only S w0 (w.setCell a v) :=
  ⟨h.os, h.tape, h.output, by simp; exact h.size, fun b hb hn => by
    rw [heap_setCell_other w a b v (fun e => by subst e; exact ha.elim hn (fun hg => absurd hb (Nat.not_lt.2 hg)))]; exact h.block b hb hn⟩
theorem Only.st (h : Only S w0 w) {b : Nat} (hb : S b) (o : Nat) (v : Value) : Only S w0 (w.setCell ⟨b, o, none⟩ v) := h.setCell (.inl hb) v
theorem Only.alloc (h : Only S w0 w) (o : Obj) : Only S w0 (w.alloc o) :=
  ⟨h.os, h.tape, h.output, by simp; exact Nat.le_succ_of_le h.size, fun b hb hn => by
    rw [Below.heap_alloc w o b (Nat.lt_of_lt_of_le hb h.size)]; exact h.block b hb hn⟩
theorem Only.drew (h : Only S w0 w) : Only S w0 w.drew := ⟨h.os, h.tape, h.output, h.size, h.block⟩
theorem Only.drewN (h : Only S w0 w) (n : Nat) : Only S w0 (w.drewN n) := ⟨h.os, h.tape, h.output, h.size, h.block⟩
theorem Only.step (h : Only (fun _ => False) w w1) (k : Only S w1 w2) (hs : ∀ b, S b → w.heap.size ≤ b) : Only (fun _ => False) w w2 := h.trans' k (fun b hb => .inr (hs b hb))
theorem Only.blk (h : Only S w w1) {b : Nat} {c : List Value} {T : TypeId} (hb : Blk w b c T) (hn : ¬ S b) : Blk w1 b c T := by
  unfold Blk; rw [h.block b hb.lt hn]; exact hb
theorem Only.below (h : Only S w w1) (hs : ∀ b, S b → w.heap.size ≤ b) : Below w.heap.size w w1 :=
  ⟨h.os, h.tape, h.output, h.size, fun k hk => h.block k hk (fun hk' => absurd hk (Nat.not_lt.2 (hs k hk')))⟩
theorem Only.cell (h : Only S w w1) {a : Addr} (hb : a.block < w.heap.size) (hn : ¬ S a.block) : w1.cell? a = w.cell? a :=
  World.cell?_of_block (w := w) (h.block a.block hb hn)
end

theorem set_ne_at {c : List Value} {i o : Nat} {v : Value} (h : o ≠ i) : (c.set i v)[o]? = c[o]? := List.getElem?_set_ne (Ne.symm h)

abbrev bv (x : UInt8) : Value := .int .u8 (x.toNat : Int)

def BytesAt (w : World) (v : Value) (l : List UInt8) : Prop :=
  (∃ a c, v = .slice a 0 c ∧ (a = none → c = 0) ∧ l = []) ∨
  ∃ (b o cap : Nat), v = .slice (some ⟨b, o, none⟩) l.length cap ∧ l.length ≤ cap ∧ l.length ≤ 140737488351232 ∧ ∀ j (hj : j < l.length), w.cell? ⟨b, o + j, none⟩ = some (bv l[j])

theorem BytesAt.len {w : World} {v : Value} {l : List UInt8} (h : BytesAt w v l) : l.length ≤ 140737488351232 := by
  rcases h with ⟨_, _, _, _, rfl⟩ | ⟨b, o, cap, _, h1, h2, _⟩
  · simp
  · omega

theorem BytesAt.form {w : World} {v : Value} {l : List UInt8} (h : BytesAt w v l) : ∃ a cap, v = .slice a l.length cap := by
  rcases h with ⟨a, c, rfl, _, rfl⟩ | ⟨b, o, cap, rfl, _⟩
  · exact ⟨a, c, rfl⟩
  · exact ⟨_, _, rfl⟩

def sliceIn (v : Value) (S : Nat → Prop) : Prop := ∀ (b o n cap : Nat), v = .slice (some ⟨b, o, none⟩) n cap → 0 < n → S b

theorem BytesAt.only {S : Nat → Prop} {w w1 : World} {v : Value} {l : List UInt8} (h : BytesAt w v l) (k : Only S w w1) (hs : sliceIn v (fun b => ¬ S b)) : BytesAt w1 v l := by
  rcases h with h | ⟨b, o, cap, hv, h1, h2, h3⟩
  · exact .inl h
  · refine .inr ⟨b, o, cap, hv, h1, h2, fun j hj => ?_⟩
    have hc := h3 j hj
    have hb : b < w.heap.size := block_lt_of_cell (a := ⟨b, o + j, none⟩) hc
    rw [k.cell (a := ⟨b, o + j, none⟩) hb (hs b o _ cap hv (by omega))]; exact hc

theorem BytesAt.lt {w : World} {v : Value} {l : List UInt8} (h : BytesAt w v l) : sliceIn v (fun b => b < w.heap.size) := by
  intro b o n cap hv hn
  rcases h with ⟨a, c, h, _⟩ | ⟨b', o', cap', hv', _, _, h3⟩
  · rw [h] at hv; simp at hv; omega
  · rw [hv'] at hv; simp at hv
    obtain ⟨⟨rfl, rfl⟩, rfl, rfl⟩ := hv
    exact block_lt_of_cell (a := ⟨b', o' + 0, none⟩) (h3 0 hn)

theorem BytesAt.nil (w : World) : BytesAt w (.slice none 0 0) [] := .inl ⟨_, _, rfl, fun _ => rfl, rfl⟩
open Go.RowKit in
theorem wpList_copy_blk {P : Program} {w : World} {ops : Array Oper} {rest : List Oper} {o : Oper} {a : Act} {Q : Exit → Act → World → Prop} (hgd : o.guard = none) (d s : Operand) (dT sT : TypeId)
    (ho : o.op = .call { callee := .builtin .copy, args := #[d, s], argTypes := #[dT, sT] }) (elem : TypeId) (hu : P.underlying dT = some (.slice elem)) (hsz : (P.info? elem).map (·.size) = some 1)
    (g off dLen dCap : Nat) (hd : a.eval d = .slice (some ⟨g, off, none⟩) dLen dCap) (l : List UInt8) (hs : BytesAt w (a.eval s) l)
    (cur : List Value) (t : TypeId) (hg : Blk w g cur t) (hfit : off + dLen ≤ cur.length)
    (h : ∀ w', Blk w' g (splice cur off ((l.take dLen).map bv)) t → Only (fun k => k = g) w w' → wpList P ops Q rest (a.put o.dst (goInt (min l.length dLen : Nat))) w') :
    wpList P ops Q (o :: rest) a w := by
  by_cases hz : Nat.min l.length dLen = 0
  · obtain ⟨sa, cap, hv⟩ := hs.form
    refine wpList_copy_nothing hgd d s dT sT ho elem hu hsz (some ⟨g, off, none⟩) sa dLen dCap l.length cap hd hv hz ?_
    have hz' : min l.length dLen = 0 := hz
    have he : (l.take dLen) = [] := by
      apply List.eq_nil_of_length_eq_zero; rw [List.length_take]; omega
    have := h w (by rw [he]; simpa [splice] using hg) (Only.refl _ _)
    rw [hz'] at this; exact this
  · rcases hs with ⟨_, _, _, _, rfl⟩ | ⟨b, so, cap, hv, h1, h2, h3⟩
    · exact absurd (by simp) hz
    · have hlen : ((l.take dLen).map bv).length = Nat.min l.length dLen := by
        simp only [List.length_map, List.length_take]; exact Nat.min_comm _ _
      refine wpList_copy_own hgd d s dT sT ho elem hu hsz g off dLen dCap ⟨b, so, none⟩ l.length cap hd hv cur.toArray t hg ((l.take dLen).map bv) hlen ?_ ?_ ?_ ?_
      · intro j v hj
        have hj' : j < ((l.take dLen).map bv).length := (List.getElem?_eq_some_iff.1 hj).1
        simp only [List.length_map, List.length_take] at hj'
        have hjl : j < l.length := by omega
        have hadd : (⟨b, so, none⟩ : Addr).add j = ⟨b, so + j, none⟩ := by unfold Addr.add; split <;> simp_all
        rw [hadd, h3 j hjl]
        simp only [List.getElem?_map, List.getElem?_take] at hj
        rw [if_pos (by omega), List.getElem?_eq_getElem hjl] at hj
        simpa using hj
      · rw [hlen]; simp only [List.size_toArray]
        have : Nat.min l.length dLen ≤ dLen := Nat.min_le_right _ _
        omega
      · intro v hv
        obtain ⟨x, _, rfl⟩ := List.mem_map.1 hv
        rfl
      · rw [hlen]
        have hb2 := setRow_heap w g cur.toArray ((cur.take off ++ (((l.take dLen).map bv) ++ cur.drop (off + ((l.take dLen).map bv).length))).toArray) t (0, 0) hg
        have := h (w.setRow g ((cur.take off ++ (((l.take dLen).map bv) ++ cur.drop (off + ((l.take dLen).map bv).length))).toArray)) hb2
          ⟨rfl, rfl, rfl, by simp [World.setRow], fun k _ hk => setRow_other w g k _ hk⟩
        rw [hlen] at this
        exact this


def OwnBytes (w : World) (base : Nat) (T : TypeId) (v : Value) (l : List UInt8) : Prop := w.ownsRow base T 1 v l.length (l.map bv)

theorem OwnBytes.form {w : World} {base : Nat} {T : TypeId} {v : Value} {l : List UInt8} (h : OwnBytes w base T v l) : ∃ a cap, v = .slice a l.length cap ∧ (a = none → cap = 0 ∧ l = []) := by
  rcases h.2 with ⟨rfl, h0⟩ | ⟨g, cap, cur, rfl, _⟩
  · exact ⟨none, 0, by rw [h0], fun _ => ⟨rfl, List.eq_nil_of_length_eq_zero h0⟩⟩
  · exact ⟨_, _, rfl, fun h => by cases h⟩
theorem OwnBytes.reads {w : World} {base : Nat} {T : TypeId} {v : Value} {l : List UInt8} (h : OwnBytes w base T v l) {j : Nat} (hj : j < l.length) : ∃ g cap, v = .slice (some ⟨g, 0, none⟩) l.length cap ∧ base ≤ g ∧ w.cell? ⟨g, j, none⟩ = some (bv l[j]) := by
  rcases h.2 with ⟨_, h0⟩ | ⟨g, cap, cur, hv, hb, hg, hn, hc, hsz, ht⟩
  · omega
  · refine ⟨g, cap, hv, hb, ?_⟩
    rw [cell_of_row _ _ _ _ _ _ hg]
    have : (cur.toList.take (l.length * 1))[j]? = (l.map bv)[j]? := by rw [ht]
    rw [List.getElem?_take, if_pos (by omega), List.getElem?_map, List.getElem?_eq_getElem hj] at this
    simpa using this

theorem OwnBytes.bytes {w : World} {base : Nat} {T : TypeId} {v : Value} {l : List UInt8} (h : OwnBytes w base T v l) (hl : l.length ≤ 140737488351232) : BytesAt w v l := by
  rcases h.2 with ⟨rfl, h0⟩ | ⟨g, cap, cur, hv, hb, hg, hn, hc, hsz, ht⟩
  · exact .inl ⟨none, 0, rfl, fun _ => rfl, List.eq_nil_of_length_eq_zero h0⟩
  · refine .inr ⟨g, 0, cap, hv, hn, hl, fun j hj => ?_⟩
    obtain ⟨g', cap', hv', _, h⟩ := h.reads hj
    rw [hv] at hv'; simp at hv'
    rw [hv'.1, Nat.zero_add]; exact h

theorem grown_only {w w' : World} {row : Option Nat} (h : w.grownBy w' row) (S : Nat → Prop) (hr : ∀ k, row = some k → S k) : Only S w w' :=
  ⟨h.os, h.tape, h.output, h.size, fun k hk hn => h.block k hk (fun e => hn (hr k e.symm))⟩
end Go.Proofs.Ytghfkgcaglabpaa

/-
  How a pool lies in memory, and what its calls do to the buffers: each call's answer, for every input.
-/
namespace Go.Proofs.Ytghfkgcaglabpaa
open Go.RowKit

structure Bf where
  refs : Nat
  head : List UInt8
  data : List UInt8

def BufAt (c : List Value) (o : Nat) (b : Bf) : Prop :=
  ∃ (mem : List UInt8) (fr : Nat), mem.length = 392 ∧ c[o]? = some (.int .i64 (b.refs : Int)) ∧ (∀ j (hj : j < mem.length), c[o + 1 + j]? = some (bv mem[j])) ∧
    c[o + 393]? = some (.int .i64 (b.head.length : Int)) ∧ c[o + 394]? = some (.int .i64 (b.data.length : Int)) ∧ c[o + 395]? = some (.int .i64 (fr : Int)) ∧
    b.head = mem.take b.head.length ∧ b.data = (mem.drop (104 + fr)).take b.data.length ∧ b.head.length ≤ 104 ∧ fr + b.data.length ≤ 288

theorem BufAt.frame {c c' : List Value} {o : Nat} {b : Bf} (h : BufAt c o b) (hc : ∀ j, j < 396 → c'[o + j]? = c[o + j]?) : BufAt c' o b := by
  obtain ⟨mem, fr, hm, h0, h1, h2, h3, h4, h5⟩ := h
  refine ⟨mem, fr, hm, ?_, ?_, ?_, ?_, ?_, h5⟩
  · have := hc 0 (by omega); simp only [Nat.add_zero] at this; rw [this]; exact h0
  · intro j hj; have := hc (1 + j) (by omega); rw [← Nat.add_assoc] at this; rw [this]; exact h1 j hj
  · rw [hc 393 (by omega)]; exact h2
  · rw [hc 394 (by omega)]; exact h3
  · rw [hc 395 (by omega)]; exact h4

def nfree (L : List Bf) : Nat := L.countP (fun b => b.refs == 0)

def PoolAt (w : World) (p ab : Nat) (L : List Bf) : Prop :=
  Blk w p [.slice (some ⟨ab, 0, none⟩) L.length L.length, .int .i64 (nfree L : Int)] 111 ∧ p ≠ ab ∧ 1 ≤ L.length ∧ L.length ≤ 4096 ∧
  ∃ c, Blk w ab c 80 ∧ c.length = L.length * 396 ∧ ∀ k b, L[k]? = some b → BufAt c (k * 396) b
theorem PoolAt.alloc {w : World} {p ab : Nat} {L : List Bf} (h : PoolAt w p ab L) (o : Obj) : PoolAt (w.alloc o) p ab L := by
  obtain ⟨hp, hne, a1, a2, c, hc, hr⟩ := h
  exact ⟨hp.alloc o, hne, a1, a2, c, hc.alloc o, hr⟩
theorem PoolAt.lt {w : World} {p ab : Nat} {L : List Bf} (h : PoolAt w p ab L) : p < w.heap.size ∧ ab < w.heap.size := by
  obtain ⟨hp, hne, a1, a2, c, hc, hr⟩ := h
  exact ⟨hp.lt, hc.lt⟩

theorem bufs_set {L : List Bf} {c c' : List Value} {k : Nat} {b1 : Bf} (hb : ∀ k b, L[k]? = some b → BufAt c (k * 396) b)
    (hout : ∀ o, (o < k * 396 ∨ k * 396 + 396 ≤ o) → c'[o]? = c[o]?) (hin : BufAt c' (k * 396) b1) :
    ∀ j b, (L.set k b1)[j]? = some b → BufAt c' (j * 396) b := by
  intro j b hj
  by_cases e : k = j
  · subst e
    rw [List.getElem?_set] at hj
    simp at hj
    obtain ⟨_, rfl⟩ := hj
    exact hin
  · rw [List.getElem?_set_ne e] at hj
    exact (hb j b hj).frame (fun i hi => hout _ (by omega))

theorem nfree_set {L : List Bf} {k : Nat} {b b1 : Bf} (hk : L[k]? = some b) :
    nfree (L.set k b1) + (if b.refs = 0 then 1 else 0) = nfree L + (if b1.refs = 0 then 1 else 0) := by
  unfold nfree
  induction L generalizing k with
  | nil => simp at hk
  | cons x L ih =>
    cases k with
    | zero =>
      simp at hk; subst hk
      simp only [List.set_cons_zero, List.countP_cons]
      simp only [beq_iff_eq]; omega
    | succ k =>
      simp only [List.getElem?_cons_succ] at hk
      simp only [List.set_cons_succ, List.countP_cons]
      have := ih hk
      omega

theorem nfree_le (L : List Bf) : nfree L ≤ L.length := List.countP_le_length

theorem PoolAt.cell0 {w : World} {p ab : Nat} {L : List Bf} (h : PoolAt w p ab L) : w.cell? ⟨p, 0, none⟩ = some (.slice (some ⟨ab, 0, none⟩) L.length L.length) := by
  rw [h.1.cell]; rfl
theorem PoolAt.cell1 {w : World} {p ab : Nat} {L : List Bf} (h : PoolAt w p ab L) : w.cell? ⟨p, 1, none⟩ = some (.int .i64 (nfree L : Int)) := by
  rw [h.1.cell]; rfl
theorem PoolAt.cellr {w : World} {p ab : Nat} {L : List Bf} (h : PoolAt w p ab L) {k : Nat} {b : Bf} (hk : L[k]? = some b) : w.cell? ⟨ab, k * 396, none⟩ = some (.int .i64 (b.refs : Int)) := by
  obtain ⟨hp, hne, a1, a2, c, hc, hl, hr⟩ := h
  obtain ⟨mem, fr, hm, h0, _⟩ := hr k b hk
  rw [hc.cell]; exact h0

def Used (L : List Bf) (id : Int) : Prop := ∃ (k : Nat) (b : Bf), id = (k : Int) ∧ L[k]? = some b ∧ 0 < b.refs

theorem not_used {L : List Bf} {id : Int} (h : ¬ Used L id) : id < 0 ∨ (L.length : Int) ≤ id ∨ ∃ (k : Nat) (b : Bf), id = (k : Int) ∧ k < L.length ∧ L[k]? = some b ∧ b.refs = 0 := by
  by_cases h0 : id < 0
  · exact .inl h0
  · by_cases h1 : (L.length : Int) ≤ id
    · exact .inr (.inl h1)
    · obtain ⟨k, rfl⟩ := Int.eq_ofNat_of_zero_le (Int.not_lt.1 h0)
      have hk : k < L.length := by omega
      refine .inr (.inr ⟨k, L[k], rfl, hk, List.getElem?_eq_getElem hk, ?_⟩)
      by_cases hr : L[k].refs = 0
      · exact hr
      · exact absurd ⟨k, L[k], rfl, List.getElem?_eq_getElem hk, by omega⟩ h

set_option maxRecDepth 100000
set_option maxHeartbeats 400000

theorem used_in {w : World} {p ab : Nat} {L : List Bf} (h : PoolAt w p ab L) {k : Nat} {b : Bf} (hk : L[k]? = some b) (hr : 0 < b.refs) :
    Calls Try.prog 32 #[.pointer (some ⟨p, 0, none⟩), .int .i64 (k : Int)] w fun e w' => e = .returned (.pointer (some ⟨ab, k * 396, none⟩)) ∧ w = w' := by
  have hp0 := h.cell0
  have hb0 := h.cellr hk
  have hkl : k < L.length := (List.getElem?_eq_some_iff.1 hk).1
  have hL := h.2.2.2.1
  have hr0 : ((b.refs : Int) == 0) = false := by simp; omega
  clear h hk
  go_enter Try.func32, Try.ntmps32
  go_wp2
  go_ret
  exact ⟨rfl, rfl⟩

theorem used_no {w : World} {p ab : Nat} {L : List Bf} (h : PoolAt w p ab L) {id : Int} (hn : ¬ Used L id) :
    Calls Try.prog 32 #[.pointer (some ⟨p, 0, none⟩), .int .i64 id] w fun e w' => e = .returned (.pointer none) ∧ w = w' := by
  have hp0 := h.cell0
  have hL := h.2.2.2.1
  rcases not_used hn with h0 | h1 | ⟨k, b, rfl, hkl, hk, hr⟩
  · clear h hn
    go_enter Try.func32, Try.ntmps32
    go_wp2
    go_ret
    exact ⟨rfl, rfl⟩
  · clear h hn
    have h0 : 0 ≤ id := by omega
    go_enter Try.func32, Try.ntmps32
    go_wp2
    go_ret
    exact ⟨rfl, rfl⟩
  · have hb0 := h.cellr hk
    rw [hr] at hb0
    clear h hn hk hr
    go_enter Try.func32, Try.ntmps32
    go_wp2
    go_ret
    exact ⟨rfl, rfl⟩

theorem own_no {w : World} {p ab : Nat} {L : List Bf} (h : PoolAt w p ab L) {id : Int} (hn : ¬ Used L id) :
    Calls Try.prog 54 #[.pointer (some ⟨p, 0, none⟩), .int .i64 id] w fun e w' => e = .returned (.tuple #[.pointer none, .int .i64 7]) ∧ w = w' := by
  go_enter Try.func54, Try.ntmps54
  go_wp2_with (go_at_call 32; refine (used_no h hn).mono ?_; rintro e w' ⟨rfl, rfl⟩)
  go_ret2
  exact ⟨rfl, rfl⟩

theorem own_shared {w : World} {p ab : Nat} {L : List Bf} (h : PoolAt w p ab L) {k : Nat} {b : Bf} (hk : L[k]? = some b) (hr : 1 < b.refs) :
    Calls Try.prog 54 #[.pointer (some ⟨p, 0, none⟩), .int .i64 (k : Int)] w fun e w' => e = .returned (.tuple #[.pointer none, .int .i64 9]) ∧ w = w' := by
  have hb0 := h.cellr hk
  have hr1 : decide (1 < b.refs) = true := by simpa using hr
  have hr2 : (1 : Int) < (b.refs : Int) := by omega
  go_enter Try.func54, Try.ntmps54
  go_wp2_with (go_at_call 32; refine (used_in h hk (by omega)).mono ?_; rintro e w' ⟨rfl, rfl⟩)
  go_ret2
  exact ⟨rfl, rfl⟩

theorem own_in {w : World} {p ab : Nat} {L : List Bf} (h : PoolAt w p ab L) {k : Nat} {b : Bf} (hk : L[k]? = some b) (hr : b.refs = 1) :
    Calls Try.prog 54 #[.pointer (some ⟨p, 0, none⟩), .int .i64 (k : Int)] w fun e w' => e = .returned (.tuple #[.pointer (some ⟨ab, k * 396, none⟩), .int .i64 0]) ∧ w = w' := by
  have hb0 := h.cellr hk
  have hr' : 0 < b.refs := by omega
  rw [hr] at hb0
  clear hr
  go_enter Try.func54, Try.ntmps54
  go_wp2_with (go_at_call 32; refine (used_in h hk hr').mono ?_; rintro e w' ⟨rfl, rfl⟩)
  go_ret2
  exact ⟨rfl, rfl⟩

theorem left_any {w : World} {p ab : Nat} {L : List Bf} (h : PoolAt w p ab L) :
    Calls Try.prog 25 #[.pointer (some ⟨p, 0, none⟩)] w fun e w' => e = .returned (.int .i64 (nfree L : Int)) ∧ w = w' := by
  have hp0 := h.cell1
  go_enter Try.func25, Try.ntmps25
  go_wp2
  go_ret
  exact ⟨rfl, rfl⟩

theorem PoolAt.turn {w w' : World} {p ab : Nat} {L : List Bf} (h : PoolAt w p ab L) {k : Nat} {b1 : Bf} {c c' : List Value}
    (hc : Blk w ab c 80) (hp' : Blk w' p [.slice (some ⟨ab, 0, none⟩) L.length L.length, .int .i64 (nfree (L.set k b1) : Int)] 111)
    (hc' : Blk w' ab c' 80) (hl : c'.length = c.length) (hout : ∀ o, (o < k * 396 ∨ k * 396 + 396 ≤ o) → c'[o]? = c[o]?) (hin : BufAt c' (k * 396) b1) : PoolAt w' p ab (L.set k b1) := by
  obtain ⟨hp, hne, a1, a2, c0, hc0, hl0, hr⟩ := h
  have e := hc.uniq hc0
  subst e
  refine ⟨by simpa using hp', hne, by simpa using a1, by simpa using a2, c', hc', by simp; omega, bufs_set hr hout hin⟩

theorem hold_no {w : World} {p ab : Nat} {L : List Bf} (h : PoolAt w p ab L) {id : Int} (hn : ¬ Used L id) :
    Calls Try.prog 39 #[.pointer (some ⟨p, 0, none⟩), .int .i64 id] w fun e w' => e = .returned (.int .i64 7) ∧ w = w' := by
  go_enter Try.func39, Try.ntmps39
  go_wp2_with (go_at_call 32; refine (used_no h hn).mono ?_; rintro e w' ⟨rfl, rfl⟩)
  go_ret
  exact ⟨rfl, rfl⟩

theorem BufAt.refs {c : List Value} {o : Nat} {b : Bf} (h : BufAt c o b) (ho : o < c.length) {x : Int} {n : Nat} (hx : x = (n : Int)) : BufAt (c.set o (.int .i64 x)) o { b with refs := n } := by
  obtain ⟨mem, fr, hm, h0, h1, h2, h3, h4, h5⟩ := h
  refine ⟨mem, fr, hm, ?_, ?_, ?_, ?_, ?_, h5⟩
  · rw [List.getElem?_set_self ho, hx]
  · intro j hj; rw [set_ne_at (by omega)]; exact h1 j hj
  · rw [set_ne_at (by omega)]; exact h2
  · rw [set_ne_at (by omega)]; exact h3
  · rw [set_ne_at (by omega)]; exact h4

theorem hold_in {w : World} {p ab : Nat} {L : List Bf} (h : PoolAt w p ab L) {k : Nat} {b : Bf} (hk : L[k]? = some b) (hr : 0 < b.refs) (hm : b.refs < 1000000000000000) :
    Calls Try.prog 39 #[.pointer (some ⟨p, 0, none⟩), .int .i64 (k : Int)] w fun e w' => e = .returned (.int .i64 0) ∧ PoolAt w' p ab (L.set k { b with refs := b.refs + 1 }) ∧ Only (fun b => b = ab) w w' := by
  have hb0 := h.cellr hk
  obtain ⟨c, hc, hcl, hcb⟩ := h.2.2.2.2
  have hz := fun o => hc.fz o
  have H := Lib.hid (And.intro h (And.intro hk hc))
  have hU := used_in h hk hr
  clear hk hc hcl hcb h
  go_enter Try.func39, Try.ntmps39
  go_wp2_with (go_at_call 32; refine hU.mono ?_; rintro e w' ⟨rfl, rfl⟩)
  go_ret
  obtain ⟨h, hk, hc⟩ := H.out
  refine ⟨rfl, h.turn hc ?_ (hc.set _ _) (by simp) (fun o ho => set_ne_at (by omega)) ?_, Only.st (Only.refl (fun b => b = ab) _) rfl _ _⟩
  · have e := nfree_set (b1 := { b with refs := b.refs + 1 }) hk
    rw [if_neg (by omega), if_neg (by simp)] at e
    have e' : nfree (L.set k { b with refs := b.refs + 1 }) = nfree L := by omega
    rw [e']
    exact h.1.set_ne (by simp; exact fun e => h.2.1 e.symm) _
  · obtain ⟨c0, hc0, hl0, hrr⟩ := h.2.2.2.2
    have ec := hc.uniq hc0
    subst ec
    have hkl : k < L.length := (List.getElem?_eq_some_iff.1 hk).1
    exact (hrr k b hk).refs (by omega) rfl

end Go.Proofs.Ytghfkgcaglabpaa

/-
  What the pool's calls that change a buffer do, for every input.
-/
namespace Go.Proofs.Ytghfkgcaglabpaa
open Go.RowKit
set_option maxRecDepth 100000
set_option maxHeartbeats 400000

theorem free_no {w : World} {p ab : Nat} {L : List Bf} (h : PoolAt w p ab L) {id : Int} (hn : ¬ Used L id) :
    Calls Try.prog 26 #[.pointer (some ⟨p, 0, none⟩), .int .i64 id] w fun e w' => e = .returned (.int .i64 7) ∧ w = w' := by
  go_enter Try.func26, Try.ntmps26
  go_wp2_with (go_at_call 32; refine (used_no h hn).mono ?_; rintro e w' ⟨rfl, rfl⟩)
  go_ret
  exact ⟨rfl, rfl⟩

theorem free_in {w : World} {p ab : Nat} {L : List Bf} (h : PoolAt w p ab L) {k : Nat} {b : Bf} (hk : L[k]? = some b) (hr : 0 < b.refs) (hm : b.refs < 1000000000000000) :
    Calls Try.prog 26 #[.pointer (some ⟨p, 0, none⟩), .int .i64 (k : Int)] w fun e w' => e = .returned (.int .i64 0) ∧ PoolAt w' p ab (L.set k { b with refs := b.refs - 1 }) ∧ Only (fun b => b = p ∨ b = ab) w w' := by
  have hb0 := h.cellr hk
  have hp1 := h.cell1
  obtain ⟨c, hc, hcl, hcb⟩ := h.2.2.2.2
  have hz := fun o => hc.fz o
  have hzp := fun o => h.1.fz o
  have hne : ¬ p = ab := h.2.1
  have hne' : ¬ ab = p := fun e => h.2.1 e.symm
  have hnf := nfree_le L
  have hL := h.2.2.2.1
  have hkl : k < L.length := (List.getElem?_eq_some_iff.1 hk).1
  have hU := used_in h hk hr
  have H := Lib.hid (And.intro h (And.intro hk (And.intro hc (And.intro hcl hcb))))
  clear hk hc hcl hcb h
  by_cases h1 : b.refs = 1
  · have H1 := Lib.hid h1
    have ht0 : ((b.refs : Int) - 1 == 0) = true := by simp; omega
    clear h1
    go_enter Try.func26, Try.ntmps26
    go_wp2_with (go_at_call 32; refine hU.mono ?_; rintro e w' ⟨rfl, rfl⟩)
    go_ret
    obtain ⟨h, hk, hc, hcl, hcb⟩ := H.out
    have h1 := H1.out
    refine ⟨rfl, h.turn hc ?_ ((hc.set _ _).set_ne hne _) (by simp) (fun o ho => set_ne_at (by omega)) ?_, Only.st (Only.st (Only.refl (fun b => b = p ∨ b = ab) _) (.inr rfl) _ _) (.inl rfl) _ _⟩
    · have e := nfree_set (b1 := { b with refs := b.refs - 1 }) hk
      rw [if_neg (by omega), if_pos (by simp; omega)] at e
      have e' : nfree (L.set k { b with refs := b.refs - 1 }) = nfree L + 1 := by omega
      rw [e']
      have := (h.1.set_ne (a := ⟨ab, k * 396, none⟩) hne' (.int .i64 ((b.refs : Int) - 1))).set 1 (.int .i64 ((nfree L : Int) + 1))
      simpa using this
    · exact (hcb k b hk).refs (by omega) (by omega)
  · have H1 := Lib.hid h1
    have ht0 : ((b.refs : Int) - 1 == 0) = false := by simp; omega
    clear h1
    go_enter Try.func26, Try.ntmps26
    go_wp2_with (go_at_call 32; refine hU.mono ?_; rintro e w' ⟨rfl, rfl⟩)
    go_ret
    obtain ⟨h, hk, hc, hcl, hcb⟩ := H.out
    have h1 := H1.out
    refine ⟨rfl, h.turn hc ?_ (hc.set _ _) (by simp) (fun o ho => set_ne_at (by omega)) ?_, Only.st (Only.refl (fun b => b = p ∨ b = ab) _) (.inr rfl) _ _⟩
    · have e := nfree_set (b1 := { b with refs := b.refs - 1 }) hk
      rw [if_neg (by omega), if_neg (by simp; omega)] at e
      have e' : nfree (L.set k { b with refs := b.refs - 1 }) = nfree L := by omega
      rw [e']
      exact h.1.set_ne hne' _
    · exact (hcb k b hk).refs (by omega) (by omega)

def OwnErr (L : List Bf) (id : Int) (e : Int) : Prop := (¬ Used L id ∧ e = 7) ∨ ∃ (k : Nat) (b : Bf), id = (k : Int) ∧ L[k]? = some b ∧ 1 < b.refs ∧ e = 9

theorem own_cases (L : List Bf) (id : Int) : OwnErr L id 7 ∨ OwnErr L id 9 ∨ ∃ (k : Nat) (b : Bf), id = (k : Int) ∧ L[k]? = some b ∧ b.refs = 1 := by
  by_cases hu : Used L id
  · obtain ⟨k, b, h1, h2, h3⟩ := hu
    by_cases h : b.refs = 1
    · exact .inr (.inr ⟨k, b, h1, h2, h⟩)
    · exact .inr (.inl (.inr ⟨k, b, h1, h2, by omega, rfl⟩))
  · exact .inl (.inl ⟨hu, rfl⟩)

theorem OwnErr.ne {L : List Bf} {id e : Int} (h : OwnErr L id e) : (e != 0) = true := by
  rcases h with ⟨_, rfl⟩ | ⟨_, _, _, _, _, rfl⟩ <;> rfl

theorem own_err {w : World} {p ab : Nat} {L : List Bf} (h : PoolAt w p ab L) {id x : Int} (hn : OwnErr L id x) :
    Calls Try.prog 54 #[.pointer (some ⟨p, 0, none⟩), .int .i64 id] w fun e w' => e = .returned (.tuple #[.pointer none, .int .i64 x]) ∧ w = w' := by
  rcases hn with ⟨hn, rfl⟩ | ⟨k, b, rfl, hk, hr, rfl⟩
  · exact own_no h hn
  · exact own_shared h hk hr

theorem set_err {w : World} {p ab : Nat} {L : List Bf} (h : PoolAt w p ab L) {id x : Int} (hn : OwnErr L id x) (a : Option Addr) (n m : Nat) :
    Calls Try.prog 18 #[.pointer (some ⟨p, 0, none⟩), .int .i64 id, .slice a n m] w fun e w' => e = .returned (.int .i64 x) ∧ w = w' := by
  have hx := hn.ne
  go_enter Try.func18, Try.ntmps18
  go_wp2_with (go_at_call 54; refine (own_err h hn).mono ?_; rintro e w' ⟨rfl, rfl⟩)
  go_ret
  exact ⟨rfl, rfl⟩

theorem front_err {w : World} {p ab : Nat} {L : List Bf} (h : PoolAt w p ab L) {id x : Int} (hn : OwnErr L id x) (a : Option Addr) (n m : Nat) :
    Calls Try.prog 68 #[.pointer (some ⟨p, 0, none⟩), .int .i64 id, .slice a n m] w fun e w' => e = .returned (.int .i64 x) ∧ w = w' := by
  have hx := hn.ne
  go_enter Try.func68, Try.ntmps68
  go_wp2_with (go_at_call 54; refine (own_err h hn).mono ?_; rintro e w' ⟨rfl, rfl⟩)
  go_ret
  exact ⟨rfl, rfl⟩

def MayTrim (b : Bf) (f g : Int) : Prop := 0 ≤ f ∧ 0 ≤ g ∧ f ≤ b.data.length ∧ g ≤ b.data.length - f
end Go.Proofs.Ytghfkgcaglabpaa

/-
  A region that draws its order: reads and quiet calls in a class of worlds, then a forced tail. After the kit's own two theorems (one world and a tail; a class and no tail), joined.
-/
namespace Go.Proofs.Ytghfkgcaglabpaa

section
variable {P : Program} {ops : Array Oper} {md : Region.Mode} {C : World → Prop}

def wpAnyC (P : Program) (md : Region.Mode) (ops : Array Oper) (C : World → Prop) (n : Nat) (L : Array Bool → Act → Prop) : Nat → Array Bool → Act → Prop
  | 0, listed, a => L listed a
  | f + 1, listed, a =>
    Region.ready md ops listed ≠ [] ∧ ∀ i ∈ Region.ready md ops listed, i < n ∧ qOp P ops C i (wpAnyC P md ops C n L f (listed.setIfInBounds i true)) a

theorem wpAny_of_headC {n g : Nat} {L : Array Bool → Act → Prop} {Q' : Exit → Act → World → Prop} (hL : ∀ listed a w, C w → L listed a → wpAny P md ops Q' g listed a w) :
    ∀ (f : Nat) (listed : Array Bool) (a : Act) (w : World), C w → wpAnyC P md ops C n L f listed a → wpAny P md ops Q' (f + g) listed a w
  | 0, listed, a, w, hw, h => by rw [Nat.zero_add]; exact hL _ _ _ hw h
  | f + 1, listed, a, w, hw, h => by
    rw [show f + 1 + g = (f + g) + 1 by omega]
    exact ⟨fun h0 => absurd h0 h.1, fun i hi => wpOp_of_qOp hw (fun a' w' hw' h' => wpAny_of_headC hL f _ a' w' hw' h') (h.2 i hi).2⟩

theorem wpAnyC_first {n i : Nat} {oi : Oper} {v : Value} {L : Array Bool → Act → Prop} (hi : ops[i]? = some oi) (hsel : ∀ (j : Nat) (o : Oper) cs b, ops[j]? = some o → o.op ≠ .select cs b)
    (hs : Region.sinkB md ops n = true) (hc : Region.chainB md ops n = true) (hn : n < ops.size) (hin : i < n)
    (hdone : ∀ listed a, L listed a → ∀ j ∈ Region.ready md ops listed, n ≤ j) :
    ∀ (f : Nat) (listed : Array Bool) (a : Act), HeadInv md ops n listed →
      (∀ j oj, ops[j]? = some oj → j ≠ i → listed.getD j true = false → (∀ e ∈ oj.after, Region.binds md e = true → e.on ≠ i) → oi.apart ops oj = true) →
      i ∈ Region.ready md ops listed → YieldsIn P ops C oi v a →
      wpAnyC P md ops C n L f (listed.setIfInBounds i true) (a.put oi.dst v) → wpAnyC P md ops C n L (f + 1) listed a := by
  intro f
  induction f with
  | zero =>
    intro listed a inv _ hr hy H
    have hun := (mem_ready.1 hr).1
    refine ⟨fun h => (by rw [h] at hr; cases hr), fun j hj => ?_⟩
    have hjn : j < n := by
      rcases Nat.lt_or_ge j n with h | h
      · exact h
      · exact absurd hj (tail_waits hs hc hn inv _ i rfl hin hun j h)
    refine ⟨hjn, ?_⟩
    by_cases hji : j = i
    · subst hji; exact hy.qOp hi H
    · have := hdone _ _ H j (ready_mono hj hji)
      omega
  | succ f ih =>
    intro listed a inv hfree hr hy H
    have hun := (mem_ready.1 hr).1
    refine ⟨fun h => (by rw [h] at hr; cases hr), fun j hj => ?_⟩
    have hjn : j < n := by
      rcases Nat.lt_or_ge j n with h | h
      · exact h
      · exact absurd hj (tail_waits hs hc hn inv _ i rfl hin hun j h)
    refine ⟨hjn, ?_⟩
    by_cases hji : j = i
    · subst hji; exact hy.qOp hi H
    · have h1 := (H.2 j (ready_mono hj hji)).2
      obtain ⟨hjun, oj, hoj, hall⟩ := mem_ready.1 hj
      have hnot : ∀ e ∈ oj.after, Region.binds md e = true → e.on ≠ i := fun e he hb heq => by
        have h1 := hall e he hb
        rw [heq, getD_both hun] at h1
        cases h1
      have h2 := qOp_put hoj (hfree j oj hoj hji hjun hnot) (fun cs b => hsel i oi cs b hi) (fun cs b => hsel j oj cs b hoj) hy h1
      have hfree' : ∀ k ok, ops[k]? = some ok → k ≠ i → (listed.setIfInBounds j true).getD k true = false →
          (∀ e ∈ ok.after, Region.binds md e = true → e.on ≠ i) → oi.apart ops ok = true := fun k ok hk hki hun hno => by
        refine hfree k ok hk hki ?_ hno
        by_cases hjk : j = k
        · subst hjk; exact hjun
        · rw [getD_set_ne true hjk] at hun; exact hun
      refine qOp_mono (fun a' h3 => ih (listed.setIfInBounds j true) a' (inv.set hj hjn) hfree' (ready_mono hr (Ne.symm hji)) h3.1 ?_) h2
      rw [Array.setIfInBounds_comm _ _ hji]
      exact h3.2

theorem wpAnyC_lex {n g : Nat} {Lq : Act → Prop} (hsel : Region.noSelect ops = true) (hs : Region.sinkB md ops n = true) (hc : Region.chainB md ops n = true) (hn : n < ops.size) :
    ∀ (l : List Oper) (k : Nat) (listed : Array Bool) (a : Act), (∀ j, j < l.length → l[j]? = ops[k + j]?) → k + l.length = n → HeadInv md ops n listed →
    Region.lexHead md ops g l.length k listed = true → wpQuiet P ops C Lq l a →
    wpAnyC P md ops C n (fun listed' a' => Region.seqB md ops g n listed' = true ∧ Lq a') l.length listed a
  | [], k, listed, a, _, hk, _, hB, h => by
    have : k = n := by simpa using hk
    subst this
    exact ⟨by simpa [Region.lexHead] using hB, h⟩
  | o :: l, k, listed, a, hl, hk, inv, hB, h => by
    have h0 : ops[k]? = some o := by simpa using (hl 0 (by simp)).symm
    simp only [List.length_cons, Region.lexHead, Bool.and_eq_true] at hB
    obtain ⟨⟨hr, hf⟩, hB'⟩ := hB
    have hkn : k < n := by simp only [List.length_cons] at hk; omega
    have hr' : k ∈ Region.ready md ops listed := by simpa using hr
    have hst : qOp P ops C k (wpQuiet P ops C Lq l) a := by unfold qOp; simp only [h0]; exact h
    obtain ⟨v, hy, hK⟩ := yieldsIn_of_qOp h0 hst
    exact wpAnyC_first h0 (Region.noSelect_spec hsel) hs hc hn hkn (fun listed' a' hL => seqB_ready hL.1) l.length listed a inv (Region.free_spec h0 hf) hr' hy
      (wpAnyC_lex hsel hs hc hn l (k + 1) _ _ (fun j hj => by have := hl (j + 1) (by simp; omega); simpa [Nat.add_assoc, Nat.add_comm 1 j] using this) (by simp only [List.length_cons] at hk; omega) (inv.set hr' hkn) hB' hK)

theorem wp_region_quiet_tail {id : Nat} {Q : Exit → Act → World → Prop} {a : Act} {w : World} {l : List Oper} (n : Nat) (hm : P.follows .mixedOrders = true) (hB : Region.lexTailB .any l.toArray n = true)
    (hC : C { w with drawn := w.drawn + 1 })
    (h : wpQuiet P l.toArray C (fun a' => ∀ w', C w' → wpList P l.toArray Q (l.drop n) a' w') (l.take n) a) : (Code.region id l.toArray true).wp P Q a w := by
  simp only [Region.lexTailB, Bool.and_eq_true, decide_eq_true_eq] at hB
  obtain ⟨⟨⟨⟨hsel, hn⟩, hs⟩, hc⟩, hlex⟩ := hB
  have hn' : n < l.length := by simpa using hn
  have htl : (l.take n).length = n := by simp; omega
  have hdl : (l.drop n).length = l.toArray.size - n := by simp
  have inv0 : HeadInv .any l.toArray n (Array.replicate l.toArray.size false) :=
    ⟨by simp, fun j oj _ hl => (by rw [getD_replicate_false] at hl; cases hl), fun t _ ht => getD_in (by simpa using ht) (getD_replicate_false _ _)⟩
  have H := wpAnyC_lex (C := C) (md := .any) (g := l.toArray.size - n) hsel hs hc hn (l.take n) 0 _ a (fun j hj => by
    have hj' : j < n := by rw [htl] at hj; exact hj
    simp [hj']) (by simpa using htl) inv0 (by rw [htl]; exact hlex) h
  refine wp_region_any hm ?_
  have := wpAny_of_headC (Q' := Q) (g := l.toArray.size - n) (fun listed a' w' hw' hL => by
    have := wpAny_of_seq (md := .any) (Q' := Q) (l.drop n) n listed a' w' (fun j => by simp [List.getElem?_drop]) (by rw [hdl]; exact hL.1) (hL.2 w' hw')
    rwa [hdl] at this) _ _ _ _ hC H
  rw [htl, show n + (l.toArray.size - n) = l.toArray.size by omega] at this
  exact this

theorem wp_region_quiet_tail_lit {id : Nat} {Q : Exit → Act → World → Prop} {a : Act} {w : World} {l : List Oper} (n : Nat) (hm : P.follows .mixedOrders = true) (hB : Region.lexTailB .any l.toArray n = true)
    (h : wpQuiet P l.toArray (fun w' => ∃ q, w' = w.drewN q) (fun a' => ∀ q, wpList P l.toArray Q (l.drop n) a' (w.drewN q)) (l.take n) a) : (Code.region id l.toArray true).wp P Q a w :=
  wp_region_quiet_tail (C := fun w' => ∃ q, w' = w.drewN q) n hm hB ⟨1, rfl⟩ (by
    have e : (fun a' => ∀ q, wpList P l.toArray Q (l.drop n) a' (w.drewN q)) = (fun a' => ∀ w', (∃ q, w' = w.drewN q) → wpList P l.toArray Q (l.drop n) a' w') := by
      funext a'; apply propext
      exact ⟨fun H w' ⟨q, hq⟩ => hq ▸ H q, fun H q => H _ ⟨q, rfl⟩⟩
    rw [← e]; exact h)
end
end Go.Proofs.Ytghfkgcaglabpaa

/-
  What the pool's calls that move bytes do, for every input.
-/
namespace Go.Proofs.Ytghfkgcaglabpaa
open Go.RowKit
set_option maxRecDepth 100000
set_option maxHeartbeats 400000

def dOff (o fr : Nat) : Nat := if fr = 288 then o + 1 else o + 105 + fr

theorem ret_slice {b o o' n c c' : Nat} (h : o = o') (hc : c = c') : Ending.returned (.slice (some ⟨b, o, none⟩) n c) = .returned (.slice (some ⟨b, o', none⟩) n c') := by subst h hc; rfl

theorem data_any {w : World} {ab o fr n : Nat} (hs : w.cell? ⟨ab, o + 394, none⟩ = some (.int .i64 (n : Int))) (hf : w.cell? ⟨ab, o + 395, none⟩ = some (.int .i64 (fr : Int))) (h8 : fr + n ≤ 288) :
    Calls Try.prog 33 #[.pointer (some ⟨ab, o, none⟩)] w fun e w' => e = .returned (.slice (some ⟨ab, dOff o fr, none⟩) n (288 - fr)) ∧ ∃ q, w' = w.drewN q := by
  have e1 : IntKind.i64.wrap (104 + (fr : Int)) = 104 + (fr : Int) := IntWalk.i64_in _ (by omega)
  have e2 : (0 : Int) ≤ 104 + (fr : Int) := by omega
  have e3 : (104 + (fr : Int)).toNat = 104 + fr := by omega
  have e4 : 104 + (fr : Int) ≤ 392 := by omega
  have e5 : n ≤ 392 - (104 + fr) := by omega
  by_cases h288 : fr = 288
  · have hn : n = 0 := by omega
    subst hn h288
    go_enter Try.func33, Try.ntmps33
    go_wp2
    go_quiet (fail)
    go_wp2
    go_ret
    refine ⟨?_, _, rfl⟩
    simp [dOff]
  · have hd : dOff o fr = o + 105 + fr := by simp [dOff, h288]
    rw [hd]
    have e6 : ¬ (392 : Nat) = 104 + fr := by omega
    have e7 : ¬ (288 - fr) = 0 := by omega
    go_enter Try.func33, Try.ntmps33
    go_wp2
    go_quiet (fail)
    go_wp2
    go_ret
    refine ⟨?_, _, rfl⟩
    exact ret_slice (by omega) (by omega)

theorem splice_get {α : Type} {L : List α} {off : Nat} {cs : List α} (h : off + cs.length ≤ L.length) (i : Nat) :
    (splice L off cs)[i]? = if i < off then L[i]? else if i < off + cs.length then cs[i - off]? else L[i]? := by
  unfold splice
  have hlo : (L.take off).length = off := by rw [List.length_take]; omega
  by_cases h1 : i < off
  · rw [if_pos h1, List.getElem?_append_left (by omega), List.getElem?_take, if_pos h1]
  · rw [if_neg h1, List.getElem?_append_right (by omega), hlo]
    by_cases h2 : i < off + cs.length
    · rw [if_pos h2, List.getElem?_append_left (by omega)]
    · rw [if_neg h2, List.getElem?_append_right (by omega), List.getElem?_drop]
      congr 1; omega

structure Raw (c : List Value) (o : Nat) (refs : Int) (mem : List UInt8) (hd sz fr : Int) : Prop where
  len : mem.length = 392
  fit : o + 396 ≤ c.length
  r : c[o]? = some (.int .i64 refs)
  m : ∀ j (hj : j < mem.length), c[o + 1 + j]? = some (bv mem[j])
  h : c[o + 393]? = some (.int .i64 hd)
  s : c[o + 394]? = some (.int .i64 sz)
  f : c[o + 395]? = some (.int .i64 fr)

section
variable {c : List Value} {o : Nat} {refs : Int} {mem : List UInt8} {hd sz fr : Int}
theorem Raw.setR (H : Raw c o refs mem hd sz fr) (x : Int) : Raw (c.set o (.int .i64 x)) o x mem hd sz fr := by
  obtain ⟨l, ft, r, m, h, s, f⟩ := H
  refine ⟨l, by simpa using ft, List.getElem?_set_self (by omega), fun j hj => ?_, ?_, ?_, ?_⟩
  · rw [set_ne_at (by omega)]; exact m j hj
  · rw [set_ne_at (by omega)]; exact h
  · rw [set_ne_at (by omega)]; exact s
  · rw [set_ne_at (by omega)]; exact f
theorem Raw.setH (H : Raw c o refs mem hd sz fr) (x : Int) : Raw (c.set (o + 393) (.int .i64 x)) o refs mem x sz fr := by
  obtain ⟨l, ft, r, m, h, s, f⟩ := H
  refine ⟨l, by simpa using ft, ?_, fun j hj => ?_, List.getElem?_set_self (by omega), ?_, ?_⟩
  · rw [set_ne_at (by omega)]; exact r
  · rw [set_ne_at (by omega)]; exact m j hj
  · rw [set_ne_at (by omega)]; exact s
  · rw [set_ne_at (by omega)]; exact f
theorem Raw.setS (H : Raw c o refs mem hd sz fr) (x : Int) : Raw (c.set (o + 394) (.int .i64 x)) o refs mem hd x fr := by
  obtain ⟨l, ft, r, m, h, s, f⟩ := H
  refine ⟨l, by simpa using ft, ?_, fun j hj => ?_, ?_, List.getElem?_set_self (by omega), ?_⟩
  · rw [set_ne_at (by omega)]; exact r
  · rw [set_ne_at (by omega)]; exact m j hj
  · rw [set_ne_at (by omega)]; exact h
  · rw [set_ne_at (by omega)]; exact f
theorem Raw.setF (H : Raw c o refs mem hd sz fr) (x : Int) : Raw (c.set (o + 395) (.int .i64 x)) o refs mem hd sz x := by
  obtain ⟨l, ft, r, m, h, s, f⟩ := H
  refine ⟨l, by simpa using ft, ?_, fun j hj => ?_, ?_, ?_, List.getElem?_set_self (by omega)⟩
  · rw [set_ne_at (by omega)]; exact r
  · rw [set_ne_at (by omega)]; exact m j hj
  · rw [set_ne_at (by omega)]; exact h
  · rw [set_ne_at (by omega)]; exact s
theorem Raw.write (H : Raw c o refs mem hd sz fr) {off p : Nat} {l : List UInt8} (hp : p = o + 1 + off) (hl : off + l.length ≤ 392) : Raw (splice c p (l.map bv)) o refs (splice mem off l) hd sz fr := by
  subst hp
  obtain ⟨ln, ft, r, m, h, s, f⟩ := H
  have hfit : o + 1 + off + (l.map bv).length ≤ c.length := by simp; omega
  have hm : off + l.length ≤ mem.length := by omega
  refine ⟨by rw [length_splice _ _ _ hm]; exact ln, by rw [length_splice _ _ _ hfit]; exact ft, ?_, fun j hj => ?_, ?_, ?_, ?_⟩
  · rw [splice_get hfit, if_pos (by omega)]; exact r
  · rw [length_splice _ _ _ hm] at hj
    have e : (splice mem off l)[j]? = some ((splice mem off l)[j]'(by rw [length_splice _ _ _ hm]; exact hj)) := List.getElem?_eq_getElem _
    rw [splice_get hm] at e
    rw [splice_get hfit]
    simp only [List.length_map]
    by_cases h1 : j < off
    · rw [if_pos h1, List.getElem?_eq_getElem hj] at e
      rw [if_pos (by omega), m j hj]
      simp only [Option.some.injEq] at e
      rw [e]
    · by_cases h2 : j < off + l.length
      · rw [if_neg h1, if_pos h2] at e
        rw [if_neg (by omega), if_pos (by omega), List.getElem?_map, show o + 1 + j - (o + 1 + off) = j - off by omega, e]; rfl
      · rw [if_neg h1, if_neg h2, List.getElem?_eq_getElem hj] at e
        rw [if_neg (by omega), if_neg (by omega), m j hj]
        simp only [Option.some.injEq] at e
        rw [e]
  · rw [splice_get hfit, if_neg (by omega), if_neg (by simp; omega)]; exact h
  · rw [splice_get hfit, if_neg (by omega), if_neg (by simp; omega)]; exact s
  · rw [splice_get hfit, if_neg (by omega), if_neg (by simp; omega)]; exact f
end

theorem BufAt.raw {c : List Value} {o : Nat} {b : Bf} (h : BufAt c o b) (hl : o + 396 ≤ c.length) : ∃ (mem : List UInt8) (fr : Nat), Raw c o b.refs mem b.head.length b.data.length fr ∧
    b.head = mem.take b.head.length ∧ b.data = (mem.drop (104 + fr)).take b.data.length ∧ b.head.length ≤ 104 ∧ fr + b.data.length ≤ 288 := by
  obtain ⟨mem, fr, hm, h0, h1, h2, h3, h4, h5⟩ := h
  exact ⟨mem, fr, ⟨hm, hl, h0, h1, h2, h3, h4⟩, h5⟩

theorem Raw.buf {c : List Value} {o : Nat} {b : Bf} {refs : Int} {mem : List UInt8} {hd sz : Int} {fr : Nat} (H : Raw c o refs mem hd sz fr) (e0 : refs = b.refs) (e1 : hd = b.head.length) (e2 : sz = b.data.length)
    (h1 : b.head = mem.take b.head.length) (h2 : b.data = (mem.drop (104 + fr)).take b.data.length) (h3 : b.head.length ≤ 104) (h4 : fr + b.data.length ≤ 288) : BufAt c o b := by
  subst e0 e1 e2
  exact ⟨mem, fr, H.len, H.r, H.m, H.h, H.s, H.f, h1, h2, h3, h4⟩

def SameOut (c c' : List Value) (lo hi : Nat) : Prop := c'.length = c.length ∧ ∀ o, (o < lo ∨ hi ≤ o) → c'[o]? = c[o]?
theorem SameOut.refl (c : List Value) (lo hi : Nat) : SameOut c c lo hi := ⟨rfl, fun _ _ => rfl⟩
theorem SameOut.set {c c' : List Value} {lo hi : Nat} (h : SameOut c c' lo hi) {i : Nat} (h1 : lo ≤ i) (h2 : i < hi) (v : Value) : SameOut c (c'.set i v) lo hi :=
  ⟨by simpa using h.1, fun o ho => by rw [set_ne_at (by omega)]; exact h.2 o ho⟩
theorem SameOut.splice {c c' : List Value} {lo hi : Nat} (h : SameOut c c' lo hi) {i : Nat} {l : List Value} (h1 : lo ≤ i) (h2 : i + l.length ≤ hi) (h3 : hi ≤ c.length) : SameOut c (splice c' i l) lo hi := by
  have hf : i + l.length ≤ c'.length := by have := h.1; omega
  refine ⟨by rw [length_splice _ _ _ hf]; exact h.1, fun o ho => ?_⟩
  rw [splice_get hf]
  by_cases a : o < i
  · rw [if_pos a]; exact h.2 o ho
  · rw [if_neg a, if_neg (by omega)]; exact h.2 o ho

theorem splice_cut {α : Type} (L : List α) (off : Nat) (l : List α) (h : off + l.length ≤ L.length) : ((Go.splice L off l).drop off).take l.length = l := by
  unfold Go.splice
  have hlo : (L.take off).length = off := by rw [List.length_take]; omega
  rw [List.drop_append_of_le_length (by omega), List.drop_eq_nil_of_le (by omega), List.nil_append, List.take_left']
  rfl
theorem PoolAt.turned {w w' : World} {p ab : Nat} {L : List Bf} (h : PoolAt w p ab L) {k : Nat} {b b1 : Bf} {c c' : List Value} (hk : L[k]? = some b)
    (hc : Blk w ab c 80) (ho : Only (fun x => x = ab) w w') (hz : b.refs = 0 ↔ b1.refs = 0)
    (hc' : Blk w' ab c' 80) (hs : SameOut c c' (k * 396) (k * 396 + 396)) (hin : BufAt c' (k * 396) b1) : PoolAt w' p ab (L.set k b1) := by
  refine h.turn hc ?_ hc' hs.1 hs.2 hin
  have e := nfree_set (b1 := b1) hk
  have e' : nfree (L.set k b1) = nfree L := by
    by_cases hb : b.refs = 0
    · rw [if_pos hb, if_pos (hz.1 hb)] at e; omega
    · rw [if_neg hb, if_neg (fun h => hb (hz.2 h))] at e; omega
  rw [e']
  exact ho.blk h.1 h.2.1

theorem set_long {w : World} {p ab : Nat} {L : List Bf} (h : PoolAt w p ab L) {k : Nat} {b : Bf} (hk : L[k]? = some b) (hr : b.refs = 1) (a : Option Addr) (n m : Nat) (hn : 288 < n) :
    Calls Try.prog 18 #[.pointer (some ⟨p, 0, none⟩), .int .i64 (k : Int), .slice a n m] w fun e w' => e = .returned (.int .i64 2) ∧ w = w' := by
  have hO := own_in h hk hr
  have hn' : (288 : Int) < (n : Int) := by omega
  clear hr hk h
  go_enter Try.func18, Try.ntmps18
  go_wp2_with (go_at_call 54; refine hO.mono ?_; rintro e w' ⟨rfl, rfl⟩)
  go_ret
  exact ⟨rfl, rfl⟩

theorem set_in {w : World} {p ab : Nat} {L : List Bf} (h : PoolAt w p ab L) {k : Nat} {b : Bf} (hk : L[k]? = some b) (hr : b.refs = 1) {d : List UInt8} {v : Value} (hd : BytesAt w v d) (hx : sliceIn v (fun b => ¬ b = ab)) (hn : d.length ≤ 288) :
    Calls Try.prog 18 #[.pointer (some ⟨p, 0, none⟩), .int .i64 (k : Int), v] w fun e w' => e = .returned (.int .i64 0) ∧ PoolAt w' p ab (L.set k ⟨1, [], d⟩) ∧ Only (fun b => b = ab) w w' := by
  have hO := own_in h hk hr
  obtain ⟨a, m, rfl⟩ := hd.form
  obtain ⟨c, hc, hcl, hcb⟩ := h.2.2.2.2
  have hkl : k < L.length := (List.getElem?_eq_some_iff.1 hk).1
  obtain ⟨mem, fr, hraw, -⟩ := (hcb k b hk).raw (by omega)
  have g1 : w.cell? ⟨ab, k * 396 + 393, none⟩ = some (.int .i64 (b.head.length : Int)) := by rw [hc.cell]; exact hraw.h
  have g2 : w.cell? ⟨ab, k * 396 + 394, none⟩ = some (.int .i64 (b.data.length : Int)) := by rw [hc.cell]; exact hraw.s
  have g3 : w.cell? ⟨ab, k * 396 + 395, none⟩ = some (.int .i64 (fr : Int)) := by rw [hc.cell]; exact hraw.f
  have hz := fun o => hc.fz o
  have hne' : ¬ ab = p := fun e => h.2.1 e.symm
  have hn' : (d.length : Int) ≤ 288 := by omega
  have H := Lib.hid (And.intro h (And.intro hk (And.intro hc (And.intro hcl (And.intro hraw (And.intro hd (And.intro hx hr)))))))
  clear hraw hcb hcl hc hk h hr hd hx
  go_enter Try.func18, Try.ntmps18
  go_wp2_with (first | (go_at_call 54; refine hO.mono ?_; rintro e w' ⟨rfl, rfl⟩) | (go_at_call 33; refine (data_any (fr := 0) (n := d.length) (by go_simp) (by go_simp) (by omega)).mono ?_; rintro e w' ⟨rfl, q, rfl⟩) | (refine wpList_copy_blk (o := ⟨some 37, _, _, _, _, _⟩) (by rfl) (.tmp 35) (.tmp 36) 28 28 (by rfl) 5 Try.underlying28 (by kernel_rfl) ab (dOff (k * 396) 0) d.length 288 (by rfl) d ?c1 (((c.set (k * 396 + 393) (.int .i64 0)).set (k * 396 + 395) (.int .i64 0)).set (k * 396 + 394) (.int .i64 d.length)) 80 ?c2 ?c3 ?_; rotate_left 3; intro w1 hb1 ho1))
  · go_ret
    obtain ⟨h, hk, hc, hcl, hraw, hd, hx, hr⟩ := H.out
    have e1 : dOff (k * 396) 0 = k * 396 + 105 := by unfold dOff; rw [if_neg (by decide)]
    rw [e1, List.take_length] at hb1
    have hl : 104 + d.length ≤ mem.length := by have := hraw.len; omega
    refine ⟨rfl, h.turned hk hc (Only.trans (Only.drewN (Only.st (Only.st (Only.st (Only.refl (fun b => b = ab) w) rfl _ _) rfl _ _) rfl _ _) q) ho1) (by simp; omega) hb1 ?_ ?_,
      Only.trans (Only.drewN (Only.st (Only.st (Only.st (Only.refl (fun b => b = ab) w) rfl _ _) rfl _ _) rfl _ _) q) ho1⟩
    · exact ((((SameOut.refl c _ _).set (by omega) (by omega) _).set (by omega) (by omega) _).set (by omega) (by omega) _).splice (by omega) (by simp; omega) (by omega)
    · have R := (((hraw.setH 0).setF 0).setS (d.length : Int)).write (p := k * 396 + 105) (off := 104) (l := d) (by omega) (by omega)
      exact R.buf (b := ⟨1, [], d⟩) (fr := 0) (by rw [hr]) rfl rfl rfl (splice_cut mem 104 d hl).symm (by simp) (by simpa using hn)
  case c1 =>
    obtain ⟨h, hk, hc, hcl, hraw, hd, hx, hr⟩ := H.out
    exact hd.only (Only.drewN (Only.st (Only.st (Only.st (Only.refl (fun b => b = ab) w) rfl _ _) rfl _ _) rfl _ _) q) hx
  case c2 =>
    obtain ⟨h, hk, hc, hcl, hraw, hd, hx, hr⟩ := H.out
    exact ((hc.set _ _).set _ _).set _ _
  case c3 =>
    obtain ⟨h, hk, hc, hcl, hraw, hd, hx, hr⟩ := H.out
    unfold dOff; rw [if_neg (by decide)]; simp; omega

theorem front_long {w : World} {p ab : Nat} {L : List Bf} (h : PoolAt w p ab L) {k : Nat} {b : Bf} (hk : L[k]? = some b) (hr : b.refs = 1) (a : Option Addr) (n m : Nat) (hn : 104 < n) :
    Calls Try.prog 68 #[.pointer (some ⟨p, 0, none⟩), .int .i64 (k : Int), .slice a n m] w fun e w' => e = .returned (.int .i64 2) ∧ w = w' := by
  have hO := own_in h hk hr
  have hn' : (104 : Int) < (n : Int) := by omega
  clear hr hk h
  go_enter Try.func68, Try.ntmps68
  go_wp2_with (go_at_call 54; refine hO.mono ?_; rintro e w' ⟨rfl, rfl⟩)
  go_ret
  exact ⟨rfl, rfl⟩

theorem front_in {w : World} {p ab : Nat} {L : List Bf} (h : PoolAt w p ab L) {k : Nat} {b : Bf} (hk : L[k]? = some b) (hr : b.refs = 1) {d : List UInt8} {v : Value} (hd : BytesAt w v d) (hn : d.length ≤ 104) :
    Calls Try.prog 68 #[.pointer (some ⟨p, 0, none⟩), .int .i64 (k : Int), v] w fun e w' => e = .returned (.int .i64 0) ∧ PoolAt w' p ab (L.set k { b with head := d }) ∧ Only (fun b => b = ab) w w' := by
  have hO := own_in h hk hr
  obtain ⟨a, m, rfl⟩ := hd.form
  obtain ⟨c, hc, hcl, hcb⟩ := h.2.2.2.2
  have hkl : k < L.length := (List.getElem?_eq_some_iff.1 hk).1
  obtain ⟨mem, fr, hraw, hrel⟩ := (hcb k b hk).raw (by omega)
  have hn' : (d.length : Int) ≤ 104 := by omega
  have hmin : (min d.length 392 : Nat) = d.length := by omega
  have H := Lib.hid (And.intro h (And.intro hk (And.intro hc (And.intro hcl (And.intro hraw (And.intro hrel (And.intro hd hmin)))))))
  clear hraw hrel hcb hcl hc hk h hr hd hmin
  go_enter Try.func68, Try.ntmps68
  go_wp2_with (first | (go_at_call 54; refine hO.mono ?_; rintro e w' ⟨rfl, rfl⟩) | (refine wpList_copy_blk (o := ⟨some 29, _, _, _, _, _⟩) (by rfl) (.tmp 27) (.tmp 28) 28 28 (by rfl) 5 Try.underlying28 (by kernel_rfl) ab (k * 396 + 1) 392 392 (by rfl) d ?c1 c 80 ?c2 ?c3 ?_; rotate_left 3; intro w1 hb1 ho1; obtain ⟨h, hk, hc, hcl, hraw, hrel, hd, hmin⟩ := H.out; rw [hmin]; have hz := fun o => hb1.fz o; have g1 : w1.cell? ⟨ab, k * 396 + 393, none⟩ = some (.int .i64 (b.head.length : Int)) := (by rw [hb1.cell, List.take_of_length_le (by omega)]; exact (hraw.write (p := k * 396 + 1) (off := 0) (l := d) (by omega) (by omega)).h); have H1 := Lib.hid hb1; clear h hk hc hcl hraw hrel hd hmin hb1))
  · go_ret
    have hb1 := H1.out
    obtain ⟨h, hk, hc, hcl, hraw, hrel, hd, hmin⟩ := H.out
    rw [List.take_of_length_le (by omega)] at hb1
    have R := (hraw.write (p := k * 396 + 1) (off := 0) (l := d) (by omega) (by omega)).setH (d.length : Int)
    obtain ⟨q1, q2, q3, q4⟩ := hrel
    have hm := hraw.len
    refine ⟨rfl, h.turned hk hc (Only.st ho1 rfl _ _) (by simp) (hb1.set _ _) (((SameOut.refl c _ _).splice (by omega) (by simp; omega) (by omega)).set (by omega) (by omega) _) ?_, Only.st ho1 rfl _ _⟩
    refine R.buf (b := { b with head := d }) rfl rfl rfl ?_ ?_ hn q4
    · have := splice_cut mem 0 d (by omega)
      simpa using this.symm
    · simp only
      rw [q2]
      simp only [List.length_take, List.length_drop]
      rw [Nat.min_eq_left (by omega)]
      apply List.ext_getElem?
      intro i
      simp only [List.getElem?_take, List.getElem?_drop]
      split
      · rw [splice_get (by omega), if_neg (by omega), if_neg (by omega)]
      · rfl
  case c1 =>
    obtain ⟨h, hk, hc, hcl, hraw, hrel, hd, hmin⟩ := H.out
    exact hd
  case c2 =>
    obtain ⟨h, hk, hc, hcl, hraw, hrel, hd, hmin⟩ := H.out
    exact hc
  case c3 =>
    obtain ⟨h, hk, hc, hcl, hraw, hrel, hd, hmin⟩ := H.out
    omega

end Go.Proofs.Ytghfkgcaglabpaa

/-
  Append, See, Get and New of a pool, for every input.
-/
namespace Go.Proofs.Ytghfkgcaglabpaa
open Go.RowKit
set_option maxRecDepth 100000
set_option maxHeartbeats 400000

theorem Raw.bytes {w : World} {ab o : Nat} {c : List Value} {T : TypeId} {refs : Int} {mem : List UInt8} {hd sz : Int} {fr : Nat} {d : List UInt8} (hc : Blk w ab c T) (H : Raw c o refs mem hd sz fr)
    (hd' : d = (mem.drop (104 + fr)).take d.length) (h8 : fr + d.length ≤ 288) : BytesAt w (.slice (some ⟨ab, dOff o fr, none⟩) d.length (288 - fr)) d := by
  refine .inr ⟨ab, dOff o fr, 288 - fr, rfl, by omega, by omega, fun j hj => ?_⟩
  have hm := H.len
  have e1 : dOff o fr = o + 105 + fr := by unfold dOff; rw [if_neg (by omega)]
  have hj2 : 104 + fr + j < mem.length := by omega
  rw [hc.cell, e1, show o + 105 + fr + j = o + 1 + (104 + fr + j) by omega, H.m (104 + fr + j) hj2]
  have e2 : d[j]? = some (mem[104 + fr + j]'hj2) := by
    rw [hd', List.getElem?_take, if_pos hj, List.getElem?_drop, List.getElem?_eq_getElem hj2]
  rw [List.getElem?_eq_getElem hj] at e2
  simp only [Option.some.injEq] at e2
  rw [e2]
end Go.Proofs.Ytghfkgcaglabpaa

/-
  See, Get and New of a pool, for every input.
-/
namespace Go.Proofs.Ytghfkgcaglabpaa
open Go.RowKit
set_option maxRecDepth 100000
set_option maxHeartbeats 4000000

def zbytes (n : Nat) : List Value := List.replicate n (.int .u8 0)

theorem run_make_bytes (n : Nat) (hn : n ≤ 140737488351232) (w : World) :
    (Instr.makeSlice 28 (.int .i64 (n : Int)) (.int .i64 (n : Int))).run Try.prog w = .ok (.slice (some ⟨w.heap.size, 0, none⟩) n n) (w.alloc (.cells (zbytes n).toArray 5)) := by
  obtain ⟨i, hi, hz, h1, h2⟩ : ∃ i, Try.prog.info? 5 = some i ∧ i.zero = some (.int .u8 0) ∧ i.size = 1 ∧ i.bytes = 1 := by
    have hq : (Try.prog.info? 5).map (fun i => (i.zero, i.size, i.bytes)) = some (some (.int .u8 0), 1, 1) := by kernel_rfl
    cases hi : Try.prog.info? 5 with
    | none => rw [hi] at hq; simp at hq
    | some i => rw [hi] at hq; simp at hq; exact ⟨i, rfl, hq.1, hq.2.1, hq.2.2⟩
  have := run_make (P := Try.prog) w 28 5 i _ Try.underlying28 hi hz .i64 .i64 (n : Int) (n : Int) (by omega) (by omega) (by rw [h2]; omega) (by omega)
  rw [this]
  simp only [Int.toNat_natCast, h1, Nat.mul_one]
  have e : madeCells (Value.int .u8 0).cells n = (zbytes n).toArray := by
    apply Array.ext_getElem?
    intro j
    simp only [madeCells, zbytes, Value.cells]
    by_cases hj : j < n
    · simp [hj, Nat.mod_one]
    · simp [hj]
  rw [e]

def SeePost (w : World) (b : Bf) (e : Ending) (w' : World) : Prop :=
  ∃ bh bd, e = .returned (.tuple #[.agg #[.int .i64 (b.refs : Int), .slice (some ⟨bh, 0, none⟩) b.head.length b.head.length, .slice (some ⟨bd, 0, none⟩) b.data.length b.data.length], .int .i64 0]) ∧
    Blk w' bh (b.head.map bv) 5 ∧ Blk w' bd (b.data.map bv) 5 ∧ bh ≠ bd ∧ w.heap.size ≤ bh ∧ w.heap.size ≤ bd ∧ Only (fun _ => False) w w'

def SeeMid (w : World) (b : Bf) (v : Value) (wc : World) : Prop :=
  ∃ bx bh bd, v = .pointer (some ⟨bx, 0, none⟩) ∧ Blk wc bx [.int .i64 (b.refs : Int), .slice (some ⟨bh, 0, none⟩) b.head.length b.head.length, .slice (some ⟨bd, 0, none⟩) b.data.length b.data.length] 33 ∧
    Blk wc bh (zbytes b.head.length) 5 ∧ Blk wc bd (zbytes b.data.length) 5 ∧ Blk wc w.heap.size [.int .i64 0, .slice none 0 0, .slice none 0 0] 33 ∧
    w.heap.size < bh ∧ w.heap.size < bd ∧ w.heap.size < bx ∧ bh ≠ bd ∧ bh ≠ bx ∧ bd ≠ bx ∧ Only (fun _ => False) w wc

theorem Raw.memBytes {w : World} {ab o : Nat} {c : List Value} {T : TypeId} {refs : Int} {mem : List UInt8} {hd sz fr : Int} (H : Raw c o refs mem hd sz fr) (hc : Blk w ab c T) : BytesAt w (.slice (some ⟨ab, o + 1, none⟩) 392 392) mem := by
  have hm := H.len
  refine .inr ⟨ab, o + 1, 392, by rw [hm], by omega, by omega, fun j hj => ?_⟩
  rw [hc.cell, H.m j hj]

theorem see_in {w : World} {p ab : Nat} {L : List Bf} (h : PoolAt w p ab L) {k : Nat} {b : Bf} (hk : L[k]? = some b) (hr : 0 < b.refs) :
    Calls Try.prog 9 #[.pointer (some ⟨p, 0, none⟩), .int .i64 (k : Int)] w (SeePost w b) := by
  obtain ⟨c, hc, hcl, hcb⟩ := h.2.2.2.2
  have hkl : k < L.length := (List.getElem?_eq_some_iff.1 hk).1
  obtain ⟨mem, fr, hraw, hrel⟩ := (hcb k b hk).raw (by omega)
  have g0 : w.cell? ⟨ab, k * 396, none⟩ = some (.int .i64 (b.refs : Int)) := by rw [hc.cell]; exact hraw.r
  have g1 : w.cell? ⟨ab, k * 396 + 393, none⟩ = some (.int .i64 (b.head.length : Int)) := by rw [hc.cell]; exact hraw.h
  have g2 : w.cell? ⟨ab, k * 396 + 394, none⟩ = some (.int .i64 (b.data.length : Int)) := by rw [hc.cell]; exact hraw.s
  have hlt := hc.lt
  have hlt1 : ab < w.heap.size + 1 := by omega
  have hlt2 : ab < w.heap.size + 1 + 1 := by omega
  have hlt3 : ab < w.heap.size + 1 + 1 + 1 := by omega
  have m1 := run_make_bytes b.head.length (by have := hrel.2.2.1; omega)
  have m2 := run_make_bytes b.data.length (by have := hrel.2.2.2; omega)
  have hb1 : b.head.length ≤ 104 := hrel.2.2.1
  have hb2 : fr + b.data.length ≤ 288 := hrel.2.2.2
  have H := Lib.hid (And.intro h (And.intro hk (And.intro hc (And.intro hraw hrel))))
  have hU : ∀ o, Calls Try.prog 32 #[.pointer (some ⟨p, 0, none⟩), .int .i64 (k : Int)] (w.alloc o) fun e w' => e = .returned (.pointer (some ⟨ab, k * 396, none⟩)) ∧ w.alloc o = w' := fun o => used_in (h.alloc o) hk hr
  have HU := Lib.hid hU
  clear hU hraw hrel hc hk h hr hcb
  go_enter Try.func9, Try.ntmps9
  go_wp2_with (go_at_call 32; refine (HU.out _).mono ?_; rintro e w' ⟨rfl, rfl⟩)
  go_cut [7] (SeeMid w b)
  case first =>
    go_region
    all_goals go_wp2
    all_goals go_meet
    all_goals
      apply Exists.intro
      apply Exists.intro
      apply Exists.intro
      refine ⟨rfl, ?_, ?_, ?_, ?_, ?_, ?_, ?_, ?_, ?_, ?_, Only.drew (Only.alloc (Only.alloc (Only.alloc (Only.alloc (Only.refl _ _) _) _) _) _)⟩
      · repeat (first | exact Blk.at_new (by simp) rfl | refine Blk.alloc ?_ _ | refine Blk.drew ?_)
      · repeat (first | exact Blk.at_new (by simp) rfl | refine Blk.alloc ?_ _ | refine Blk.drew ?_)
      · repeat (first | exact Blk.at_new (by simp) rfl | refine Blk.alloc ?_ _ | refine Blk.drew ?_)
      · repeat (first | exact Blk.at_new (by simp) rfl | refine Blk.alloc ?_ _ | refine Blk.drew ?_)
      all_goals omega
  case rest =>
    obtain ⟨bx, bh, bd, rfl, q1, q2, q3, q4, n1, n2, n3, n4, n5, n6, qO⟩ := hcut
    have x1 : wc.cell? ⟨bx, 1, none⟩ = some (.slice (some ⟨bh, 0, none⟩) b.head.length b.head.length) := by rw [q1.cell]; rfl
    have H1 := Lib.hid (And.intro q1 (And.intro q2 (And.intro q3 (And.intro q4 qO))))
    clear q1 q2 q3 q4 qO m1 m2 g0
    go_wp2
    refine wp_region_quiet_tail_lit 6 (by kernel_rfl) (by kernel_rfl) ?_
    simp only [List.take_succ_cons, List.take_zero, List.drop_succ_cons, List.drop_zero]
    repeat (quiet_step (fail))
    refine wpQuiet_nil ?_
    intro qa
    refine wpList_copy_blk (by rfl) (.tmp 30) (.tmp 34) 28 28 (by rfl) 5 Try.underlying28 (by kernel_rfl) bh 0 b.head.length b.head.length (by rfl) mem ?d1 (zbytes b.head.length) 5 ?d2 ?d3 ?_
    case d1 =>
      obtain ⟨h, hk, hc, hraw, hrel⟩ := H.out
      obtain ⟨q1, q2, q3, q4, qO⟩ := H1.out
      exact hraw.memBytes (w := wc.drewN qa) (qO.blk hc (fun h => h))
    case d2 => exact H1.out.2.1
    case d3 => simp [zbytes]
    intro w1 hb1 ho1
    have X1 : Blk w1 bh (b.head.map bv) 5 := by
      have e : Go.splice (zbytes b.head.length) 0 ((mem.take b.head.length).map bv) = b.head.map bv := by
        rw [← H.out.2.2.2.2.1]; simp [Go.splice, zbytes]
      rwa [e] at hb1
    have x2 : w1.cell? ⟨bx, 2, none⟩ = some (.slice (some ⟨bd, 0, none⟩) b.data.length b.data.length) := by
      rw [(ho1.blk (c := [_, _, _]) (Blk.drewN H1.out.1 qa) (fun e => n5 e.symm)).cell]; rfl
    have c1 : w1.cell? ⟨ab, k * 396 + 394, none⟩ = some (.int .i64 (b.data.length : Int)) := by
      rw [(ho1.blk (Blk.drewN (H1.out.2.2.2.2.blk H.out.2.2.1 (fun h => h)) qa) (fun e => by omega)).cell]; exact H.out.2.2.2.1.s
    have c2 : w1.cell? ⟨ab, k * 396 + 395, none⟩ = some (.int .i64 (fr : Int)) := by
      rw [(ho1.blk (Blk.drewN (H1.out.2.2.2.2.blk H.out.2.2.1 (fun h => h)) qa) (fun e => by omega)).cell]; exact H.out.2.2.2.1.f
    have HX := Lib.hid (And.intro X1 ho1)
    clear X1 hb1 ho1 x1
    refine wpList_nil ?_
    go_wp2
    refine wp_region_quiet_tail_lit 4 (by kernel_rfl) (by kernel_rfl) ?_
    simp only [List.take_succ_cons, List.take_zero, List.drop_succ_cons, List.drop_zero]
    repeat (quiet_step ((go_at_call 33; exact Calls.quiet_of (data_any (fr := fr) (n := b.data.length) c1 c2 hb2))))
    refine wpQuiet_nil ?_
    intro qb
    refine wpList_copy_blk (by rfl) (.tmp 37) (.tmp 39) 28 28 (by rfl) 5 Try.underlying28 (by kernel_rfl) bd 0 b.data.length b.data.length (by rfl) b.data ?f1 (zbytes b.data.length) 5 ?f2 ?f3 ?_
    case f1 =>
      have hB := HX.out.2.blk (Blk.drewN (H1.out.2.2.2.2.blk H.out.2.2.1 (fun h => h)) qa) (fun e => by omega)
      exact Raw.bytes (w := w1.drewN qb) hB H.out.2.2.2.1 H.out.2.2.2.2.2.1 hb2
    case f2 => exact HX.out.2.blk (Blk.drewN H1.out.2.2.1 qa) (fun e => n4 e.symm)
    case f3 => simp [zbytes]
    intro w2 hb2' ho2
    have X2 : Blk w2 bd (b.data.map bv) 5 := by
      have e : Go.splice (zbytes b.data.length) 0 ((b.data.take b.data.length).map bv) = b.data.map bv := by
        rw [List.take_length]; simp [Go.splice, zbytes]
      rwa [e] at hb2'
    have Y1 : Blk w2 bh (b.head.map bv) 5 := ho2.blk (Blk.drewN HX.out.1 qb) n4
    have Y2 : Blk w2 bx [.int .i64 (b.refs : Int), .slice (some ⟨bh, 0, none⟩) b.head.length b.head.length, .slice (some ⟨bd, 0, none⟩) b.data.length b.data.length] 33 :=
      ho2.blk (Blk.drewN (HX.out.2.blk (Blk.drewN H1.out.1 qa) (fun e => n5 e.symm)) qb) (fun e => n6 e.symm)
    have Y3 : Blk w2 w.heap.size [.int .i64 0, .slice none 0 0, .slice none 0 0] 33 :=
      ho2.blk (Blk.drewN (HX.out.2.blk (Blk.drewN H1.out.2.2.2.1 qa) (fun e => by omega)) qb) (fun e => by omega)
    have YO : Only (fun _ => False) w w2 :=
      ((H1.out.2.2.2.2.trans' (S' := fun b => b = bh) ((Only.drewN (Only.refl _ _) qa).trans HX.out.2) (fun b e => .inr (by omega))).trans' (S' := fun b => b = bd) ((Only.drewN (Only.refl _ _) qb).trans ho2) (fun b e => .inr (by omega)))
    have z0 : w2.cell? ⟨bx, 0, none⟩ = some (.int .i64 (b.refs : Int)) := by rw [Y2.cell]; rfl
    have z1 : w2.cell? ⟨bx, 1, none⟩ = some (.slice (some ⟨bh, 0, none⟩) b.head.length b.head.length) := by rw [Y2.cell]; rfl
    have z2 : w2.cell? ⟨bx, 2, none⟩ = some (.slice (some ⟨bd, 0, none⟩) b.data.length b.data.length) := by rw [Y2.cell]; rfl
    have y0 : w2.cell? ⟨w.heap.size, 0, none⟩ = some (.int .i64 0) := by rw [Y3.cell]; rfl
    have y1 : w2.cell? ⟨w.heap.size, 1, none⟩ = some (.slice none 0 0) := by rw [Y3.cell]; rfl
    have y2 : w2.cell? ⟨w.heap.size, 2, none⟩ = some (.slice none 0 0) := by rw [Y3.cell]; rfl
    have yz := fun o => Y3.fz o
    have HY := Lib.hid (And.intro X2 (And.intro Y1 (And.intro Y3 YO)))
    clear X2 hb2' ho2 Y1 Y2 Y3 YO c1 c2 x2
    refine wpList_nil ?_
    go_wp2
    obtain ⟨X2, Y1, Y3, YO⟩ := HY.out
    have o1 : Only (fun _ => False) w (((w2.setCell ⟨w.heap.size, 0, none⟩ (.int .i64 (b.refs : Int))).setCell ⟨w.heap.size, 1, none⟩ (.slice (some ⟨bh, 0, none⟩) b.head.length b.head.length)).setCell ⟨w.heap.size, 2, none⟩ (.slice (some ⟨bd, 0, none⟩) b.data.length b.data.length)) :=
      Only.setCell (Only.setCell (Only.setCell YO (.inr (Nat.le_refl _)) _) (.inr (Nat.le_refl _)) _) (.inr (Nat.le_refl _)) _
    have hBh : Blk (((w2.setCell ⟨w.heap.size, 0, none⟩ (.int .i64 (b.refs : Int))).setCell ⟨w.heap.size, 1, none⟩ (.slice (some ⟨bh, 0, none⟩) b.head.length b.head.length)).setCell ⟨w.heap.size, 2, none⟩ (.slice (some ⟨bd, 0, none⟩) b.data.length b.data.length)) bh (b.head.map bv) 5 :=
      ((Y1.set_ne (by simp; omega) _).set_ne (by simp; omega) _).set_ne (by simp; omega) _
    have hBd : Blk (((w2.setCell ⟨w.heap.size, 0, none⟩ (.int .i64 (b.refs : Int))).setCell ⟨w.heap.size, 1, none⟩ (.slice (some ⟨bh, 0, none⟩) b.head.length b.head.length)).setCell ⟨w.heap.size, 2, none⟩ (.slice (some ⟨bd, 0, none⟩) b.data.length b.data.length)) bd (b.data.map bv) 5 :=
      ((X2.set_ne (by simp; omega) _).set_ne (by simp; omega) _).set_ne (by simp; omega) _
    have hP : SeePost w b (.returned (.tuple #[.agg #[.int .i64 (b.refs : Int), .slice (some ⟨bh, 0, none⟩) b.head.length b.head.length, .slice (some ⟨bd, 0, none⟩) b.data.length b.data.length], .int .i64 0]))
        (((w2.setCell ⟨w.heap.size, 0, none⟩ (.int .i64 (b.refs : Int))).setCell ⟨w.heap.size, 1, none⟩ (.slice (some ⟨bh, 0, none⟩) b.head.length b.head.length)).setCell ⟨w.heap.size, 2, none⟩ (.slice (some ⟨bd, 0, none⟩) b.data.length b.data.length)) :=
      ⟨bh, bd, rfl, hBh, hBd, n4, by omega, by omega, o1⟩
    clear X2 Y1 Y3 YO o1 hBh hBd
    exact bodyPost_ret (v := .tuple #[.agg #[.int .i64 (b.refs : Int), .slice (some ⟨bh, 0, none⟩) b.head.length b.head.length, .slice (some ⟨bd, 0, none⟩) b.data.length b.data.length], .int .i64 0]) (by simp [results, Try.results9, go_sem, y0, y1, y2]) rfl hP

theorem see_no {w : World} {p ab : Nat} {L : List Bf} (h : PoolAt w p ab L) {id : Int} (hn : ¬ Used L id) :
    Calls Try.prog 9 #[.pointer (some ⟨p, 0, none⟩), .int .i64 id] w fun e w' => e = .returned (.tuple #[.agg #[.int .i64 0, .slice none 0 0, .slice none 0 0], .int .i64 7]) ∧ Only (fun _ => False) w w' := by
  have hU : ∀ o, Calls Try.prog 32 #[.pointer (some ⟨p, 0, none⟩), .int .i64 id] (w.alloc o) fun e w' => e = .returned (.pointer none) ∧ w.alloc o = w' := fun o => used_no (h.alloc o) hn
  have HU := Lib.hid hU
  clear hU h
  go_enter Try.func9, Try.ntmps9
  go_wp2_with (go_at_call 32; refine (HU.out _).mono ?_; rintro e w' ⟨rfl, rfl⟩)
  exact bodyPost_ret (v := .tuple #[.agg #[.int .i64 0, .slice none 0 0, .slice none 0 0], .int .i64 7]) (by simp [results, Try.results9, go_sem]) rfl ⟨rfl, Only.alloc (Only.refl _ _) _⟩

end Go.Proofs.Ytghfkgcaglabpaa

/-
  Get and New of a pool, for every input.
-/
namespace Go.Proofs.Ytghfkgcaglabpaa
open Go.RowKit
set_option maxRecDepth 100000
set_option maxHeartbeats 1000000

def FullTo (L : List Bf) (k : Nat) : Prop := ∀ j b, j < k → L[j]? = some b → 0 < b.refs
theorem get_none {w : World} {p ab : Nat} {L : List Bf} (h : PoolAt w p ab L) (hf : FullTo L L.length) :
    Calls Try.prog 17 #[.pointer (some ⟨p, 0, none⟩)] w fun e w' => e = .returned (.tuple #[.int .i64 0, .int .i64 8]) ∧ w = w' := by
  have hp0 := h.cell0
  have hL := h.2.2.2.1
  have H := Lib.hid (And.intro h hf)
  clear h hf
  go_enter Try.func17, Try.ntmps17
  go_wp2
  go_wp2
  go_step3
  go_wp2
  go_step3
  go_wp2
  go_loop [4, 12] (fun a v => ∃ j : Nat, j ≤ L.length ∧ a = .int .i64 (-1) ∧ v = .int .i64 (j : Int)) (fun _ v => L.length - (intOf v).toNat)
  case atStart => exact ⟨0, Nat.zero_le _, rfl, rfl⟩
  case round =>
    obtain ⟨j, hj, rfl, rfl⟩ := hrel
    by_cases hlt : j < L.length
    · obtain ⟨h, hf⟩ := H.out
      have hb := h.cellr (List.getElem?_eq_getElem hlt)
      have hr := hf j _ hlt (List.getElem?_eq_getElem hlt)
      have hr0 : ((L[j].refs : Int) == 0) = false := by simp; omega
      clear h hf hr
      go_wp2
      go_round
      case rel => exact ⟨j + 1, by omega, rfl, by go_num⟩
      case measure => simp [intOf]; omega
    · have : j = L.length := by omega
      subst this
      go_wp2
      try rw [Exit.noGoto_ret]
      go_ret2
      exact ⟨rfl, rfl⟩

theorem get_in {w : World} {p ab : Nat} {L : List Bf} (h : PoolAt w p ab L) {k : Nat} {b : Bf} (hk : L[k]? = some b) (hr : b.refs = 0) (hf : FullTo L k) :
    Calls Try.prog 17 #[.pointer (some ⟨p, 0, none⟩)] w fun e w' => e = .returned (.tuple #[.int .i64 (k : Int), .int .i64 0]) ∧ PoolAt w' p ab (L.set k ⟨1, [], []⟩) ∧ Only (fun b => b = p ∨ b = ab) w w' := by
  have hp0 := h.cell0
  have hp1 := h.cell1
  have hL := h.2.2.2.1
  have hkl : k < L.length := (List.getElem?_eq_some_iff.1 hk).1
  obtain ⟨c, hc, hcl, hcb⟩ := h.2.2.2.2
  obtain ⟨mem, fr, hraw, hrel⟩ := (hcb k b hk).raw (by omega)
  have g0 : w.cell? ⟨ab, k * 396, none⟩ = some (.int .i64 0) := by rw [hc.cell, hraw.r, hr]; rfl
  have g1 : w.cell? ⟨ab, k * 396 + 393, none⟩ = some (.int .i64 (b.head.length : Int)) := by rw [hc.cell]; exact hraw.h
  have g2 : w.cell? ⟨ab, k * 396 + 394, none⟩ = some (.int .i64 (b.data.length : Int)) := by rw [hc.cell]; exact hraw.s
  have g3 : w.cell? ⟨ab, k * 396 + 395, none⟩ = some (.int .i64 (fr : Int)) := by rw [hc.cell]; exact hraw.f
  have hz := fun o => hc.fz o
  have hzp := fun o => h.1.fz o
  have hne : ¬ p = ab := h.2.1
  have hne' : ¬ ab = p := fun e => h.2.1 e.symm
  have hnf := nfree_le L
  have H := Lib.hid (And.intro h (And.intro hk (And.intro hc (And.intro hraw (And.intro hr hf)))))
  clear h hf hk hc hraw hrel hr hcb hcl
  go_enter Try.func17, Try.ntmps17
  go_wp2
  go_wp2
  go_step3
  go_wp2
  go_step3
  go_wp2
  go_loop [4, 12] (fun a v => ∃ j : Nat, j ≤ k ∧ a = .int .i64 (-1) ∧ v = .int .i64 (j : Int)) (fun _ v => k - (intOf v).toNat)
  case atStart => exact ⟨0, Nat.zero_le _, rfl, rfl⟩
  case round =>
    obtain ⟨j, hj, rfl, rfl⟩ := hrel
    by_cases hlt : j < k
    · obtain ⟨h, hk, hc, hraw, hr, hf⟩ := H.out
      have hjl : j < L.length := by omega
      have hb := h.cellr (List.getElem?_eq_getElem hjl)
      have hr := hf j _ hlt (List.getElem?_eq_getElem hjl)
      have hr0 : ((L[j].refs : Int) == 0) = false := by simp; omega
      clear h hk hc hraw hr hf g0 g1 g2 g3
      go_wp2
      go_round
      case rel => exact ⟨j + 1, by omega, rfl, by go_num⟩
      case measure => simp [intOf]; omega
    · have : j = k := by omega
      subst this
      clear hlt hj
      go_wp2
      try rw [Exit.noGoto_ret]
      go_ret2
      obtain ⟨h, hk, hc, hraw, hr, hf⟩ := H.out
      have e := nfree_set (b1 := ⟨1, [], []⟩) hk
      rw [if_pos hr, if_neg (by simp)] at e
      have hO := Only.st (Only.st (Only.st (Only.st (Only.st (Only.refl (fun b => b = p ∨ b = ab) w) (.inr rfl) (j * 396) (.int .i64 1)) (.inr rfl) (j * 396 + 393) (.int .i64 0)) (.inr rfl) (j * 396 + 394) (.int .i64 0)) (.inr rfl) (j * 396 + 395) (.int .i64 0)) (.inl rfl) 1 (.int .i64 ((nfree L : Int) - 1))
      have R := (((hraw.setR 1).setH 0).setS 0).setF 0
      have hft := hraw.fit
      refine ⟨rfl, h.turn hc ?_ (((((hc.set _ _).set _ _).set _ _).set _ _).set_ne hne _) (by simp) (fun o ho => by rw [set_ne_at (by omega), set_ne_at (by omega), set_ne_at (by omega), set_ne_at (by omega)]) ?_, hO⟩
      · have e2 : (nfree (L.set j ⟨1, [], []⟩) : Int) = (nfree L : Int) - 1 := by omega
        rw [e2]
        have := (((((h.1.set_ne (a := ⟨ab, j * 396, none⟩) hne' (.int .i64 1)).set_ne (a := ⟨ab, j * 396 + 393, none⟩) hne' (.int .i64 0)).set_ne (a := ⟨ab, j * 396 + 394, none⟩) hne' (.int .i64 0)).set_ne (a := ⟨ab, j * 396 + 395, none⟩) hne' (.int .i64 0))).set 1 (.int .i64 ((nfree L : Int) - 1))
        simpa using this
      · exact R.buf (b := ⟨1, [], []⟩) (fr := 0) rfl rfl rfl rfl rfl (by simp) (by simp)
def NewPost (w : World) (n : Nat) (e : Ending) (w' : World) : Prop :=
  ∃ p ab, e = .returned (.tuple #[.pointer (some ⟨p, 0, none⟩), .int .i64 0]) ∧ PoolAt w' p ab (List.replicate n ⟨0, [], []⟩) ∧ w.heap.size ≤ p ∧ w.heap.size ≤ ab ∧ Only (fun _ => False) w w'

def zbuf : List Value := .int .i64 0 :: (List.replicate 392 (.int .u8 0) ++ [.int .i64 0, .int .i64 0, .int .i64 0])
theorem zbuf_len : zbuf.length = 396 := by simp [zbuf]
def zbufs (n : Nat) : List Value := (List.range (n * 396)).map fun i => zbuf[i % 396]?.getD default

theorem run_make_bufs (n : Nat) (hn : n ≤ 4096) (w : World) :
    (Instr.makeSlice 109 (.int .i64 (n : Int)) (.int .i64 (n : Int))).run Try.prog w = .ok (.slice (some ⟨w.heap.size, 0, none⟩) n n) (w.alloc (.cells (zbufs n).toArray 80)) := by
  have hq : (Try.prog.info? 80).map (fun i => (i.zero, i.size, i.bytes)) = some (some (.agg zbuf.toArray), 396, 424) := by kernel_rfl
  obtain ⟨i, hi, hz, h1, h2⟩ : ∃ i, Try.prog.info? 80 = some i ∧ i.zero = some (.agg zbuf.toArray) ∧ i.size = 396 ∧ i.bytes = 424 := by
    cases hi : Try.prog.info? 80 with
    | none => rw [hi] at hq; cases hq
    | some i => rw [hi] at hq; simp only [Option.map_some, Option.some.injEq, Prod.mk.injEq] at hq; exact ⟨i, rfl, hq.1, hq.2.1, hq.2.2⟩
  clear hq
  have := run_make (P := Try.prog) w 109 80 i _ Try.underlying109 hi hz .i64 .i64 (n : Int) (n : Int) (by omega) (by omega) (by rw [h2]; omega) (by omega)
  rw [this]
  simp only [Int.toNat_natCast, h1]
  have e : madeCells (Value.agg zbuf.toArray).cells (n * 396) = (zbufs n).toArray := by
    have e1 : (Value.agg zbuf.toArray).cells = zbuf.toArray := rfl
    rw [e1]
    apply Array.ext_getElem?
    intro j
    simp only [madeCells, zbufs]
    by_cases hj : j < n * 396
    · simp [hj, zbuf_len]
    · simp [hj]
  rw [e]

theorem zbufs_at {n k : Nat} (hk : k < n) : BufAt (zbufs n) (k * 396) ⟨0, [], []⟩ := by
  have hg : ∀ j, j < 396 → (zbufs n)[k * 396 + j]? = some (zbuf[j]?.getD default) := by
    intro j hj
    have h1 : k * 396 + j < n * 396 := by omega
    have h2 : (k * 396 + j) % 396 = j := by omega
    simp [zbufs, h1, h2]
  refine ⟨List.replicate 392 0, 0, by simp, ?_, ?_, ?_, ?_, ?_, by simp, by simp, by simp, by simp⟩
  · have := hg 0 (by omega); rw [Nat.add_zero] at this; rw [this]; rfl
  · intro j hj
    have hj' : j < 392 := by simpa using hj
    rw [Nat.add_assoc, hg (1 + j) (by omega)]
    have : zbuf[1 + j]? = some (.int .u8 0) := by
      rw [Nat.add_comm]
      unfold zbuf
      rw [List.getElem?_cons_succ, List.getElem?_append_left (by simpa using hj'), List.getElem?_replicate, if_pos hj']
    rw [this, List.getElem_replicate]; rfl
  · rw [hg 393 (by omega)]; rfl
  · rw [hg 394 (by omega)]; rfl
  · rw [hg 395 (by omega)]; rfl

theorem new_in {w : World} {n : Nat} (h1 : 1 ≤ n) (h2 : n ≤ 4096) : Calls Try.prog 27 #[.int .i64 (n : Int)] w (NewPost w n) := by
  have hm := run_make_bufs n h2
  have g1 : (1 : Int) ≤ (n : Int) := by omega
  have g2 : (n : Int) ≤ 4096 := by omega
  go_enter Try.func27, Try.ntmps27
  go_wp2
  go_ret2
  refine ⟨w.heap.size + 1, w.heap.size, rfl, ⟨?_, by omega, by simpa using h1, by simpa using h2, zbufs n, ?_, by simp [zbufs], ?_⟩, by omega, by omega, Only.alloc (Only.alloc (Only.refl _ _) _) _⟩
  · refine Blk.at_new (by simp) ?_
    have : nfree (List.replicate n ⟨0, [], []⟩) = n := by
      unfold nfree; rw [List.countP_replicate]; simp
    rw [this]; simp
  · exact Blk.alloc (Blk.at_new rfl rfl) _
  · intro k b hk
    rw [List.getElem?_replicate] at hk
    split at hk
    · rename_i hkn
      simp at hk; subst hk
      exact zbufs_at hkn
    · cases hk

end Go.Proofs.Ytghfkgcaglabpaa

/-
  A region that draws its order and holds operations that turn memory, each apart from the others: one walk in the order of the text serves every order. What is known of the world hangs on which of the listed operations have been.
-/
namespace Go.Proofs.Ytghfkgcaglabpaa
section
variable {P : Program} {ops : Array Oper} {md : Region.Mode} {sp : List Nat} {C : (Nat → Bool) → World → Prop}

def doneSet (sp : List Nat) (i : Nat) (D : Nat → Bool) : Nat → Bool := if i ∈ sp then fun k => if k = i then true else D k else D

def spreadUpon (P : Program) (R : World → Prop) (v : Value) : Result Next → Prop
  | .ok (.value u) w' => u = v ∧ R w'
  | .ok .skip w' => v = undef ∧ R w'
  | .ok (.enter f args) w' => Calls P f args w' (fun e w'' => e = .returned v ∧ R w'')
  | _ => False

def spreadAt (P : Program) (sp : List Nat) (C : (Nat → Bool) → World → Prop) (i : Nat) (o : Oper) (a : Act) (v : Value) : Prop :=
  ∀ D w, C D w → (i ∈ sp → D i = false) → spreadUpon P (C (doneSet sp i D)) v ((execOp a.eval o).run P w)

def wpSpread (P : Program) (ops : Array Oper) (sp : List Nat) (C : (Nat → Bool) → World → Prop) (Q : Act → Prop) : Nat → List Oper → Act → Prop
  | _, [], a => Q a
  | k, o :: rest, a => if Region.wanted o (yielded ops a.tmps) then ∃ v, spreadAt P sp C k o a v ∧ wpSpread P ops sp C Q (k + 1) rest (a.put o.dst v) else wpSpread P ops sp C Q (k + 1) rest (a.put o.dst undef)

def sprOp (P : Program) (ops : Array Oper) (sp : List Nat) (C : (Nat → Bool) → World → Prop) (i : Nat) (K : Act → Prop) (a : Act) : Prop :=
  match ops[i]? with
  | none => K a
  | some o => if Region.wanted o (yielded ops a.tmps) then ∃ v, spreadAt P sp C i o a v ∧ K (a.put o.dst v) else K (a.put o.dst undef)

theorem sprOp_mono {i : Nat} {a : Act} {K K' : Act → Prop} (h : ∀ a, K a → K' a) (hh : sprOp P ops sp C i K a) : sprOp P ops sp C i K' a := by
  unfold sprOp at *
  split
  · exact h _ (by simpa [*] using hh)
  · rename_i o ho
    simp only [ho] at hh
    split
    · rename_i hw; simp only [hw, if_true] at hh; obtain ⟨v, h1, h2⟩ := hh; exact ⟨v, h1, h _ h2⟩
    · rename_i hw; simp only [hw] at hh; exact h _ hh

def wpAnySpr (P : Program) (md : Region.Mode) (ops : Array Oper) (sp : List Nat) (C : (Nat → Bool) → World → Prop) (Q : Act → Prop) : Nat → Array Bool → Act → Prop
  | 0, listed, a => Region.ready md ops listed = [] ∧ Q a
  | fuel + 1, listed, a =>
    (Region.ready md ops listed = [] → Q a) ∧
    ∀ i ∈ Region.ready md ops listed, sprOp P ops sp C i (wpAnySpr P md ops sp C Q fuel (listed.setIfInBounds i true)) a

def Flags (ops : Array Oper) (sp : List Nat) (listed : Array Bool) (D : Nat → Bool) : Prop := listed.size = ops.size ∧ ∀ i ∈ sp, i < ops.size → D i = listed.getD i true

theorem Flags.step {listed : Array Bool} {D : Nat → Bool} (h : Flags ops sp listed D) (i : Nat) : Flags ops sp (listed.setIfInBounds i true) (doneSet sp i D) := by
  refine ⟨by simp [h.1], fun j hj hlt => ?_⟩
  unfold doneSet
  by_cases hi : i ∈ sp
  · rw [if_pos hi]
    by_cases e : j = i
    · subst e; simp [h.1, hlt]
    · simp only [e, if_false]
      rw [getD_set_ne true (Ne.symm e)]; exact h.2 j hj hlt
  · rw [if_neg hi, getD_set_ne true (fun e => hi (by subst e; exact hj))]; exact h.2 j hj hlt

theorem wpAny_of_spr {Q : Act → Prop} {Q' : Exit → Act → World → Prop} (hg : ∀ i ∈ sp, ∀ o, ops[i]? = some o → o.guard = none) (hQ : ∀ a listed D w, Region.ready md ops listed = [] → Flags ops sp listed D → C D w → Q a → Q' .normal a w) :
    ∀ (fuel : Nat) (listed : Array Bool) (a : Act) (D : Nat → Bool) (w : World), Flags ops sp listed D → C D w → wpAnySpr P md ops sp C Q fuel listed a → wpAny P md ops Q' fuel listed a w
  | 0, listed, _, D, _, hf, hw, h => ⟨h.1, hQ _ listed D _ h.1 hf hw h.2⟩
  | fuel + 1, listed, a, D, w, hf, hw, h => ⟨fun h0 => hQ _ listed D _ h0 hf hw (h.1 h0), fun i hi => by
      have h2 := h.2 i hi
      have hun := (mem_ready.1 hi).1
      unfold sprOp at h2
      unfold wpOp
      split
      · rename_i ho
        obtain ⟨_, o, ho', _⟩ := mem_ready.1 hi
        rw [ho] at ho'; cases ho'
      · rename_i o ho
        simp only [ho] at h2
        have hlt : i < ops.size := (Array.getElem?_eq_some_iff.1 ho).1
        split
        · rename_i hwt
          simp only [hwt, if_true] at h2
          obtain ⟨v, h3, h4⟩ := h2
          left
          have h5 := h3 D w hw (fun hs => by rw [hf.2 i hs hlt]; exact hun)
          unfold Oper.wp
          generalize (execOp a.eval o).run P w = r at *
          cases r with
          | ok n w' =>
            cases n <;> simp only [spreadUpon] at h5 <;> simp only [Oper.upon]
            case value u => rw [h5.1]; exact wpAny_of_spr hg hQ fuel _ _ _ _ (hf.step i) h5.2 h4
            case skip => rw [← h5.1]; exact wpAny_of_spr hg hQ fuel _ _ _ _ (hf.step i) h5.2 h4
            case enter f args => exact h5.mono fun e w'' ⟨he, hc⟩ => by subst he; exact wpAny_of_spr hg hQ fuel _ _ _ _ (hf.step i) hc h4
          | halt x w' => simp only [spreadUpon] at h5
        · rename_i hwt
          simp only [hwt] at h2
          have hns : i ∉ sp := fun hs => hwt (by simp [Region.wanted, hg i hs o ho])
          have hf' := hf.step (sp := sp) i
          unfold doneSet at hf'
          rw [if_neg hns] at hf'
          exact wpAny_of_spr hg hQ fuel _ _ _ _ hf' hw h2⟩

def SprYields (P : Program) (ops : Array Oper) (sp : List Nat) (C : (Nat → Bool) → World → Prop) (i : Nat) (o : Oper) (v : Value) (a : Act) : Prop :=
  (Region.wanted o (yielded ops a.tmps) = true ∧ spreadAt P sp C i o a v) ∨ (Region.wanted o (yielded ops a.tmps) = false ∧ v = undef)

theorem SprYields.op {i : Nat} {o : Oper} {v : Value} {a : Act} (hi : ops[i]? = some o) (hy : SprYields P ops sp C i o v a) {K : Act → Prop} (h : K (a.put o.dst v)) : sprOp P ops sp C i K a := by
  unfold sprOp
  simp only [hi]
  rcases hy with ⟨hw, hv⟩ | ⟨hw, rfl⟩
  · simp only [hw, if_true]; exact ⟨v, hv, h⟩
  · simp only [hw, Bool.false_eq_true, if_false]; exact h

theorem SprYields.of_same {i : Nat} {o : Oper} {v : Value} {a a' : Act} (hy : SprYields P ops sp C i o v a) (he : execOp a'.eval o = execOp a.eval o)
    (hw : Region.wanted o (yielded ops a'.tmps) = Region.wanted o (yielded ops a.tmps)) : SprYields P ops sp C i o v a' := by
  unfold SprYields spreadAt at *
  rw [he, hw]
  exact hy

theorem sprYields_of_op {i : Nat} {o : Oper} {a : Act} {K : Act → Prop} (hi : ops[i]? = some o) (h : sprOp P ops sp C i K a) : ∃ v, SprYields P ops sp C i o v a ∧ K (a.put o.dst v) := by
  unfold sprOp at h
  simp only [hi] at h
  by_cases hw : Region.wanted o (yielded ops a.tmps) = true
  · simp only [hw, if_true] at h
    obtain ⟨v, h1, h2⟩ := h
    exact ⟨v, .inl ⟨hw, h1⟩, h2⟩
  · simp only [hw] at h
    exact ⟨undef, .inr ⟨by simpa using hw, rfl⟩, h⟩

theorem sprOp_put {i j : Nat} {oi oj : Oper} {v : Value} (hj : ops[j]? = some oj) (hap : oi.apart ops oj = true)
    (hsi : ∀ cs b, oi.op ≠ .select cs b) (hsj : ∀ cs b, oj.op ≠ .select cs b) {K : Act → Prop} {a : Act}
    (hy : SprYields P ops sp C i oi v a) (h : sprOp P ops sp C j K (a.put oi.dst v)) :
    sprOp P ops sp C j (fun a' => SprYields P ops sp C i oi v a' ∧ K (a'.put oi.dst v)) a := by
  obtain ⟨h1, h2, h3⟩ := Oper.apart_spec hap
  have keep : ∀ (a : Act), SprYields P ops sp C i oi v a → ∀ u, SprYields P ops sp C i oi v (a.put oj.dst u) := fun a hy u =>
    hy.of_same (execOp_put oi hsi a oj.dst u h3) (wanted_put oi a oj.dst u h3)
  unfold sprOp at *
  simp only [hj] at *
  rw [wanted_put oj a oi.dst v h1] at h
  split
  · rename_i hw
    simp only [hw, if_true] at h
    obtain ⟨u, hu, hn⟩ := h
    refine ⟨u, fun D w hD hs => ?_, keep a hy u, by rw [← Act.put_comm a v u h2]; exact hn⟩
    have := hu D w hD hs
    rwa [execOp_put oj hsj a oi.dst v h1] at this
  · rename_i hw
    simp only [hw] at h
    exact ⟨keep a hy _, by rw [← Act.put_comm a v undef h2]; exact h⟩

theorem wpAnySpr_first {Q : Act → Prop} {i : Nat} {oi : Oper} {v : Value} (hi : ops[i]? = some oi) (hsel : ∀ (j : Nat) (o : Oper) cs b, ops[j]? = some o → o.op ≠ .select cs b) :
    ∀ (fuel : Nat) (listed : Array Bool) (a : Act),
      (∀ j oj, ops[j]? = some oj → j ≠ i → listed.getD j true = false → (∀ e ∈ oj.after, Region.binds md e = true → e.on ≠ i) → oi.apart ops oj = true) →
      i ∈ Region.ready md ops listed → SprYields P ops sp C i oi v a →
      wpAnySpr P md ops sp C Q fuel (listed.setIfInBounds i true) (a.put oi.dst v) → wpAnySpr P md ops sp C Q (fuel + 1) listed a := by
  intro fuel
  induction fuel with
  | zero =>
    intro listed a _ hr hy H
    refine ⟨fun h => (by rw [h] at hr; cases hr), fun j hj => ?_⟩
    by_cases hji : j = i
    · subst hji; exact hy.op hi H
    · have := ready_mono hj hji
      rw [H.1] at this
      cases this
  | succ fuel ih =>
    intro listed a hfree hr hy H
    refine ⟨fun h => (by rw [h] at hr; cases hr), fun j hj => ?_⟩
    by_cases hji : j = i
    · subst hji; exact hy.op hi H
    · have h1 := H.2 j (ready_mono hj hji)
      obtain ⟨hjun, oj, hoj, hall⟩ := mem_ready.1 hj
      have hnot : ∀ e ∈ oj.after, Region.binds md e = true → e.on ≠ i := fun e he hb heq => by
        have h1 := hall e he hb
        have h0 := (mem_ready.1 hr).1
        rw [heq, getD_both h0] at h1
        cases h1
      have h2 := sprOp_put hoj (hfree j oj hoj hji hjun hnot) (fun cs b => hsel i oi cs b hi) (fun cs b => hsel j oj cs b hoj) hy h1
      have hfree' : ∀ k ok, ops[k]? = some ok → k ≠ i → (listed.setIfInBounds j true).getD k true = false →
          (∀ e ∈ ok.after, Region.binds md e = true → e.on ≠ i) → oi.apart ops ok = true := fun k ok hk hki hun hno => by
        refine hfree k ok hk hki ?_ hno
        by_cases hjk : j = k
        · subst hjk; exact hjun
        · rw [getD_set_ne true hjk] at hun; exact hun
      refine sprOp_mono (fun a' h3 => ih (listed.setIfInBounds j true) a' hfree' (ready_mono hr (Ne.symm hji)) h3.1 ?_) h2
      rw [Array.setIfInBounds_comm _ _ hji]
      exact h3.2

theorem wpAnySpr_lex {Q : Act → Prop} (hs : Region.noSelect ops = true) : ∀ (l : List Oper) (k : Nat) (listed : Array Bool) (a : Act), (∀ j, l[j]? = ops[k + j]?) →
    Region.lexFrom md ops l.length k listed = true → wpSpread P ops sp C Q k l a → wpAnySpr P md ops sp C Q l.length listed a
  | [], _, _, _, _, hB, h => ⟨by simpa [Region.lexFrom] using hB, h⟩
  | o :: l, k, listed, a, hl, hB, h => by
    have h0 : ops[k]? = some o := by simpa using (hl 0).symm
    simp only [List.length_cons, Region.lexFrom, Bool.and_eq_true] at hB
    obtain ⟨⟨hr, hf⟩, hB'⟩ := hB
    have hst : sprOp P ops sp C k (wpSpread P ops sp C Q (k + 1) l) a := by unfold sprOp; simp only [h0]; exact h
    obtain ⟨v, hy, hK⟩ := sprYields_of_op h0 hst
    exact wpAnySpr_first h0 (Region.noSelect_spec hs) l.length listed a (Region.free_spec h0 hf) (by simpa using hr) hy
      (wpAnySpr_lex hs l (k + 1) _ _ (fun j => by have := hl (j + 1); simpa [Nat.add_assoc, Nat.add_comm 1 j] using this) hB' hK)

def backB (ops : Array Oper) : Bool := (List.range ops.size).all fun i => ((ops[i]?).map (·.after.all fun e => !Region.binds .any e || decide (e.on < i))).getD false

theorem all_listed (hb : backB ops = true) {listed : Array Bool} (hs : listed.size = ops.size) (hr : Region.ready .any ops listed = []) : ∀ i, i < ops.size → listed.getD i true = true := by
  intro i
  induction i using Nat.strongRecOn with
  | _ i ih =>
    intro hi
    cases hl : listed.getD i true with
    | true => rfl
    | false =>
      have hb1 := List.all_eq_true.1 hb i (List.mem_range.2 hi)
      have ho : ops[i]? = some ops[i] := by simp [hi]
      rw [ho] at hb1
      simp only [Option.map_some, Option.getD_some, Array.all_eq_true_iff_forall_mem, Bool.or_eq_true, Bool.not_eq_true', decide_eq_true_eq] at hb1
      have : i ∈ Region.ready .any ops listed := mem_ready.2 ⟨hl, ops[i], ho, fun e he hbd => by
        rcases hb1 e he with h1 | h1
        · rw [h1] at hbd; cases hbd
        · have h2 := ih e.on h1 (by omega)
          have hlt : e.on < listed.size := by omega
          simpa [hlt] using h2⟩
      rw [hr] at this; cases this

theorem wp_region_spread {id : Nat} {Q : Exit → Act → World → Prop} {a : Act} {w : World} {l : List Oper} (sp : List Nat) (C : (Nat → Bool) → World → Prop) (hm : P.follows .mixedOrders = true) (hB : Region.lexB .any l.toArray = true) (hb : backB l.toArray = true)
    (hg : (sp.all fun i => ((l[i]?).map (fun o => o.guard.isNone)).getD false) = true) (hC : C (fun _ => false) { w with drawn := w.drawn + 1 })
    (h : wpSpread P l.toArray sp C (fun a' => ∀ D w', (∀ i ∈ sp, D i = true) → C D w' → Q .normal a' w') 0 l a) : (Code.region id l.toArray true).wp P Q a w := by
  simp only [Region.lexB, Bool.and_eq_true] at hB
  have hg' : ∀ i ∈ sp, i < l.length ∧ ∀ o, l.toArray[i]? = some o → o.guard = none := by
    intro i hi
    have := List.all_eq_true.1 hg i hi
    cases ho : l[i]? with
    | none => rw [ho] at this; simp at this
    | some o =>
      rw [ho] at this
      refine ⟨(List.getElem?_eq_some_iff.1 ho).1, fun o' ho' => ?_⟩
      have e : l[i]? = some o' := by simpa using ho'
      rw [ho] at e; cases e
      simpa using this
  refine wp_region_any hm (wpAny_of_spr (sp := sp) (C := C) (Q := fun a' => ∀ D w', (∀ i ∈ sp, D i = true) → C D w' → Q .normal a' w') (fun i hi o ho => (hg' i hi).2 o ho) (fun a' listed D w' hr hf hC' h => ?_) _ _ _ (fun _ => false) _ ?_ hC ?_)
  · refine h D w' (fun i hi => ?_) hC'
    have hlt : i < l.toArray.size := by simpa using (hg' i hi).1
    rw [hf.2 i hi hlt]
    exact all_listed hb hf.1 hr i hlt
  · refine ⟨by simp, fun i _ hlt => ?_⟩
    have hlt' : i < l.length := by simpa using hlt
    simp [hlt']
  · have := wpAnySpr_lex (sp := sp) (C := C) (md := .any) hB.1 l 0 (Array.replicate l.toArray.size false) a (by simp) (by simpa using hB.2) h
    simpa using this

def wpAnySprL (P : Program) (md : Region.Mode) (ops : Array Oper) (sp : List Nat) (C : (Nat → Bool) → World → Prop) (n : Nat) (L : Array Bool → Act → Prop) : Nat → Array Bool → Act → Prop
  | 0, listed, a => L listed a
  | f + 1, listed, a =>
    Region.ready md ops listed ≠ [] ∧ ∀ i ∈ Region.ready md ops listed, i < n ∧ sprOp P ops sp C i (wpAnySprL P md ops sp C n L f (listed.setIfInBounds i true)) a

theorem wpAny_of_headSpr (hg : ∀ i ∈ sp, ∀ o, ops[i]? = some o → o.guard = none) {n g : Nat} {L : Array Bool → Act → Prop} {Q' : Exit → Act → World → Prop} (hL : ∀ listed a D w, Flags ops sp listed D → C D w → L listed a → wpAny P md ops Q' g listed a w) :
    ∀ (f : Nat) (listed : Array Bool) (a : Act) (D : Nat → Bool) (w : World), Flags ops sp listed D → C D w → wpAnySprL P md ops sp C n L f listed a → wpAny P md ops Q' (f + g) listed a w
  | 0, listed, a, D, w, hf, hw, h => by rw [Nat.zero_add]; exact hL _ _ _ _ hf hw h
  | f + 1, listed, a, D, w, hf, hw, h => by
    rw [show f + 1 + g = (f + g) + 1 by omega]
    refine ⟨fun h0 => absurd h0 h.1, fun i hi => ?_⟩
    have h2 := (h.2 i hi).2
    have hun := (mem_ready.1 hi).1
    unfold sprOp at h2
    unfold wpOp
    split
    · rename_i ho
      obtain ⟨_, o, ho', _⟩ := mem_ready.1 hi
      rw [ho] at ho'; cases ho'
    · rename_i o ho
      simp only [ho] at h2
      have hlt : i < ops.size := (Array.getElem?_eq_some_iff.1 ho).1
      split
      · rename_i hwt
        simp only [hwt, if_true] at h2
        obtain ⟨v, h3, h4⟩ := h2
        left
        have h5 := h3 D w hw (fun hs => by rw [hf.2 i hs hlt]; exact hun)
        unfold Oper.wp
        generalize (execOp a.eval o).run P w = r at *
        cases r with
        | ok n w' =>
          cases n <;> simp only [spreadUpon] at h5 <;> simp only [Oper.upon]
          case value u => rw [h5.1]; exact wpAny_of_headSpr hg hL f _ _ _ _ (hf.step i) h5.2 h4
          case skip => rw [← h5.1]; exact wpAny_of_headSpr hg hL f _ _ _ _ (hf.step i) h5.2 h4
          case enter f' args => exact h5.mono fun e w'' ⟨he, hc⟩ => by subst he; exact wpAny_of_headSpr hg hL f _ _ _ _ (hf.step i) hc h4
        | halt x w' => simp only [spreadUpon] at h5
      · rename_i hwt
        simp only [hwt] at h2
        have hns : i ∉ sp := fun hs => hwt (by simp [Region.wanted, hg i hs o ho])
        have hf' := hf.step (sp := sp) i
        unfold doneSet at hf'
        rw [if_neg hns] at hf'
        exact wpAny_of_headSpr hg hL f _ _ _ _ hf' hw h2

theorem wpAnySprL_first {n i : Nat} {oi : Oper} {v : Value} {L : Array Bool → Act → Prop} (hi : ops[i]? = some oi) (hsel : ∀ (j : Nat) (o : Oper) cs b, ops[j]? = some o → o.op ≠ .select cs b)
    (hs : Region.sinkB md ops n = true) (hc : Region.chainB md ops n = true) (hn : n < ops.size) (hin : i < n)
    (hdone : ∀ listed a, L listed a → ∀ j ∈ Region.ready md ops listed, n ≤ j) :
    ∀ (f : Nat) (listed : Array Bool) (a : Act), HeadInv md ops n listed →
      (∀ j oj, ops[j]? = some oj → j ≠ i → listed.getD j true = false → (∀ e ∈ oj.after, Region.binds md e = true → e.on ≠ i) → oi.apart ops oj = true) →
      i ∈ Region.ready md ops listed → SprYields P ops sp C i oi v a →
      wpAnySprL P md ops sp C n L f (listed.setIfInBounds i true) (a.put oi.dst v) → wpAnySprL P md ops sp C n L (f + 1) listed a := by
  intro f
  induction f with
  | zero =>
    intro listed a inv _ hr hy H
    have hun := (mem_ready.1 hr).1
    refine ⟨fun h => (by rw [h] at hr; cases hr), fun j hj => ?_⟩
    have hjn : j < n := by
      rcases Nat.lt_or_ge j n with h | h
      · exact h
      · exact absurd hj (tail_waits hs hc hn inv _ i rfl hin hun j h)
    refine ⟨hjn, ?_⟩
    by_cases hji : j = i
    · subst hji; exact hy.op hi H
    · have := hdone _ _ H j (ready_mono hj hji)
      omega
  | succ f ih =>
    intro listed a inv hfree hr hy H
    have hun := (mem_ready.1 hr).1
    refine ⟨fun h => (by rw [h] at hr; cases hr), fun j hj => ?_⟩
    have hjn : j < n := by
      rcases Nat.lt_or_ge j n with h | h
      · exact h
      · exact absurd hj (tail_waits hs hc hn inv _ i rfl hin hun j h)
    refine ⟨hjn, ?_⟩
    by_cases hji : j = i
    · subst hji; exact hy.op hi H
    · have h1 := (H.2 j (ready_mono hj hji)).2
      obtain ⟨hjun, oj, hoj, hall⟩ := mem_ready.1 hj
      have hnot : ∀ e ∈ oj.after, Region.binds md e = true → e.on ≠ i := fun e he hb heq => by
        have h1 := hall e he hb
        rw [heq, getD_both hun] at h1
        cases h1
      have h2 := sprOp_put hoj (hfree j oj hoj hji hjun hnot) (fun cs b => hsel i oi cs b hi) (fun cs b => hsel j oj cs b hoj) hy h1
      have hfree' : ∀ k ok, ops[k]? = some ok → k ≠ i → (listed.setIfInBounds j true).getD k true = false →
          (∀ e ∈ ok.after, Region.binds md e = true → e.on ≠ i) → oi.apart ops ok = true := fun k ok hk hki hun hno => by
        refine hfree k ok hk hki ?_ hno
        by_cases hjk : j = k
        · subst hjk; exact hjun
        · rw [getD_set_ne true hjk] at hun; exact hun
      refine sprOp_mono (fun a' h3 => ih (listed.setIfInBounds j true) a' (inv.set hj hjn) hfree' (ready_mono hr (Ne.symm hji)) h3.1 ?_) h2
      rw [Array.setIfInBounds_comm _ _ hji]
      exact h3.2

theorem wpAnySprL_lex {n g : Nat} {Lq : Act → Prop} (hsel : Region.noSelect ops = true) (hs : Region.sinkB md ops n = true) (hc : Region.chainB md ops n = true) (hn : n < ops.size) :
    ∀ (l : List Oper) (k : Nat) (listed : Array Bool) (a : Act), (∀ j, j < l.length → l[j]? = ops[k + j]?) → k + l.length = n → HeadInv md ops n listed →
    Region.lexHead md ops g l.length k listed = true → wpSpread P ops sp C Lq k l a →
    wpAnySprL P md ops sp C n (fun listed' a' => (Region.seqB md ops g n listed' = true ∧ ∀ j, j < n → listed'.getD j true = true) ∧ Lq a') l.length listed a ∨ ¬ (∀ j, j < k → listed.getD j true = true)
  | [], k, listed, a, _, hk, _, hB, h => by
    have : k = n := by simpa using hk
    subst this
    by_cases hq : ∀ j, j < k → listed.getD j true = true
    · exact .inl ⟨⟨by simpa [Region.lexHead] using hB, hq⟩, h⟩
    · exact .inr hq
  | o :: l, k, listed, a, hl, hk, inv, hB, h => by
    have h0 : ops[k]? = some o := by simpa using (hl 0 (by simp)).symm
    simp only [List.length_cons, Region.lexHead, Bool.and_eq_true] at hB
    obtain ⟨⟨hr, hf⟩, hB'⟩ := hB
    have hkn : k < n := by simp only [List.length_cons] at hk; omega
    have hr' : k ∈ Region.ready md ops listed := by simpa using hr
    have hst : sprOp P ops sp C k (wpSpread P ops sp C Lq (k + 1) l) a := by unfold sprOp; simp only [h0]; exact h
    obtain ⟨v, hy, hK⟩ := sprYields_of_op h0 hst
    by_cases hq : ∀ j, j < k → listed.getD j true = true
    · rcases wpAnySprL_lex (g := g) hsel hs hc hn l (k + 1) (listed.setIfInBounds k true) (a.put o.dst v) (fun j hj => by have := hl (j + 1) (by simp; omega); simpa [Nat.add_assoc, Nat.add_comm 1 j] using this) (by simp only [List.length_cons] at hk; omega) (inv.set hr' hkn) hB' hK with h1 | h1
      · exact .inl (wpAnySprL_first h0 (Region.noSelect_spec hsel) hs hc hn hkn (fun listed' a' hL => seqB_ready hL.1.1) l.length listed a inv (Region.free_spec h0 hf) hr' hy h1)
      · refine absurd (fun j hj => ?_) h1
        by_cases e : k = j
        · subst e
          have : k < listed.size := by rw [inv.size]; omega
          simp [this]
        · rw [getD_set_ne true e]; exact hq j (by omega)
    · exact .inr hq

theorem wp_region_spread_tail {id : Nat} {Q : Exit → Act → World → Prop} {a : Act} {w : World} {l : List Oper} (n : Nat) (sp : List Nat) (C : (Nat → Bool) → World → Prop) (hm : P.follows .mixedOrders = true) (hB : Region.lexTailB .any l.toArray n = true)
    (hg : (sp.all fun i => decide (i < n) && ((l[i]?).map (fun o => o.guard.isNone)).getD false) = true) (hC : C (fun _ => false) { w with drawn := w.drawn + 1 })
    (h : wpSpread P l.toArray sp C (fun a' => ∀ D w', (∀ i ∈ sp, D i = true) → C D w' → wpList P l.toArray Q (l.drop n) a' w') 0 (l.take n) a) : (Code.region id l.toArray true).wp P Q a w := by
  simp only [Region.lexTailB, Bool.and_eq_true, decide_eq_true_eq] at hB
  obtain ⟨⟨⟨⟨hsel, hn⟩, hs⟩, hc⟩, hlex⟩ := hB
  have hn' : n < l.length := by simpa using hn
  have htl : (l.take n).length = n := by simp; omega
  have hdl : (l.drop n).length = l.toArray.size - n := by simp
  have hg' : ∀ i ∈ sp, i < n ∧ ∀ o, l.toArray[i]? = some o → o.guard = none := by
    intro i hi
    have := List.all_eq_true.1 hg i hi
    simp only [Bool.and_eq_true, decide_eq_true_eq] at this
    refine ⟨this.1, fun o ho => ?_⟩
    have e : l[i]? = some o := by simpa using ho
    have h2 := this.2
    rw [e] at h2
    simpa using h2
  have inv0 : HeadInv .any l.toArray n (Array.replicate l.toArray.size false) :=
    ⟨by simp, fun j oj _ hl => (by rw [getD_replicate_false] at hl; cases hl), fun t _ ht => getD_in (by simpa using ht) (getD_replicate_false _ _)⟩
  have H := wpAnySprL_lex (sp := sp) (C := C) (md := .any) (g := l.toArray.size - n) hsel hs hc hn (l.take n) 0 _ a (fun j hj => by
    have hj' : j < n := by rw [htl] at hj; exact hj
    simp [hj']) (by simpa using htl) inv0 (by rw [htl]; exact hlex) h
  rcases H with H | H
  · refine wp_region_any hm ?_
    have := wpAny_of_headSpr (Q' := Q) (g := l.toArray.size - n) (fun i hi o ho => (hg' i hi).2 o ho) (fun listed a' D w' hf hw' hL => by
      have hD : ∀ i ∈ sp, D i = true := fun i hi => by
        rw [hf.2 i hi (by have := (hg' i hi).1; omega)]; exact hL.1.2 i (hg' i hi).1
      have := wpAny_of_seq (md := .any) (Q' := Q) (l.drop n) n listed a' w' (fun j => by simp [List.getElem?_drop]) (by rw [hdl]; exact hL.1.1) (hL.2 D w' hD hw')
      rwa [hdl] at this) _ _ _ (fun _ => false) _ (⟨by simp, fun i _ hlt => by
        have hlt' : i < l.length := by simpa using hlt
        simp [hlt']⟩) hC H
    rw [htl, show n + (l.toArray.size - n) = l.toArray.size by omega] at this
    exact this
  · exact absurd (fun j hj => absurd hj (Nat.not_lt_zero j)) H

def twoW (i : Nat) (w0 w1 : World) : (Nat → Bool) → World → Prop := fun D w => w = if D i then w1 else w0

theorem two_quiet {i k : Nat} {w0 w1 : World} (hki : k ≠ i) {Q : Act → Prop} {o : Oper} {rest : List Oper} {a : Act} {v : Value} (hg : o.guard = none)
    (h0 : (execOp a.eval o).run P w0 = .ok (.value v) w0) (h1 : (execOp a.eval o).run P w1 = .ok (.value v) w1)
    (hr : wpSpread P ops [i] (twoW i w0 w1) Q (k + 1) rest (a.put o.dst v)) : wpSpread P ops [i] (twoW i w0 w1) Q k (o :: rest) a := by
  unfold wpSpread
  rw [if_pos (by simp [Region.wanted, hg])]
  refine ⟨v, fun D w hD _ => ?_, hr⟩
  have hns : k ∉ [i] := by simpa using hki
  unfold twoW at hD
  subst hD
  have e : doneSet [i] k D = D := by unfold doneSet; rw [if_neg hns]
  rw [e]
  cases hDi : D i with
  | true => simp only [if_true]; rw [h1]; exact ⟨rfl, by unfold twoW; rw [hDi]; rfl⟩
  | false => simp only [Bool.false_eq_true, if_false]; rw [h0]; exact ⟨rfl, by unfold twoW; rw [hDi]; rfl⟩

theorem two_turns {i : Nat} {w0 w1 : World} {Q : Act → Prop} {o : Oper} {rest : List Oper} {a : Act} {v : Value} (hg : o.guard = none)
    (h0 : (execOp a.eval o).run P w0 = .ok (.value v) w1)
    (hr : wpSpread P ops [i] (twoW i w0 w1) Q (i + 1) rest (a.put o.dst v)) : wpSpread P ops [i] (twoW i w0 w1) Q i (o :: rest) a := by
  unfold wpSpread
  rw [if_pos (by simp [Region.wanted, hg])]
  refine ⟨v, fun D w hD hf => ?_, hr⟩
  have hDi := hf (by simp)
  unfold twoW at hD
  rw [hDi] at hD
  simp only [Bool.false_eq_true, if_false] at hD
  subst hD
  rw [h0]
  refine ⟨rfl, ?_⟩
  unfold twoW doneSet
  simp
theorem wpSpread_end {k : Nat} {Q : Act → Prop} {a : Act} (h : Q a) : wpSpread P ops sp C Q k [] a := by unfold wpSpread; exact h

theorem wp_region_two {id : Nat} {Q : Exit → Act → World → Prop} {a : Act} {w : World} {l : List Oper} (n i : Nat) (w1 : World) (hm : P.follows .mixedOrders = true) (hB : Region.lexTailB .any l.toArray n = true)
    (hg : ([i].all fun i => decide (i < n) && ((l[i]?).map (fun o => o.guard.isNone)).getD false) = true)
    (h : wpSpread P l.toArray [i] (twoW i w.drew w1) (fun a' => wpList P l.toArray Q (l.drop n) a' w1) 0 (l.take n) a) : (Code.region id l.toArray true).wp P Q a w := by
  refine wp_region_spread_tail n [i] (twoW i w.drew w1) hm hB hg (by unfold twoW; rfl) ?_
  have e : (fun a' => ∀ D w', (∀ j ∈ [i], D j = true) → twoW i w.drew w1 D w' → wpList P l.toArray Q (l.drop n) a' w') = (fun a' => wpList P l.toArray Q (l.drop n) a' w1) := by
    funext a'; apply propext
    constructor
    · intro H; exact H (fun _ => true) w1 (fun _ _ => rfl) (by unfold twoW; rfl)
    · intro H D w' hD hw
      have := hD i (by simp)
      unfold twoW at hw
      rw [this] at hw
      simp only [if_true] at hw
      subst hw; exact H
  rw [e]; exact h
end
end Go.Proofs.Ytghfkgcaglabpaa

/-
  The document's pool in memory, and what its calls do: each call's answer, for every input.
-/
namespace Go.Proofs.Ytghfkgcaglabpaa
open Go.RowKit
set_option maxRecDepth 100000
set_option maxHeartbeats 1000000

theorem run_append_bytes {P : Program} {w : World} {t ty e : TypeId} (ht : P.underlying t = some (.slice e))
    (hz : (P.info? e).map (fun i => (i.zero, i.size, i.bytes)) = some (some (.int .u8 0), 1, 1))
    (base : Nat) (l d : List UInt8) {s x : Value} (hown : OwnBytes w base e s l) (hx : BytesAt w x d) (hl : l.length + d.length ≤ 140737488355328) (hbase : base ≤ w.heap.size) :
    ∃ v' w', (Builtin.append_ #[t, t] ty #[s, x]).run P w = .ok v' w' ∧ OwnBytes w' base e v' (l ++ d) ∧ Only (fun k => base ≤ k) w w' := by
  obtain ⟨i, hi, hz0, h1, h2⟩ : ∃ i, P.info? e = some i ∧ i.zero = some (.int .u8 0) ∧ i.size = 1 ∧ i.bytes = 1 := by
    cases hi : P.info? e with
    | none => rw [hi] at hz; simp at hz
    | some i => rw [hi] at hz; simp at hz; exact ⟨i, rfl, hz.1, hz.2.1, hz.2.2⟩
  have hrow : ∀ k, s.ownBlock = some k → base ≤ k := by
    intro k hk
    rcases hown.2 with ⟨hv, _⟩ | ⟨g, cap, cur, hv, hb, _⟩
    · rw [hv] at hk; simp [Value.ownBlock] at hk
    · rw [hv] at hk; simp [Value.ownBlock] at hk; omega
  rcases hx with ⟨b, c, rfl, hbn, rfl⟩ | ⟨b, so, cap, rfl, k1, k2, k3⟩
  · cases b with
    | none =>
      have hc := hbn rfl
      subst hc
      exact ⟨s, w, run_append_owned_none w base t ty e i 1 ht hi _ _ _ hown, by simpa using hown, Only.refl _ _⟩
    | some b =>
      obtain ⟨v', w', hr, ho, hg, _⟩ := run_append_own (P := P) (w := w) base t ty e i (.int .u8 0) 1 1 ht hi hz0 h1 h2 rfl (by decide) _ _ _ hown b 0 c [] rfl (by simp) (by simp) (by unfold maxLen; simp at hl ⊢; omega) (by simp at hl ⊢; omega) hbase
      exact ⟨v', w', hr, by simpa [OwnBytes] using ho, grown_only hg _ hrow⟩
  · obtain ⟨v', w', hr, ho, hg, _⟩ := run_append_own (P := P) (w := w) base t ty e i (.int .u8 0) 1 1 ht hi hz0 h1 h2 rfl (by decide) _ _ _ hown ⟨b, so, none⟩ d.length cap (d.map bv) (by simp) (by
      intro j u hj
      have hjl : j < d.length := by have := (List.getElem?_eq_some_iff.1 hj).1; simpa using this
      have hadd : (⟨b, so, none⟩ : Addr).add j = ⟨b, so + j, none⟩ := by unfold Addr.add; split <;> simp_all
      rw [hadd, k3 j hjl]
      simp only [List.getElem?_map, List.getElem?_eq_getElem hjl, Option.map_some] at hj
      exact hj) (by
      intro u hu
      obtain ⟨y, _, rfl⟩ := List.mem_map.1 hu
      rfl) (by unfold maxLen; omega) (by omega) hbase
    exact ⟨v', w', hr, by simpa [OwnBytes] using ho, grown_only hg _ hrow⟩

theorem exec_append {P : Program} {w w' : World} {o : Oper} {a : Act} {s x : Operand} {t : TypeId} {v : Value} (ho : o.op = .call { callee := .builtin .append, args := #[s, x], argTypes := #[t, t] })
    (hrun : (Builtin.append_ #[t, t] o.type #[a.eval s, a.eval x]).run P w = .ok v w') : (execOp a.eval o).run P w = .ok (.value v) w' := by
  simp [execOp, ho, resolve, invoke, builtin, hrun, Result.andThen]

theorem Only.undrew {w w1 : World} (h : Only (fun k => w.heap.size ≤ k) w.drew w1) (S : Nat → Prop) : Only S w w1 :=
  ⟨h.os, h.tape, h.output, h.size, fun b hb _ => h.block b hb (fun hk => absurd hb (Nat.not_lt.2 hk))⟩

theorem own_nil (w : World) (base : Nat) (T : TypeId) : OwnBytes w base T (.slice none 0 0) [] := ⟨rfl, .inl ⟨rfl, rfl⟩⟩

theorem OwnBytes.sliceIn {w : World} {base : Nat} {T : TypeId} {v : Value} {l : List UInt8} (h : OwnBytes w base T v l) : sliceIn v (fun b => base ≤ b) := by
  intro b o n c e _
  rcases h.2 with ⟨hv, _⟩ | ⟨g, cap, cur, hv, hb, _⟩
  · rw [hv] at e; simp at e
  · rw [hv] at e; simp at e; omega

def RefBuf (w : World) (c : List Value) (o : Nat) (base : Nat → Prop) (b : Bf) : Prop :=
  c[o]? = some (.int .i64 (b.refs : Int)) ∧
  (∃ x n k, c[o + 1]? = some (.slice x n k) ∧ BytesAt w (.slice x n k) b.head ∧ sliceIn (.slice x n k) base) ∧
  (∃ x n k, c[o + 2]? = some (.slice x n k) ∧ BytesAt w (.slice x n k) b.data ∧ sliceIn (.slice x n k) base)

def RefAt (w : World) (r rb : Nat) (base : Nat → Prop) (L : List Bf) : Prop :=
  Blk w r [.slice (some ⟨rb, 0, none⟩) L.length L.length] 120 ∧ r ≠ rb ∧ ¬ base r ∧ ¬ base rb ∧ 1 ≤ L.length ∧ L.length ≤ 4096 ∧ (∀ b, w.heap.size ≤ b → base b) ∧
  ∃ c, Blk w rb c 33 ∧ c.length = L.length * 3 ∧ ∀ k b, L[k]? = some b → RefBuf w c (k * 3) base b

theorem RefBuf.only {w w' : World} {c : List Value} {o : Nat} {base : Nat → Prop} {b : Bf} (h : RefBuf w c o base b) {S : Nat → Prop} (k : Only S w w') (hs : ∀ x, base x → x < w.heap.size → ¬ S x) : RefBuf w' c o base b := by
  obtain ⟨h0, ⟨x, n, m, h1, h2, h3⟩, ⟨y, n', m', h4, h5, h6⟩⟩ := h
  refine ⟨h0, ⟨x, n, m, h1, h2.only k ?_, h3⟩, ⟨y, n', m', h4, h5.only k ?_, h6⟩⟩
  · intro b o n c e hn; exact hs b (h3 b o n c e hn) (h2.lt b o n c e hn)
  · intro b o n c e hn; exact hs b (h6 b o n c e hn) (h5.lt b o n c e hn)

theorem RefAt.only {w w' : World} {r rb : Nat} {base : Nat → Prop} {L : List Bf} (h : RefAt w r rb base L) {S : Nat → Prop} (k : Only S w w') (h1 : ¬ S r) (h2 : ¬ S rb) (hs : ∀ x, base x → x < w.heap.size → ¬ S x) : RefAt w' r rb base L := by
  obtain ⟨hr, e0, e1, e2, e3, e4, e5, c, hc, hl, hb⟩ := h
  exact ⟨k.blk hr h1, e0, e1, e2, e3, e4, fun b hb => e5 b (Nat.le_trans k.size hb), c, k.blk hc h2, hl, fun j b hj => (hb j b hj).only k hs⟩

theorem RefAt.alloc {w : World} {r rb : Nat} {base : Nat → Prop} {L : List Bf} (h : RefAt w r rb base L) (o : Obj) : RefAt (w.alloc o) r rb base L :=
  h.only ((Only.refl (fun _ => False) w).alloc o) id id (fun _ _ _ h => h)

theorem RefAt.cell0 {w : World} {r rb : Nat} {base : Nat → Prop} {L : List Bf} (h : RefAt w r rb base L) : w.cell? ⟨r, 0, none⟩ = some (.slice (some ⟨rb, 0, none⟩) L.length L.length) := by
  rw [h.1.cell]; rfl
theorem RefAt.cellr {w : World} {r rb : Nat} {base : Nat → Prop} {L : List Bf} (h : RefAt w r rb base L) {k : Nat} {b : Bf} (hk : L[k]? = some b) : w.cell? ⟨rb, k * 3, none⟩ = some (.int .i64 (b.refs : Int)) := by
  obtain ⟨hr, e0, e1, e2, e3, e4, e5, c, hc, hl, hb⟩ := h
  rw [hc.cell]; exact (hb k b hk).1

theorem RefAt.turn {w w' : World} {r rb : Nat} {base : Nat → Prop} {L : List Bf} (h : RefAt w r rb base L) {k : Nat} {b1 : Bf} {c c' : List Value} (hc : Blk w rb c 33) (k1 : Only (fun x => x = rb) w w')
    (hc' : Blk w' rb c' 33) (hl : c'.length = c.length) (hout : ∀ o, (o < k * 3 ∨ k * 3 + 3 ≤ o) → c'[o]? = c[o]?) (hin : RefBuf w' c' (k * 3) base b1) : RefAt w' r rb base (L.set k b1) := by
  obtain ⟨hr, e0, e1, e2, e3, e4, e5, c0, hc0, hl0, hb⟩ := h
  have ec := hc.uniq hc0
  subst ec
  refine ⟨by simpa using k1.blk hr e0, e0, e1, e2, by simpa using e3, by simpa using e4, fun b hb => e5 b (Nat.le_trans k1.size hb), c', hc', by simp; omega, fun j b hj => ?_⟩
  by_cases e : k = j
  · subst e
    rw [List.getElem?_set] at hj
    simp at hj
    obtain ⟨_, rfl⟩ := hj
    exact hin
  · rw [List.getElem?_set_ne e] at hj
    have h2 := (hb j b hj).only k1 (fun x hx _ hs => e2 (by have e' : x = rb := hs; exact e' ▸ hx))
    obtain ⟨a0, ⟨x, n, m, a1, a2⟩, ⟨y, n', m', a4, a5⟩⟩ := h2
    refine ⟨?_, ⟨x, n, m, ?_, a2⟩, ⟨y, n', m', ?_, a5⟩⟩
    · rw [hout _ (by omega)]; exact a0
    · rw [hout _ (by omega)]; exact a1
    · rw [hout _ (by omega)]; exact a4

theorem rused_in {w : World} {r rb : Nat} {base : Nat → Prop} {L : List Bf} (h : RefAt w r rb base L) {k : Nat} {b : Bf} (hk : L[k]? = some b) (hr : 0 < b.refs) :
    Calls Try.prog 82 #[.pointer (some ⟨r, 0, none⟩), .int .i64 (k : Int)] w fun e w' => e = .returned (.bool true) ∧ w = w' := by
  have hp0 := h.cell0
  have hb0 := h.cellr hk
  have hkl : k < L.length := (List.getElem?_eq_some_iff.1 hk).1
  have hL := h.2.2.2.2.2.1
  clear h hk
  go_enter Try.func82, Try.ntmps82
  go_wp2
  go_ret
  exact ⟨rfl, rfl⟩

theorem rused_no {w : World} {r rb : Nat} {base : Nat → Prop} {L : List Bf} (h : RefAt w r rb base L) {id : Int} (hn : ¬ Used L id) :
    Calls Try.prog 82 #[.pointer (some ⟨r, 0, none⟩), .int .i64 id] w fun e w' => e = .returned (.bool false) ∧ w = w' := by
  have hp0 := h.cell0
  have hL := h.2.2.2.2.2.1
  rcases not_used hn with h0 | h1 | ⟨k, b, rfl, hkl, hk, hr⟩
  · clear h hn
    go_enter Try.func82, Try.ntmps82
    go_wp2
    go_ret
    exact ⟨rfl, rfl⟩
  · clear h hn
    have h0 : 0 ≤ id := by omega
    go_enter Try.func82, Try.ntmps82
    go_wp2
    go_ret
    exact ⟨rfl, rfl⟩
  · have hb0 := h.cellr hk
    rw [hr] at hb0
    clear h hn hk hr
    go_enter Try.func82, Try.ntmps82
    go_wp2
    go_ret
    exact ⟨rfl, rfl⟩

theorem rown_err {w : World} {r rb : Nat} {base : Nat → Prop} {L : List Bf} (h : RefAt w r rb base L) {id x : Int} (hn : OwnErr L id x) :
    Calls Try.prog 81 #[.pointer (some ⟨r, 0, none⟩), .int .i64 id] w fun e w' => e = .returned (.int .i64 x) ∧ w = w' := by
  rcases hn with ⟨hn, rfl⟩ | ⟨k, b, rfl, hk, hr, rfl⟩
  · go_enter Try.func81, Try.ntmps81
    go_wp2_with (go_at_call 82; refine (rused_no h hn).mono ?_; rintro e w' ⟨rfl, rfl⟩)
    go_ret
    exact ⟨rfl, rfl⟩
  · have hp0 := h.cell0
    have hb0 := h.cellr hk
    have hkl : k < L.length := (List.getElem?_eq_some_iff.1 hk).1
    have hU := rused_in h hk (by omega)
    have hr2 : (1 : Int) < (b.refs : Int) := by omega
    have hL := h.2.2.2.2.2.1
    clear h hk
    go_enter Try.func81, Try.ntmps81
    go_wp2_with (go_at_call 82; refine hU.mono ?_; rintro e w' ⟨rfl, rfl⟩)
    go_ret
    exact ⟨rfl, rfl⟩

theorem rown_in {w : World} {r rb : Nat} {base : Nat → Prop} {L : List Bf} (h : RefAt w r rb base L) {k : Nat} {b : Bf} (hk : L[k]? = some b) (hr : b.refs = 1) :
    Calls Try.prog 81 #[.pointer (some ⟨r, 0, none⟩), .int .i64 (k : Int)] w fun e w' => e = .returned (.int .i64 0) ∧ w = w' := by
  have hp0 := h.cell0
  have hb0 := h.cellr hk
  have hkl : k < L.length := (List.getElem?_eq_some_iff.1 hk).1
  have hU := rused_in h hk (by omega)
  have hL := h.2.2.2.2.2.1
  rw [hr] at hb0
  clear h hk hr
  go_enter Try.func81, Try.ntmps81
  go_wp2_with (go_at_call 82; refine hU.mono ?_; rintro e w' ⟨rfl, rfl⟩)
  go_ret
  exact ⟨rfl, rfl⟩

theorem rhold_no {w : World} {r rb : Nat} {base : Nat → Prop} {L : List Bf} (h : RefAt w r rb base L) {id : Int} (hn : ¬ Used L id) :
    Calls Try.prog 73 #[.pointer (some ⟨r, 0, none⟩), .int .i64 id] w fun e w' => e = .returned (.int .i64 7) ∧ w = w' := by
  go_enter Try.func73, Try.ntmps73
  go_wp2_with (go_at_call 82; refine (rused_no h hn).mono ?_; rintro e w' ⟨rfl, rfl⟩)
  go_ret
  exact ⟨rfl, rfl⟩

theorem rfree_no {w : World} {r rb : Nat} {base : Nat → Prop} {L : List Bf} (h : RefAt w r rb base L) {id : Int} (hn : ¬ Used L id) :
    Calls Try.prog 76 #[.pointer (some ⟨r, 0, none⟩), .int .i64 id] w fun e w' => e = .returned (.int .i64 7) ∧ w = w' := by
  go_enter Try.func76, Try.ntmps76
  go_wp2_with (go_at_call 82; refine (rused_no h hn).mono ?_; rintro e w' ⟨rfl, rfl⟩)
  go_ret
  exact ⟨rfl, rfl⟩

theorem RefAt.count {w : World} {r rb : Nat} {base : Nat → Prop} {L : List Bf} (h : RefAt w r rb base L) {k : Nat} {b : Bf} (hk : L[k]? = some b) {x : Int} {n : Nat} (hx : x = (n : Int)) :
    RefAt (w.setCell ⟨rb, k * 3, none⟩ (.int .i64 x)) r rb base (L.set k { b with refs := n }) := by
  have h0 := h
  obtain ⟨hr, e0, e1, e2, e3, e4, e5, c, hc, hl, hb⟩ := h0
  have hkl : k < L.length := (List.getElem?_eq_some_iff.1 hk).1
  have ho := Only.st (Only.refl (fun x => x = rb) w) rfl (k * 3) (.int .i64 x)
  obtain ⟨a0, ⟨y, m, q, a1, a2, a3⟩, ⟨z, m', q', a4, a5, a6⟩⟩ := (hb k b hk).only ho (fun x hx _ hs => e2 (by have e' : x = rb := hs; exact e' ▸ hx))
  refine h.turn hc ho (hc.set _ _) (by simp) (fun o ho => set_ne_at (by omega)) ⟨?_, ⟨y, m, q, ?_, a2, a3⟩, ⟨z, m', q', ?_, a5, a6⟩⟩
  · rw [List.getElem?_set_self (by omega), hx]
  · rw [set_ne_at (by omega)]; exact a1
  · rw [set_ne_at (by omega)]; exact a4

theorem rhold_in {w : World} {r rb : Nat} {base : Nat → Prop} {L : List Bf} (h : RefAt w r rb base L) {k : Nat} {b : Bf} (hk : L[k]? = some b) (hr : 0 < b.refs) (hm : b.refs < 1000000000000000) :
    Calls Try.prog 73 #[.pointer (some ⟨r, 0, none⟩), .int .i64 (k : Int)] w fun e w' => e = .returned (.int .i64 0) ∧ RefAt w' r rb base (L.set k { b with refs := b.refs + 1 }) ∧ Only (fun x => x = rb) w w' := by
  have hp0 := h.cell0
  have hb0 := h.cellr hk
  have hkl : k < L.length := (List.getElem?_eq_some_iff.1 hk).1
  have hU := rused_in h hk hr
  have hL := h.2.2.2.2.2.1
  obtain ⟨c, hc, -⟩ := h.2.2.2.2.2.2.2
  have hz := fun o => hc.fz o
  have H := Lib.hid (And.intro h hk)
  clear h hk hc
  go_enter Try.func73, Try.ntmps73
  go_wp2_with (go_at_call 82; refine hU.mono ?_; rintro e w' ⟨rfl, rfl⟩)
  go_ret
  exact ⟨rfl, H.out.1.count H.out.2 (by simp), Only.st (Only.refl (fun x => x = rb) _) rfl _ _⟩

theorem rfree_in {w : World} {r rb : Nat} {base : Nat → Prop} {L : List Bf} (h : RefAt w r rb base L) {k : Nat} {b : Bf} (hk : L[k]? = some b) (hr : 0 < b.refs) (hm : b.refs < 1000000000000000) :
    Calls Try.prog 76 #[.pointer (some ⟨r, 0, none⟩), .int .i64 (k : Int)] w fun e w' => e = .returned (.int .i64 0) ∧ RefAt w' r rb base (L.set k { b with refs := b.refs - 1 }) ∧ Only (fun x => x = rb) w w' := by
  have hp0 := h.cell0
  have hb0 := h.cellr hk
  have hkl : k < L.length := (List.getElem?_eq_some_iff.1 hk).1
  have hU := rused_in h hk hr
  have hL := h.2.2.2.2.2.1
  obtain ⟨c, hc, -⟩ := h.2.2.2.2.2.2.2
  have hz := fun o => hc.fz o
  have H := Lib.hid (And.intro h hk)
  clear h hk hc
  go_enter Try.func76, Try.ntmps76
  go_wp2_with (go_at_call 82; refine hU.mono ?_; rintro e w' ⟨rfl, rfl⟩)
  go_ret
  exact ⟨rfl, H.out.1.count H.out.2 (by omega), Only.st (Only.refl (fun x => x = rb) _) rfl _ _⟩

def RSeePost (w : World) (base : Nat → Prop) (b : Bf) (e : Ending) (w' : World) : Prop :=
  ∃ x n k y n' k', e = .returned (.tuple #[.agg #[.int .i64 (b.refs : Int), .slice x n k, .slice y n' k'], .int .i64 0]) ∧ BytesAt w' (.slice x n k) b.head ∧ BytesAt w' (.slice y n' k') b.data ∧
    sliceIn (.slice x n k) (fun b => base b ∧ b < w.heap.size) ∧ sliceIn (.slice y n' k') (fun b => base b ∧ b < w.heap.size) ∧ Only (fun _ => False) w w'

theorem rsee_in {w : World} {r rb : Nat} {base : Nat → Prop} {L : List Bf} (h : RefAt w r rb base L) {k : Nat} {b : Bf} (hk : L[k]? = some b) (hr : 0 < b.refs) :
    Calls Try.prog 70 #[.pointer (some ⟨r, 0, none⟩), .int .i64 (k : Int)] w (RSeePost w base b) := by
  have hp0 := h.cell0
  have hkl : k < L.length := (List.getElem?_eq_some_iff.1 hk).1
  have hL := h.2.2.2.2.2.1
  have HU := Lib.hid (fun o => rused_in (h.alloc o) hk hr)
  obtain ⟨c, hc, hcl, hb⟩ := h.2.2.2.2.2.2.2
  obtain ⟨a0, ⟨x, n, q, a1, a2, a3⟩, ⟨y, n', q', a4, a5, a6⟩⟩ := hb k b hk
  have g0 : w.cell? ⟨rb, k * 3, none⟩ = some (.int .i64 (b.refs : Int)) := by rw [hc.cell]; exact a0
  have g1 : w.cell? ⟨rb, k * 3 + 1, none⟩ = some (.slice x n q) := by rw [hc.cell]; exact a1
  have g2 : w.cell? ⟨rb, k * 3 + 2, none⟩ = some (.slice y n' q') := by rw [hc.cell]; exact a4
  have hlr := h.1.lt
  have hlb := hc.lt
  have H := Lib.hid (And.intro a2 (And.intro a5 (And.intro a3 a6)))
  clear h hk hc hb a0 a1 a2 a3 a4 a5 a6 hcl
  go_enter Try.func70, Try.ntmps70
  go_wp2_with (go_at_call 82; refine (HU.out _).mono ?_; rintro e w' ⟨rfl, rfl⟩)
  obtain ⟨a2, a5, a3, a6⟩ := H.out
  exact bodyPost_ret (v := .tuple #[.agg #[.int .i64 (b.refs : Int), .slice x n q, .slice y n' q'], .int .i64 0]) (by simp [results, Try.results70, go_sem]) rfl
    ⟨x, n, q, y, n', q', rfl, a2.only ((Only.refl _ _).alloc _) (fun _ _ _ _ _ _ h => h), a5.only ((Only.refl _ _).alloc _) (fun _ _ _ _ _ _ h => h), fun b o n c e hn => ⟨a3 b o n c e hn, a2.lt b o n c e hn⟩, fun b o n c e hn => ⟨a6 b o n c e hn, a5.lt b o n c e hn⟩, (Only.refl _ _).alloc _⟩

theorem rsee_no {w : World} {r rb : Nat} {base : Nat → Prop} {L : List Bf} (h : RefAt w r rb base L) {id : Int} (hn : ¬ Used L id) :
    Calls Try.prog 70 #[.pointer (some ⟨r, 0, none⟩), .int .i64 id] w fun e w' => e = .returned (.tuple #[.agg #[.int .i64 0, .slice none 0 0, .slice none 0 0], .int .i64 7]) ∧ Only (fun _ => False) w w' := by
  have HU := Lib.hid (fun o => rused_no (h.alloc o) hn)
  clear h
  go_enter Try.func70, Try.ntmps70
  go_wp2_with (go_at_call 82; refine (HU.out _).mono ?_; rintro e w' ⟨rfl, rfl⟩)
  exact bodyPost_ret (v := .tuple #[.agg #[.int .i64 0, .slice none 0 0, .slice none 0 0], .int .i64 7]) (by simp [results, Try.results70, go_sem]) rfl ⟨rfl, Only.alloc (Only.refl _ _) _⟩

end Go.Proofs.Ytghfkgcaglabpaa

/-
  The document's pool: Set, Append, Trim, Front, for every input.
-/
namespace Go.Proofs.Ytghfkgcaglabpaa
open Go.RowKit
set_option maxRecDepth 100000
set_option maxHeartbeats 1000000

theorem u8_info : (Try.prog.info? 5).map (fun i => (i.zero, i.size, i.bytes)) = some (some (.int .u8 0), 1, 1) := by kernel_rfl

theorem rset_in {w : World} {r rb : Nat} {base : Nat → Prop} {L : List Bf} (h : RefAt w r rb base L) {k : Nat} {b : Bf} (hk : L[k]? = some b) (hr : b.refs = 1) {d : List UInt8} {a : Option Addr} {n c : Nat} (hd : BytesAt w (.slice a n c) d) (hn : d.length ≤ 288) :
    Calls Try.prog 67 #[.pointer (some ⟨r, 0, none⟩), .int .i64 (k : Int), .slice a n c] w fun e w' => e = .returned (.int .i64 0) ∧ RefAt w' r rb base (L.set k ⟨1, [], d⟩) ∧ Only (fun x => x = rb) w w' := by
  have hnd : n = d.length := by
    obtain ⟨a', c', e⟩ := hd.form
    simp at e; exact e.2.1
  subst hnd
  have hO := rown_in h hk hr
  have hp0 := h.cell0
  have hkl : k < L.length := (List.getElem?_eq_some_iff.1 hk).1
  have hL := h.2.2.2.2.2.1
  have hlr := h.1.lt
  obtain ⟨cs, hc, hcl, hb⟩ := h.2.2.2.2.2.2.2
  obtain ⟨a0, ⟨x, n1, q, a1, a2, a3⟩, ⟨y, n2, q', a4, a5, a6⟩⟩ := hb k b hk
  have hlb := hc.lt
  obtain ⟨v', w1, hrun, hown, hon⟩ := run_append_bytes (w := w.drew) (ty := 28) Try.underlying28 u8_info w.heap.size [] d (own_nil _ _ _) hd (by simp; omega) (Nat.le_refl _)
  rw [List.nil_append] at hown
  obtain ⟨a', c', rfl, hnil⟩ := hown.form
  have hc1 := hon.blk hc (by omega)
  have hq0 : w1.cell? ⟨r, 0, none⟩ = some (.slice (some ⟨rb, 0, none⟩) L.length L.length) := by rw [hon.cell (a := ⟨r, 0, none⟩) hlr (by simp; omega)]; exact hp0
  have g1 : w1.cell? ⟨rb, k * 3 + 1, none⟩ = some (.slice x n1 q) := by rw [hc1.cell]; exact a1
  have g2 : w1.cell? ⟨rb, k * 3 + 2, none⟩ = some (.slice y n2 q') := by rw [hc1.cell]; exact a4
  have hz := fun o => hc1.fz o
  have hn' : (d.length : Int) ≤ 288 := by omega
  have H := Lib.hid (And.intro h (And.intro hk (And.intro hc (And.intro hc1 (And.intro hcl (And.intro hown (And.intro hon (And.intro a0 hr))))))))
  clear h hk hc hb a0 a1 a2 a3 a4 a5 a6 hcl hown hon hc1 hd hnil hr
  go_enter Try.func67, Try.ntmps67
  go_wp2_with (go_at_call 81; refine hO.mono ?_; rintro e w' ⟨rfl, rfl⟩)
  refine wp_region_two 9 6 w1 (by kernel_rfl) (by kernel_rfl) (by rfl) ?_
  simp only [List.take_succ_cons, List.take_zero, List.drop_succ_cons, List.drop_zero]
  repeat (apply two_quiet (by decide) (by rfl); (focus (go_simp; rfl)); (focus go_simp))
  refine two_turns (by rfl) (exec_append (by rfl) hrun) ?_
  repeat (apply two_quiet (by decide) (by rfl); (focus (go_simp; rfl)); (focus go_simp))
  refine wpSpread_end ?_
  simp only [Act.put, List.setIfInBounds_toArray, List.set_cons_zero, List.set_cons_succ]
  go_wp2
  go_ret
  obtain ⟨h, hk, hc, hc1, hcl, hown, hon, a0, hr⟩ := H.out
  have hbs := h.2.2.2.2.2.2.1
  have hO1 : Only (fun x => x = rb) w w1 := hon.undrew _
  have hst : Only (fun x => x = rb) w1 ((w1.setCell ⟨rb, k * 3 + 2, none⟩ (.slice a' d.length c')).setCell ⟨rb, k * 3 + 1, none⟩ (.slice none 0 0)) := Only.st (Only.st (Only.refl (fun x => x = rb) w1) rfl _ _) rfl _ _
  have hO2 := hO1.trans hst
  refine ⟨rfl, h.turn hc hO2 ((hc1.set _ _).set _ _) (by simp) (fun o ho => by rw [set_ne_at (by omega), set_ne_at (by omega)]) ⟨?_, ⟨none, 0, 0, ?_, .nil _, (by intro b' o' n' c' e _; simp at e)⟩, ⟨a', d.length, c', ?_, (hown.bytes (by omega)).only hst ?_, fun b o n c e hn => hbs b (hown.sliceIn b o n c e hn)⟩⟩, hO2⟩
  · rw [set_ne_at (by omega), set_ne_at (by omega), a0, hr]
  · rw [List.getElem?_set_self (by simp; omega)]
  · rw [set_ne_at (by omega), List.getElem?_set_self (by omega)]
  · intro b o n c e hn
    have := hown.sliceIn b o n c e hn
    omega

theorem rset_err {w : World} {r rb : Nat} {base : Nat → Prop} {L : List Bf} (h : RefAt w r rb base L) {id x : Int} (hn : OwnErr L id x) (a : Option Addr) (n m : Nat) :
    Calls Try.prog 67 #[.pointer (some ⟨r, 0, none⟩), .int .i64 id, .slice a n m] w fun e w' => e = .returned (.int .i64 x) ∧ w = w' := by
  have hx := hn.ne
  have hx2 : (x == 0) = false := by rcases hn with ⟨_, rfl⟩ | ⟨_, _, _, _, _, rfl⟩ <;> rfl
  go_enter Try.func67, Try.ntmps67
  go_wp2_with (go_at_call 81; refine (rown_err h hn).mono ?_; rintro e w' ⟨rfl, rfl⟩)
  go_ret
  exact ⟨rfl, rfl⟩

theorem rfront_err {w : World} {r rb : Nat} {base : Nat → Prop} {L : List Bf} (h : RefAt w r rb base L) {id x : Int} (hn : OwnErr L id x) (a : Option Addr) (n m : Nat) :
    Calls Try.prog 69 #[.pointer (some ⟨r, 0, none⟩), .int .i64 id, .slice a n m] w fun e w' => e = .returned (.int .i64 x) ∧ w = w' := by
  have hx := hn.ne
  have hx2 : (x == 0) = false := by rcases hn with ⟨_, rfl⟩ | ⟨_, _, _, _, _, rfl⟩ <;> rfl
  go_enter Try.func69, Try.ntmps69
  go_wp2_with (go_at_call 81; refine (rown_err h hn).mono ?_; rintro e w' ⟨rfl, rfl⟩)
  go_ret
  exact ⟨rfl, rfl⟩

theorem rset_long {w : World} {r rb : Nat} {base : Nat → Prop} {L : List Bf} (h : RefAt w r rb base L) {k : Nat} {b : Bf} (hk : L[k]? = some b) (hr : b.refs = 1) (a : Option Addr) (n m : Nat) (hn : 288 < n) :
    Calls Try.prog 67 #[.pointer (some ⟨r, 0, none⟩), .int .i64 (k : Int), .slice a n m] w fun e w' => e = .returned (.int .i64 2) ∧ w = w' := by
  have hO := rown_in h hk hr
  have hn' : (288 : Int) < (n : Int) := by omega
  clear hr hk h
  go_enter Try.func67, Try.ntmps67
  go_wp2_with (go_at_call 81; refine hO.mono ?_; rintro e w' ⟨rfl, rfl⟩)
  go_ret
  exact ⟨rfl, rfl⟩

theorem rfront_long {w : World} {r rb : Nat} {base : Nat → Prop} {L : List Bf} (h : RefAt w r rb base L) {k : Nat} {b : Bf} (hk : L[k]? = some b) (hr : b.refs = 1) (a : Option Addr) (n m : Nat) (hn : 104 < n) :
    Calls Try.prog 69 #[.pointer (some ⟨r, 0, none⟩), .int .i64 (k : Int), .slice a n m] w fun e w' => e = .returned (.int .i64 2) ∧ w = w' := by
  have hO := rown_in h hk hr
  have hn' : (104 : Int) < (n : Int) := by omega
  clear hr hk h
  go_enter Try.func69, Try.ntmps69
  go_wp2_with (go_at_call 81; refine hO.mono ?_; rintro e w' ⟨rfl, rfl⟩)
  go_ret
  exact ⟨rfl, rfl⟩

theorem rfront_in {w : World} {r rb : Nat} {base : Nat → Prop} {L : List Bf} (h : RefAt w r rb base L) {k : Nat} {b : Bf} (hk : L[k]? = some b) (hr : b.refs = 1) {d : List UInt8} {a : Option Addr} {n c : Nat} (hd : BytesAt w (.slice a n c) d) (hn : d.length ≤ 104) :
    Calls Try.prog 69 #[.pointer (some ⟨r, 0, none⟩), .int .i64 (k : Int), .slice a n c] w fun e w' => e = .returned (.int .i64 0) ∧ RefAt w' r rb base (L.set k { b with head := d }) ∧ Only (fun x => x = rb) w w' := by
  have hnd : n = d.length := by
    obtain ⟨a', c', e⟩ := hd.form
    simp at e; exact e.2.1
  subst hnd
  have hO := rown_in h hk hr
  have hp0 := h.cell0
  have hkl : k < L.length := (List.getElem?_eq_some_iff.1 hk).1
  have hL := h.2.2.2.2.2.1
  have hlr := h.1.lt
  obtain ⟨cs, hc, hcl, hb⟩ := h.2.2.2.2.2.2.2
  obtain ⟨a0, ⟨x, n1, q, a1, a2, a3⟩, ⟨y, n2, q', a4, a5, a6⟩⟩ := hb k b hk
  have hlb := hc.lt
  have H2 := Lib.hid (And.intro hc (And.intro hcl hb))
  obtain ⟨v', w1, hrun, hown, hon⟩ := run_append_bytes (w := w.drew) (ty := 28) Try.underlying28 u8_info w.heap.size [] d (own_nil _ _ _) hd (by simp; omega) (Nat.le_refl _)
  rw [List.nil_append] at hown
  obtain ⟨a', c', rfl, hnil⟩ := hown.form
  have hc1 := hon.blk hc (by omega)
  have hq0 : w1.cell? ⟨r, 0, none⟩ = some (.slice (some ⟨rb, 0, none⟩) L.length L.length) := by rw [hon.cell (a := ⟨r, 0, none⟩) hlr (by simp; omega)]; exact hp0
  have g1 : w1.cell? ⟨rb, k * 3 + 1, none⟩ = some (.slice x n1 q) := by rw [hc1.cell]; exact a1
  have g2 : w1.cell? ⟨rb, k * 3 + 2, none⟩ = some (.slice y n2 q') := by rw [hc1.cell]; exact a4
  have hz := fun o => hc1.fz o
  have hn' : (d.length : Int) ≤ 104 := by omega
  have H := Lib.hid (And.intro h (And.intro hk (And.intro hc (And.intro hc1 (And.intro hcl (And.intro hown (And.intro hon (And.intro a0 hr))))))))
  clear h hk hc hb a0 a1 a2 a3 a4 a5 a6 hcl hown hon hc1 hd hnil hr
  go_enter Try.func69, Try.ntmps69
  go_wp2_with (go_at_call 81; refine hO.mono ?_; rintro e w' ⟨rfl, rfl⟩)
  refine wp_region_two 9 6 w1 (by kernel_rfl) (by kernel_rfl) (by rfl) ?_
  simp only [List.take_succ_cons, List.take_zero, List.drop_succ_cons, List.drop_zero]
  repeat (apply two_quiet (by decide) (by rfl); (focus (go_simp; rfl)); (focus go_simp))
  refine two_turns (by rfl) (exec_append (by rfl) hrun) ?_
  repeat (apply two_quiet (by decide) (by rfl); (focus (go_simp; rfl)); (focus go_simp))
  refine wpSpread_end ?_
  simp only [Act.put, List.setIfInBounds_toArray, List.set_cons_zero, List.set_cons_succ]
  go_wp2
  go_ret
  obtain ⟨h, hk, hc, hc1, hcl, hown, hon, a0, hr⟩ := H.out
  have hbs := h.2.2.2.2.2.2.1
  have hO1 : Only (fun x => x = rb) w w1 := hon.undrew _
  have hst : Only (fun x => x = rb) w1 (w1.setCell ⟨rb, k * 3 + 1, none⟩ (.slice a' d.length c')) := Only.st (Only.refl (fun x => x = rb) w1) rfl _ _
  have hO2 := hO1.trans hst
  obtain ⟨-, -, ⟨y, n2, q', b4, b5, b6⟩⟩ := (H2.out.2.2 k b hk).only hO2 (fun x hx _ hs => h.2.2.2.1 (by have e' : x = rb := hs; exact e' ▸ hx))
  refine ⟨rfl, h.turn hc hO2 (hc1.set _ _) (by simp) (fun o ho => by rw [set_ne_at (by omega)]) ⟨?_, ⟨a', d.length, c', ?_, (hown.bytes (by omega)).only hst ?_, fun b o n c e hn => hbs b (hown.sliceIn b o n c e hn)⟩, ⟨y, n2, q', ?_, b5, b6⟩⟩, hO2⟩
  · rw [set_ne_at (by omega), a0]
  · rw [List.getElem?_set_self (by omega)]
  · intro b o n c e hn
    have := hown.sliceIn b o n c e hn
    omega
  · rw [set_ne_at (by omega)]; exact b4

end Go.Proofs.Ytghfkgcaglabpaa

/-
  The document's pool: Append and Trim, for every input.
-/
namespace Go.Proofs.Ytghfkgcaglabpaa
open Go.RowKit
set_option maxRecDepth 100000
set_option maxHeartbeats 1000000
theorem BytesAt.cap {w : World} {a : Option Addr} {n c : Nat} {l : List UInt8} (h : BytesAt w (.slice a n c) l) : l.length ≤ c := by
  rcases h with ⟨a', c', e, hn, rfl⟩ | ⟨b, o, cap, e, h1, h2, h3⟩
  · simp
  · simp at e; omega

end Go.Proofs.Ytghfkgcaglabpaa

/-
  The document's pool: Get, Left and New, for every input.
-/
namespace Go.Proofs.Ytghfkgcaglabpaa
open Go.RowKit
set_option maxRecDepth 100000
set_option maxHeartbeats 1000000

theorem rget_none {w : World} {r rb : Nat} {base : Nat → Prop} {L : List Bf} (h : RefAt w r rb base L) (hf : FullTo L L.length) :
    Calls Try.prog 66 #[.pointer (some ⟨r, 0, none⟩)] w fun e w' => e = .returned (.tuple #[.int .i64 0, .int .i64 8]) ∧ w = w' := by
  have hp0 := h.cell0
  have hL := h.2.2.2.2.2.1
  have H := Lib.hid (And.intro h hf)
  clear h hf
  go_enter Try.func66, Try.ntmps66
  go_wp2
  go_loop [4] (fun v => ∃ j : Nat, j ≤ L.length ∧ v = .int .i64 (j : Int)) (fun v => L.length - (intOf v).toNat)
  case atStart => exact ⟨0, Nat.zero_le _, rfl⟩
  case round =>
    obtain ⟨j, hj, rfl⟩ := hrel
    by_cases hlt : j < L.length
    · obtain ⟨h, hf⟩ := H.out
      have hb := h.cellr (List.getElem?_eq_getElem hlt)
      have hr := hf j _ hlt (List.getElem?_eq_getElem hlt)
      have hr0 : ((L[j].refs : Int) == 0) = false := by simp; omega
      clear h hf hr
      go_wp2
      go_round
      case rel => exact ⟨j + 1, by omega, by go_num⟩
      case measure => simp [intOf]; omega
    · have : j = L.length := by omega
      subst this
      go_wp2
      go_ret2
      exact ⟨rfl, rfl⟩

theorem rget_in {w : World} {r rb : Nat} {base : Nat → Prop} {L : List Bf} (h : RefAt w r rb base L) {k : Nat} {b : Bf} (hk : L[k]? = some b) (hr : b.refs = 0) (hf : FullTo L k) :
    Calls Try.prog 66 #[.pointer (some ⟨r, 0, none⟩)] w fun e w' => e = .returned (.tuple #[.int .i64 (k : Int), .int .i64 0]) ∧ RefAt w' r rb base (L.set k ⟨1, [], []⟩) ∧ Only (fun x => x = rb) w w' := by
  have hp0 := h.cell0
  have hL := h.2.2.2.2.2.1
  have hkl : k < L.length := (List.getElem?_eq_some_iff.1 hk).1
  obtain ⟨c, hc, hcl, hcb⟩ := h.2.2.2.2.2.2.2
  obtain ⟨a0, ⟨x, n1, q1, a1, -⟩, ⟨y, n2, q2, a4, -⟩⟩ := hcb k b hk
  have g0 : w.cell? ⟨rb, k * 3, none⟩ = some (.int .i64 0) := by rw [hc.cell, a0, hr]; rfl
  have g1 : w.cell? ⟨rb, k * 3 + 1, none⟩ = some (.slice x n1 q1) := by rw [hc.cell]; exact a1
  have g2 : w.cell? ⟨rb, k * 3 + 2, none⟩ = some (.slice y n2 q2) := by rw [hc.cell]; exact a4
  have hz := fun o => hc.fz o
  have H := Lib.hid (And.intro h (And.intro hk (And.intro hc (And.intro hcl hf))))
  clear h hf hk hc hr hcb hcl a0 a1 a4
  go_enter Try.func66, Try.ntmps66
  go_wp2
  go_loop [4] (fun v => ∃ j : Nat, j ≤ k ∧ v = .int .i64 (j : Int)) (fun v => k - (intOf v).toNat)
  case atStart => exact ⟨0, Nat.zero_le _, rfl⟩
  case round =>
    obtain ⟨j, hj, rfl⟩ := hrel
    by_cases hlt : j < k
    · obtain ⟨h, hk, hc, hcl, hf⟩ := H.out
      have hjl : j < L.length := by omega
      have hb := h.cellr (List.getElem?_eq_getElem hjl)
      have hr := hf j _ hlt (List.getElem?_eq_getElem hjl)
      have hr0 : ((L[j].refs : Int) == 0) = false := by simp; omega
      clear h hk hc hcl hf hr g0 g1 g2
      go_wp2
      go_round
      case rel => exact ⟨j + 1, by omega, by go_num⟩
      case measure => simp [intOf]; omega
    · have : j = k := by omega
      subst this
      clear hlt hj
      go_wp2
      go_ret2
      obtain ⟨h, hk, hc, hcl, hf⟩ := H.out
      have hO := Only.st (Only.st (Only.st (Only.refl (fun x => x = rb) w) rfl (j * 3) (.int .i64 1)) rfl (j * 3 + 1) (.slice none 0 0)) rfl (j * 3 + 2) (.slice none 0 0)
      refine ⟨rfl, h.turn hc hO (((hc.set _ _).set _ _).set _ _) (by simp) (fun o ho => by rw [set_ne_at (by omega), set_ne_at (by omega), set_ne_at (by omega)]) ⟨?_, ⟨none, 0, 0, ?_, .nil _, (by intro b' o' n' c' e _; simp at e)⟩, ⟨none, 0, 0, ?_, .nil _, (by intro b' o' n' c' e _; simp at e)⟩⟩, hO⟩
      · rw [set_ne_at (by omega), set_ne_at (by omega), List.getElem?_set_self (by omega)]; rfl
      · rw [set_ne_at (by omega), List.getElem?_set_self (by simp; omega)]
      · rw [List.getElem?_set_self (by simp; omega)]
def RNewPost (w : World) (n : Nat) (e : Ending) (w' : World) : Prop :=
  ∃ r rb, e = .returned (.tuple #[.pointer (some ⟨r, 0, none⟩), .int .i64 0]) ∧ RefAt w' r rb (fun b => w'.heap.size ≤ b) (List.replicate n ⟨0, [], []⟩) ∧ w.heap.size ≤ r ∧ w.heap.size ≤ rb ∧ Only (fun _ => False) w w'

def zref : List Value := [.int .i64 0, .slice none 0 0, .slice none 0 0]
def zrefs (n : Nat) : List Value := (List.range (n * 3)).map fun i => zref[i % 3]?.getD default

theorem run_make_refs (n : Nat) (hn : n ≤ 4096) (w : World) :
    (Instr.makeSlice 118 (.int .i64 (n : Int)) (.int .i64 (n : Int))).run Try.prog w = .ok (.slice (some ⟨w.heap.size, 0, none⟩) n n) (w.alloc (.cells (zrefs n).toArray 33)) := by
  have hq : (Try.prog.info? 33).map (fun i => (i.zero, i.size, i.bytes)) = some (some (.agg zref.toArray), 3, 56) := by kernel_rfl
  obtain ⟨i, hi, hz, h1, h2⟩ : ∃ i, Try.prog.info? 33 = some i ∧ i.zero = some (.agg zref.toArray) ∧ i.size = 3 ∧ i.bytes = 56 := by
    cases hi : Try.prog.info? 33 with
    | none => rw [hi] at hq; cases hq
    | some i => rw [hi] at hq; simp only [Option.map_some, Option.some.injEq, Prod.mk.injEq] at hq; exact ⟨i, rfl, hq.1, hq.2.1, hq.2.2⟩
  clear hq
  have := run_make (P := Try.prog) w 118 33 i _ Try.underlying118 hi hz .i64 .i64 (n : Int) (n : Int) (by omega) (by omega) (by rw [h2]; omega) (by omega)
  rw [this]
  simp only [Int.toNat_natCast, h1]
  have e : madeCells (Value.agg zref.toArray).cells (n * 3) = (zrefs n).toArray := by
    have e1 : (Value.agg zref.toArray).cells = zref.toArray := rfl
    rw [e1]
    apply Array.ext_getElem?
    intro j
    simp only [madeCells, zrefs]
    by_cases hj : j < n * 3
    · simp [hj, zref]
    · simp [hj]
  rw [e]

theorem rnew_in {w : World} {n : Nat} (h1 : 1 ≤ n) (h2 : n ≤ 4096) : Calls Try.prog 28 #[.int .i64 (n : Int)] w (RNewPost w n) := by
  have hm := run_make_refs n h2
  have g1 : (1 : Int) ≤ (n : Int) := by omega
  have g2 : (n : Int) ≤ 4096 := by omega
  go_enter Try.func28, Try.ntmps28
  go_wp2
  go_ret2
  refine ⟨w.heap.size + 1, w.heap.size, rfl, ⟨?_, by omega, by simp, by simp; omega, by simpa using h1, by simpa using h2, fun _ h => h, zrefs n, ?_, by simp [zrefs], ?_⟩, by omega, by omega, Only.alloc (Only.alloc (Only.refl _ _) _) _⟩
  · exact Blk.at_new (by simp) (by simp)
  · exact Blk.alloc (Blk.at_new rfl rfl) _
  · intro k b hk
    rw [List.getElem?_replicate] at hk
    split at hk
    · rename_i hkn
      simp at hk; subst hk
      have hg : ∀ j, j < 3 → (zrefs n)[k * 3 + j]? = some (zref[j]?.getD default) := by
        intro j hj
        have h1 : k * 3 + j < n * 3 := by omega
        have h2 : (k * 3 + j) % 3 = j := by omega
        simp [zrefs, h1, h2]
      refine ⟨?_, ⟨none, 0, 0, ?_, .nil _, (by intro b' o' n' c' e _; simp at e)⟩, ⟨none, 0, 0, ?_, .nil _, (by intro b' o' n' c' e _; simp at e)⟩⟩
      · have := hg 0 (by omega); rw [Nat.add_zero] at this; rw [this]; rfl
      · rw [hg 1 (by omega)]; rfl
      · rw [hg 2 (by omega)]; rfl
    · cases hk

end Go.Proofs.Ytghfkgcaglabpaa

/-
  A struct read out of the midst of a block, and written into one, as one operation. No program is named here.
-/
namespace Go.Proofs.Ytghfkgcaglabpaa
open Go.RowKit
section
variable {P : Program}

theorem add_at (g o j : Nat) : (⟨g, o, none⟩ : Addr).add j = ⟨g, o + j, none⟩ := by unfold Addr.add; split <;> simp_all

theorem run_loadVar_at (w : World) (g off : Nat) (ty : TypeId) (cs : List Value) (d : TypeDesc) (hg : ∀ j, j < cs.length → w.cell? ⟨g, off + j, none⟩ = cs[j]?)
    (hu : P.underlying ty = some d) (hd : (match d with | .struct _ | .array _ _ => true | _ => false) = true) (hi : (P.info? ty).map (·.size) = some cs.length) :
    (loadVar ty ⟨g, off, none⟩).run P w = .ok (.agg cs.toArray) w := by
  have hl : (loadCells ⟨g, off, none⟩ cs.length).run P w = .ok cs.toArray w :=
    run_loadCells_list (P := P) w ⟨g, off, none⟩ cs (fun j v hv => by
      rw [add_at, hg j (List.getElem?_eq_some_iff.1 hv).1]; exact hv)
  cases hq : P.info? ty with
  | none => simp [hq] at hi
  | some i =>
    have hs : i.size = cs.length := by simpa [hq] using hi
    have hagg : (isAgg ty).run P w = .ok true w := by
      unfold isAgg
      rw [Sem.run_bind, run_underlying hu w]
      cases d <;> simp_all
    simp [loadVar, Sem.run_bind, hagg, sizeOf, typeInfo, hq, hs, hl]
end
end Go.Proofs.Ytghfkgcaglabpaa

/-
  A light machine for walks: the frame and the world stand behind what is known of them (a list of slots, a list of resources), and each operation is one law. No program is named here.
-/
namespace Go.Proofs.Ytghfkgcaglabpaa
open Go.RowKit

structure Res where
  ok : World → Prop
  fp : Nat → Prop
  lt : ∀ w, ok w → ∀ b, fp b → b < w.heap.size
  st : ∀ w w', ok w → (∀ b, fp b → w'.heap[b]? = w.heap[b]?) → ok w'

def Sep (w : World) (l : List Res) : Prop := (∀ r ∈ l, r.ok w) ∧ l.Pairwise (fun r s => ∀ b, r.fp b → ¬ s.fp b)

structure Cx where
  n : Nat
  w0 : World
  S : Nat → Prop

def Inv (X : Cx) (w : World) (l : List Res) : Prop := Sep w l ∧ Only X.S X.w0 w

theorem Sep.get {w : World} {l : List Res} {i : Nat} {r : Res} (h : Sep w l) (hi : l[i]? = some r) : r.ok w := h.1 r (List.mem_of_getElem? hi)

theorem Sep.add {w w' : World} {l : List Res} {r : Res} (h : Sep w l) (hw : ∀ b, b < w.heap.size → w'.heap[b]? = w.heap[b]?) (hr : r.ok w') (hf : ∀ b, r.fp b → w.heap.size ≤ b) : Sep w' (l ++ [r]) := by
  refine ⟨fun s hs => ?_, ?_⟩
  · rcases List.mem_append.1 hs with hs | hs
    · exact s.st w w' (h.1 s hs) fun b hb => hw b (s.lt w (h.1 s hs) b hb)
    · have : s = r := by simpa using hs
      rw [this]; exact hr
  · rw [List.pairwise_append]
    refine ⟨h.2, by simp, fun s hs t ht b hb hc => ?_⟩
    have : t = r := by simpa using ht
    subst this
    have h1 := s.lt w (h.1 s hs) b hb
    have h2 := hf b hc
    omega

theorem Sep.upd {w w' : World} {l : List Res} {i : Nat} {r r' : Res} (h : Sep w l) (hi : l[i]? = some r) (hw : ∀ b, ¬ r.fp b → b < w.heap.size → w'.heap[b]? = w.heap[b]?)
    (hr : r'.ok w') (hf : ∀ b, r'.fp b → r.fp b ∨ w.heap.size ≤ b) : Sep w' (l.set i r') := by
  have hil : i < l.length := (List.getElem?_eq_some_iff.1 hi).1
  have hp := List.pairwise_iff_getElem.1 h.2
  have hli : l[i] = r := (List.getElem?_eq_some_iff.1 hi).2
  refine ⟨fun s hs => ?_, ?_⟩
  · obtain ⟨j, hj, e⟩ := List.getElem_of_mem hs
    have hj' : j < l.length := by simpa using hj
    rw [List.getElem_set] at e
    by_cases hij : i = j
    · rw [if_pos hij] at e; rw [← e]; exact hr
    · rw [if_neg hij] at e
      have hsl : s ∈ l := e ▸ List.getElem_mem hj'
      refine s.st w w' (h.1 s hsl) fun b hb => hw b (fun hrb => ?_) (s.lt w (h.1 s hsl) b hb)
      subst e; subst hli
      rcases Nat.lt_or_gt_of_ne hij with hlt | hlt
      · exact hp i j hil hj' hlt b hrb hb
      · exact hp j i hj' hil hlt b hb hrb
  · rw [List.pairwise_iff_getElem]
    intro j k hj hk hjk b hb hc
    have hj' : j < l.length := by simpa using hj
    have hk' : k < l.length := by simpa using hk
    rw [List.getElem_set] at hb hc
    by_cases e1 : i = j
    · rw [if_pos e1] at hb
      rw [if_neg (by omega)] at hc
      rcases hf b hb with h1 | h1
      · subst e1; subst hli; exact hp i k hil hk' hjk b h1 hc
      · have := (l[k]).lt w (h.1 _ (List.getElem_mem hk')) b hc; omega
    · rw [if_neg e1] at hb
      by_cases e2 : i = k
      · rw [if_pos e2] at hc
        rcases hf b hc with h1 | h1
        · subst e2; subst hli; exact hp j i hj' hil hjk b hb h1
        · have := (l[j]).lt w (h.1 _ (List.getElem_mem hj')) b hb; omega
      · rw [if_neg e2] at hc
        exact hp j k hj' hk' hjk b hb hc

theorem Sep.same {w w' : World} {l : List Res} (h : Sep w l) (hw : ∀ b, b < w.heap.size → w'.heap[b]? = w.heap[b]?) : Sep w' l :=
  ⟨fun s hs => s.st w w' (h.1 s hs) fun b hb => hw b (s.lt w (h.1 s hs) b hb), h.2⟩

theorem Inv.drew {X : Cx} {w : World} {l : List Res} (h : Inv X w l) : Inv X w.drew l := ⟨h.1.same (fun _ _ => rfl), h.2.drew⟩
theorem Inv.draw1 {X : Cx} {w : World} {l : List Res} (h : Inv X w l) : Inv X { w with drawn := w.drawn + 1 } l := h.drew
theorem Inv.only {X : Cx} {w w' : World} {l : List Res} (h : Inv X w l) (hO : Only (fun _ => False) w w') : Inv X w' l :=
  ⟨h.1.same (fun b hb => hO.block b hb id), h.2.trans' hO (fun _ h => h.elim)⟩
theorem Inv.add {X : Cx} {w w' : World} {l : List Res} {r : Res} (h : Inv X w l) (hO : Only (fun _ => False) w w') (hr : r.ok w') (hf : ∀ b, r.fp b → w.heap.size ≤ b) : Inv X w' (l ++ [r]) :=
  ⟨h.1.add (fun b hb => hO.block b hb id) hr hf, h.2.trans' hO (fun _ h => h.elim)⟩
theorem Inv.upd {X : Cx} {w w' : World} {l : List Res} {i : Nat} {r r' : Res} (h : Inv X w l) (hi : l[i]? = some r) (hO : Only r.fp w w') (hS : ∀ b, r.fp b → X.S b ∨ X.w0.heap.size ≤ b)
    (hr : r'.ok w') (hf : ∀ b, r'.fp b → r.fp b ∨ w.heap.size ≤ b) : Inv X w' (l.set i r') :=
  ⟨h.1.upd hi (fun b hb hlt => hO.block b hlt hb) hr hf, h.2.trans' hO hS⟩

def rBlk (b : Nat) (c : List Value) (T : TypeId) : Res where
  ok w := Blk w b c T
  fp k := k = b
  lt w h k hk := by subst hk; exact Blk.lt h
  st w w' h hw := by unfold Blk; rw [hw b rfl]; exact h


def look : List (Nat × Value) → Nat → Option Value
  | [], _ => none
  | (k, v) :: r, t => bif Nat.beq k t then some v else look r t

def Fr (n : Nat) (a : Act) (m : List (Nat × Value)) : Prop := a.defers = [] ∧ a.tmps.size = n ∧ ∀ t v, look m t = some v → a.tmps[t]? = some v

theorem Fr.put {n : Nat} {a : Act} {m : List (Nat × Value)} (h : Fr n a m) {d : Nat} (hd : d < n) (v : Value) : Fr n (a.put (some d) v) ((d, v) :: m) := by
  refine ⟨h.1, by simp [Act.put, h.2.1], fun t u hu => ?_⟩
  simp only [look] at hu
  simp only [Act.put]
  cases hb : Nat.beq d t
  · rw [hb] at hu
    have hne : d ≠ t := fun e => by subst e; simp at hb
    rw [Array.getElem?_setIfInBounds_ne hne]
    exact h.2.2 t u (by simpa using hu)
  · rw [hb] at hu
    have e : d = t := Nat.eq_of_beq_eq_true hb
    subst e
    simp at hu; subst hu
    rw [Array.getElem?_setIfInBounds_self]
    simp [h.2.1, hd]

def evM (m : List (Nat × Value)) : Operand → Option Value
  | .tmp t => look m t
  | .const v => some v
  | .global g => some (.pointer (some ⟨g, 0, none⟩))
  | .func f => some (.func (.func f) #[] #[])

theorem Fr.ev {n : Nat} {a : Act} {m : List (Nat × Value)} (h : Fr n a m) {x : Operand} {v : Value} (hx : evM m x = some v) : a.eval x = v := by
  cases x with
  | tmp t => simp only [evM] at hx; simp [Act.eval, h.2.2 t v hx]
  | const u => simpa [evM, Act.eval] using hx
  | global g => simpa [evM, Act.eval] using hx
  | func f => simpa [evM, Act.eval] using hx

def Subs (m : List (Nat × Value)) : List (Nat × Value) → Prop
  | [] => True
  | (t, v) :: r => look m t = some v ∧ Subs m r
theorem Subs.look {m m' : List (Nat × Value)} (h : Subs m m') : ∀ t v, look m' t = some v → look m t = some v := by
  induction m' with
  | nil => intro t v hv; simp [Proofs.Ytghfkgcaglabpaa.look] at hv
  | cons x r ih =>
    obtain ⟨k, u⟩ := x
    intro t v hv
    simp only [Proofs.Ytghfkgcaglabpaa.look] at hv
    cases hb : Nat.beq k t
    · rw [hb] at hv; exact ih h.2 t v (by simpa using hv)
    · rw [hb] at hv
      have e : k = t := Nat.eq_of_beq_eq_true hb
      subst e
      simp at hv; subst hv
      exact h.1
theorem Fr.sub {n : Nat} {a : Act} {m m' : List (Nat × Value)} (h : Fr n a m) (hs : Subs m m') : Fr n a m' := ⟨h.1, h.2.1, fun t v hv => h.2.2 t v (hs.look t v hv)⟩

section
variable (P : Program) (X : Cx)
def SL (ops : Array Oper) (Q : Exit → Act → World → Prop) (rest : List Oper) (m : List (Nat × Value)) (l : List Res) : Prop := ∀ a w, Fr X.n a m → Inv X w l → wpList P ops Q rest a w
def SC (c : Code) (Q : Exit → Act → World → Prop) (m : List (Nat × Value)) (l : List Res) : Prop := ∀ a w, Fr X.n a m → Inv X w l → c.wp P Q a w
def SE (Q : Exit → Act → World → Prop) (e : Exit) (m : List (Nat × Value)) (l : List Res) : Prop := ∀ a w, Fr X.n a m → Inv X w l → Q e a w
def SQ (ops : Array Oper) (K : Act → Prop) (rest : List Oper) (m : List (Nat × Value)) (l : List Res) : Prop := ∀ a, Fr X.n a m → wpQuiet P ops (fun w => Inv X w l) K rest a
def Ru (o : Oper) (m : List (Nat × Value)) (l : List Res) (v : Value) : Prop := ∀ a w, Fr X.n a m → Inv X w l → (execOp a.eval o).run P w = .ok (.value v) w
end

section
variable {P : Program} {X : Cx} {ops : Array Oper} {Q : Exit → Act → World → Prop} {rest : List Oper} {o : Oper} {m : List (Nat × Value)} {l : List Res} {v : Value} {d : Nat}

theorem SC.norm {c : Code} (m' : List (Nat × Value)) (l' : List Res) (hm : Subs m m') (hl : l = l') (h : SC P X c Q m' l') : SC P X c Q m l := fun a w hf hi => h a w (hf.sub hm) (hl ▸ hi)
theorem SL.norm (m' : List (Nat × Value)) (l' : List Res) (hm : Subs m m') (hl : l = l') (h : SL P X ops Q rest m' l') : SL P X ops Q rest m l := fun a w hf hi => h a w (hf.sub hm) (hl ▸ hi)
theorem SC.seq {x y : Code} (h : SC P X x (Exit.then (y.wp P Q) Q) m l) : SC P X (x.seq y) Q m l := fun a w hf hi => wp_seq (h a w hf hi)
theorem SC.block {id : Nat} {c : Code} (h : SC P X c (Exit.inBlock id Q) m l) : SC P X (.block id c) Q m l := fun a w hf hi => wp_block (h a w hf hi)
theorem SC.scope {c : Code} (h : SC P X c (Exit.noGoto Q) m l) : SC P X (.scope c) Q m l := fun a w hf hi => wp_scope_straight (h a w hf hi)
theorem SC.skip (h : SE X Q .normal m l) : SC P X .skip Q m l := fun a w hf hi => wp_skip (h a w hf hi)
theorem SC.label {k : Nat} (h : SE X Q .normal m l) : SC P X (.label k) Q m l := fun a w hf hi => wp_label (h a w hf hi)
theorem SC.exit {id : Nat} (h : SE X Q (.exit id) m l) : SC P X (.exit id) Q m l := fun a w hf hi => wp_exit (h a w hf hi)
theorem SC.ret (h : SE X Q .ret m l) : SC P X .ret Q m l := fun a w hf hi => wp_ret (h a w hf hi)
theorem SC.yes {c : Operand} {x y : Code} (hc : evM m c = some (.bool true)) (h : SC P X x Q m l) : SC P X (.cond c x y) Q m l := fun a w hf hi => wp_cond_true (hf.ev hc) (h a w hf hi)
theorem SC.no {c : Operand} {x y : Code} (hc : evM m c = some (.bool false)) (h : SC P X y Q m l) : SC P X (.cond c x y) Q m l := fun a w hf hi => wp_cond_false (hf.ev hc) (h a w hf hi)
theorem SC.both {c : Operand} {x y : Code} (b : Bool) (hc : evM m c = some (.bool b)) (ht : b = true → SC P X x Q m l) (hn : b = false → SC P X y Q m l) : SC P X (.cond c x y) Q m l := fun a w hf hi => wp_cond_split (hf.ev hc) (fun e => ht e a w hf hi) (fun e => hn e a w hf hi)
theorem SC.region {id : Nat} {L : List Oper} (h : SL P X L.toArray Q L m l) : SC P X (.region id L.toArray false) Q m l := fun a w hf hi => wp_region_lit (h a w hf hi)
theorem SC.of_SE {y : Code} {m' : List (Nat × Value)} {l' : List Res} (h : SC P X y Q m' l') : SE X (Exit.then (y.wp P Q) Q) .normal m' l' := h
theorem SE.passr {K : Act → World → Prop} (h : SE X Q .ret m l) : SE X (Exit.then K Q) .ret m l := h
theorem SE.passe {K : Act → World → Prop} {id : Nat} (h : SE X Q (.exit id) m l) : SE X (Exit.then K Q) (.exit id) m l := h
theorem SE.blkn {id : Nat} (h : SE X Q .normal m l) : SE X (Exit.inBlock id Q) .normal m l := h
theorem SE.blkr {id : Nat} (h : SE X Q .ret m l) : SE X (Exit.inBlock id Q) .ret m l := h
theorem SE.blke {id : Nat} (h : SE X Q .normal m l) : SE X (Exit.inBlock id Q) (.exit id) m l := fun a w hf hi => by simp only [Exit.inBlock, if_true]; exact h a w hf hi
theorem SE.blko {id id' : Nat} (hne : id' ≠ id) (h : SE X Q (.exit id') m l) : SE X (Exit.inBlock id Q) (.exit id') m l := fun a w hf hi => by simp only [Exit.inBlock, if_neg hne]; exact h a w hf hi
theorem SC.region_quiet {id : Nat} {L : List Oper} (hm : P.follows .mixedOrders = true) (hB : Region.lexB .any L.toArray = true) (h : SQ P X L.toArray (fun a' => ∀ w', Inv X w' l → Q .normal a' w') L m l) : SC P X (.region id L.toArray true) Q m l :=
  fun a w hf hi => wp_region_quiet hm hB hi.draw1 (h a hf)
theorem SC.region_tail {id : Nat} {L : List Oper} (n : Nat) (hm : P.follows .mixedOrders = true) (hB : Region.lexTailB .any L.toArray n = true)
    (h : SQ P X L.toArray (fun a' => ∀ w', Inv X w' l → wpList P L.toArray Q (L.drop n) a' w') (L.take n) m l) : SC P X (.region id L.toArray true) Q m l :=
  fun a w hf hi => wp_region_quiet_tail n hm hB hi.draw1 (h a hf)
theorem SQ.nilE (h : SE X Q .normal m l) : SQ P X ops (fun a' => ∀ w', Inv X w' l → Q .normal a' w') [] m l := fun a hf w' hi => h a w' hf hi
theorem SQ.nilL {L : List Oper} (h : SL P X ops Q L m l) : SQ P X ops (fun a' => ∀ w', Inv X w' l → wpList P ops Q L a' w') [] m l := fun a hf w' hi => h a w' hf hi

theorem SL.nil (h : SE X Q .normal m l) : SL P X ops Q [] m l := fun a w hf hi => wpList_nil (h a w hf hi)
theorem SL.ru (hg : o.guard = none) (hd : o.dst = some d) (hn : d < X.n) (hr : Ru P X o m l v) (k : SL P X ops Q rest ((d, v) :: m) l) : SL P X ops Q (o :: rest) m l := fun a w hf hi =>
  wpList_plain hg fun K hK => by
    unfold Oper.wp
    rw [hr a w hf hi, Oper.upon_value, hd]
    exact hK _ _ (k _ w (hf.put hn v) hi)
theorem SQ.ru {K : Act → Prop} (hg : o.guard = none) (hd : o.dst = some d) (hn : d < X.n) (hr : Ru P X o m l v) (k : SQ P X ops K rest ((d, v) :: m) l) : SQ P X ops K (o :: rest) m l := fun a hf => by
  unfold wpQuiet
  rw [if_pos (by simp [Region.wanted, hg])]
  refine ⟨v, fun w hi => ?_, ?_⟩
  · unfold Oper.quietAt; rw [hr a w hf hi]; exact ⟨rfl, rfl⟩
  · rw [hd]; exact k _ (hf.put hn v)
theorem guard_is {j : Nat} {want : Bool} {dj : Nat} {b : Bool} {a : Act} (hf : Fr X.n a m) (hg : o.guard = some (j, want)) (hj : (ops[j]?).bind (·.dst) = some dj) (hb : look m dj = some (.bool b)) : Region.wanted o (yielded ops a.tmps) = (b == want) := by
  have h1 : yielded ops a.tmps j = some b := by
    unfold yielded
    rw [hj]
    simp [hf.2.2 dj _ hb]
  unfold Region.wanted
  rw [hg]
  simp [h1]
theorem SL.rug {j : Nat} {want : Bool} {dj : Nat} (hg : o.guard = some (j, want)) (hj : (ops[j]?).bind (·.dst) = some dj) (hb : look m dj = some (.bool want)) (hd : o.dst = some d) (hn : d < X.n) (hr : Ru P X o m l v)
    (k : SL P X ops Q rest ((d, v) :: m) l) : SL P X ops Q (o :: rest) m l := fun a w hf hi =>
  wpList_step fun K hK => by
    rw [if_pos (by rw [guard_is hf hg hj hb]; simp)]
    unfold Oper.wp
    rw [hr a w hf hi, Oper.upon_value, hd]
    exact hK _ _ (k _ w (hf.put hn v) hi)
theorem SL.off {j : Nat} {want b : Bool} {dj : Nat} (hg : o.guard = some (j, want)) (hj : (ops[j]?).bind (·.dst) = some dj) (hb : look m dj = some (.bool b)) (hw : (b == want) = false) (hd : o.dst = some d) (hn : d < X.n)
    (k : SL P X ops Q rest ((d, undef) :: m) l) : SL P X ops Q (o :: rest) m l := fun a w hf hi =>
  wpList_step fun K hK => by
    rw [if_neg (by rw [guard_is hf hg hj hb]; simp [hw]), hd]
    exact hK _ _ (k _ w (hf.put hn _) hi)
theorem ru_move {x : Operand} (ho : o.op = .move x) (hx : evM m x = some v) : Ru P X o m l v := fun a w hf _ => by
  unfold execOp; rw [ho]; simp only [hf.ev hx]; rfl
theorem ru_assign {x : Operand} (ho : o.op = .assign x) (hx : evM m x = some v) : Ru P X o m l v := fun a w hf _ => by
  unfold execOp; rw [ho]; simp only [hf.ev hx]; rfl
theorem ru_pick {c x y : Operand} {b : Bool} {u v : Value} (ho : o.op = .pick c x y) (hc : evM m c = some (.bool b)) (hx : evM m x = some u) (hy : evM m y = some v) : Ru P X o m l (if b then u else v) := fun a w hf _ => by
  unfold execOp; rw [ho]; simp only [hf.ev hc, hf.ev hx, hf.ev hy]; rfl
theorem ru_extract {t : Operand} {i : Nat} {vs : Array Value} (ho : o.op = .extract t i) (ht : evM m t = some (.tuple vs)) (hv : vs[i]? = some v) : Ru P X o m l v := fun a w hf _ => by
  unfold execOp; rw [ho]; simp only [hf.ev ht, Instr.extract, hv]; rfl
theorem ru_nilCheck {x : Operand} {a : Addr} (ho : o.op = .nilCheck x) (hx : evM m x = some (.pointer (some a))) : Ru P X o m l (.pointer (some a)) := fun a w hf _ => by
  unfold execOp; rw [ho]; simp only [hf.ev hx]; rfl
theorem ru_bin {op : BinOp} {t t' : TypeId} {x y : Operand} {k : IntKind} {p q : Int} (ho : o.op = .binOp op t x y t') (hx : evM m x = some (.int k p)) (hy : evM m y = some (.int k q))
    (hr : ∀ w, (binOp op t (.int k p) (.int k q)).run P w = .ok v w) : Ru P X o m l v := fun a w hf _ => by
  unfold execOp; rw [ho]; simp only [hf.ev hx, hf.ev hy]
  have hg : (eqGuard op t x y (.int k p) (.int k q)).run P w = .ok () w := by unfold eqGuard; split <;> rfl
  rw [Sem.run_bind, Sem.run_bind, hg]
  simp only [Result.andThen_ok, hr w]
  rfl
end
end Go.Proofs.Ytghfkgcaglabpaa

/-
  The light machine's laws: what each operation comes to. No program is named here.
-/
namespace Go.Proofs.Ytghfkgcaglabpaa
open Go.RowKit

def isAggD : TypeDesc → Bool
  | .struct _ | .array _ _ => true
  | _ => false
structure TySc (P : Program) (t : TypeId) (z : Value) : Prop where
  d : ∃ d, P.underlying t = some d ∧ isAggD d = false
  i : (P.info? t).map (fun i => (i.size, i.zero)) = some (1, some z)
  one : z.oneCell' = true
structure TyAg (P : Program) (t : TypeId) (z : List Value) : Prop where
  d : ∃ d, P.underlying t = some d ∧ isAggD d = true
  i : (P.info? t).map (fun i => (i.size, i.zero)) = some (z.length, some (.agg z.toArray))
  one : z.all (·.oneCell') = true
def FldIs (P : Program) (s : TypeId) (k off : Nat) : Prop := ∃ fs f, P.underlying s = some (.struct fs) ∧ fs[k]? = some f ∧ f.offset = off ∧ (P.info? f.type).map (fun i => i.size == 0) = some false
def ArrIs (P : Program) (t : TypeId) (n elem size : Nat) : Prop := P.underlying t = some (.array n elem) ∧ (P.info? elem).map (·.size) = some size
def SliIs (P : Program) (t : TypeId) (elem size : Nat) : Prop := P.underlying t = some (.slice elem) ∧ (P.info? elem).map (·.size) = some size
def CallOk (P : Program) (f : FuncId) : Prop := ∃ fn, P.funcs[f]? = some fn ∧ fn.body.isNone = false ∧ (fn.name == "runtime.NumGoroutine") = false

section
variable {P : Program} {X : Cx} {ops : Array Oper} {Q : Exit → Act → World → Prop} {rest : List Oper} {o : Oper} {m : List (Nat × Value)} {l : List Res} {v : Value} {d : Nat}

theorem map_some {α β : Type} {x : Option α} {f : α → β} {y : β} (h : x.map f = some y) : ∃ a, x = some a ∧ f a = y := by
  cases x with
  | none => simp at h
  | some a => exact ⟨a, rfl, by simpa using h⟩
theorem TySc.run {t : TypeId} {z : Value} (h : TySc P t z) (w : World) : (isAgg t).run P w = .ok false w ∧ (sizeOf t).run P w = .ok 1 w ∧ (zeroValue t).run P w = .ok z w := by
  obtain ⟨⟨d, hd, hb⟩, hi, _⟩ := h
  obtain ⟨i, hi, hz⟩ := map_some hi
  simp only [Prod.mk.injEq] at hz
  refine ⟨?_, ?_, ?_⟩
  · unfold isAgg; rw [Sem.run_bind, run_underlying hd w]; cases d <;> simp_all [isAggD]
  · simp [sizeOf, typeInfo, hi, hz.1]
  · simp [zeroValue, typeInfo, hi, hz.2]
theorem TyAg.run {t : TypeId} {z : List Value} (h : TyAg P t z) (w : World) : (isAgg t).run P w = .ok true w ∧ (sizeOf t).run P w = .ok z.length w ∧ (zeroValue t).run P w = .ok (.agg z.toArray) w := by
  obtain ⟨⟨d, hd, hb⟩, hi, _⟩ := h
  obtain ⟨i, hi, hz⟩ := map_some hi
  simp only [Prod.mk.injEq] at hz
  refine ⟨?_, ?_, ?_⟩
  · unfold isAgg; rw [Sem.run_bind, run_underlying hd w]; cases d <;> simp_all [isAggD]
  · simp [sizeOf, typeInfo, hi, hz.1]
  · simp [zeroValue, typeInfo, hi, hz.2]
theorem size_run {t n : Nat} (h : (P.info? t).map (·.size) = some n) (w : World) : (sizeOf t).run P w = .ok n w := by
  obtain ⟨i, hi, hz⟩ := map_some h
  simp [sizeOf, typeInfo, hi, hz]

theorem ru_load {t : TypeId} {z : Value} {x : Operand} {i b o' : Nat} {c : List Value} {T : TypeId} (ht : TySc P t z) (ho : o.op = .load t x) (hx : evM m x = some (.pointer (some ⟨b, o', none⟩)))
    (hi : l[i]? = some (rBlk b c T)) (hc : c[o']? = some v) : Ru P X o m l v := fun a w hf hI => by
  have hb : Blk w b c T := hI.1.get hi
  unfold execOp; rw [ho]
  simp only [hf.ev hx, Instr.loadAt, Instr.sureAddr, Sem.run_bind, Sem.run_pure, Result.andThen_ok, loadVar, (ht.run w).1]
  have h1 : w.cell? ⟨b, o', none⟩ = some v := by rw [hb.cell]; exact hc
  simp [h1]
theorem ru_loada {t : TypeId} {z : List Value} {x : Operand} {i b o' : Nat} {c vs : List Value} {T : TypeId} (ht : TyAg P t z) (ho : o.op = .load t x) (hx : evM m x = some (.pointer (some ⟨b, o', none⟩)))
    (hi : l[i]? = some (rBlk b c T)) (hv : (c.drop o').take z.length = vs) (hlen : o' + z.length ≤ c.length) : Ru P X o m l (.agg vs.toArray) := fun a w hf hI => by
  have hb : Blk w b c T := hI.1.get hi
  have hl : vs.length = z.length := by rw [← hv]; simp; omega
  obtain ⟨⟨d, hd, hdb⟩, hsz, _⟩ := ht
  obtain ⟨inf, hinf, hz⟩ := map_some hsz
  simp only [Prod.mk.injEq] at hz
  unfold execOp; rw [ho]
  have hrun := run_loadVar_at (P := P) w b o' t vs d (fun j hj => by
    rw [hb.cell, ← hv, List.getElem?_take, if_pos (by omega), List.getElem?_drop]) hd (by cases d <;> simp_all [isAggD]) (by rw [hinf]; simp [hz.1, hl])
  simp only [hf.ev hx, Instr.loadAt, Instr.sureAddr, Sem.run_bind, Sem.run_pure, Result.andThen_ok, hrun]
theorem ru_fieldAddr {s : TypeId} {x : Operand} {k off b o' o2 : Nat} (hs : FldIs P s k off) (ho : o.op = .fieldAddr s x k) (hx : evM m x = some (.pointer (some ⟨b, o', none⟩))) (h2 : o' + off = o2) :
    Ru P X o m l (.pointer (some ⟨b, o2, none⟩)) := fun a w hf hI => by
  obtain ⟨fs, f, hu, hk, hoff, hsz⟩ := hs
  obtain ⟨inf, hinf, hz⟩ := map_some hsz
  unfold execOp; rw [ho]
  have hp : (fieldPlace ⟨b, o', none⟩ f).run P w = .ok ⟨b, o2, none⟩ w := by
    have h0 : (sizeOf f.type).run P w = .ok inf.size w := by simp [sizeOf, typeInfo, hinf]
    have hne : ¬ inf.size = 0 := by simpa using hz
    unfold fieldPlace
    rw [Sem.run_bind, h0, Result.andThen_ok, if_neg hne, hoff, add_at, h2]
    rfl
  simp only [hf.ev hx, Instr.fieldAt, Sem.run_bind, run_underlying hu w, Result.andThen_ok, hk, Instr.sureAddr, Sem.run_pure, hp]
theorem ru_indexA {t : TypeId} {x ix : Operand} {n e size b o' o2 : Nat} {i : Int} {k : IntKind} (hs : ArrIs P t n e size) (ho : o.op = .indexAddr t x ix) (hx : evM m x = some (.pointer (some ⟨b, o', none⟩))) (hix : evM m ix = some (.int k i))
    (h0 : 0 ≤ i) (hn : i < n) (h2 : o' + i.toNat * size = o2) : Ru P X o m l (.pointer (some ⟨b, o2, none⟩)) := fun a w hf hI => by
  obtain ⟨hu, hsz⟩ := hs
  unfold execOp; rw [ho]
  simp only [hf.ev hx, hf.ev hix, Instr.indexAt, asIntOf, Sem.run_bind, Sem.run_pure, run_underlying hu w, Result.andThen_ok, Instr.sureAddr]
  rw [if_pos ⟨h0, hn⟩]
  simp only [Sem.run_bind, size_run hsz w, Result.andThen_ok, add_at, h2, Sem.run_pure]
theorem ru_indexS {t : TypeId} {x ix : Operand} {e size b o' o2 n cp : Nat} {i : Int} {k : IntKind} (hs : SliIs P t e size) (ho : o.op = .indexAddr t x ix) (hx : evM m x = some (.slice (some ⟨b, o', none⟩) n cp)) (hix : evM m ix = some (.int k i))
    (h0 : 0 ≤ i) (hn : i < n) (h2 : o' + i.toNat * size = o2) : Ru P X o m l (.pointer (some ⟨b, o2, none⟩)) := fun a w hf hI => by
  obtain ⟨hu, hsz⟩ := hs
  unfold execOp; rw [ho]
  simp only [hf.ev hx, hf.ev hix, Instr.indexAt, asIntOf, Sem.run_bind, Sem.run_pure, run_underlying hu w, Result.andThen_ok]
  rw [if_pos ⟨h0, hn⟩]
  simp only [Sem.run_bind, size_run hsz w, Result.andThen_ok, add_at, h2, Sem.run_pure]
theorem ru_build {t : TypeId} {parts : List (Nat × Operand)} {vals : List (Nat × Value)} {cells : List Value} (ho : o.op = .build t parts.toArray)
    (hp : parts.mapM (fun x => (evM m x.2).map (x.1, ·)) = some vals) (hb : P.built t vals = some cells.toArray) : Ru P X o m l (.agg cells.toArray) := fun a w hf hI => by
  unfold execOp; rw [ho]
  have hv : (parts.toArray.map fun (i, x) => (i, a.eval x)) = vals.toArray := by
    have : parts.map (fun (x : Nat × Operand) => (x.1, a.eval x.2)) = vals := by
      clear ho hb
      induction parts generalizing vals with
      | nil => simp at hp; simpa using hp.symm
      | cons y r ih =>
        simp only [List.mapM_cons, Option.bind_eq_bind, Option.bind_eq_some_iff, Option.map_eq_some_iff] at hp
        obtain ⟨u, ⟨u', hu, rfl⟩, us, hus, h⟩ := hp
        cases h
        rw [List.map_cons, ih hus, hf.ev hu]
    rw [← this]; simp
  simp only [hv, Sem.run_bind, run_build w t vals.toArray cells.toArray (by simpa using hb), Result.andThen_ok]
  rfl

theorem SL.store {t : TypeId} {x y : Operand} {i b o' : Nat} {c c' : List Value} {T : TypeId} {z : Value} (hg : o.guard = none) (hd : o.dst = none) (ht : TySc P t z) (ho : o.op = .store t x y) (hx : evM m x = some (.pointer (some ⟨b, o', none⟩)))
    (hy : evM m y = some v) (hv : v.oneCell' = true) (hi : l[i]? = some (rBlk b c T)) (hlen : o' < c.length) (hS : X.S b ∨ X.w0.heap.size ≤ b) (hc : c.set o' v = c')
    (k : SL P X ops Q rest m (l.set i (rBlk b c' T))) : SL P X ops Q (o :: rest) m l := fun a w hf hI =>
  wpList_plain hg fun K hK => by
    have hb : Blk w b c T := hI.1.get hi
    unfold Oper.wp execOp
    rw [ho]
    have hcell : w.cell? ⟨b, o', none⟩ = some (c[o']'hlen) := by rw [hb.cell]; exact List.getElem?_eq_getElem hlen
    have hvc : v.cells = #[v] := by cases v <;> first | rfl | simp [Value.oneCell'] at hv
    have hst : (storeVar t ⟨b, o', none⟩ v).run P w = .ok () (w.setCell ⟨b, o', none⟩ v) := by
      unfold storeVar
      rw [hvc, Sem.run_bind, (ht.run w).2.1]
      simp only [Result.andThen_ok, List.size_toArray, List.length_cons, List.length_nil, Nat.zero_add, ne_eq, not_true, if_false, storeCells]
      have ha : (⟨b, o', none⟩ : Addr).add 0 = ⟨b, o', none⟩ := rfl
      rw [Sem.run_bind, ha, run_store P w _ v _ hv, hcell]
      simp [hb.fz, Result.andThen]
    simp only [hf.ev hx, hf.ev hy, Instr.storeAt, Instr.sureAddr, Sem.run_bind, Sem.run_pure, Result.andThen_ok, hst, Oper.upon_skip, hd, Act.put]
    refine hK _ _ (k a _ hf ?_)
    subst hc
    exact hI.upd hi (Only.st (S := fun k => k = b) (Only.refl _ _) rfl _ _) (fun b' hb' => by cases hb'; exact hS) (hb.set o' v) (fun b' hb' => .inl hb')
theorem SL.storea {t : TypeId} {x y : Operand} {i b o' : Nat} {c c' vs z : List Value} {T : TypeId} (hg : o.guard = none) (hd : o.dst = none) (ht : TyAg P t z) (ho : o.op = .store t x y) (hx : evM m x = some (.pointer (some ⟨b, o', none⟩)))
    (hy : evM m y = some (.agg vs.toArray)) (hv : vs.all (·.oneCell') = true) (hvl : vs.length = z.length) (hi : l[i]? = some (rBlk b c T)) (hlen : o' + vs.length ≤ c.length) (hS : X.S b ∨ X.w0.heap.size ≤ b)
    (hc : c.take o' ++ vs ++ c.drop (o' + vs.length) = c') (k : SL P X ops Q rest m (l.set i (rBlk b c' T))) : SL P X ops Q (o :: rest) m l := fun a w hf hI =>
  wpList_plain hg fun K hK => by
    have hb : Blk w b c T := hI.1.get hi
    unfold Oper.wp execOp
    rw [ho]
    have hst : (storeVar t ⟨b, o', none⟩ (.agg vs.toArray)).run P w = .ok () (w.setRow b c'.toArray) := by
      have := run_storeCells_at (P := P) b o' T vs 0 c.toArray w hb (by simpa using hlen) (fun u hu => List.all_eq_true.1 hv u hu)
      unfold storeVar
      rw [show Value.cells (.agg vs.toArray) = vs.toArray from rfl, Sem.run_bind, (ht.run w).2.1]
      simp only [Result.andThen_ok, List.size_toArray, hvl, ne_eq, not_true, if_false]
      rw [← hvl] at *
      simpa [hc] using this
    simp only [hf.ev hx, hf.ev hy, Instr.storeAt, Instr.sureAddr, Sem.run_bind, Sem.run_pure, Result.andThen_ok, hst, Oper.upon_skip, hd, Act.put]
    refine hK _ _ (k a _ hf ?_)
    refine hI.upd hi ⟨rfl, rfl, rfl, by simp [World.setRow], fun k' _ hk' => setRow_other w b k' _ hk'⟩ (fun b' hb' => by cases hb'; exact hS) ?_ (fun b' hb' => .inl hb')
    exact setRow_heap w b c.toArray c'.toArray T (0, 0) hb
theorem new_blk {w : World} (hI : Inv X w l) (c : Array Value) (T : TypeId) : Inv X (w.alloc (.cells c T)) (l ++ [rBlk w.heap.size c.toList T]) :=
  hI.add ((Only.refl _ _).alloc _) (Blk.new' w c T) (fun b hb => by cases hb; exact Nat.le_refl _)
theorem SL.alloc {t : TypeId} {z : Value} (hg : o.guard = none) (hd : o.dst = some d) (hn : d < X.n) (ht : TySc P t z) (ho : o.op = .alloc t)
    (k : ∀ b, X.w0.heap.size ≤ b → SL P X ops Q rest ((d, .pointer (some ⟨b, 0, none⟩)) :: m) (l ++ [rBlk b [z] t])) : SL P X ops Q (o :: rest) m l := fun a w hf hI =>
  wpList_plain hg fun K hK => by
    unfold Oper.wp execOp
    rw [ho]
    have hvc : z.cells = #[z] := by have := ht.one; cases z <;> first | rfl | simp [Value.oneCell'] at this
    have hrun : (Instr.alloc t true (.tuple #[])).run P w = .ok (.pointer (some ⟨w.heap.size, 0, none⟩)) (w.alloc (.cells #[z] t)) := by
      unfold Instr.alloc
      rw [Sem.run_bind, (ht.run w).2.2]
      simp [newVar, newRow, newObj, hvc]; rfl
    simp only [Sem.run_bind, hrun, Result.andThen_ok, Sem.run_pure, Oper.upon_value, hd]
    exact hK _ _ (k _ hI.2.size _ _ (hf.put hn _) (new_blk hI _ _))
theorem SL.alloca {t : TypeId} {z : List Value} (hg : o.guard = none) (hd : o.dst = some d) (hn : d < X.n) (ht : TyAg P t z) (ho : o.op = .alloc t)
    (k : ∀ b, X.w0.heap.size ≤ b → SL P X ops Q rest ((d, .pointer (some ⟨b, 0, none⟩)) :: m) (l ++ [rBlk b z t])) : SL P X ops Q (o :: rest) m l := fun a w hf hI =>
  wpList_plain hg fun K hK => by
    unfold Oper.wp execOp
    rw [ho]
    have hrun : (Instr.alloc t true (.tuple #[])).run P w = .ok (.pointer (some ⟨w.heap.size, 0, none⟩)) (w.alloc (.cells z.toArray t)) := by
      unfold Instr.alloc
      rw [Sem.run_bind, (ht.run w).2.2]
      simp [newVar, newRow, newObj, Value.cells]; rfl
    simp only [Sem.run_bind, hrun, Result.andThen_ok, Sem.run_pure, Oper.upon_value, hd]
    exact hK _ _ (k _ hI.2.size _ _ (hf.put hn _) (new_blk hI _ _))
theorem SL.box {t : TypeId} {x : Operand} {c : List Value} (hg : o.guard = none) (hd : o.dst = some d) (hn : d < X.n) (ho : o.op = .box t x) (hx : evM m x = some v) (hc : v.cells = c.toArray)
    (k : ∀ b, X.w0.heap.size ≤ b → SL P X ops Q rest ((d, .pointer (some ⟨b, 0, none⟩)) :: m) (l ++ [rBlk b c t])) : SL P X ops Q (o :: rest) m l := fun a w hf hI =>
  wpList_plain hg fun K hK => by
    unfold Oper.wp execOp
    rw [ho]
    have hrun : (Instr.box t v).run P w = .ok (.pointer (some ⟨w.heap.size, 0, none⟩)) (w.alloc (.cells c.toArray t)) := by
      unfold Instr.box
      simp [newVar, newRow, newObj, hc]; rfl
    simp only [hf.ev hx, Sem.run_bind, hrun, Result.andThen_ok, Sem.run_pure, Oper.upon_value, hd]
    exact hK _ _ (k _ hI.2.size _ _ (hf.put hn _) (new_blk hI _ _))

def evL (m : List (Nat × Value)) : List Operand → Option (List Value)
  | [] => some []
  | x :: r => match evM m x, evL m r with
    | some v, some vs => some (v :: vs)
    | _, _ => none
theorem Fr.evL {n : Nat} {a : Act} {m : List (Nat × Value)} (h : Fr n a m) : ∀ {xs : List Operand} {vs : List Value}, Proofs.Ytghfkgcaglabpaa.evL m xs = some vs → xs.map a.eval = vs
  | [], vs, hv => by simpa [Proofs.Ytghfkgcaglabpaa.evL] using hv
  | x :: r, vs, hv => by
    simp only [Proofs.Ytghfkgcaglabpaa.evL] at hv
    split at hv
    · rename_i v us h1 h2
      cases hv
      rw [List.map_cons, h.ev h1, Fr.evL h h2]
    · cases hv
theorem call_enter {f : FuncId} {fs cs vals : List Value} {c : Operand} {args : List Operand} {aT : Array TypeId} (ho : o.op = .call { callee := .value c, args := args.toArray, argTypes := aT }) (hok : CallOk P f)
    (hc : evM m c = some (.func (.func f) fs.toArray cs.toArray)) (ha : evL m args = some vals) {a : Act} {n : Nat} (hf : Fr n a m) (w : World) : (execOp a.eval o).run P w = .ok (.enter f (fs ++ vals ++ cs).toArray) w := by
  obtain ⟨fn, h1, h2, h3⟩ := hok
  unfold execOp; rw [ho]
  have he : args.toArray.map a.eval = vals.toArray := by rw [← hf.evL ha]; simp
  have h2' : ¬ fn.body = none := by cases hfb : fn.body <;> simp_all
  have h3' : ¬ fn.name = "runtime.NumGoroutine" := by simpa using h3
  simp [resolve, hf.ev hc, Deferred.ofValue, he, invoke, callFunc, h1, h2', h3', Sem.run_bind, Result.andThen]
theorem SL.call {ζ : Type} (val : ζ → Value) (l' : ζ → List Res) (p : ζ → Prop) {f : FuncId} {fs cs vals : List Value} {c : Operand} {args : List Operand} {aT : Array TypeId} (hg : o.guard = none)
    (ho : o.op = .call { callee := .value c, args := args.toArray, argTypes := aT }) (hok : CallOk P f) (hc : evM m c = some (.func (.func f) fs.toArray cs.toArray)) (ha : evL m args = some vals) (hd : o.dst = some d) (hn : d < X.n)
    (H : ∀ w, Inv X w l → Calls P f (fs ++ vals ++ cs).toArray w fun e w' => ∃ z, e = .returned (val z) ∧ Inv X w' (l' z) ∧ p z)
    (k : ∀ z, p z → SL P X ops Q rest ((d, val z) :: m) (l' z)) : SL P X ops Q (o :: rest) m l := fun a w hf hI =>
  wpList_plain hg fun K hK => by
    unfold Oper.wp
    rw [call_enter ho hok hc ha hf w, Oper.upon_enter]
    refine (H w hI).mono fun e w' ⟨z, he, hI', hp⟩ => ?_
    subst he
    rw [hd]
    exact hK _ _ (k z hp _ _ (hf.put hn _) hI')
theorem SL.callg {ζ : Type} (val : ζ → Value) (l' : ζ → List Res) (p : ζ → Prop) {j : Nat} {want : Bool} {dj : Nat} (hg : o.guard = some (j, want)) (hj : (ops[j]?).bind (·.dst) = some dj) (hb : look m dj = some (.bool want)) {f : FuncId} {fs cs vals : List Value} {c : Operand} {args : List Operand} {aT : Array TypeId}
    (ho : o.op = .call { callee := .value c, args := args.toArray, argTypes := aT }) (hok : CallOk P f) (hc : evM m c = some (.func (.func f) fs.toArray cs.toArray)) (ha : evL m args = some vals) (hd : o.dst = some d) (hn : d < X.n)
    (H : ∀ w, Inv X w l → Calls P f (fs ++ vals ++ cs).toArray w fun e w' => ∃ z, e = .returned (val z) ∧ Inv X w' (l' z) ∧ p z)
    (k : ∀ z, p z → SL P X ops Q rest ((d, val z) :: m) (l' z)) : SL P X ops Q (o :: rest) m l := fun a w hf hI =>
  wpList_step fun K hK => by
    rw [if_pos (by rw [guard_is hf hg hj hb]; simp)]
    unfold Oper.wp
    rw [call_enter ho hok hc ha hf w, Oper.upon_enter]
    refine (H w hI).mono fun e w' ⟨z, he, hI', hp⟩ => ?_
    subst he
    rw [hd]
    exact hK _ _ (k z hp _ _ (hf.put hn _) hI')
theorem SQ.call {K : Act → Prop} {f : FuncId} {fs cs vals : List Value} {c : Operand} {args : List Operand} {aT : Array TypeId} (v : Value) (hg : o.guard = none)
    (ho : o.op = .call { callee := .value c, args := args.toArray, argTypes := aT }) (hok : CallOk P f) (hc : evM m c = some (.func (.func f) fs.toArray cs.toArray)) (ha : evL m args = some vals) (hd : o.dst = some d) (hn : d < X.n)
    (H : ∀ w, Inv X w l → Calls P f (fs ++ vals ++ cs).toArray w fun e w' => e = .returned v ∧ Inv X w' l)
    (k : SQ P X ops K rest ((d, v) :: m) l) : SQ P X ops K (o :: rest) m l := fun a hf => by
  unfold wpQuiet
  rw [if_pos (by simp [Region.wanted, hg])]
  refine ⟨v, fun w hi => ?_, ?_⟩
  · unfold Oper.quietAt; rw [call_enter ho hok hc ha hf w]; exact ⟨rfl, H w hi⟩
  · rw [hd]; exact k _ (hf.put hn v)
theorem SE.res {fn : Func} {R : Ending → World → Prop} {e : Exit} (he : e = .ret ∨ e = .normal) (hr : ∀ a w, Fr X.n a m → Inv X w l → (results fn a.tmps).run P w = .ok v w) (hR : ∀ w, Inv X w l → R (.returned v) w) : SE X (bodyPost P fn R) e m l := fun a w hf hI => by
  rcases he with rfl | rfl <;> exact ⟨hf.1, v, hr a w hf hI, hR w hI⟩
theorem look_tmps {n : Nat} {a : Act} {t : Nat} (hf : Fr n a m) (h : look m t = some v) : a.tmps.getD t undef = v := by simp [hf.2.2 t v h]
theorem res1 {fn : Func} {t : Nat} (h : fn.results = #[.tmp t]) (ht : look m t = some v) : ∀ a w, Fr X.n a m → Inv X w l → (results fn a.tmps).run P w = .ok v w := fun a w hf _ => by
  rw [results_tmp h, look_tmps hf ht]
theorem res2 {fn : Func} {t u : Nat} {v1 v2 : Value} (h : fn.results = #[.tmp t, .tmp u]) (ht : look m t = some v1) (hu : look m u = some v2) : ∀ a w, Fr X.n a m → Inv X w l → (results fn a.tmps).run P w = .ok (.tuple #[v1, v2]) w := fun a w hf _ => by
  rw [results_tmp2 h, look_tmps hf ht, look_tmps hf hu]
theorem res0 {fn : Func} (h : fn.results = #[]) : ∀ a w, Fr X.n a m → Inv X w l → (results fn a.tmps).run P w = .ok (.tuple #[]) w := fun a w _ _ => results_none h _ _ _
theorem calls_sc {f : FuncId} {fn : Func} {c : Code} {args : List Value} {w : World} {R : Ending → World → Prop} {l0 : List Res} (S : Nat → Prop) (hfn : P.funcs[f]? = some fn) (hb : fn.body = some c) (n : Nat) (hn : fn.ntmps = n) (hargs : args.length ≤ n)
    (hI : Inv ⟨n, w, S⟩ w l0) (h : SC P ⟨n, w, S⟩ c (bodyPost P fn R) (args.zipIdx.map fun x => (x.2, x.1)) l0) : Calls P f args.toArray w R := by
  refine calls_of_wp hfn hb (h _ w ⟨rfl, ?_, ?_⟩ hI)
  · simp; omega
  · intro t v hv
    have key : ∀ (xs : List Value) (k : Nat), look ((xs.zipIdx k).map fun x => (x.2, x.1)) t = some v → k ≤ t ∧ xs[t - k]? = some v := by
      intro xs
      induction xs with
      | nil => intro k h; simp [look] at h
      | cons x r ih =>
        intro k h
        simp only [List.zipIdx_cons, List.map_cons, look] at h
        cases hb : Nat.beq k t
        · rw [hb] at h
          have hne : k ≠ t := fun e => by subst e; simp at hb
          obtain ⟨h1, h2⟩ := ih (k + 1) (by simpa using h)
          refine ⟨by omega, ?_⟩
          rw [show t - k = (t - (k + 1)) + 1 by omega]; simpa using h2
        · rw [hb] at h
          have e : k = t := Nat.eq_of_beq_eq_true hb
          subst e
          simp at h; subst h
          exact ⟨Nat.le_refl _, by simp⟩
    have := (key args 0 hv).2
    simp only [Nat.sub_zero] at this
    have hlt : t < args.length := (List.getElem?_eq_some_iff.1 this).1
    rw [Array.getElem?_append_left (by simpa using hlt)]
    simpa using this
end
end Go.Proofs.Ytghfkgcaglabpaa

/-
  The light machine's laws: numbers, tests, small builtins; and a walk parted and joined again. No program is named here.
-/
namespace Go.Proofs.Ytghfkgcaglabpaa
open Go.RowKit

abbrev iw (x : Int) : Value := .int .i64 x
abbrev uw (x : Int) : Value := .int .u32 x
abbrev bo (b : Bool) : Value := .bool b
abbrev pt (b o : Nat) : Value := .pointer (some ⟨b, o, none⟩)
abbrev sl (b o n c : Nat) : Value := .slice (some ⟨b, o, none⟩) n c

theorem lt_b {a b : Nat} (h : Nat.blt a b = true) : a < b := by simpa [Nat.blt_eq] using h
theorem le_b {a b : Nat} (h : Nat.ble a b = true) : a ≤ b := Nat.le_of_ble_eq_true h

section
variable {P : Program} {X : Cx} {ops : Array Oper} {Q : Exit → Act → World → Prop} {rest : List Oper} {o : Oper} {m : List (Nat × Value)} {l : List Res} {v : Value} {d : Nat}
variable {t t' : TypeId} {x y : Operand} {k : IntKind} {p q r : Int} {b : Bool}

theorem ru_add (ho : o.op = .binOp .add t x y t') (hx : evM m x = some (.int k p)) (hy : evM m y = some (.int k q)) (hv : k.wrap (p + q) = r) : Ru P X o m l (.int k r) := ru_bin ho hx hy fun w => by subst hv; simp [binOp, Op.intArith]
theorem ru_sub (ho : o.op = .binOp .sub t x y t') (hx : evM m x = some (.int k p)) (hy : evM m y = some (.int k q)) (hv : k.wrap (p - q) = r) : Ru P X o m l (.int k r) := ru_bin ho hx hy fun w => by subst hv; simp [binOp, Op.intArith]
theorem ru_quo (ho : o.op = .binOp .quo t x y t') (hx : evM m x = some (.int k p)) (hy : evM m y = some (.int k q)) (h0 : ¬ q = 0) (hv : k.wrap (p.tdiv q) = r) : Ru P X o m l (.int k r) := ru_bin ho hx hy fun w => by subst hv; simp [binOp, Op.intDiv, h0]
theorem ru_rem (ho : o.op = .binOp .rem t x y t') (hx : evM m x = some (.int k p)) (hy : evM m y = some (.int k q)) (h0 : ¬ q = 0) (hv : p.tmod q = r) : Ru P X o m l (.int k r) := ru_bin ho hx hy fun w => by subst hv; simp [binOp, Op.intDiv, h0]
theorem ru_eq (ho : o.op = .binOp .eql t x y t') (hx : evM m x = some (.int k p)) (hy : evM m y = some (.int k q)) (hv : (p == q) = b) : Ru P X o m l (.bool b) := ru_bin ho hx hy fun w => by subst hv; simp [binOp, Op.intCmp]
theorem ru_ne (ho : o.op = .binOp .neq t x y t') (hx : evM m x = some (.int k p)) (hy : evM m y = some (.int k q)) (hv : (p != q) = b) : Ru P X o m l (.bool b) := ru_bin ho hx hy fun w => by subst hv; simp [binOp, Op.intCmp]
theorem ru_lt (ho : o.op = .binOp .lss t x y t') (hx : evM m x = some (.int k p)) (hy : evM m y = some (.int k q)) (hv : decide (p < q) = b) : Ru P X o m l (.bool b) := ru_bin ho hx hy fun w => by subst hv; simp [binOp, Op.intCmp]
theorem ru_gt (ho : o.op = .binOp .gtr t x y t') (hx : evM m x = some (.int k p)) (hy : evM m y = some (.int k q)) (hv : decide (q < p) = b) : Ru P X o m l (.bool b) := ru_bin ho hx hy fun w => by subst hv; simp [binOp, Op.intCmp]
theorem ru_ge (ho : o.op = .binOp .geq t x y t') (hx : evM m x = some (.int k p)) (hy : evM m y = some (.int k q)) (hv : decide (q ≤ p) = b) : Ru P X o m l (.bool b) := ru_bin ho hx hy fun w => by subst hv; simp [binOp, Op.intCmp]
theorem ru_or (ho : o.op = .binOp .or t x y t') (hx : evM m x = some (.int k p)) (hy : evM m y = some (.int k q)) (hv : bits .or k p q = r) : Ru P X o m l (.int k r) := ru_bin ho hx hy fun w => by subst hv; simp [binOp, Op.intBits, bits]
theorem ru_and (ho : o.op = .binOp .and t x y t') (hx : evM m x = some (.int k p)) (hy : evM m y = some (.int k q)) (hv : bits .and k p q = r) : Ru P X o m l (.int k r) := ru_bin ho hx hy fun w => by subst hv; simp [binOp, Op.intBits, bits]
theorem ru_not (ho : o.op = .unOp .not t x) (hx : evM m x = some (.bool b)) {c : Bool} (hv : (!b) = c) : Ru P X o m l (.bool c) := fun a w hf _ => by
  subst hv; unfold execOp; rw [ho]; simp only [hf.ev hx, Op.unary]; rfl
theorem ru_binv {op : BinOp} {u1 u2 : Value} (ho : o.op = .binOp op t x y t') (hx : evM m x = some u1) (hy : evM m y = some u2) (hg : ∀ w, (eqGuard op t x y u1 u2).run P w = .ok () w)
    (hr : ∀ w, Inv X w l → (binOp op t u1 u2).run P w = .ok v w) : Ru P X o m l v := fun a w hf hI => by
  unfold execOp; rw [ho]; simp only [hf.ev hx, hf.ev hy]
  rw [Sem.run_bind, Sem.run_bind, hg w]
  simp only [Result.andThen_ok, hr w hI]
  rfl
theorem ru_eqnil {e : TypeId} {a : Option Addr} (hu : P.underlying t = some (.pointer e)) (ho : o.op = .binOp .eql t x y t') (hx : evM m x = some (.pointer a)) (hy : evM m y = some (.pointer none)) (hv : a.isNone = b) : Ru P X o m l (.bool b) :=
  ru_binv ho hx hy (fun w => rfl) fun w _ => by subst hv; obtain ⟨n, hn⟩ : ∃ n, Op.maxDepth = n + 1 := ⟨9999, rfl⟩; cases a <;> (simp only [binOp, Op.equal, hn, Op.equalIn, Sem.run_bind, run_underlying hu w, Result.andThen_ok]; rfl)
theorem ru_len {e : TypeId} {a : Option Addr} {n c : Nat} (hu : P.underlying t = some (.slice e)) (ho : o.op = .call { callee := .builtin .len, args := #[x], argTypes := #[t] }) (hx : evM m x = some (.slice a n c)) : Ru P X o m l (.int .i64 n) := fun a w hf _ => by
  unfold execOp; rw [ho]
  simp [resolve, hf.ev hx, invoke, builtin, Builtin.len_, run_underlying hu w, goInt]
theorem ru_makeFunc {fn : Fn} {fs cs : List Operand} {v1 v2 : List Value} (ho : o.op = .makeFunc fn fs.toArray cs.toArray) (h1 : evL m fs = some v1) (h2 : evL m cs = some v2) : Ru P X o m l (.func fn v1.toArray v2.toArray) := fun a w hf _ => by
  have e1 : fs.toArray.map a.eval = v1.toArray := by rw [← hf.evL h1]; simp
  have e2 : cs.toArray.map a.eval = v2.toArray := by rw [← hf.evL h2]; simp
  unfold execOp; rw [ho]; simp only [e1, e2, Instr.makeFunc]; rfl

theorem guard_un {j : Nat} {want : Bool} {dj : Nat} {a : Act} (hf : Fr X.n a m) (hg : o.guard = some (j, want)) (hj : (ops[j]?).bind (·.dst) = some dj) (hb : look m dj = some undef) : Region.wanted o (yielded ops a.tmps) = false := by
  have h1 : yielded ops a.tmps j = none := by
    unfold yielded
    rw [hj]
    simp [hf.2.2 dj _ hb, undef]
  unfold Region.wanted
  rw [hg]
  simp [h1]
theorem SL.offu {j : Nat} {want : Bool} {dj : Nat} (hg : o.guard = some (j, want)) (hj : (ops[j]?).bind (·.dst) = some dj) (hb : look m dj = some undef) (hd : o.dst = some d) (hn : d < X.n)
    (k : SL P X ops Q rest ((d, undef) :: m) l) : SL P X ops Q (o :: rest) m l := fun a w hf hi =>
  wpList_step fun K hK => by
    rw [if_neg (by rw [guard_un hf hg hj hb]; simp), hd]
    exact hK _ _ (k _ w (hf.put hn _) hi)
theorem wpList_append {L2 : List Oper} : ∀ (L1 : List Oper) (a : Act) (w : World), wpList P ops (Exit.then (fun a w => wpList P ops Q L2 a w) Q) L1 a w → wpList P ops Q (L1 ++ L2) a w
  | [], a, w, h => h
  | o :: r, a, w, h => by
    rw [List.cons_append]
    unfold wpList at h ⊢
    have hout : LetsOut (Exit.then (fun a w => wpList P ops Q L2 a w) Q) → LetsOut Q := fun ⟨a, w, h⟩ => ⟨a, w, h⟩
    split
    · rename_i hw
      rw [if_pos hw] at h
      rcases h with h | ⟨h1, h2⟩
      · left
        unfold Oper.wp at h ⊢
        revert h
        generalize (execOp a.eval o).run P w = rr
        intro h
        cases rr with
        | ok n w' =>
          cases n <;> simp only [Oper.upon] at h ⊢ <;> first | exact h.elim | exact wpList_append r _ _ h | skip
          · refine h.mono fun e w'' he => ?_
            cases e with
            | returned v => exact wpList_append r _ _ he
            | panicked c => exact he
            | outgrown => exact hout he
          · exact h.mono fun v w'' he => wpList_append r _ _ he
        | halt hh w' =>
          cases hh <;> simp only [Oper.upon] at h ⊢ <;> first | exact h.elim | exact h
      · exact .inr ⟨h1, hout h2⟩
    · rename_i hw
      rw [if_neg hw] at h
      exact wpList_append r _ _ h
theorem SL.join (n : Nat) (m' : List (Nat × Value)) (l' : List Res) (hk : SL P X ops Q (rest.drop n) m' l')
    (h : ∀ K : Act → World → Prop, (∀ a w, Fr X.n a m' → Inv X w l' → K a w) → SL P X ops (Exit.then K Q) (rest.take n) m l) : SL P X ops Q rest m l := fun a w hf hI => by
  have := h (fun a w => wpList P ops Q (rest.drop n) a w) (fun a w hf hI => hk a w hf hI) a w hf hI
  have := wpList_append (Q := Q) (L2 := rest.drop n) _ _ _ this
  rwa [List.take_append_drop] at this
theorem SL.joined {K : Act → World → Prop} {m' : List (Nat × Value)} {l' : List Res} (hK : ∀ a w, Fr X.n a m' → Inv X w l' → K a w) (hm : Subs m m') (hl : l = l') : SL P X ops (Exit.then K Q) [] m l := fun a w hf hI => hK a w (hf.sub hm) (hl ▸ hI)
theorem SL.callv {f : FuncId} {fs cs vals : List Value} {c : Operand} {args : List Operand} {aT : Array TypeId} (v : Value) (hg : o.guard = none)
    (ho : o.op = .call { callee := .value c, args := args.toArray, argTypes := aT }) (hok : CallOk P f) (hc : evM m c = some (.func (.func f) fs.toArray cs.toArray)) (ha : evL m args = some vals) (hd : o.dst = some d) (hn : d < X.n)
    (H : ∀ w, Inv X w l → Calls P f (fs ++ vals ++ cs).toArray w fun e w' => e = .returned v ∧ Inv X w' l)
    (k : SL P X ops Q rest ((d, v) :: m) l) : SL P X ops Q (o :: rest) m l :=
  SL.call (fun _ : Unit => v) (fun _ => l) (fun _ => True) hg ho hok hc ha hd hn (fun w hI => (H w hI).mono fun e w' ⟨h1, h2⟩ => ⟨(), h1, h2, trivial⟩) (fun _ _ => k)
theorem SL.callvg {j : Nat} {want : Bool} {dj : Nat} {f : FuncId} {fs cs vals : List Value} {c : Operand} {args : List Operand} {aT : Array TypeId} (v : Value) (hg : o.guard = some (j, want)) (hj : (ops[j]?).bind (·.dst) = some dj) (hb : look m dj = some (.bool want))
    (ho : o.op = .call { callee := .value c, args := args.toArray, argTypes := aT }) (hok : CallOk P f) (hc : evM m c = some (.func (.func f) fs.toArray cs.toArray)) (ha : evL m args = some vals) (hd : o.dst = some d) (hn : d < X.n)
    (H : ∀ w, Inv X w l → Calls P f (fs ++ vals ++ cs).toArray w fun e w' => e = .returned v ∧ Inv X w' l)
    (k : SL P X ops Q rest ((d, v) :: m) l) : SL P X ops Q (o :: rest) m l :=
  SL.callg (fun _ : Unit => v) (fun _ => l) (fun _ => True) hg hj hb ho hok hc ha hd hn (fun w hI => (H w hI).mono fun e w' ⟨h1, h2⟩ => ⟨(), h1, h2, trivial⟩) (fun _ _ => k)
theorem H_same {f : FuncId} {vs : Array Value} {w : World} (hI : Inv X w l) (h : Calls P f vs w fun e w' => e = .returned v ∧ w = w') : Calls P f vs w fun e w' => e = .returned v ∧ Inv X w' l := h.mono fun e w' ⟨h1, h2⟩ => ⟨h1, h2 ▸ hI⟩
theorem H_only {f : FuncId} {vs : Array Value} {w : World} (hI : Inv X w l) (h : Calls P f vs w fun e w' => e = .returned v ∧ Only (fun _ => False) w w') : Calls P f vs w fun e w' => e = .returned v ∧ Inv X w' l := h.mono fun e w' ⟨h1, h2⟩ => ⟨h1, hI.only h2⟩
theorem ret_bo {a b : Bool} (h : b = a) : Ending.returned (.bool a) = .returned (.bool b) := by rw [h]
theorem tf (b : Bool) : b = true ∨ b = false := by cases b <;> simp
end
section
variable {P : Program} {X : Cx} {ops : Array Oper} {Q : Exit → Act → World → Prop} {rest : List Oper} {o : Oper} {m m2 : List (Nat × Value)} {l l2 : List Res} {v : Value} {d : Nat} {x : Operand}
theorem SL.mv (k : SL P X ops Q rest ((d, v) :: m) l) (hg : o.guard = none := by rfl) (hd : o.dst = some d := by rfl) (hn : d < X.n := by exact lt_b rfl) (ho : o.op = .move x := by rfl) (hx : evM m x = some v := by rfl) : SL P X ops Q (o :: rest) m l := SL.ru hg hd hn (ru_move ho hx) k
theorem SL.as (k : SL P X ops Q rest ((d, v) :: m) l) (hg : o.guard = none := by rfl) (hd : o.dst = some d := by rfl) (hn : d < X.n := by exact lt_b rfl) (ho : o.op = .assign x := by rfl) (hx : evM m x = some v := by rfl) : SL P X ops Q (o :: rest) m l := SL.ru hg hd hn (ru_assign ho hx) k
theorem SL.nk {a : Addr} (k : SL P X ops Q rest ((d, .pointer (some a)) :: m) l) (hg : o.guard = none := by rfl) (hd : o.dst = some d := by rfl) (hn : d < X.n := by exact lt_b rfl) (ho : o.op = .nilCheck x := by rfl) (hx : evM m x = some (.pointer (some a)) := by rfl) : SL P X ops Q (o :: rest) m l := SL.ru hg hd hn (ru_nilCheck ho hx) k
theorem SL.uu (hr : Ru P X o m l v) (k : SL P X ops Q rest ((d, v) :: m) l) (hg : o.guard = none := by rfl) (hd : o.dst = some d := by rfl) (hn : d < X.n := by exact lt_b rfl) : SL P X ops Q (o :: rest) m l := SL.ru hg hd hn hr k
theorem SQ.uu {K : Act → Prop} (hr : Ru P X o m l v) (k : SQ P X ops K rest ((d, v) :: m) l) (hg : o.guard = none := by rfl) (hd : o.dst = some d := by rfl) (hn : d < X.n := by exact lt_b rfl) : SQ P X ops K (o :: rest) m l := SQ.ru hg hd hn hr k
theorem SL.gg {j : Nat} {want : Bool} {dj : Nat} (hr : Ru P X o m l v) (k : SL P X ops Q rest ((d, v) :: m) l) (hg : o.guard = some (j, want) := by rfl) (hj : (ops[j]?).bind (·.dst) = some dj := by rfl) (hb : look m dj = some (.bool want) := by rfl) (hd : o.dst = some d := by rfl) (hn : d < X.n := by exact lt_b rfl) : SL P X ops Q (o :: rest) m l := SL.rug hg hj hb hd hn hr k
theorem SL.oo {j : Nat} {want b : Bool} {dj : Nat} (k : SL P X ops Q rest ((d, undef) :: m) l) (hg : o.guard = some (j, want) := by rfl) (hj : (ops[j]?).bind (·.dst) = some dj := by rfl) (hb : look m dj = some (.bool b) := by rfl) (hw : (b == want) = false := by rfl) (hd : o.dst = some d := by rfl) (hn : d < X.n := by exact lt_b rfl) : SL P X ops Q (o :: rest) m l := SL.off (b := b) hg hj hb hw hd hn k
theorem SL.nn {y : Code} (m' : List (Nat × Value)) (l' : List Res) (hm : Subs m m') (h : SC P X y Q m' l') (hl : l = l' := by rfl) : SL P X ops (Exit.then (y.wp P Q) Q) [] m l := SL.nil (SC.of_SE (SC.norm m' l' hm hl h))
theorem SC.sr {id : Nat} {L : List Oper} {y : Code} (h : SL P X L.toArray (Exit.then (y.wp P Q) Q) L m l) : SC P X ((Code.region id L.toArray false).seq y) Q m l := SC.seq (SC.region h)
end
end Go.Proofs.Ytghfkgcaglabpaa

/-
  The light machine's laws: slices that are made. No program is named here.
-/
namespace Go.Proofs.Ytghfkgcaglabpaa
open Go.RowKit

def Fz (w : World) (b : Nat) (c : List Value) (T : TypeId) : Prop := w.heap[b]? = some (.cells c.toArray T (c.length, c.length + 1))
theorem Fz.lt {w : World} {b : Nat} {c : List Value} {T : TypeId} (h : Fz w b c T) : b < w.heap.size := (Array.getElem?_eq_some_iff.1 h).1
theorem Fz.cell {w : World} {b : Nat} {c : List Value} {T : TypeId} (h : Fz w b c T) (o : Nat) : w.cell? ⟨b, o, none⟩ = c[o]? := by unfold Fz at h; simp [World.cell?, h]
def rFz (b : Nat) (c : List Value) (T : TypeId) : Res where
  ok w := Fz w b c T
  fp k := k = b
  lt w h k hk := by subst hk; exact Fz.lt h
  st w w' h hw := by unfold Fz; rw [hw b rfl]; exact h
def rAny (b : Nat) : Res where
  ok w := b < w.heap.size
  fp k := k = b
  lt w h k hk := by subst hk; exact h
  st w w' h hw := by
    have h1 := hw b rfl
    rw [Array.getElem?_eq_getElem h] at h1
    exact (Array.getElem?_eq_some_iff.1 h1).1

section
variable {P : Program} {X : Cx} {ops : Array Oper} {Q : Exit → Act → World → Prop} {rest : List Oper} {o : Oper} {m : List (Nat × Value)} {l : List Res} {v : Value} {d : Nat}
variable {t : TypeId} {x y : Operand}

theorem built_slice {w : World} {e n size : Nat} {parts : Array (Nat × Value)} {z cs : List Value} (hu : P.underlying t = some (.slice e)) (hs : (P.info? e).map (fun i => (i.size, i.zero.map (·.cells.toList))) = some (size, some z)) (hn : n * size ≤ 2 ^ 24)
    (hc : Instr.fill (fun i => some (i * size, size)) ((Array.range (n * size)).map (z.toArray[· % z.toArray.size]!)) parts.toList = some cs.toArray) :
    (Instr.buildSlice t n parts).run P w = .ok (.slice (some ⟨w.heap.size, 0, none⟩) n n) (w.alloc (.cells cs.toArray e)) := by
  obtain ⟨i, hi, hz⟩ := map_some hs
  simp only [Prod.mk.injEq, Option.map_eq_some_iff] at hz
  obtain ⟨hz1, zv, hz2, hz3⟩ := hz
  have hzr : (zeroValue e).run P w = .ok zv w := by simp [zeroValue, typeInfo, hi, hz2]
  unfold Instr.buildSlice
  simp only [Sem.run_bind, run_underlying hu w, Result.andThen_ok, size_run (show (P.info? e).map (·.size) = some size by rw [hi]; simp [hz1]) w]
  rw [if_neg (by omega)]
  have hzc : zv.cells = z.toArray := by rw [← hz3]
  by_cases h0 : n * size = 0
  · rw [if_pos h0]
    have hr0 : Array.range (n * size) = #[] := by rw [h0]; rfl
    rw [hr0, Array.map_empty] at hc
    simp only [Sem.run_bind, Sem.run_pure, Result.andThen_ok, hr0, Array.map_empty, hc]
    rfl
  · rw [if_neg h0]
    simp only [Sem.run_bind, hzr, Result.andThen_ok, Sem.run_pure, hzc, hc]
    rfl
theorem SL.buildSlice {e n size : Nat} {parts : List (Nat × Operand)} {vals : List (Nat × Value)} {z cs : List Value} (hg : o.guard = none) (hd : o.dst = some d) (hn : d < X.n) (ho : o.op = .buildSlice t n parts.toArray)
    (hu : P.underlying t = some (.slice e)) (hs : (P.info? e).map (fun i => (i.size, i.zero.map (·.cells.toList))) = some (size, some z)) (hsz : Nat.ble (n * size) 16777216 = true) (hp : parts.mapM (fun x => (evM m x.2).map (x.1, ·)) = some vals)
    (hc : Instr.fill (fun i => some (i * size, size)) ((Array.range (n * size)).map (z.toArray[· % z.toArray.size]!)) vals = some cs.toArray)
    (k : ∀ b, X.w0.heap.size ≤ b → SL P X ops Q rest ((d, .slice (some ⟨b, 0, none⟩) n n) :: m) (l ++ [rBlk b cs e])) : SL P X ops Q (o :: rest) m l := fun a w hf hI =>
  wpList_plain hg fun K hK => by
    unfold Oper.wp execOp
    rw [ho]
    have hv : (parts.toArray.map fun (i, x) => (i, a.eval x)) = vals.toArray := by
      have : parts.map (fun (x : Nat × Operand) => (x.1, a.eval x.2)) = vals := by
        clear ho hc
        induction parts generalizing vals with
        | nil => simp at hp; simpa using hp.symm
        | cons y r ih =>
          simp only [List.mapM_cons, Option.bind_eq_bind, Option.bind_eq_some_iff, Option.map_eq_some_iff] at hp
          obtain ⟨u, ⟨u', hu, rfl⟩, us, hus, h⟩ := hp
          cases h
          rw [List.map_cons, ih hus, hf.ev hu]
      rw [← this]; simp
    have hrun := built_slice (P := P) (w := w) (parts := vals.toArray) hu hs (Nat.le_of_ble_eq_true hsz) hc
    simp only [hv, Sem.run_bind, hrun, Result.andThen_ok, Sem.run_pure, Oper.upon_value, hd]
    exact hK _ _ (k _ hI.2.size _ _ (hf.put hn _) (new_blk hI _ _))
theorem run_mark {w : World} {b : Nat} {c : List Value} {T e : TypeId} {n cp : Nat} (hb : Blk w b c T) (hu : P.underlying t = some (.slice e)) (he : P.underlying e = some (.int .u8)) :
    ∃ w', (Go.convert t t (.slice (some ⟨b, 0, none⟩) n cp)).run P w = .ok (.slice (some ⟨b, 0, none⟩) n cp) w' ∧ Fz w' b c T ∧ Only (fun k => k = b) w w' := by
  refine ⟨w.freeze ⟨b, c.length, none⟩ 1, ?_, ?_, ?_⟩
  · have hsh : w.shape? b = some (T, c.length) := by unfold Blk at hb; simp [World.shape?, hb]
    unfold Go.convert
    simp only [Sem.run_bind, run_underlying hu w, Result.andThen_ok, run_underlying he w, beq_self_eq_true]
    unfold markStringish
    simp only [Sem.run_bind, Go.shape, Sem.run, hsh, Result.andThen_ok, Go.freeze]
    rfl
  · unfold Fz World.freeze
    unfold Blk at hb
    simp [Array.getElem?_modify, hb]
  · refine ⟨by simp [World.freeze], by simp [World.freeze], by simp [World.freeze], by simp [World.freeze], fun k _ hk => ?_⟩
    have : ¬ b = k := fun e => hk e.symm
    simp [World.freeze, Array.getElem?_modify, this]
theorem SL.mark {e : TypeId} {i b n cp : Nat} {c : List Value} {T : TypeId} (hg : o.guard = none) (hd : o.dst = some d) (hn : d < X.n) (ho : o.op = .convert t t x) (hu : P.underlying t = some (.slice e)) (he : P.underlying e = some (.int .u8))
    (hx : evM m x = some (.slice (some ⟨b, 0, none⟩) n cp)) (hi : l[i]? = some (rBlk b c T)) (hS : X.S b ∨ X.w0.heap.size ≤ b)
    (k : SL P X ops Q rest ((d, .slice (some ⟨b, 0, none⟩) n cp) :: m) (l.set i (rFz b c T))) : SL P X ops Q (o :: rest) m l := fun a w hf hI =>
  wpList_plain hg fun K hK => by
    obtain ⟨w', hr, hz, hO⟩ := run_mark (P := P) (t := t) (e := e) (n := n) (cp := cp) (hI.1.get hi) hu he
    unfold Oper.wp execOp
    rw [ho]
    simp only [hf.ev hx, Sem.run_bind, hr, Result.andThen_ok, Sem.run_pure, Oper.upon_value, hd]
    exact hK _ _ (k _ _ (hf.put hn _) (hI.upd hi hO (fun b' hb' => by cases hb'; exact hS) hz (fun b' hb' => .inl hb')))

theorem run_cell {w : World} (hI : Inv X w l) {t : TypeId} {z : List Value} (ht : TyAg P t z) {i b : Nat} {c : List Value} {T : TypeId} (hi : l[i]? = some (rBlk b c T)) (hc : c.length = z.length) : (loadVar t ⟨b, 0, none⟩).run P w = .ok (.agg c.toArray) w := by
  have hb : Blk w b c T := hI.1.get hi
  obtain ⟨⟨d, hd, hdb⟩, hsz, _⟩ := ht
  obtain ⟨inf, hinf, hz⟩ := map_some hsz
  simp only [Prod.mk.injEq] at hz
  exact run_loadVar_at (P := P) w b 0 t c d (fun j hj => by rw [hb.cell, Nat.zero_add]) hd (by cases d <;> simp_all [isAggD]) (by rw [hinf]; simp [hz.1, hc])
theorem res_ct {fn : Func} {p ty u : Nat} {z : List Value} (h : fn.results = #[.cell p ty, .tmp u]) (ht : TyAg P ty z) {b : Nat} (hp : look m p = some (.pointer (some ⟨b, 0, none⟩))) (hu : look m u = some v) (i : Nat) {c : List Value} {T : TypeId} (hi : l[i]? = some (rBlk b c T)) (hc : c.length = z.length) :
    ∀ a w, Fr X.n a m → Inv X w l → (results fn a.tmps).run P w = .ok (.tuple #[.agg c.toArray, v]) w := fun a w hf hI => by
  have h1 := look_tmps hf hp
  have h2 := look_tmps hf hu
  have h1' : a.tmps[p]?.getD undef = .pointer (some ⟨b, 0, none⟩) := by simpa using h1
  have h2' : a.tmps[u]?.getD undef = v := by simpa using h2
  simp [results, h, h1', h2', asAddr, run_cell hI ht hi hc]
theorem res3 {fn : Func} {t u x : Nat} {v1 v2 v3 : Value} (h : fn.results = #[.tmp t, .tmp u, .tmp x]) (ht : look m t = some v1) (hu : look m u = some v2) (hx : look m x = some v3) : ∀ a w, Fr X.n a m → Inv X w l → (results fn a.tmps).run P w = .ok (.tuple #[v1, v2, v3]) w := fun a w hf _ => by
  have h1 : a.tmps[t]?.getD undef = v1 := by simpa using look_tmps hf ht
  have h2 : a.tmps[u]?.getD undef = v2 := by simpa using look_tmps hf hu
  have h3 : a.tmps[x]?.getD undef = v3 := by simpa using look_tmps hf hx
  simp [results, h, h1, h2, h3]

theorem made_len (z : Array Value) (n : Nat) : (madeCells z n).toList.length = n := by rw [Array.length_toList, size_madeCells]
theorem run_room {w : World} {ty e g n : Nat} {c : List Value} {v : Value} {f : List UInt8} (hu : P.underlying t = some (.slice e)) (hs : (P.info? e).map (·.size) = some 1) (hb : Blk w g c e) (hx : BytesAt w v f) (cap : Nat) (hr : n + f.length ≤ cap) (hc : n + f.length ≤ c.length) :
    ∃ w', (Builtin.append_ #[t, t] ty #[.slice (some ⟨g, 0, none⟩) n cap, v]).run P w = .ok (.slice (some ⟨g, 0, none⟩) (n + f.length) cap) w' ∧ Blk w' g (c.take n ++ f.map bv ++ c.drop (n + f.length)) e ∧ Only (fun k => k = g) w w' := by
  obtain ⟨i, hi, hsz⟩ := map_some hs
  rcases hx with ⟨a, q, rfl, hq, rfl⟩ | ⟨b, so, q, rfl, h1, h2, h3⟩
  · refine ⟨w, ?_, by simpa using hb, Only.refl _ _⟩
    have hso : (sizeOf e).run P w = .ok 1 w := by simp [sizeOf, typeInfo, hi, hsz]
    unfold Builtin.append_
    simp only [List.getElem?_toArray, List.getElem?_cons_zero, List.getElem?_cons_succ, Sem.run_bind, run_underlying hu w, Result.andThen_ok, hso, Sem.run_pure, Builtin.lenOf]
    simp only [List.length_nil, Nat.add_zero] at hr
    simp [hr, Builtin.firstCells]
    cases a with
    | none => rfl
    | some a => rfl
  · have hrun := run_append_room (P := P) (w := w) t ty e i hu hi g n cap c.toArray hb ⟨b, so, none⟩ f.length q (f.map bv) (by simp [hsz]) (fun j u hj => by
        have hjl : j < f.length := by have := (List.getElem?_eq_some_iff.1 hj).1; simpa using this
        rw [add_at, h3 j hjl]
        simp only [List.getElem?_map, List.getElem?_eq_getElem hjl, Option.map_some] at hj
        exact hj) (fun u hu => by obtain ⟨y, _, rfl⟩ := List.mem_map.1 hu; rfl) hr (by simp [hsz]; omega)
    refine ⟨_, hrun, ?_, ⟨rfl, rfl, rfl, by simp [World.setRow], fun k' _ hk' => setRow_other w g k' _ hk'⟩⟩
    have := setRow_heap w g c.toArray ((c.take n ++ f.map bv ++ c.drop (n + f.length))).toArray e (0, 0) hb
    unfold Blk
    simpa [hsz] using this
theorem wpList_room {w : World} {a : Act} {e g n cap : Nat} {c : List Value} {v : Value} {f : List UInt8} {y : Operand} (hg : o.guard = none) (ho : o.op = .call { callee := .builtin .append, args := #[x, y], argTypes := #[t, t] }) (hu : P.underlying t = some (.slice e)) (hs : (P.info? e).map (·.size) = some 1)
    (hx : a.eval x = .slice (some ⟨g, 0, none⟩) n cap) (hy : a.eval y = v) (hb : Blk w g c e) (hv : BytesAt w v f) (hr : n + f.length ≤ cap) (hc : n + f.length ≤ c.length)
    (k : ∀ w', Blk w' g (c.take n ++ f.map bv ++ c.drop (n + f.length)) e → Only (fun k => k = g) w w' → wpList P ops Q rest (a.put o.dst (.slice (some ⟨g, 0, none⟩) (n + f.length) cap)) w') : wpList P ops Q (o :: rest) a w :=
  wpList_plain hg fun K hK => by
    obtain ⟨w', hrun, hB, hO⟩ := run_room (P := P) (ty := o.type) hu hs hb hv cap hr hc
    unfold Oper.wp execOp
    rw [ho]
    have he : #[x, y].map a.eval = #[.slice (some ⟨g, 0, none⟩) n cap, v] := by simp [hx, hy]
    simp only [resolve, he, Sem.run_bind, Sem.run_pure, Result.andThen_ok, invoke, builtin, hrun, Oper.upon_value]
    exact hK _ _ (k w' hB hO)
theorem make_u8 {e n : Nat} (hu : P.underlying t = some (.slice e)) (hz : (P.info? e).map (fun i => (i.zero, i.size, i.bytes)) = some (some (.int .u8 0), 1, 1)) (hn : n ≤ 281474976710656) (w : World) :
    (Instr.makeSlice t (.int .i64 0) (.int .i64 (n : Int))).run P w = .ok (.slice (some ⟨w.heap.size, 0, none⟩) 0 n) (w.alloc (.cells (madeCells #[.int .u8 0] n) e)) := by
  obtain ⟨i, hi, h3⟩ := map_some hz
  simp only [Prod.mk.injEq] at h3
  obtain ⟨z0, z1, z2⟩ := h3
  have := run_make (P := P) w t e i (.int .u8 0) hu hi z0 .i64 .i64 0 (n : Int) (by omega) (by omega) (by rw [z2]; omega) (by omega)
  rw [this]
  simp [z1, Value.cells]
end
end Go.Proofs.Ytghfkgcaglabpaa

/-
  The light machine: regions that draw their order and make memory. No program is named here.
-/
namespace Go.Proofs.Ytghfkgcaglabpaa
open Go.RowKit
section
variable (P : Program) (X : Cx)
def SS (ops : Array Oper) (sp : List Nat) (C : (Nat → Bool) → World → Prop) (K : Act → Prop) (k : Nat) (rest : List Oper) (m : List (Nat × Value)) : Prop := ∀ a, Fr X.n a m → wpSpread P ops sp C K k rest a
end
section
variable {P : Program} {X : Cx} {ops : Array Oper} {Q : Exit → Act → World → Prop} {rest : List Oper} {o : Oper} {m : List (Nat × Value)} {l : List Res} {v : Value} {d k : Nat} {sp : List Nat} {C : (Nat → Bool) → World → Prop} {K : Act → Prop}

theorem done_same (hk : sp.contains k = false) (D : Nat → Bool) : doneSet sp k D = D := by
  unfold doneSet; rw [if_neg (by simpa using hk)]
theorem SS.ru (l : List Res) (hC : ∀ D w, C D w → Inv X w l) (hk : sp.contains k = false) (hg : o.guard = none) (hd : o.dst = some d) (hn : d < X.n) (hr : Ru P X o m l v) (h : SS P X ops sp C K (k + 1) rest ((d, v) :: m)) : SS P X ops sp C K k (o :: rest) m := fun a hf => by
  unfold wpSpread
  rw [if_pos (by simp [Region.wanted, hg])]
  refine ⟨v, fun D w hD _ => ?_, ?_⟩
  · rw [hr a w hf (hC D w hD), done_same hk]; exact ⟨rfl, hD⟩
  · rw [hd]; exact h _ (hf.put hn v)
theorem SS.turn {f : FuncId} {fs cs vals : List Value} {c : Operand} {args : List Operand} {aT : Array TypeId} (v : Value) (hk : sp.contains k = true) (hg : o.guard = none)
    (ho : o.op = .call { callee := .value c, args := args.toArray, argTypes := aT }) (hok : CallOk P f) (hc : evM m c = some (.func (.func f) fs.toArray cs.toArray)) (ha : evL m args = some vals) (hd : o.dst = some d) (hn : d < X.n)
    (H : ∀ D w, C D w → D k = false → Calls P f (fs ++ vals ++ cs).toArray w fun e w' => e = .returned v ∧ C (fun j => if j = k then true else D j) w')
    (h : SS P X ops sp C K (k + 1) rest ((d, v) :: m)) : SS P X ops sp C K k (o :: rest) m := fun a hf => by
  have hs : k ∈ sp := by simpa using hk
  unfold wpSpread
  rw [if_pos (by simp [Region.wanted, hg])]
  refine ⟨v, fun D w hD hf' => ?_, ?_⟩
  · rw [call_enter ho hok hc ha hf w]
    unfold doneSet; rw [if_pos hs]
    exact H D w hD (hf' hs)
  · rw [hd]; exact h _ (hf.put hn v)

def CA (X : Cx) (l : List Res) (k b : Nat) (r : Res) : (Nat → Bool) → World → Prop := fun D w => if D k then Inv X w (l ++ [r]) else Inv X w l ∧ w.heap.size = b
theorem CA.base {r : Res} {b : Nat} : ∀ D w, CA X l k b r D w → Inv X w l := fun D w h => by
  unfold CA at h
  split at h
  · refine ⟨⟨fun s hs => h.1.1 s (by simp [hs]), ?_⟩, h.2⟩
    have := h.1.2
    rw [List.pairwise_append] at this
    exact this.1
  · exact h.1
theorem SC.region_alloc {id : Nat} {L : List Oper} (n k : Nat) (r : Nat → Res) (hm : P.follows .mixedOrders = true) (hB : Region.lexTailB .any L.toArray n = true)
    (hg : ([k].all fun i => decide (i < n) && ((L[i]?).map (fun o => o.guard.isNone)).getD false) = true)
    (h : ∀ b, X.w0.heap.size ≤ b → SS P X L.toArray [k] (CA X l k b (r b)) (fun a' => ∀ D w', (∀ i ∈ [k], D i = true) → CA X l k b (r b) D w' → wpList P L.toArray Q (L.drop n) a' w') 0 (L.take n) m) : SC P X (.region id L.toArray true) Q m l :=
  fun a w hf hi => wp_region_spread_tail n [k] (CA X l k w.heap.size (r w.heap.size)) hm hB hg (by unfold CA; exact ⟨hi.draw1, rfl⟩) (h _ hi.2.size a hf)
theorem SC.region_alloc0 {id : Nat} {L : List Oper} (k : Nat) (r : Nat → Res) (hm : P.follows .mixedOrders = true) (hB : Region.lexB .any L.toArray = true) (hb : backB L.toArray = true)
    (hg : ([k].all fun i => ((L[i]?).map (fun o => o.guard.isNone)).getD false) = true)
    (h : ∀ b, X.w0.heap.size ≤ b → SS P X L.toArray [k] (CA X l k b (r b)) (fun a' => ∀ D w', (∀ i ∈ [k], D i = true) → CA X l k b (r b) D w' → Q .normal a' w') 0 L m) : SC P X (.region id L.toArray true) Q m l :=
  fun a w hf hi => wp_region_spread [k] (CA X l k w.heap.size (r w.heap.size)) hm hB hb hg (by unfold CA; exact ⟨hi.draw1, rfl⟩) (h _ hi.2.size a hf)
theorem SS.nilA {r : Res} {b k : Nat} {L : List Oper} {j : Nat} (h : SL P X ops Q L m (l ++ [r])) : SS P X ops sp C (fun a' => ∀ D w', (∀ i ∈ [k], D i = true) → CA X l k b r D w' → wpList P ops Q L a' w') j [] m := fun a hf => by
  unfold wpSpread
  intro D w' hD hC
  unfold CA at hC
  rw [if_pos (hD k (by simp))] at hC
  exact h a w' hf hC
theorem SS.nilE {r : Res} {b k : Nat} {j : Nat} (h : SE X Q .normal m (l ++ [r])) : SS P X ops sp C (fun a' => ∀ D w', (∀ i ∈ [k], D i = true) → CA X l k b r D w' → Q .normal a' w') j [] m := fun a hf => by
  unfold wpSpread
  intro D w' hD hC
  unfold CA at hC
  rw [if_pos (hD k (by simp))] at hC
  exact h a w' hf hC
theorem SE.scoper (h : SE X Q .ret m l) : SE X (Exit.noGoto Q) .ret m l := h
theorem SC.loop {c : Code} {γ : Type} (M : Nat → γ → List (Nat × Value)) (R : Nat → γ → List Res) (p : Nat → γ → Prop) (n0 : Nat) (g0 : γ) (hp : p n0 g0) (h0 : Subs m (M n0 g0)) (hl : l = R n0 g0)
    (round : ∀ n g, p n g → SC P X c (Exit.then (fun a w => ∃ n', n' < n ∧ ∃ g', p n' g' ∧ Fr X.n a (M n' g') ∧ Inv X w (R n' g')) Q) (M n g) (R n g)) : SC P X (.loop c) Q m l := fun a w hf hi =>
  wp_loop_ghost (fun n a w => ∃ g, p n g ∧ Fr X.n a (M n g) ∧ Inv X w (R n g)) n0 ⟨g0, hp, hf.sub h0, hl ▸ hi⟩ fun n a w ⟨g, h1, h2, h3⟩ => round n g h1 a w h2 h3
theorem SE.again {γ : Type} {M : Nat → γ → List (Nat × Value)} {R : Nat → γ → List Res} {p : Nat → γ → Prop} {n : Nat} (n' : Nat) (g' : γ) (hn : n' < n) (hp : p n' g') (hm : Subs m (M n' g')) (hl : l = R n' g') :
    SE X (Exit.then (fun a w => ∃ n', n' < n ∧ ∃ g', p n' g' ∧ Fr X.n a (M n' g') ∧ Inv X w (R n' g')) Q) .normal m l := fun a w hf hi => ⟨n', hn, g', hp, hf.sub hm, hl ▸ hi⟩
theorem SS.newcall {f : FuncId} {fs cs vals : List Value} {c : Operand} {args : List Operand} {aT : Array TypeId} {b : Nat} {r : Res} (v : Value) (hg : o.guard = none)
    (ho : o.op = .call { callee := .value c, args := args.toArray, argTypes := aT }) (hok : CallOk P f) (hc : evM m c = some (.func (.func f) fs.toArray cs.toArray)) (ha : evL m args = some vals) (hd : o.dst = some d) (hn : d < X.n)
    (H : ∀ w, Inv X w l → w.heap.size = b → Calls P f (fs ++ vals ++ cs).toArray w fun e w' => e = .returned v ∧ Inv X w' (l ++ [r]))
    (h : SS P X ops [k] (CA X l k b r) K (k + 1) rest ((d, v) :: m)) : SS P X ops [k] (CA X l k b r) K k (o :: rest) m :=
  SS.turn v (by simp) hg ho hok hc ha hd hn (fun D w hC hD => by
    unfold CA at hC
    rw [if_neg (by simp [hD])] at hC
    refine (H w hC.1 hC.2).mono fun e w' ⟨h1, h2⟩ => ⟨h1, ?_⟩
    unfold CA
    rw [if_pos (by simp)]
    exact h2) h
end
end Go.Proofs.Ytghfkgcaglabpaa

/-
  The light machine: bytes of one's own (append), strings. No program is named here.
-/
namespace Go.Proofs.Ytghfkgcaglabpaa
open Go.RowKit

def appA (t : World) (n : Nat) : Option Addr := if n = 0 then none else some ⟨t.heap.size, 0, none⟩
def appC (t : World) (e : TypeId) (n : Nat) : Nat := if n = 0 then 0 else grownCap t n 0 e
def appV (t : World) (e : TypeId) (n : Nat) : Value := .slice (appA t n) n (appC t e n)
theorem appV_own {t : World} {e : TypeId} {n b : Nat} (h : (appV t e n).ownBlock = some b) : b = t.heap.size := by
  by_cases h0 : n = 0
  · simp [appV, appA, h0, Value.ownBlock] at h
  · simp [appV, appA, h0, Value.ownBlock] at h; exact h.symm
def rMine (v : Value) (f : List UInt8) (e : TypeId) : Res where
  ok w := OwnBytes w 0 e v f
  fp j := v.ownBlock = some j
  lt w h b hb := (World.ownsRow.lt h b hb).2
  st w w' h hw := by
    refine ⟨h.1, ?_⟩
    rcases h.2 with ⟨h1, h2⟩ | ⟨g, cap, cur, rfl, h1, h2, h3⟩
    · exact .inl ⟨h1, h2⟩
    · exact .inr ⟨g, cap, cur, rfl, h1, by rw [hw g rfl]; exact h2, h3⟩
theorem ownb_new {w : World} {g : Nat} {f : List UInt8} {e : TypeId} (h : Blk w g (f.map bv) e) (hl : f.length ≤ 140737488351232) : OwnBytes w 0 e (sl g 0 f.length f.length) f :=
  ⟨by simp, .inr ⟨g, f.length, (f.map bv).toArray, rfl, Nat.zero_le _, h, Nat.le_refl _, by unfold maxLen; omega, by simp, by rw [Nat.mul_one]; exact List.take_of_length_le (by simp)⟩⟩
theorem ownb_nil (w : World) (e : TypeId) : OwnBytes w 0 e (.slice none 0 0) [] := World.ownsRow_nil w 0 e 1
def rNone : Res where
  ok _ := True
  fp _ := False
  lt _ _ _ h := h.elim
  st _ _ _ _ := trivial
theorem Inv.weak {X : Cx} {w : World} {l : List Res} {i : Nat} {r r' : Res} (h : Inv X w l) (hi : l[i]? = some r) (hr : r.ok w → r'.ok w) (hf : ∀ b, r'.fp b → r.fp b) : Inv X w (l.set i r') :=
  ⟨h.1.upd hi (fun _ _ _ => rfl) (hr (h.1.get hi)) (fun b hb => .inl (hf b hb)), h.2⟩

section
variable {P : Program} {X : Cx} {ops : Array Oper} {Q : Exit → Act → World → Prop} {rest : List Oper} {o : Oper} {m : List (Nat × Value)} {l : List Res} {v : Value} {d k : Nat} {sp : List Nat} {C : (Nat → Bool) → World → Prop} {K : Act → Prop} {x y : Operand} {t t' : TypeId}

theorem push_all (l : List UInt8) (s : ByteArray) : ((l.map fun x => (x.toNat : Int)).foldl (fun r n => r.push (UInt8.ofNat n.toNat)) s) = ⟨s.data ++ l.toArray⟩ := by
  induction l generalizing s with
  | nil => simp
  | cons x l ih =>
    simp only [List.map_cons, List.foldl_cons, ih]
    simp [ByteArray.push]
theorem run_str {P : Program} {src dst e : TypeId} (hs : P.underlying src = some (.slice e)) (he : P.underlying e = some (.int .u8)) (hd : P.underlying dst = some .string)
    {w : World} {v : Value} {l : List UInt8} (h : BytesAt w v l) : (convert src dst v).run P w = .ok (.string ⟨l.toArray⟩) w := by
  rcases h with ⟨a, c, rfl, _, rfl⟩ | ⟨b, o, cap, rfl, h1, h2, h3⟩
  · rw [run_convert_bytes_string w src dst e a 0 c hs he hd]
    cases a with
    | none => rfl
    | some a =>
      have hl := run_loadCells_list (P := P) w a [] (by simp)
      rw [run_bytesToString w a 0 c [] (by simpa using hl)]
      rfl
  · rw [run_convert_bytes_string w src dst e _ _ _ hs he hd]
    have hl := run_loadCells_list (P := P) w ⟨b, o, none⟩ (l.map bv) (by
      intro j v hj
      have hjl : j < l.length := by have := (List.getElem?_eq_some_iff.1 hj).1; simpa using this
      have hadd : (⟨b, o, none⟩ : Addr).add j = ⟨b, o + j, none⟩ := by unfold Addr.add; split <;> simp_all
      rw [hadd, h3 j hjl]
      simp only [List.getElem?_map, List.getElem?_eq_getElem hjl, Option.map_some] at hj
      exact hj)
    rw [List.length_map] at hl
    have e : l.map bv = (l.map fun x => (x.toNat : Int)).map (Value.int .u8) := by simp
    rw [e] at hl
    rw [run_bytesToString w ⟨b, o, none⟩ l.length cap _ hl, push_all]
    simp
theorem ru_str {e : TypeId} {f : List UInt8} {vx : Value} (hs : P.underlying t = some (.slice e)) (he : P.underlying e = some (.int .u8)) (hd : P.underlying t' = some .string) (ho : o.op = .convert t t' x) (hx : evM m x = some vx) (hb : ∀ w, Inv X w l → BytesAt w vx f) :
    Ru P X o m l (.string ⟨f.toArray⟩) := fun a w hf hI => by
  unfold execOp; rw [ho]
  simp only [hf.ev hx, Sem.run_bind, run_str hs he hd (hb w hI), Result.andThen_ok, Sem.run_pure]
theorem ru_streq {f h : List UInt8} (hu : P.underlying t = some .string) (ho : o.op = .binOp .eql t x y t') (hx : evM m x = some (.string ⟨f.toArray⟩)) (hy : evM m y = some (.string ⟨h.toArray⟩)) {b : Bool} (hv : decide (f = h) = b) : Ru P X o m l (.bool b) :=
  ru_binv ho hx hy (fun w => rfl) fun w _ => by
    subst hv
    simp [binOp, Op.stringOp]
    rw [Bool.eq_iff_iff]; simp

def CT (X : Cx) (l : List Res) (k : Nat) (t : World) (r : Res) : (Nat → Bool) → World → Prop := fun D w => if D k then Inv X w (l ++ [r]) else Inv X w l ∧ w.heap.size = t.heap.size ∧ w.tape = t.tape ∧ w.drawn = t.drawn
theorem CT.base {r : Res} {t : World} : ∀ D w, CT X l k t r D w → Inv X w l := fun D w h => by
  unfold CT at h
  split at h
  · refine ⟨⟨fun s hs => h.1.1 s (by simp [hs]), ?_⟩, h.2⟩
    have := h.1.2
    rw [List.pairwise_append] at this
    exact this.1
  · exact h.1
theorem SC.region_app {id : Nat} {L : List Oper} (n k : Nat) (r : World → Res) (hm : P.follows .mixedOrders = true) (hB : Region.lexTailB .any L.toArray n = true)
    (hg : ([k].all fun i => decide (i < n) && ((L[i]?).map (fun o => o.guard.isNone)).getD false) = true)
    (h : ∀ t : World, X.w0.heap.size ≤ t.heap.size → SS P X L.toArray [k] (CT X l k t (r t)) (fun a' => ∀ D w', (∀ i ∈ [k], D i = true) → CT X l k t (r t) D w' → wpList P L.toArray Q (L.drop n) a' w') 0 (L.take n) m) : SC P X (.region id L.toArray true) Q m l :=
  fun a w hf hi => wp_region_spread_tail n [k] (CT X l k { w with drawn := w.drawn + 1 } (r { w with drawn := w.drawn + 1 })) hm hB hg (by unfold CT; exact ⟨hi.draw1, rfl, rfl, rfl⟩) (h { w with drawn := w.drawn + 1 } hi.2.size a hf)
theorem SS.nilT {r : Res} {t : World} {k : Nat} {L : List Oper} {j : Nat} (h : SL P X ops Q L m (l ++ [r])) : SS P X ops sp C (fun a' => ∀ D w', (∀ i ∈ [k], D i = true) → CT X l k t r D w' → wpList P ops Q L a' w') j [] m := fun a hf => by
  unfold wpSpread
  intro D w' hD hC
  unfold CT at hC
  rw [if_pos (hD k (by simp))] at hC
  exact h a w' hf hC
theorem run_app0 {w : World} {e ty : TypeId} {vx : Value} {f : List UInt8} (ht : P.underlying t = some (.slice e)) (hz : (P.info? e).map (fun i => (i.zero, i.size, i.bytes)) = some (some (.int .u8 0), 1, 1)) (hb : BytesAt w vx f) :
    ∃ w', (Builtin.append_ #[t, t] ty #[.slice none 0 0, vx]).run P w = .ok (appV w e f.length) w' ∧ OwnBytes w' 0 e (appV w e f.length) f ∧ Only (fun _ => False) w w' := by
  obtain ⟨i, hi, h3⟩ := map_some hz
  simp only [Prod.mk.injEq] at h3
  obtain ⟨z0, z1, z2⟩ := h3
  have hlen := hb.len
  by_cases h0 : f.length = 0
  · have : f = [] := List.eq_nil_of_length_eq_zero h0
    subst this
    obtain ⟨a, c, rfl⟩ := hb.form
    refine ⟨w, ?_, ownb_nil w e, Only.refl _ _⟩
    cases a <;> simp [Builtin.append_, run_underlying ht, sizeOf, typeInfo, hi, Builtin.lenOf, Builtin.firstCells, loadCells, loadCellsFrom, appV, appA, appC]
  · rcases hb with ⟨a, c, rfl, _, rfl⟩ | ⟨b, so, cap, rfl, h1, h2, h4⟩
    · exact absurd rfl h0
    · have hr := run_append_nil (P := P) w t ty e i (.int .u8 0) ht hi z0 ⟨b, so, none⟩ f.length cap (f.map bv) (by simp [z1]) (fun j u hj => by
          have hjl : j < f.length := by have := (List.getElem?_eq_some_iff.1 hj).1; simpa using this
          rw [add_at, h4 j hjl]
          simp only [List.getElem?_map, List.getElem?_eq_getElem hjl, Option.map_some] at hj
          exact hj) (by omega) (by omega) (by rw [z2]; omega)
      have hv : appV w e f.length = sl w.heap.size 0 f.length (grownCap w f.length 0 e) := by unfold appV appA appC; rw [if_neg h0, if_neg h0]
      rw [hv]
      refine ⟨_, hr, ⟨by simp, .inr ⟨w.heap.size, _, _, rfl, Nat.zero_le _, heap_alloc_new w.drew _, grownCap_ge _ _ _ _, grownCap_le_maxLen _ _ _ _ (by unfold maxLen; omega), ?_, ?_⟩⟩, ⟨rfl, rfl, rfl, by simp, fun k hk _ => heap_alloc_old w.drew _ hk⟩⟩
      · have := grownCap_ge w f.length 0 e
        simp only [Array.size_append, List.size_toArray, size_zeroCells, List.length_map]
        simp [Value.cells]; omega
      · simp
theorem run_call_app {w : World} {a : Act} {z : Operand} (ho : o.op = .call { callee := .builtin .append, args := #[z, x], argTypes := #[t, t] }) {vz vx v : Value} {w' : World} (hz : a.eval z = vz) (hx : a.eval x = vx)
    (h : (Builtin.append_ #[t, t] o.type #[vz, vx]).run P w = .ok v w') : (execOp a.eval o).run P w = .ok (.value v) w' := by
  unfold execOp; rw [ho]
  have he : #[z, x].map a.eval = #[vz, vx] := by simp [hz, hx]
  simp only [resolve, he, Sem.run_bind, Sem.run_pure, Result.andThen_ok, invoke, builtin, h]
theorem SS.append0 {t0 : World} {e : TypeId} {z : Operand} {vx : Value} {f : List UInt8} (hg : o.guard = none) (hd : o.dst = some d) (hn : d < X.n) (ho : o.op = .call { callee := .builtin .append, args := #[z, x], argTypes := #[t, t] })
    (ht : P.underlying t = some (.slice e)) (hz : (P.info? e).map (fun i => (i.zero, i.size, i.bytes)) = some (some (.int .u8 0), 1, 1)) (h0 : evM m z = some (.slice none 0 0)) (hx : evM m x = some vx) (hb : ∀ w, Inv X w l → BytesAt w vx f)
    (h : SS P X ops [k] (CT X l k t0 (rMine (appV t0 e f.length) f e)) K (k + 1) rest ((d, appV t0 e f.length) :: m)) : SS P X ops [k] (CT X l k t0 (rMine (appV t0 e f.length) f e)) K k (o :: rest) m := fun a hf => by
  unfold wpSpread
  rw [if_pos (by simp [Region.wanted, hg])]
  refine ⟨appV t0 e f.length, fun D w hD hf' => ?_, ?_⟩
  · have hk := hf' (by simp)
    unfold CT at hD
    rw [if_neg (by simp [hk])] at hD
    obtain ⟨hI, hs, htp, hdr⟩ := hD
    obtain ⟨w', hr, hO, hU⟩ := run_app0 (P := P) (ty := o.type) ht hz (hb w hI)
    have ev : appV w e f.length = appV t0 e f.length := by unfold appV appA appC grownCap; rw [hs, htp, hdr]
    rw [ev] at hr hO
    rw [run_call_app ho (hf.ev h0) (hf.ev hx) hr]
    refine ⟨rfl, ?_⟩
    unfold doneSet CT
    rw [if_pos (by simp)]
    refine hI.add hU hO (fun b hb => ?_)
    have := appV_own (show (appV t0 e f.length).ownBlock = some b from hb)
    omega
  · rw [hd]; exact h _ (hf.put hn _)
theorem SL.append0 {e : TypeId} {z : Operand} {vx : Value} {f : List UInt8} (hg : o.guard = none) (hd : o.dst = some d) (hn : d < X.n) (ho : o.op = .call { callee := .builtin .append, args := #[z, x], argTypes := #[t, t] })
    (ht : P.underlying t = some (.slice e)) (hz : (P.info? e).map (fun i => (i.zero, i.size, i.bytes)) = some (some (.int .u8 0), 1, 1)) (h0 : evM m z = some (.slice none 0 0)) (hx : evM m x = some vx) (hb : ∀ w, Inv X w l → BytesAt w vx f)
    (h : ∀ (q : Option Addr) (c : Nat), (∀ b, (Value.slice q f.length c).ownBlock = some b → X.w0.heap.size ≤ b) → SL P X ops Q rest ((d, .slice q f.length c) :: m) (l ++ [rMine (.slice q f.length c) f e])) : SL P X ops Q (o :: rest) m l := fun a w hf hI =>
  wpList_plain hg fun K' hK => by
    obtain ⟨w', hr, hO, hU⟩ := run_app0 (P := P) (ty := o.type) ht hz (hb w hI)
    unfold Oper.wp
    rw [run_call_app ho (hf.ev h0) (hf.ev hx) hr]
    simp only [Oper.upon_value, hd]
    have hown : ∀ b, (appV w e f.length).ownBlock = some b → w.heap.size ≤ b := fun b hb => Nat.le_of_eq (appV_own hb).symm
    exact hK _ _ (h _ _ (fun b hb => Nat.le_trans hI.2.size (hown b hb)) _ _ (hf.put hn _) (hI.add hU hO hown))
def SR (P : Program) (X : Cx) (c : Code) (Q : Exit → Act → World → Prop) (n : Nat) (m : List (Nat × Value)) (l : List Res) : Prop := ∀ a w, Fr X.n a m → Inv X w l → Code.rounds P c Q n a w
theorem SC.rounds {c : Code} (n : Nat) (h : SR P X c Q n m l) : SC P X (.loop c) Q m l := fun a w hf hI => wp_loop_rounds n (h a w hf hI)
theorem SR.next {c : Code} {n : Nat} (h : SC P X c (Exit.then (Code.rounds P c Q n) Q) m l) : SR P X c Q (n + 1) m l := fun a w hf hI => h a w hf hI
theorem SR.norm {c : Code} {n : Nat} (m' : List (Nat × Value)) (l' : List Res) (hm : Subs m m') (hl : l = l') (h : SR P X c Q n m' l') : SR P X c Q n m l := fun a w hf hI => h a w (hf.sub hm) (hl ▸ hI)
theorem Inv.keep {w : World} (h : Inv X w l) (n : Nat) : Inv X w (l.take n) := ⟨⟨fun s hs => h.1.1 s (List.mem_of_mem_take hs), h.1.2.sublist (List.take_sublist _ _)⟩, h.2⟩
theorem SE.round {c : Code} {n : Nat} (h : SR P X c Q n m l) : SE X (Exit.then (Code.rounds P c Q n) Q) .normal m l := fun a w hf hI => h a w hf hI
end
end Go.Proofs.Ytghfkgcaglabpaa

/-
  The light machine: rows of one's own, of elements of one cell, that grow. No program is named here.
-/
namespace Go.Proofs.Ytghfkgcaglabpaa
open Go.RowKit

def rRow (v : Value) (xs : List Value) (e : TypeId) : Res where
  ok w := w.ownsRow 0 e 1 v xs.length xs
  fp j := v.ownBlock = some j
  lt w h b hb := (World.ownsRow.lt h b hb).2
  st w w' h hw := by
    refine ⟨h.1, ?_⟩
    rcases h.2 with ⟨h1, h2⟩ | ⟨g, cap, cur, rfl, h1, h2, h3⟩
    · exact .inl ⟨h1, h2⟩
    · exact .inr ⟨g, cap, cur, rfl, h1, by rw [hw g rfl]; exact h2, h3⟩
theorem row_nil (w : World) (e : TypeId) : w.ownsRow 0 e 1 (.slice none 0 0) ([] : List Value).length [] := World.ownsRow_nil w 0 e 1
def rowAddr (q : Option Addr) (i : Nat) : Addr := ⟨(q.getD ⟨0, 0, none⟩).block, (q.getD ⟨0, 0, none⟩).off + i, none⟩
section
variable {P : Program} {X : Cx} {ops : Array Oper} {Q : Exit → Act → World → Prop} {rest : List Oper} {o : Oper} {m : List (Nat × Value)} {l : List Res} {v : Value} {d k : Nat} {x y : Operand} {t t' : TypeId}
theorem SC.rows {c : Code} (r : Res) (hf : ∀ b, ¬ r.fp b) (hr : ∀ w, r.ok w) (h : SC P X c Q m (l ++ [r])) : SC P X c Q m l := fun a w hfr hI => h a w hfr (hI.add (Only.refl _ _) (hr w) (fun b hb => (hf b hb).elim))
theorem row_form {w : World} {q : Option Addr} {n c : Nat} {xs : List Value} {e : TypeId} (h : w.ownsRow 0 e 1 (.slice q n c) xs.length xs) : n = xs.length ∧ (0 < n → ∃ g cur, q = some ⟨g, 0, none⟩ ∧ w.heap[g]? = some (.cells cur e (0, 0)) ∧ cur.toList.take n = xs) := by
  rcases h.2 with ⟨h1, h2⟩ | ⟨g, cap, cur, h1, _, h2, h3, h4, h5, h6⟩
  · simp only [Value.slice.injEq] at h1
    exact ⟨by omega, fun h => by omega⟩
  · simp only [Value.slice.injEq] at h1
    obtain ⟨rfl, rfl, rfl⟩ := h1
    exact ⟨rfl, fun _ => ⟨g, cur, rfl, h2, by simpa using h6⟩⟩
theorem ru_index_row {e ri : Nat} {ix : Operand} {q : Option Addr} {n c : Nat} {xs : List Value} {i : Int} {kk : IntKind} (hs : SliIs P t e 1) (ho : o.op = .indexAddr t x ix) (hx : evM m x = some (.slice q n c)) (hix : evM m ix = some (.int kk i)) (hi : l[ri]? = some (rRow (.slice q n c) xs e))
    (h0 : 0 ≤ i) (hn : i < n) : Ru P X o m l (.pointer (some (rowAddr q i.toNat))) := fun a w hf hI => by
  obtain ⟨rfl, h2⟩ := row_form (show w.ownsRow 0 e 1 (.slice q n c) xs.length xs from hI.1.get hi)
  obtain ⟨g, cur, rfl, _⟩ := h2 (by omega)
  exact ru_indexS (P := P) (X := X) (m := m) (l := l) hs ho hx hix h0 hn (by rw [Nat.mul_one]; rfl) a w hf hI
theorem ru_load_row {e ri : Nat} {q : Option Addr} {n c i : Nat} {xs : List Value} {z u : Value} (ht : TySc P t z) (ho : o.op = .load t x) (hx : evM m x = some (.pointer (some (rowAddr q i)))) (hi : l[ri]? = some (rRow (.slice q n c) xs e)) (hu : xs[i]? = some u) : Ru P X o m l u := fun a w hf hI => by
  obtain ⟨rfl, h2⟩ := row_form (show w.ownsRow 0 e 1 (.slice q n c) xs.length xs from hI.1.get hi)
  have hil : i < xs.length := (List.getElem?_eq_some_iff.1 hu).1
  obtain ⟨g, cur, rfl, h3, h4⟩ := h2 (by omega)
  have hc : w.cell? ⟨g, 0 + i, none⟩ = some u := by
    rw [cell_of_row _ _ _ _ _ _ h3]
    have : (cur.toList.take xs.length)[i]? = some u := by rw [h4]; exact hu
    rw [List.getElem?_take, if_pos hil] at this
    simpa using this
  unfold execOp; rw [ho]
  simp only [hf.ev hx, Instr.loadAt, Instr.sureAddr, Sem.run_bind, Sem.run_pure, Result.andThen_ok, loadVar, (ht.run w).1]
  have h5 : w.cell? (rowAddr (some ⟨g, 0, none⟩) i) = some u := hc
  simp [h5]
theorem run_row1 {w : World} {e ty : TypeId} {v u z : Value} {xs : List Value} {g2 : Nat} {bytes : Nat} (ht : P.underlying t = some (.slice e)) (hz : (P.info? e).map (fun i => (i.zero, i.size, i.bytes)) = some (some z, 1, bytes)) (hzs : z.cells.size = 1) (hu : u.oneCell' = true)
    (hv : w.ownsRow 0 e 1 v xs.length xs) (hx : Blk w g2 [u] e) (hb : (xs.length + 1) * bytes ≤ 140737488355328) (hn : xs.length + 1 ≤ maxLen) :
    ∃ v' w', (Builtin.append_ #[t, t] ty #[v, sl g2 0 1 1]).run P w = .ok v' w' ∧ w'.ownsRow 0 e 1 v' (xs ++ [u]).length (xs ++ [u]) ∧ Only (fun k => v.ownBlock = some k) w w' ∧ (∀ b, v'.ownBlock = some b → v.ownBlock = some b ∨ w.heap.size ≤ b) := by
  obtain ⟨i, hi, h3⟩ := map_some hz
  simp only [Prod.mk.injEq] at h3
  obtain ⟨z0, z1, z2⟩ := h3
  have hnews : ∀ j q, ([u] : List Value)[j]? = some q → w.cell? ((⟨g2, 0, none⟩ : Addr).add j) = some q := by
    intro j q hj
    rw [add_at, hx.cell]
    simpa using hj
  obtain ⟨v', w', hr, hO, hG, _⟩ := run_append_own (P := P) w 0 t ty e i z 1 bytes ht hi z0 z1 z2 hzs (by decide) v xs.length xs hv ⟨g2, 0, none⟩ 1 1 [u] (by simp) hnews (fun q hq => by simp at hq; subst hq; exact hu) hn hb (Nat.zero_le _)
  refine ⟨v', w', hr, by simpa using hO, grown_only hG _ (fun k h => h), ?_⟩
  rcases hv.2 with ⟨rfl, h0⟩ | ⟨g, cap, cur, rfl, _, hg, hnc, hcm, hcs, htake⟩
  · have hxs : xs = [] := List.eq_nil_of_length_eq_zero h0
    subst hxs
    have h2 := run_append_nil (P := P) w t ty e i z ht hi z0 ⟨g2, 0, none⟩ 1 1 [u] (by simp [z1]) hnews (by omega) (by omega) (by rw [z2]; simp at hb; omega)
    rw [hr] at h2
    injection h2 with e1
    subst e1
    exact fun b hb => .inr (by simp [Value.ownBlock] at hb; omega)
  · by_cases hroom : xs.length + 1 ≤ cap
    · have h2 := run_append_room (P := P) w t ty e i ht hi g xs.length cap cur hg ⟨g2, 0, none⟩ 1 1 [u] (by simp [z1]) hnews (fun q hq => by simp at hq; subst hq; exact hu) hroom (by rw [z1]; simp; omega)
      rw [hr] at h2
      injection h2 with e1
      subst e1
      exact fun b hb => .inl (by simpa [Value.ownBlock] using hb)
    · have holds : ∀ j q, xs[j]? = some q → w.cell? ((⟨g, 0, none⟩ : Addr).add j) = some q := World.ownsRow.cells hv (g := g) rfl
      have h2 := run_append_grow (P := P) w t ty e i z ht hi z0 ⟨g, 0, none⟩ xs.length cap xs (by simp [z1]) holds ⟨g2, 0, none⟩ 1 1 [u] (by simp [z1]) hnews (by omega) (by unfold maxLen at hn; omega) (growslice_fits (by omega) (by rw [z2]; exact hb))
      rw [hr] at h2
      injection h2 with e1
      subst e1
      exact fun b hb => .inr (by simp [Value.ownBlock] at hb; omega)
theorem SL.append_row {e ri rj : Nat} {a1 a2 : Operand} {u z : Value} {xs : List Value} {g2 bytes : Nat} {q : Option Addr} {n c : Nat} (hg : o.guard = none) (hd : o.dst = some d) (hn : d < X.n) (ho : o.op = .call { callee := .builtin .append, args := #[a1, a2], argTypes := #[t, t] })
    (ht : P.underlying t = some (.slice e)) (hz : (P.info? e).map (fun i => (i.zero, i.size, i.bytes)) = some (some z, 1, bytes)) (hzs : z.cells.size = 1) (hu : u.oneCell' = true) (h1 : evM m a1 = some (.slice q n c)) (h2 : evM m a2 = some (sl g2 0 1 1)) (hi : l[ri]? = some (rRow (.slice q n c) xs e)) (hj : l[rj]? = some (rBlk g2 [u] e))
    (hb : (xs.length + 1) * bytes ≤ 140737488355328) (hl : xs.length + 1 ≤ maxLen) (hS : ∀ b, (Value.slice q n c).ownBlock = some b → X.S b ∨ X.w0.heap.size ≤ b)
    (k : ∀ (q' : Option Addr) (c' : Nat), (∀ b, (Value.slice q' (n + 1) c').ownBlock = some b → X.S b ∨ X.w0.heap.size ≤ b) → SL P X ops Q rest ((d, .slice q' (n + 1) c') :: m) (l.set ri (rRow (.slice q' (n + 1) c') (xs ++ [u]) e))) : SL P X ops Q (o :: rest) m l := fun a w hf hI =>
  wpList_plain hg fun K' hK => by
    obtain ⟨en, _⟩ := row_form (show w.ownsRow 0 e 1 (.slice q n c) xs.length xs from hI.1.get hi)
    obtain ⟨v', w', hr, hO, hU, hN⟩ := run_row1 (P := P) (ty := o.type) ht hz hzs hu (hI.1.get hi) (hI.1.get hj) hb hl
    unfold Oper.wp
    rw [run_call_app ho (hf.ev h1) (hf.ev h2) hr]
    simp only [Oper.upon_value, hd]
    obtain ⟨q', c', rfl⟩ : ∃ q' c', v' = .slice q' (n + 1) c' := by
      rcases hO.2 with ⟨_, h0⟩ | ⟨g, cap, cur, rfl, _⟩
      · simp at h0
      · exact ⟨some ⟨g, 0, none⟩, cap, by rw [en]; simp⟩
    refine hK _ _ (k q' c' (fun b hb => ?_) _ _ (hf.put hn _) (hI.upd hi hU hS hO (fun b hb => hN b hb)))
    rcases hN b hb with h | h
    · exact hS b h
    · exact .inr (Nat.le_trans hI.2.size h)
theorem SE.keep {e : Exit} (j : Nat) (h : SE X Q e m (l.take j)) : SE X Q e m l := fun a w hf hI => h a w hf (hI.keep j)
theorem ru_strne {f h : List UInt8} (hu : P.underlying t = some .string) (ho : o.op = .binOp .neq t x y t') (hx : evM m x = some (.string ⟨f.toArray⟩)) (hy : evM m y = some (.string ⟨h.toArray⟩)) {b : Bool} (hv : (!decide (f = h)) = b) : Ru P X o m l (.bool b) :=
  ru_binv ho hx hy (fun w => rfl) fun w _ => by
    subst hv
    simp [binOp, Op.stringOp]
    rw [Bool.eq_iff_iff]; simp
theorem ru_load_old {u z : Value} {b o' : Nat} (hS : ∀ b, ¬ X.S b) (ht : TySc P t z) (ho : o.op = .load t x) (hx : evM m x = some (.pointer (some ⟨b, o', none⟩))) (hc : X.w0.cell? ⟨b, o', none⟩ = some u) : Ru P X o m l u := fun a w hf hI => by
  unfold execOp; rw [ho]
  simp only [hf.ev hx, Instr.loadAt, Instr.sureAddr, Sem.run_bind, Sem.run_pure, Result.andThen_ok, loadVar, (ht.run w).1]
  have h1 : w.cell? ⟨b, o', none⟩ = some u := by rw [← hc]; exact hI.2.cell (a := ⟨b, o', none⟩) (block_lt_of_cell hc) (hS b)
  simp [h1]
end
end Go.Proofs.Ytghfkgcaglabpaa

/-
  Facts on the types and functions of this seat's program.
-/
namespace Go.Proofs.Ytghfkgcaglabpaa
open Go.RowKit
set_option maxRecDepth 100000
set_option maxHeartbeats 4000000
theorem ts3 : TySc Try.prog 3 (iw 0) := ⟨⟨_, Try.underlying3, rfl⟩, by kernel_rfl, rfl⟩
theorem ts4 : TySc Try.prog 4 (bo false) := ⟨⟨_, Try.underlying4, rfl⟩, by kernel_rfl, rfl⟩
theorem ts26 : TySc Try.prog 26 (Value.slice none 0 0) := ⟨⟨_, Try.underlying26, rfl⟩, by kernel_rfl, rfl⟩
theorem ts28 : TySc Try.prog 28 (Value.slice none 0 0) := ⟨⟨_, Try.underlying28, rfl⟩, by kernel_rfl, rfl⟩
theorem ts36 : TySc Try.prog 36 (Value.pointer none) := ⟨⟨_, Try.underlying36, rfl⟩, by kernel_rfl, rfl⟩
theorem ts37 : TySc Try.prog 37 (Value.pointer none) := ⟨⟨_, Try.underlying37, rfl⟩, by kernel_rfl, rfl⟩
theorem ts38 : TySc Try.prog 38 (Value.pointer none) := ⟨⟨_, Try.underlying38, rfl⟩, by kernel_rfl, rfl⟩
theorem ts39 : TySc Try.prog 39 (Value.pointer none) := ⟨⟨_, Try.underlying39, rfl⟩, by kernel_rfl, rfl⟩
theorem ts40 : TySc Try.prog 40 (Value.pointer none) := ⟨⟨_, Try.underlying40, rfl⟩, by kernel_rfl, rfl⟩
theorem ts41 : TySc Try.prog 41 (Value.pointer none) := ⟨⟨_, Try.underlying41, rfl⟩, by kernel_rfl, rfl⟩
theorem ts61 : TySc Try.prog 61 (Value.slice none 0 0) := ⟨⟨_, Try.underlying61, rfl⟩, by kernel_rfl, rfl⟩
theorem ta30 : TyAg Try.prog 30 [iw 0, iw 0, Value.slice none 0 0, bo false] := ⟨⟨_, Try.underlying30, rfl⟩, by kernel_rfl, rfl⟩
theorem ta33 : TyAg Try.prog 33 [iw 0, Value.slice none 0 0, Value.slice none 0 0] := ⟨⟨_, Try.underlying33, rfl⟩, by kernel_rfl, rfl⟩
theorem ta49 : TyAg Try.prog 49 [Value.slice none 0 0, bo false, iw 0] := ⟨⟨_, Try.underlying49, rfl⟩, by kernel_rfl, rfl⟩
theorem ta67 : TyAg Try.prog 67 [iw 0, bo false] := ⟨⟨_, Try.underlying67, rfl⟩, by kernel_rfl, rfl⟩
theorem ta84 : TyAg Try.prog 84 [iw 0, iw 0, iw 0, iw 0, iw 0, iw 0, iw 0, iw 0, iw 0, iw 0, iw 0, iw 0, iw 0, iw 0, iw 0, iw 0, iw 0, iw 0] := ⟨⟨_, Try.underlying84, rfl⟩, by kernel_rfl, rfl⟩
theorem ta96 : TyAg Try.prog 96 [iw 0, bo false, Value.slice none 0 0, bo false] := ⟨⟨_, Try.underlying96, rfl⟩, by kernel_rfl, rfl⟩
theorem ta99 : TyAg Try.prog 99 [iw 0, iw 0, iw 0, iw 0, iw 0, iw 0, iw 0, iw 0, Value.slice none 0 0, iw 0, Value.slice none 0 0, iw 0, Value.slice none 0 0, iw 0, Value.slice none 0 0, iw 0, Value.slice none 0 0, iw 0, Value.slice none 0 0, iw 0, Value.slice none 0 0, iw 0, Value.slice none 0 0, iw 0, Value.slice none 0 0, iw 0, Value.slice none 0 0, iw 0, Value.slice none 0 0, iw 0, Value.slice none 0 0, iw 0, Value.slice none 0 0, iw 0, Value.slice none 0 0, iw 0, Value.slice none 0 0, iw 0, Value.slice none 0 0, iw 0, iw 0, bo false, Value.slice none 0 0, bo false, iw 0, bo false, Value.slice none 0 0, bo false, iw 0, bo false, Value.slice none 0 0, bo false, iw 0, bo false, Value.slice none 0 0, bo false, iw 0, bo false, Value.slice none 0 0, bo false, iw 0, bo false, Value.slice none 0 0, bo false, iw 0, bo false, Value.slice none 0 0, bo false, iw 0, bo false, Value.slice none 0 0, bo false, iw 0, bo false, Value.slice none 0 0, bo false, iw 0, bo false, Value.slice none 0 0, bo false, iw 0, bo false, Value.slice none 0 0, bo false, iw 0, bo false, Value.slice none 0 0, bo false, iw 0, bo false, Value.slice none 0 0, bo false, iw 0, bo false, Value.slice none 0 0, bo false, iw 0, bo false, Value.slice none 0 0, bo false, iw 0, bo false, Value.slice none 0 0, bo false, iw 0] := ⟨⟨_, Try.underlying99, rfl⟩, by kernel_rfl, rfl⟩
theorem ta105 : TyAg Try.prog 105 [iw 0, bo false, Value.slice none 0 0, bo false] := ⟨⟨_, Try.underlying105, rfl⟩, by kernel_rfl, rfl⟩
theorem ta108 : TyAg Try.prog 108 [iw 0, iw 0, iw 0, iw 0, iw 0, iw 0, iw 0, iw 0, Value.slice none 0 0, iw 0, Value.slice none 0 0, iw 0, Value.slice none 0 0, iw 0, Value.slice none 0 0, iw 0, Value.slice none 0 0, iw 0, Value.slice none 0 0, iw 0, Value.slice none 0 0, iw 0, Value.slice none 0 0, iw 0, Value.slice none 0 0, iw 0, Value.slice none 0 0, iw 0, Value.slice none 0 0, iw 0, Value.slice none 0 0, iw 0, Value.slice none 0 0, iw 0, Value.slice none 0 0, iw 0, Value.slice none 0 0, iw 0, Value.slice none 0 0, iw 0, iw 0, bo false, Value.slice none 0 0, bo false, iw 0, bo false, Value.slice none 0 0, bo false, iw 0, bo false, Value.slice none 0 0, bo false, iw 0, bo false, Value.slice none 0 0, bo false, iw 0, bo false, Value.slice none 0 0, bo false, iw 0, bo false, Value.slice none 0 0, bo false, iw 0, bo false, Value.slice none 0 0, bo false, iw 0, bo false, Value.slice none 0 0, bo false, iw 0, bo false, Value.slice none 0 0, bo false, iw 0, bo false, Value.slice none 0 0, bo false, iw 0, bo false, Value.slice none 0 0, bo false, iw 0, bo false, Value.slice none 0 0, bo false, iw 0, bo false, Value.slice none 0 0, bo false, iw 0, bo false, Value.slice none 0 0, bo false, iw 0, bo false, Value.slice none 0 0, bo false, iw 0, bo false, Value.slice none 0 0, bo false, iw 0] := ⟨⟨_, Try.underlying108, rfl⟩, by kernel_rfl, rfl⟩
theorem fd30_0 : FldIs Try.prog 30 0 0 := ⟨_, _, Try.underlying30, rfl, rfl, by kernel_rfl⟩
theorem fd30_1 : FldIs Try.prog 30 1 1 := ⟨_, _, Try.underlying30, rfl, rfl, by kernel_rfl⟩
theorem fd30_2 : FldIs Try.prog 30 2 2 := ⟨_, _, Try.underlying30, rfl, rfl, by kernel_rfl⟩
theorem fd30_3 : FldIs Try.prog 30 3 3 := ⟨_, _, Try.underlying30, rfl, rfl, by kernel_rfl⟩
theorem fd33_0 : FldIs Try.prog 33 0 0 := ⟨_, _, Try.underlying33, rfl, rfl, by kernel_rfl⟩
theorem fd33_1 : FldIs Try.prog 33 1 1 := ⟨_, _, Try.underlying33, rfl, rfl, by kernel_rfl⟩
theorem fd33_2 : FldIs Try.prog 33 2 2 := ⟨_, _, Try.underlying33, rfl, rfl, by kernel_rfl⟩
theorem fd43_0 : FldIs Try.prog 43 0 0 := ⟨_, _, Try.underlying43, rfl, rfl, by kernel_rfl⟩
theorem fd43_1 : FldIs Try.prog 43 1 1 := ⟨_, _, Try.underlying43, rfl, rfl, by kernel_rfl⟩
theorem fd43_2 : FldIs Try.prog 43 2 2 := ⟨_, _, Try.underlying43, rfl, rfl, by kernel_rfl⟩
theorem fd43_3 : FldIs Try.prog 43 3 3 := ⟨_, _, Try.underlying43, rfl, rfl, by kernel_rfl⟩
theorem fd43_4 : FldIs Try.prog 43 4 4 := ⟨_, _, Try.underlying43, rfl, rfl, by kernel_rfl⟩
theorem fd43_5 : FldIs Try.prog 43 5 5 := ⟨_, _, Try.underlying43, rfl, rfl, by kernel_rfl⟩
theorem fd43_6 : FldIs Try.prog 43 6 6 := ⟨_, _, Try.underlying43, rfl, rfl, by kernel_rfl⟩
theorem fd43_7 : FldIs Try.prog 43 7 7 := ⟨_, _, Try.underlying43, rfl, rfl, by kernel_rfl⟩
theorem fd49_0 : FldIs Try.prog 49 0 0 := ⟨_, _, Try.underlying49, rfl, rfl, by kernel_rfl⟩
theorem fd49_2 : FldIs Try.prog 49 2 2 := ⟨_, _, Try.underlying49, rfl, rfl, by kernel_rfl⟩
theorem fd67_0 : FldIs Try.prog 67 0 0 := ⟨_, _, Try.underlying67, rfl, rfl, by kernel_rfl⟩
theorem fd67_1 : FldIs Try.prog 67 1 1 := ⟨_, _, Try.underlying67, rfl, rfl, by kernel_rfl⟩
theorem fd84_0 : FldIs Try.prog 84 0 0 := ⟨_, _, Try.underlying84, rfl, rfl, by kernel_rfl⟩
theorem fd84_1 : FldIs Try.prog 84 1 16 := ⟨_, _, Try.underlying84, rfl, rfl, by kernel_rfl⟩
theorem fd84_2 : FldIs Try.prog 84 2 17 := ⟨_, _, Try.underlying84, rfl, rfl, by kernel_rfl⟩
theorem fd86_0 : FldIs Try.prog 86 0 0 := ⟨_, _, Try.underlying86, rfl, rfl, by kernel_rfl⟩
theorem fd86_1 : FldIs Try.prog 86 1 1 := ⟨_, _, Try.underlying86, rfl, rfl, by kernel_rfl⟩
theorem fd86_2 : FldIs Try.prog 86 2 2 := ⟨_, _, Try.underlying86, rfl, rfl, by kernel_rfl⟩
theorem fd86_3 : FldIs Try.prog 86 3 20 := ⟨_, _, Try.underlying86, rfl, rfl, by kernel_rfl⟩
theorem fd93_0 : FldIs Try.prog 93 0 0 := ⟨_, _, Try.underlying93, rfl, rfl, by kernel_rfl⟩
theorem fd93_1 : FldIs Try.prog 93 1 1 := ⟨_, _, Try.underlying93, rfl, rfl, by kernel_rfl⟩
theorem fd96_0 : FldIs Try.prog 96 0 0 := ⟨_, _, Try.underlying96, rfl, rfl, by kernel_rfl⟩
theorem fd96_1 : FldIs Try.prog 96 1 1 := ⟨_, _, Try.underlying96, rfl, rfl, by kernel_rfl⟩
theorem fd96_2 : FldIs Try.prog 96 2 2 := ⟨_, _, Try.underlying96, rfl, rfl, by kernel_rfl⟩
theorem fd96_3 : FldIs Try.prog 96 3 3 := ⟨_, _, Try.underlying96, rfl, rfl, by kernel_rfl⟩
theorem fd99_0 : FldIs Try.prog 99 0 0 := ⟨_, _, Try.underlying99, rfl, rfl, by kernel_rfl⟩
theorem fd99_1 : FldIs Try.prog 99 1 8 := ⟨_, _, Try.underlying99, rfl, rfl, by kernel_rfl⟩
theorem fd99_2 : FldIs Try.prog 99 2 40 := ⟨_, _, Try.underlying99, rfl, rfl, by kernel_rfl⟩
theorem fd99_3 : FldIs Try.prog 99 3 104 := ⟨_, _, Try.underlying99, rfl, rfl, by kernel_rfl⟩
theorem fd102_0 : FldIs Try.prog 102 0 0 := ⟨_, _, Try.underlying102, rfl, rfl, by kernel_rfl⟩
theorem fd102_1 : FldIs Try.prog 102 1 1 := ⟨_, _, Try.underlying102, rfl, rfl, by kernel_rfl⟩
theorem fd105_0 : FldIs Try.prog 105 0 0 := ⟨_, _, Try.underlying105, rfl, rfl, by kernel_rfl⟩
theorem fd105_1 : FldIs Try.prog 105 1 1 := ⟨_, _, Try.underlying105, rfl, rfl, by kernel_rfl⟩
theorem fd105_2 : FldIs Try.prog 105 2 2 := ⟨_, _, Try.underlying105, rfl, rfl, by kernel_rfl⟩
theorem fd105_3 : FldIs Try.prog 105 3 3 := ⟨_, _, Try.underlying105, rfl, rfl, by kernel_rfl⟩
theorem fd108_0 : FldIs Try.prog 108 0 0 := ⟨_, _, Try.underlying108, rfl, rfl, by kernel_rfl⟩
theorem fd108_1 : FldIs Try.prog 108 1 8 := ⟨_, _, Try.underlying108, rfl, rfl, by kernel_rfl⟩
theorem fd108_2 : FldIs Try.prog 108 2 40 := ⟨_, _, Try.underlying108, rfl, rfl, by kernel_rfl⟩
theorem fd108_3 : FldIs Try.prog 108 3 104 := ⟨_, _, Try.underlying108, rfl, rfl, by kernel_rfl⟩
theorem fd122_0 : FldIs Try.prog 122 0 0 := ⟨_, _, Try.underlying122, rfl, rfl, by kernel_rfl⟩
theorem fd122_1 : FldIs Try.prog 122 1 1 := ⟨_, _, Try.underlying122, rfl, rfl, by kernel_rfl⟩
theorem fd122_2 : FldIs Try.prog 122 2 2 := ⟨_, _, Try.underlying122, rfl, rfl, by kernel_rfl⟩
theorem fd122_3 : FldIs Try.prog 122 3 3 := ⟨_, _, Try.underlying122, rfl, rfl, by kernel_rfl⟩
theorem fd122_4 : FldIs Try.prog 122 4 4 := ⟨_, _, Try.underlying122, rfl, rfl, by kernel_rfl⟩
theorem fd122_5 : FldIs Try.prog 122 5 5 := ⟨_, _, Try.underlying122, rfl, rfl, by kernel_rfl⟩
theorem ar82 : ArrIs Try.prog 82 16 3 1 := ⟨Try.underlying82, by kernel_rfl⟩
theorem ar91 : ArrIs Try.prog 91 8 3 1 := ⟨Try.underlying91, by kernel_rfl⟩
theorem ar94 : ArrIs Try.prog 94 16 93 2 := ⟨Try.underlying94, by kernel_rfl⟩
theorem ar97 : ArrIs Try.prog 97 16 96 4 := ⟨Try.underlying97, by kernel_rfl⟩
theorem ar103 : ArrIs Try.prog 103 16 102 2 := ⟨Try.underlying103, by kernel_rfl⟩
theorem ar106 : ArrIs Try.prog 106 16 105 4 := ⟨Try.underlying106, by kernel_rfl⟩
theorem si22 : SliIs Try.prog 22 30 4 := ⟨Try.underlying22, by kernel_rfl⟩
theorem si26 : SliIs Try.prog 26 3 1 := ⟨Try.underlying26, by kernel_rfl⟩
theorem si27 : SliIs Try.prog 27 28 1 := ⟨Try.underlying27, by kernel_rfl⟩
theorem si28 : SliIs Try.prog 28 5 1 := ⟨Try.underlying28, by kernel_rfl⟩
theorem si61 : SliIs Try.prog 61 67 2 := ⟨Try.underlying61, by kernel_rfl⟩
theorem si130 : SliIs Try.prog 130 26 1 := ⟨Try.underlying130, by kernel_rfl⟩
theorem co6 : CallOk Try.prog 6 := ⟨_, Try.func6, rfl, rfl⟩
theorem co7 : CallOk Try.prog 7 := ⟨_, Try.func7, rfl, rfl⟩
theorem co9 : CallOk Try.prog 9 := ⟨_, Try.func9, rfl, rfl⟩
theorem co10 : CallOk Try.prog 10 := ⟨_, Try.func10, rfl, rfl⟩
theorem co12 : CallOk Try.prog 12 := ⟨_, Try.func12, rfl, rfl⟩
theorem co13 : CallOk Try.prog 13 := ⟨_, Try.func13, rfl, rfl⟩
theorem co16 : CallOk Try.prog 16 := ⟨_, Try.func16, rfl, rfl⟩
theorem co17 : CallOk Try.prog 17 := ⟨_, Try.func17, rfl, rfl⟩
theorem co18 : CallOk Try.prog 18 := ⟨_, Try.func18, rfl, rfl⟩
theorem co19 : CallOk Try.prog 19 := ⟨_, Try.func19, rfl, rfl⟩
theorem co20 : CallOk Try.prog 20 := ⟨_, Try.func20, rfl, rfl⟩
theorem co21 : CallOk Try.prog 21 := ⟨_, Try.func21, rfl, rfl⟩
theorem co22 : CallOk Try.prog 22 := ⟨_, Try.func22, rfl, rfl⟩
theorem co23 : CallOk Try.prog 23 := ⟨_, Try.func23, rfl, rfl⟩
theorem co24 : CallOk Try.prog 24 := ⟨_, Try.func24, rfl, rfl⟩
theorem co25 : CallOk Try.prog 25 := ⟨_, Try.func25, rfl, rfl⟩
theorem co26 : CallOk Try.prog 26 := ⟨_, Try.func26, rfl, rfl⟩
theorem co27 : CallOk Try.prog 27 := ⟨_, Try.func27, rfl, rfl⟩
theorem co28 : CallOk Try.prog 28 := ⟨_, Try.func28, rfl, rfl⟩
theorem co29 : CallOk Try.prog 29 := ⟨_, Try.func29, rfl, rfl⟩
theorem co30 : CallOk Try.prog 30 := ⟨_, Try.func30, rfl, rfl⟩
theorem co31 : CallOk Try.prog 31 := ⟨_, Try.func31, rfl, rfl⟩
theorem co34 : CallOk Try.prog 34 := ⟨_, Try.func34, rfl, rfl⟩
theorem co35 : CallOk Try.prog 35 := ⟨_, Try.func35, rfl, rfl⟩
theorem co36 : CallOk Try.prog 36 := ⟨_, Try.func36, rfl, rfl⟩
theorem co37 : CallOk Try.prog 37 := ⟨_, Try.func37, rfl, rfl⟩
theorem co38 : CallOk Try.prog 38 := ⟨_, Try.func38, rfl, rfl⟩
theorem co39 : CallOk Try.prog 39 := ⟨_, Try.func39, rfl, rfl⟩
theorem co40 : CallOk Try.prog 40 := ⟨_, Try.func40, rfl, rfl⟩
theorem co41 : CallOk Try.prog 41 := ⟨_, Try.func41, rfl, rfl⟩
theorem co42 : CallOk Try.prog 42 := ⟨_, Try.func42, rfl, rfl⟩
theorem co43 : CallOk Try.prog 43 := ⟨_, Try.func43, rfl, rfl⟩
theorem co44 : CallOk Try.prog 44 := ⟨_, Try.func44, rfl, rfl⟩
theorem co45 : CallOk Try.prog 45 := ⟨_, Try.func45, rfl, rfl⟩
theorem co46 : CallOk Try.prog 46 := ⟨_, Try.func46, rfl, rfl⟩
theorem co47 : CallOk Try.prog 47 := ⟨_, Try.func47, rfl, rfl⟩
theorem co48 : CallOk Try.prog 48 := ⟨_, Try.func48, rfl, rfl⟩
theorem co49 : CallOk Try.prog 49 := ⟨_, Try.func49, rfl, rfl⟩
theorem co50 : CallOk Try.prog 50 := ⟨_, Try.func50, rfl, rfl⟩
theorem co51 : CallOk Try.prog 51 := ⟨_, Try.func51, rfl, rfl⟩
theorem co52 : CallOk Try.prog 52 := ⟨_, Try.func52, rfl, rfl⟩
theorem co53 : CallOk Try.prog 53 := ⟨_, Try.func53, rfl, rfl⟩
theorem co55 : CallOk Try.prog 55 := ⟨_, Try.func55, rfl, rfl⟩
theorem co56 : CallOk Try.prog 56 := ⟨_, Try.func56, rfl, rfl⟩
theorem co57 : CallOk Try.prog 57 := ⟨_, Try.func57, rfl, rfl⟩
theorem co58 : CallOk Try.prog 58 := ⟨_, Try.func58, rfl, rfl⟩
theorem co59 : CallOk Try.prog 59 := ⟨_, Try.func59, rfl, rfl⟩
theorem co60 : CallOk Try.prog 60 := ⟨_, Try.func60, rfl, rfl⟩
theorem co61 : CallOk Try.prog 61 := ⟨_, Try.func61, rfl, rfl⟩
theorem co62 : CallOk Try.prog 62 := ⟨_, Try.func62, rfl, rfl⟩
theorem co63 : CallOk Try.prog 63 := ⟨_, Try.func63, rfl, rfl⟩
theorem co64 : CallOk Try.prog 64 := ⟨_, Try.func64, rfl, rfl⟩
theorem co65 : CallOk Try.prog 65 := ⟨_, Try.func65, rfl, rfl⟩
theorem co66 : CallOk Try.prog 66 := ⟨_, Try.func66, rfl, rfl⟩
theorem co67 : CallOk Try.prog 67 := ⟨_, Try.func67, rfl, rfl⟩
theorem co68 : CallOk Try.prog 68 := ⟨_, Try.func68, rfl, rfl⟩
theorem co69 : CallOk Try.prog 69 := ⟨_, Try.func69, rfl, rfl⟩
theorem co70 : CallOk Try.prog 70 := ⟨_, Try.func70, rfl, rfl⟩
theorem co71 : CallOk Try.prog 71 := ⟨_, Try.func71, rfl, rfl⟩
theorem co72 : CallOk Try.prog 72 := ⟨_, Try.func72, rfl, rfl⟩
theorem co73 : CallOk Try.prog 73 := ⟨_, Try.func73, rfl, rfl⟩
theorem co74 : CallOk Try.prog 74 := ⟨_, Try.func74, rfl, rfl⟩
theorem co75 : CallOk Try.prog 75 := ⟨_, Try.func75, rfl, rfl⟩
theorem co76 : CallOk Try.prog 76 := ⟨_, Try.func76, rfl, rfl⟩
theorem co77 : CallOk Try.prog 77 := ⟨_, Try.func77, rfl, rfl⟩
theorem co78 : CallOk Try.prog 78 := ⟨_, Try.func78, rfl, rfl⟩
theorem co79 : CallOk Try.prog 79 := ⟨_, Try.func79, rfl, rfl⟩
theorem co80 : CallOk Try.prog 80 := ⟨_, Try.func80, rfl, rfl⟩
theorem co83 : CallOk Try.prog 83 := ⟨_, Try.func83, rfl, rfl⟩
theorem co84 : CallOk Try.prog 84 := ⟨_, Try.func84, rfl, rfl⟩
theorem co85 : CallOk Try.prog 85 := ⟨_, Try.func85, rfl, rfl⟩
theorem co86 : CallOk Try.prog 86 := ⟨_, Try.func86, rfl, rfl⟩
theorem co87 : CallOk Try.prog 87 := ⟨_, Try.func87, rfl, rfl⟩
theorem co88 : CallOk Try.prog 88 := ⟨_, Try.func88, rfl, rfl⟩

end Go.Proofs.Ytghfkgcaglabpaa

/-
  How a device lies in memory (the program's and the reference's alike). No program is named here.
-/
namespace Go.Proofs.Ytghfkgcaglabpaa
open Go.RowKit

structure NicA where
  r : Nat → Int
  tb : Nat → List UInt8
  tp : Nat → Int
  room : Nat → Int
  has : Nat → Bool
  cb : Nat → List UInt8
  bad : Nat → Bool
  clk : Int

def up {α : Type} (f : Nat → α) (k : Nat) (v : α) : Nat → α := fun j => if j = k then v else f j
theorem up_same {α : Type} (f : Nat → α) (k : Nat) (v : α) : up f k v k = v := if_pos rfl
theorem up_ne {α : Type} (f : Nat → α) {k j : Nat} (v : α) (h : j ≠ k) : up f k v j = f j := if_neg h

def cellAt (A : NicA) (tv cv : Nat → Value) (k : Nat) : Value :=
  if k < 8 then iw (A.r k) else if k < 40 then (if k % 2 = 0 then tv ((k - 8) / 2) else iw (A.tp ((k - 8) / 2)))
  else if k < 104 then (if k % 4 = 0 then iw (A.room ((k - 40) / 4)) else if k % 4 = 1 then bo (A.has ((k - 40) / 4)) else if k % 4 = 2 then cv ((k - 40) / 4) else bo (A.bad ((k - 40) / 4))) else iw A.clk
def nc (A : NicA) (tv cv : Nat → Value) : List Value := (List.range 105).map (cellAt A tv cv)

section
variable {A A' : NicA} {tv cv tv' cv' : Nat → Value}
theorem nc_len : (nc A tv cv).length = 105 := by simp [nc]
theorem nc_get {k : Nat} (h : k < 105) : (nc A tv cv)[k]? = some (cellAt A tv cv k) := by simp [nc, h]
theorem nc_r {k : Nat} (h : k < 8) : (nc A tv cv)[k]? = some (iw (A.r k)) := by rw [nc_get (by omega)]; simp [cellAt, h]
theorem nc_r' {k : Nat} (h : k < 8) : (nc A tv cv)[0 + k * 1]? = some (iw (A.r k)) := by rw [show 0 + k * 1 = k by omega]; exact nc_r h
theorem nc_tv {i : Nat} (h : i < 16) : (nc A tv cv)[8 + i * 2]? = some (tv i) := by
  rw [nc_get (by omega)]; unfold cellAt
  rw [if_neg (by omega), if_pos (by omega), if_pos (by omega)]; congr 2; omega
theorem nc_tp {i : Nat} (h : i < 16) : (nc A tv cv)[8 + i * 2 + 1]? = some (iw (A.tp i)) := by
  rw [nc_get (by omega)]; unfold cellAt
  rw [if_neg (by omega), if_pos (by omega), if_neg (by omega)]; congr 3; omega
theorem nc_room {i : Nat} (h : i < 16) : (nc A tv cv)[40 + i * 4]? = some (iw (A.room i)) := by
  rw [nc_get (by omega)]; unfold cellAt
  rw [if_neg (by omega), if_neg (by omega), if_pos (by omega), if_pos (by omega)]; congr 3; omega
theorem nc_has {i : Nat} (h : i < 16) : (nc A tv cv)[40 + i * 4 + 1]? = some (bo (A.has i)) := by
  rw [nc_get (by omega)]; unfold cellAt
  rw [if_neg (by omega), if_neg (by omega), if_pos (by omega), if_neg (by omega), if_pos (by omega)]; congr 3; omega
theorem nc_cv {i : Nat} (h : i < 16) : (nc A tv cv)[40 + i * 4 + 2]? = some (cv i) := by
  rw [nc_get (by omega)]; unfold cellAt
  rw [if_neg (by omega), if_neg (by omega), if_pos (by omega), if_neg (by omega), if_neg (by omega), if_pos (by omega)]; congr 2; omega
theorem nc_bad {i : Nat} (h : i < 16) : (nc A tv cv)[40 + i * 4 + 3]? = some (bo (A.bad i)) := by
  rw [nc_get (by omega)]; unfold cellAt
  rw [if_neg (by omega), if_neg (by omega), if_pos (by omega), if_neg (by omega), if_neg (by omega), if_neg (by omega)]; congr 3; omega
theorem nc_clk : (nc A tv cv)[104]? = some (iw A.clk) := by rw [nc_get (by omega)]; simp [cellAt]
theorem nc_set {k : Nat} {v : Value} (hk : k < 105) (hv : cellAt A' tv' cv' k = v) (ho : ∀ j, j < 105 → j ≠ k → cellAt A' tv' cv' j = cellAt A tv cv j) : (nc A tv cv).set k v = nc A' tv' cv' := by
  apply List.ext_getElem?
  intro j
  by_cases e : k = j
  · subst e; rw [List.getElem?_set_self (by rw [nc_len]; exact hk), nc_get hk, hv]
  · rw [List.getElem?_set_ne e]
    by_cases hj : j < 105
    · rw [nc_get hj, nc_get hj, ho j hj (Ne.symm e)]
    · rw [List.getElem?_eq_none (by rw [nc_len]; omega), List.getElem?_eq_none (by rw [nc_len]; omega)]
theorem set_r {k : Nat} (h : k < 8) (x : Int) : (nc A tv cv).set k (iw x) = nc { A with r := up A.r k x } tv cv := by
  refine nc_set (by omega) ?_ (fun j hj hne => ?_)
  · simp [cellAt, h, up]
  · unfold cellAt up
    split
    · simp [hne]
    · rfl
theorem set_r' {k : Nat} (h : k < 8) (x : Int) : (nc A tv cv).set (0 + k * 1) (iw x) = nc { A with r := up A.r k x } tv cv := by rw [show 0 + k * 1 = k by omega]; exact set_r h x
theorem set_tv {i : Nat} (h : i < 16) (v : Value) : (nc A tv cv).set (8 + i * 2) v = nc A (up tv i v) cv := by
  refine nc_set (by omega) ?_ (fun j hj hne => ?_)
  · unfold cellAt
    rw [if_neg (by omega), if_pos (by omega), if_pos (by omega)]
    rw [show (8 + i * 2 - 8) / 2 = i by omega, up_same]
  · unfold cellAt
    split
    · rfl
    · split
      · split
        · rw [up_ne]; omega
        · rfl
      · rfl
theorem set_tp {i : Nat} (h : i < 16) (x : Int) : (nc A tv cv).set (8 + i * 2 + 1) (iw x) = nc { A with tp := up A.tp i x } tv cv := by
  refine nc_set (by omega) ?_ (fun j hj hne => ?_)
  · unfold cellAt
    rw [if_neg (by omega), if_pos (by omega), if_neg (by omega)]
    show iw (up A.tp i x _) = _
    rw [show (8 + i * 2 + 1 - 8) / 2 = i by omega, up_same]
  · unfold cellAt
    split
    · rfl
    · split
      · split
        · rfl
        · show iw (up A.tp i x _) = _
          rw [up_ne]; omega
      · rfl
theorem set_clk (x : Int) : (nc A tv cv).set 104 (iw x) = nc { A with clk := x } tv cv := by
  refine nc_set (by omega) (by simp [cellAt]) (fun j hj hne => ?_)
  unfold cellAt
  split
  · rfl
  · split
    · rfl
    · split
      · rfl
      · omega
theorem set_rx {i : Nat} (h : i < 16) (a : Int) (b d : Bool) (v : Value) :
    (nc A tv cv).take (40 + i * 4) ++ [iw a, bo b, v, bo d] ++ (nc A tv cv).drop (40 + i * 4 + 4) = nc { A with room := up A.room i a, has := up A.has i b, bad := up A.bad i d } tv (up cv i v) := by
  have out : ∀ j, (j < 40 + i * 4 ∨ 40 + i * 4 + 4 ≤ j) → cellAt { A with room := up A.room i a, has := up A.has i b, bad := up A.bad i d } tv (up cv i v) j = cellAt A tv cv j := by
    intro j hj
    by_cases a1 : j < 8
    · simp [cellAt, a1]
    · by_cases a2 : j < 40
      · simp [cellAt, a1, a2]
      · by_cases a3 : j < 104
        · have hne : ¬ (j - 40) / 4 = i := by omega
          simp [cellAt, a1, a2, a3, up, hne]
        · simp [cellAt, a1, a2, a3]
  apply List.ext_getElem?
  intro j
  have hl : ((nc A tv cv).take (40 + i * 4)).length = 40 + i * 4 := by rw [List.length_take, nc_len]; omega
  by_cases h1 : j < 40 + i * 4
  · rw [List.append_assoc, List.getElem?_append_left (by omega), List.getElem?_take, if_pos h1, nc_get (by omega), nc_get (by omega), out j (.inl h1)]
  · by_cases h2 : j < 40 + i * 4 + 4
    · rw [List.append_assoc, List.getElem?_append_right (by omega), hl, List.getElem?_append_left (by simp; omega), nc_get (by omega)]
      obtain ⟨q, hq⟩ : ∃ q, q = j - (40 + i * 4) := ⟨_, rfl⟩
      have hj : j = 40 + i * 4 + q := by omega
      rw [← hq]
      have hq4 : q < 4 := by omega
      unfold cellAt
      rw [if_neg (by omega), if_neg (by omega), if_pos (by omega)]
      have hd : (j - 40) / 4 = i := by omega
      rw [hd]
      match q, hq4, hj with
      | 0, _, hj => rw [if_pos (by omega)]; show _ = some (iw (up A.room i a i)); rw [up_same]; rfl
      | 1, _, hj => rw [if_neg (by omega), if_pos (by omega)]; show _ = some (bo (up A.has i b i)); rw [up_same]; rfl
      | 2, _, hj => rw [if_neg (by omega), if_neg (by omega), if_pos (by omega), up_same]; rfl
      | 3, _, hj => rw [if_neg (by omega), if_neg (by omega), if_neg (by omega)]; show _ = some (bo (up A.bad i d i)); rw [up_same]; rfl
    · have hl2 : ((nc A tv cv).take (40 + i * 4) ++ [iw a, bo b, v, bo d]).length = 40 + i * 4 + 4 := by rw [List.length_append, hl]; rfl
      rw [List.getElem?_append_right (by omega), hl2, List.getElem?_drop, show 40 + i * 4 + 4 + (j - (40 + i * 4 + 4)) = j by omega]
      by_cases hj : j < 105
      · rw [nc_get hj, nc_get hj, out j (.inr (by omega))]
      · rw [List.getElem?_eq_none (by rw [nc_len]; omega), List.getElem?_eq_none (by rw [nc_len]; omega)]
end

def nilv : Nat → Value := fun _ => .slice none 0 0
theorem nc_one {A : NicA} {tv cv : Nat → Value} (h1 : ∀ i, (tv i).oneCell' = true) (h2 : ∀ i, (cv i).oneCell' = true) : (nc A tv cv).all (·.oneCell') = true := by
  rw [List.all_eq_true]
  intro x hx
  obtain ⟨k, _, rfl⟩ := List.mem_map.1 hx
  unfold cellAt
  split
  · rfl
  · split
    · split
      · exact h1 _
      · rfl
    · split
      · split
        · rfl
        · split
          · rfl
          · split
            · exact h2 _
            · rfl
      · rfl
theorem nc_whole {A A' : NicA} {tv cv tv' cv' : Nat → Value} : (nc A tv cv).take 0 ++ nc A' tv' cv' ++ (nc A tv cv).drop (0 + (nc A' tv' cv').length) = nc A' tv' cv' := by
  rw [List.take_zero, List.nil_append, nc_len, List.drop_eq_nil_of_le (by rw [nc_len]; omega), List.append_nil]
theorem nc_all {A : NicA} {tv cv : Nat → Value} : ((nc A tv cv).drop 0).take 105 = nc A tv cv := by
  rw [List.drop_zero, List.take_of_length_le (by rw [nc_len]; omega)]
theorem up_id {α : Type} {f : Nat → α} {k : Nat} : up f k (f k) = f := by
  funext j; unfold up; split
  · rename_i e; rw [e]
  · rfl
theorem Inv.one {n : Nat} {w : World} {S : Nat → Prop} {b : Nat} {c : List Value} {T : TypeId} (h : Blk w b c T) : Inv ⟨n, w, S⟩ w [rBlk b c T] := by
  refine ⟨⟨fun r hr => ?_, List.Pairwise.cons (by simp) List.Pairwise.nil⟩, Only.refl _ _⟩
  simp only [List.mem_cons, List.not_mem_nil, or_false] at hr
  subst hr
  exact h
def FrsAt (w : World) (F : Nat → Prop) (tv cv : Nat → Value) (tb cb : Nat → List UInt8) : Prop :=
  (∀ b, F b → b < w.heap.size) ∧ (∀ i, i < 16 → BytesAt w (tv i) (tb i) ∧ sliceIn (tv i) F) ∧ (∀ i, i < 16 → BytesAt w (cv i) (cb i) ∧ sliceIn (cv i) F)
theorem BytesAt.agree {w w' : World} {v : Value} {l : List UInt8} {F : Nat → Prop} (h : BytesAt w v l) (hs : sliceIn v F) (hw : ∀ b, F b → w'.heap[b]? = w.heap[b]?) : BytesAt w' v l := by
  rcases h with h | ⟨b, o, cap, hv, h1, h2, h3⟩
  · exact .inl h
  · refine .inr ⟨b, o, cap, hv, h1, h2, fun j hj => ?_⟩
    have hF := hs b o _ cap hv (by omega)
    have := h3 j hj
    rw [World.cell?_of_block (w := w) (hw b hF)]; exact this
def rFrs (F : Nat → Prop) (tv cv : Nat → Value) (tb cb : Nat → List UInt8) : Res where
  ok w := FrsAt w F tv cv tb cb
  fp := F
  lt w h b hb := h.1 b hb
  st w w' h hw := by
    refine ⟨fun b hb => ?_, fun i hi => ⟨(h.2.1 i hi).1.agree (h.2.1 i hi).2 hw, (h.2.1 i hi).2⟩, fun i hi => ⟨(h.2.2 i hi).1.agree (h.2.2 i hi).2 hw, (h.2.2 i hi).2⟩⟩
    have h1 := h.1 b hb
    have h2 := hw b hb
    rw [Array.getElem?_eq_getElem h1] at h2
    exact (Array.getElem?_eq_some_iff.1 h2).1

def NicAt (T : TypeId) (w : World) (d : Nat) (F : Nat → Prop) (A : NicA) : Prop := ∃ tv cv, Blk w d (nc A tv cv) T ∧ ¬ F d ∧ FrsAt w F tv cv A.tb A.cb
def rNic (T : TypeId) (d : Nat) (F : Nat → Prop) (A : NicA) : Res where
  ok w := NicAt T w d F A
  fp b := b = d ∨ F b
  lt w h b hb := by
    obtain ⟨tv, cv, h1, h2, h3⟩ := h
    rcases hb with rfl | hb
    · exact h1.lt
    · exact h3.1 b hb
  st w w' h hw := by
    obtain ⟨tv, cv, h1, h2, h3⟩ := h
    refine ⟨tv, cv, ?_, h2, (rFrs F tv cv A.tb A.cb).st w w' h3 (fun b hb => hw b (.inr hb))⟩
    unfold Blk; rw [hw d (.inl rfl)]; exact h1
def NicTo (T : TypeId) (w : World) (d : Nat) (F : Nat → Prop) (A' : NicA) (w' : World) : Prop := ∃ F', NicAt T w' d F' A' ∧ (∀ b, F' b → F b ∨ w.heap.size ≤ b) ∧ Only (fun b => b = d) w w'
theorem NicAt.inv {T : TypeId} {w : World} {d : Nat} {F : Nat → Prop} {A : NicA} (n : Nat) (S : Nat → Prop) (h : NicAt T w d F A) : ∃ tv cv, Inv ⟨n, w, S⟩ w [rBlk d (nc A tv cv) T, rFrs F tv cv A.tb A.cb] := by
  obtain ⟨tv, cv, h1, h2, h3⟩ := h
  refine ⟨tv, cv, ⟨fun r hr => ?_, ?_⟩, Only.refl _ _⟩
  · simp only [List.mem_cons, List.not_mem_nil, or_false] at hr
    rcases hr with rfl | rfl
    · exact h1
    · exact h3
  · refine List.Pairwise.cons ?_ (List.Pairwise.cons (by simp) List.Pairwise.nil)
    intro r hr b hb hc
    simp only [List.mem_cons, List.not_mem_nil, or_false] at hr
    subst hr
    cases hb
    exact h2 hc
theorem NicAt.of {X : Cx} {T : TypeId} {w : World} {d : Nat} {F : Nat → Prop} {A : NicA} {tv cv : Nat → Value} {l : List Res} (h : Inv X w (rBlk d (nc A tv cv) T :: rFrs F tv cv A.tb A.cb :: l)) : NicAt T w d F A := by
  have hp := h.1.2
  rw [List.pairwise_cons] at hp
  exact ⟨tv, cv, h.1.1 (rBlk d (nc A tv cv) T) (by simp), fun hF => hp.1 (rFrs F tv cv A.tb A.cb) (by simp) d rfl hF, h.1.1 (rFrs F tv cv A.tb A.cb) (by simp)⟩
theorem NicAt.fin' {T : TypeId} {w w' : World} {d n : Nat} {S : Nat → Prop} {F : Nat → Prop} {A : NicA} {tv cv : Nat → Value} {l : List Res} (h : Inv ⟨n, w, S⟩ w' (rBlk d (nc A tv cv) T :: rFrs F tv cv A.tb A.cb :: l)) : NicAt T w' d F A ∧ Only S w w' := ⟨NicAt.of h, h.2⟩
theorem frs_tx {X : Cx} {T : TypeId} {w : World} {d : Nat} {F : Nat → Prop} {A : NicA} {tv cv : Nat → Value} {c : List Value} {l : List Res} (h : Inv X w (rBlk d c T :: rFrs F tv cv A.tb A.cb :: l)) {i : Nat} (hi : i < 16) : BytesAt w (tv i) (A.tb i) :=
  ((h.1.1 (rFrs F tv cv A.tb A.cb) (by simp)).2.1 i hi).1
theorem frs_rx {X : Cx} {T : TypeId} {w : World} {d : Nat} {F : Nat → Prop} {A : NicA} {tv cv : Nat → Value} {c : List Value} {l : List Res} (h : Inv X w (rBlk d c T :: rFrs F tv cv A.tb A.cb :: l)) {i : Nat} (hi : i < 16) : BytesAt w (cv i) (A.cb i) :=
  ((h.1.1 (rFrs F tv cv A.tb A.cb) (by simp)).2.2 i hi).1
theorem NicAt.fin {T : TypeId} {w w' : World} {d n : Nat} {F : Nat → Prop} {A : NicA} {tv cv : Nat → Value} {l : List Res} (h : Inv ⟨n, w, fun b => b = d⟩ w' (rBlk d (nc A tv cv) T :: rFrs F tv cv A.tb A.cb :: l)) : NicTo T w d F A w' := by
  refine ⟨F, ⟨tv, cv, h.1.1 (rBlk d (nc A tv cv) T) (by simp), fun hF => ?_, h.1.1 (rFrs F tv cv A.tb A.cb) (by simp)⟩, fun b hb => .inl hb, h.2⟩
  have := h.1.2
  rw [List.pairwise_cons] at this
  exact this.1 (rFrs F tv cv A.tb A.cb) (by simp) d rfl hF
theorem Blk.bytes {w : World} {g : Nat} {l : List UInt8} {T : TypeId} (h : Blk w g (l.map bv) T) (hl : l.length ≤ 140737488351232) : BytesAt w (.slice (some ⟨g, 0, none⟩) l.length l.length) l := by
  refine .inr ⟨g, 0, l.length, rfl, Nat.le_refl _, hl, fun j hj => ?_⟩
  rw [h.cell, Nat.zero_add, List.getElem?_map, List.getElem?_eq_getElem hj]; rfl
theorem NicAt.fin_no {T : TypeId} {w w' : World} {d n i : Nat} {F : Nat → Prop} {A : NicA} {tv cv : Nat → Value} {l : List Res}
    (h : Inv ⟨n, w, fun b => b = d⟩ w' (rBlk d (nc A tv (up cv i (.slice none 0 0))) T :: rFrs F tv cv A.tb A.cb :: l)) : NicTo T w d F { A with cb := up A.cb i [] } w' := by
  have hd := h.1.2
  rw [List.pairwise_cons] at hd
  have h1 : Blk w' d (nc A tv (up cv i (.slice none 0 0))) T := h.1.1 (rBlk d (nc A tv (up cv i (.slice none 0 0))) T) (by simp)
  have h2 : FrsAt w' F tv cv A.tb A.cb := h.1.1 (rFrs F tv cv A.tb A.cb) (by simp)
  refine ⟨F, ⟨tv, up cv i (.slice none 0 0), h1, fun hF => hd.1 (rFrs F tv cv A.tb A.cb) (by simp) d rfl hF, h2.1, h2.2.1, fun j hj => ?_⟩, fun b hb => .inl hb, h.2⟩
  by_cases e : j = i
  · subst e
    show BytesAt w' (up cv j _ j) (up A.cb j [] j) ∧ sliceIn (up cv j _ j) _
    rw [up_same, up_same]
    exact ⟨BytesAt.nil _, fun b o n c e _ => by simp at e⟩
  · show BytesAt w' (up cv i _ j) (up A.cb i [] j) ∧ sliceIn (up cv i _ j) _
    rw [up_ne _ _ e, up_ne _ _ e]
    exact h2.2.2 j hj
theorem NicAt.fin_reset {T : TypeId} {w w' : World} {d n : Nat} {F : Nat → Prop} {A A' : NicA} {tv cv : Nat → Value} {l : List Res} (h1 : A'.tb = fun _ => []) (h2 : A'.cb = fun _ => []) (h : Inv ⟨n, w, fun b => b = d⟩ w' (rBlk d (nc A' nilv nilv) T :: rFrs F tv cv A.tb A.cb :: l)) : NicAt T w' d F A' ∧ Only (fun b => b = d) w w' := by
  refine ⟨⟨nilv, nilv, h.1.1 (rBlk d (nc A' nilv nilv) T) (by simp), fun hF => ?_, ?_⟩, h.2⟩
  · have := h.1.2
    rw [List.pairwise_cons] at this
    exact this.1 (rFrs F tv cv A.tb A.cb) (by simp) d rfl hF
  · have k : FrsAt w' F tv cv A.tb A.cb := h.1.1 (rFrs F tv cv A.tb A.cb) (by simp)
    rw [h1, h2]
    exact ⟨k.1, fun i _ => ⟨BytesAt.nil _, fun b o n c e _ => by simp [nilv] at e⟩, fun i _ => ⟨BytesAt.nil _, fun b o n c e _ => by simp [nilv] at e⟩⟩
theorem NicAt.fin_tx {T U : TypeId} {w w' : World} {d n g i : Nat} {F : Nat → Prop} {A : NicA} {tv cv : Nat → Value} {f : List UInt8} (hf : f.length ≤ 140737488351232) (hg : w.heap.size ≤ g)
    (h : Inv ⟨n, w, fun b => b = d⟩ w' [rBlk d (nc A (up tv i (sl g 0 f.length f.length)) cv) T, rFrs F tv cv A.tb A.cb, rBlk g (f.map bv) U]) : NicTo T w d F { A with tb := up A.tb i f } w' := by
  have hd := h.1.2
  simp only [List.pairwise_cons] at hd
  have h1 : Blk w' d (nc A (up tv i (sl g 0 f.length f.length)) cv) T := h.1.1 (rBlk d (nc A (up tv i (sl g 0 f.length f.length)) cv) T) (by simp)
  have h2 : FrsAt w' F tv cv A.tb A.cb := h.1.1 (rFrs F tv cv A.tb A.cb) (by simp)
  have h3 : Blk w' g (f.map bv) U := h.1.1 (rBlk g (f.map bv) U) (by simp)
  refine ⟨fun b => F b ∨ b = g, ⟨up tv i (sl g 0 f.length f.length), cv, h1, ?_, ?_, ?_, ?_⟩, fun b hb => hb.imp id (fun e => by subst e; exact hg), h.2⟩
  · rintro (hF | e)
    · exact hd.1 (rFrs F tv cv A.tb A.cb) (by simp) d rfl hF
    · exact hd.1 (rBlk g (f.map bv) U) (by simp) d rfl e
  · rintro b (hF | e)
    · exact h2.1 b hF
    · subst e; exact h3.lt
  · intro j hj
    by_cases e : j = i
    · subst e
      show BytesAt w' (up tv j _ j) (up A.tb j f j) ∧ sliceIn (up tv j _ j) _
      rw [up_same, up_same]
      refine ⟨h3.bytes hf, fun b o n c hv hn => ?_⟩
      simp at hv; exact .inr hv.1.1.symm
    · show BytesAt w' (up tv i _ j) (up A.tb i f j) ∧ sliceIn (up tv i _ j) _
      rw [up_ne _ _ e, up_ne _ _ e]
      exact ⟨(h2.2.1 j hj).1, fun b o n c hv hn => .inl ((h2.2.1 j hj).2 b o n c hv hn)⟩
  · intro j hj
    exact ⟨(h2.2.2 j hj).1, fun b o n c hv hn => .inl ((h2.2.2 j hj).2 b o n c hv hn)⟩
theorem NicAt.fin_rx {T U : TypeId} {w w' : World} {d n g i : Nat} {F : Nat → Prop} {A : NicA} {tv cv : Nat → Value} {f : List UInt8} (hf : f.length ≤ 140737488351232) (hg : w.heap.size ≤ g)
    (h : Inv ⟨n, w, fun b => b = d⟩ w' [rBlk d (nc A tv (up cv i (sl g 0 f.length f.length))) T, rFrs F tv cv A.tb A.cb, rBlk g (f.map bv) U]) : NicTo T w d F { A with cb := up A.cb i f } w' := by
  have hd := h.1.2
  simp only [List.pairwise_cons] at hd
  have h1 : Blk w' d (nc A tv (up cv i (sl g 0 f.length f.length))) T := h.1.1 (rBlk d (nc A tv (up cv i (sl g 0 f.length f.length))) T) (by simp)
  have h2 : FrsAt w' F tv cv A.tb A.cb := h.1.1 (rFrs F tv cv A.tb A.cb) (by simp)
  have h3 : Blk w' g (f.map bv) U := h.1.1 (rBlk g (f.map bv) U) (by simp)
  refine ⟨fun b => F b ∨ b = g, ⟨tv, up cv i (sl g 0 f.length f.length), h1, ?_, ?_, ?_, ?_⟩, fun b hb => hb.imp id (fun e => by subst e; exact hg), h.2⟩
  · rintro (hF | e)
    · exact hd.1 (rFrs F tv cv A.tb A.cb) (by simp) d rfl hF
    · exact hd.1 (rBlk g (f.map bv) U) (by simp) d rfl e
  · rintro b (hF | e)
    · exact h2.1 b hF
    · subst e; exact h3.lt
  · intro j hj
    exact ⟨(h2.2.1 j hj).1, fun b o n c hv hn => .inl ((h2.2.1 j hj).2 b o n c hv hn)⟩
  · intro j hj
    by_cases e : j = i
    · subst e
      show BytesAt w' (up cv j _ j) (up A.cb j f j) ∧ sliceIn (up cv j _ j) _
      rw [up_same, up_same]
      refine ⟨h3.bytes hf, fun b o n c hv hn => ?_⟩
      simp at hv; exact .inr hv.1.1.symm
    · show BytesAt w' (up cv i _ j) (up A.cb i f j) ∧ sliceIn (up cv i _ j) _
      rw [up_ne _ _ e, up_ne _ _ e]
      exact ⟨(h2.2.2 j hj).1, fun b o n c hv hn => .inl ((h2.2.2 j hj).2 b o n c hv hn)⟩
end Go.Proofs.Ytghfkgcaglabpaa

/-
  What a device's calls do, as the document has it: plain.
-/
namespace Go.Proofs.Ytghfkgcaglabpaa
open Go.RowKit

structure NicOk (A : NicA) : Prop where
  h2 : 0 ≤ A.r 2 ∧ A.r 2 < 16
  h3 : 0 ≤ A.r 3 ∧ A.r 3 < 16
  h4 : 0 ≤ A.r 4 ∧ A.r 4 < 16
  h5 : 0 ≤ A.r 5 ∧ A.r 5 < 16
  h6 : 0 ≤ A.r 6 ∧ A.r 6 < 8
  tl : ∀ i, (A.tb i).length ≤ 274
  cl : ∀ i, (A.cb i).length ≤ 65535
  rm : ∀ i, 0 ≤ A.room i ∧ A.room i ≤ 65535
def newA : NicA := ⟨up (fun _ => 0) 1 1, fun _ => [], fun _ => 0, fun _ => 0, fun _ => false, fun _ => [], fun _ => false, 0⟩
def nx (i : Int) : Int := (i + 1) % 16
def ev (x e : Int) : Int := bits .or .i64 x e
def offB (A : NicA) : Bool := (A.r 0 != 1) || (A.r 1 != 1)
def hostB (i h t : Int) : Bool := decide (0 ≤ i) && (decide (i < 16) && !decide ((i - h) % 16 < (t - h) % 16))
def inc (x : Int) : Int := IntKind.i64.wrap (x + 1)
def readF (A : NicA) (reg : Int) : (Int × Int) × NicA := if reg < 0 ∨ 8 ≤ reg then ((0, 1), A) else ((A.r reg.toNat, 0), if reg = 6 then { A with r := up A.r reg.toNat 0 } else A)
def resetA (A : NicA) : NicA := { newA with r := up newA.r 1 (A.r 1), clk := A.clk }
def posts (tp : Nat → Int) (h t clk : Int) : Nat → Int := fun j => if j < 16 ∧ ((j : Int) - h) % 16 < (t - h) % 16 then clk else tp j
def writeF (A : NicA) (reg v : Int) : Int × NicA :=
  if reg = 0 ∧ v = 2 then (0, resetA A)
  else if reg = 0 ∧ (v = 0 ∨ v = 1) then (0, { A with r := up A.r reg.toNat v })
  else if v < 0 ∨ 16 ≤ v then (1, A)
  else if reg = 5 then (0, { A with tp := posts A.tp (A.r 5) v A.clk, r := up A.r reg.toNat v })
  else if reg = 3 then (0, { A with r := up A.r reg.toNat v })
  else (1, A)
def setTxF (A : NicA) (i : Int) (f : List UInt8) : Int × NicA :=
  if hostB i (A.r 4) (A.r 5) = false then (1, A) else if f.length = 0 then (3, A) else if 274 < f.length then (2, A) else (0, { A with tb := up A.tb i.toNat f })
def setRxF (A : NicA) (i room : Int) : Int × NicA :=
  if hostB i (A.r 2) (A.r 3) = false ∨ room < 0 ∨ 65535 < room then (1, A)
  else (0, { A with room := up A.room i.toNat room, has := up A.has i.toNat false, cb := up A.cb i.toNat [], bad := up A.bad i.toNat false })
def takeF (A : NicA) : NicA := { A with r := up (up A.r 4 (nx (A.r 4))) 6 (ev (A.r 6) 2) }
def missA (A : NicA) : NicA := { A with r := up A.r 7 (inc (A.r 7)) }
def comeA (A : NicA) (f : List UInt8) (bad : Bool) : NicA :=
  { A with room := up A.room (A.r 2).toNat (A.room (A.r 2).toNat), has := up A.has (A.r 2).toNat true, cb := up A.cb (A.r 2).toNat f, bad := up A.bad (A.r 2).toNat bad, r := up (up A.r 2 (nx (A.r 2))) 6 (ev (A.r 6) 1) }
def giveF (A : NicA) (f : List UInt8) (bad : Bool) : Int × NicA :=
  if offB A then (20, A) else if A.r 2 = A.r 3 then (21, missA A) else if A.room (A.r 2).toNat < f.length then (2, missA A) else (0, comeA A f bad)
def oldF (A : NicA) : Int × Bool := if A.r 4 = A.r 5 then (0, false) else (A.tp (A.r 4).toNat, true)
def Out (U : TypeId) (w w' : World) (v : Value) (f : List UInt8) : Prop := (v = .slice none 0 0 ∧ f = []) ∨ ∃ g, w.heap.size ≤ g ∧ v = sl g 0 f.length f.length ∧ Blk w' g (f.map bv) U
def Lent (F : Nat → Prop) (w' : World) (v : Value) (f : List UInt8) : Prop := BytesAt w' v f ∧ sliceIn v F
def takeR (A : NicA) : ((List UInt8 × Int) × Int) × NicA :=
  if offB A then ((([], 0), 20), A) else if A.r 4 = A.r 5 then ((([], 0), 7), A) else (((A.tb (A.r 4).toNat, A.tp (A.r 4).toNat), 0), takeF A)
def rxR (A : NicA) (i : Int) : (List UInt8 × Bool) × Int :=
  if i < 0 ∨ 16 ≤ i then (([], false), 1) else if A.has i.toNat = false then (([], false), 7) else ((A.cb i.toNat, A.bad i.toNat), 0)
def linkF (A : NicA) (u : Bool) : NicA := if A.r 1 = (if u then 1 else 0) then A else { A with r := up (up A.r 1 (if u then 1 else 0)) 6 (ev (A.r 6) 4) }
def tickF (A : NicA) : NicA := { A with clk := inc A.clk }
theorem nx_bd {i : Int} : 0 ≤ nx i ∧ nx i < 16 := by unfold nx; omega
theorem ev_bd {x e : Int} (h : 0 ≤ x ∧ x < 8) (he : e = 1 ∨ e = 2 ∨ e = 4) : 0 ≤ ev x e ∧ ev x e < 8 := by
  obtain ⟨n, hn, rfl⟩ : ∃ n : Nat, n < 8 ∧ x = (n : Int) := ⟨x.toNat, by omega, by omega⟩
  have h1 : ∀ k : Fin 8, 0 ≤ ev (k.val : Int) 1 ∧ ev (k.val : Int) 1 < 8 := by decide +kernel
  have h2 : ∀ k : Fin 8, 0 ≤ ev (k.val : Int) 2 ∧ ev (k.val : Int) 2 < 8 := by decide +kernel
  have h4 : ∀ k : Fin 8, 0 ≤ ev (k.val : Int) 4 ∧ ev (k.val : Int) 4 < 8 := by decide +kernel
  rcases he with rfl | rfl | rfl
  · exact h1 ⟨n, hn⟩
  · exact h2 ⟨n, hn⟩
  · exact h4 ⟨n, hn⟩
theorem posts_self {tp : Nat → Int} {h clk : Int} : posts tp h h clk = tp := by
  funext j; unfold posts; rw [if_neg (by omega)]
theorem posts_up {tp : Nat → Int} {h t clk : Int} {n : Nat} (hh : 0 ≤ h ∧ h < 16) (ht : 0 ≤ t ∧ t < 16) (h0 : 0 < n) (hn : n ≤ ((t - h) % 16).toNat) :
    up (posts tp h ((t - (n : Int)) % 16) clk) ((t - (n : Int)) % 16).toNat clk = posts tp h ((t - ((n - 1 : Nat) : Int)) % 16) clk := by
  funext j
  unfold up posts
  by_cases e : j = ((t - (n : Int)) % 16).toNat
  · rw [if_pos e, if_pos (by omega)]
  · rw [if_neg e]
    by_cases e2 : j < 16 ∧ ((j : Int) - h) % 16 < ((t - (n : Int)) % 16 - h) % 16
    · rw [if_pos e2, if_pos (by omega)]
    · rw [if_neg e2, if_neg (by omega)]
theorem nc_posts {A : NicA} {tv cv : Nat → Value} {t : Int} (hh : 0 ≤ A.r 5 ∧ A.r 5 < 16) (ht : 0 ≤ t ∧ t < 16) :
    nc A tv cv = nc { A with tp := posts A.tp (A.r 5) ((t - ((((t - A.r 5) % 16).toNat : Nat) : Int)) % 16) A.clk } tv cv := by
  rw [show (t - ((((t - A.r 5) % 16).toNat : Nat) : Int)) % 16 = A.r 5 by omega, posts_self]
theorem nc_posts' {A : NicA} {tv cv : Nat → Value} {t : Int} {n : Nat} (hh : 0 ≤ A.r 5 ∧ A.r 5 < 16) (ht : 0 ≤ t ∧ t < 16) (h0 : 0 < n) (hn : n ≤ ((t - A.r 5) % 16).toNat) :
    nc { A with tp := up (posts A.tp (A.r 5) ((t - (n : Int)) % 16) A.clk) ((t - (n : Int)) % 16).toNat A.clk } tv cv = nc { A with tp := posts A.tp (A.r 5) ((t - ((n - 1 : Nat) : Int)) % 16) A.clk } tv cv := by
  rw [posts_up hh ht h0 hn]
theorem w_0 {a b : Int} {x : Bool} (e : (a == b && x) = true) : a = b := by simp only [Bool.and_eq_true, beq_iff_eq] at e; exact e.1
theorem w_rng {x : Bool} {v : Int} (e : (x || decide ((v : Int) < 0) || decide ((16 : Int) ≤ v)) = false) : 0 ≤ v ∧ v < 16 := by
  simp only [Bool.or_eq_false_iff, decide_eq_false_iff_not] at e; omega
theorem w_reg {x y : Bool} {a : Int} (e : ((((a : Int) != 3) && ((a : Int) != 5)) || x || y) = false) : a = 3 ∨ a = 5 := by
  simp only [Bool.or_eq_false_iff, Bool.and_eq_false_iff, bne_eq_false_iff_eq] at e; exact e.1.1
theorem w_5 {a b : Int} (e : (a == b) = true) : a = b := by simpa using e
theorem nx_step {t : Int} {n : Nat} (h : 0 < n) : nx ((t - (n : Int)) % 16) = (t - ((n - 1 : Nat) : Int)) % 16 := by unfold nx; omega
theorem newA_ok : NicOk newA := by refine ⟨?_, ?_, ?_, ?_, ?_, fun i => ?_, fun i => ?_, fun i => ?_⟩ <;> simp [newA, up]
theorem bne_f {a b : Int} (h : a = b) : (a != b) = false := by simp [h]
theorem bne_t {a b : Int} (h : a ≠ b) : (a != b) = true := by simp [h]
theorem host_out {i h t : Int} (e : (decide ((i : Int) < 0) || decide ((16 : Int) ≤ i)) = true) : hostB i h t = false := by
  simp only [Bool.or_eq_true, decide_eq_true_eq] at e
  unfold hostB
  rcases e with e | e
  · have : decide (0 ≤ i) = false := by simp; omega
    rw [this]; rfl
  · have : decide (i < 16) = false := by simp; omega
    rw [this]; simp
theorem host_in {i : Int} (e : (decide ((i : Int) < 0) || decide ((16 : Int) ≤ i)) = false) : 0 ≤ i ∧ i < 16 := by
  simp only [Bool.or_eq_false_iff, decide_eq_false_iff_not] at e; omega
theorem host_bd {i h t : Int} (e : hostB i h t = true) : 0 ≤ i ∧ i < 16 := by
  unfold hostB at e
  simp only [Bool.and_eq_true, decide_eq_true_eq] at e
  exact ⟨e.1, e.2.1⟩
theorem host_bd1 {i h t : Int} (e : (!hostB i h t) = false) : 0 ≤ i ∧ i < 16 := host_bd (by simpa using e)
theorem host_bd3 {i h t : Int} {x y : Bool} (e : ((!hostB i h t || x) || y) = false) : 0 ≤ i ∧ i < 16 := by
  simp only [Bool.or_eq_false_iff, Bool.not_eq_false'] at e; exact host_bd e.1.1
theorem host_yes {i h t : Int} (hi : 0 ≤ i ∧ i < 16) (ht : 0 ≤ t ∧ t < 16) (H : ∀ j : Nat, 0 < j → j ≤ ((t - h) % 16).toNat → (t - (j : Int)) % 16 ≠ i) : hostB i h t = true := by
  have h2 : ¬ (i - h) % 16 < (t - h) % 16 := by
    intro hlt
    refine H ((t - h) % 16 - (i - h) % 16).toNat (by omega) (by omega) ?_
    omega
  unfold hostB
  simp [hi.1, hi.2, h2]
theorem host_no {i h t : Int} {n : Nat} (h0 : 0 < n) (hn : n ≤ ((t - h) % 16).toNat) (e : ((t - (n : Int)) % 16 != i) = false) : hostB i h t = false := by
  have e' : (t - (n : Int)) % 16 = i := by simpa using e
  have h2 : (i - h) % 16 < (t - h) % 16 := by omega
  unfold hostB
  simp [h2]
section
variable {A : NicA}
theorem read_ok (h : NicOk A) (reg : Int) : NicOk (readF A reg).2 := by
  obtain ⟨h2, h3, h4, h5, h6, tl, cl, rm⟩ := h
  unfold readF
  split
  · exact ⟨h2, h3, h4, h5, h6, tl, cl, rm⟩
  · split
    · rename_i e; subst e; exact ⟨h2, h3, h4, h5, by simp [up], tl, cl, rm⟩
    · exact ⟨h2, h3, h4, h5, h6, tl, cl, rm⟩
theorem write_ok (h : NicOk A) (reg v : Int) : NicOk (writeF A reg v).2 := by
  obtain ⟨h2, h3, h4, h5, h6, tl, cl, rm⟩ := h
  unfold writeF
  split
  · refine ⟨?_, ?_, ?_, ?_, ?_, fun i => ?_, fun i => ?_, fun i => ?_⟩ <;> simp [resetA, newA, up]
  · split
    · rename_i e; obtain ⟨rfl, _⟩ := e; exact ⟨h2, h3, h4, h5, h6, tl, cl, rm⟩
    · split
      · exact ⟨h2, h3, h4, h5, h6, tl, cl, rm⟩
      · split
        · rename_i e; subst e
          refine ⟨h2, h3, h4, ?_, h6, tl, cl, rm⟩
          simp [up]; omega
        · split
          · rename_i e; subst e
            refine ⟨h2, ?_, h4, h5, h6, tl, cl, rm⟩
            simp [up]; omega
          · exact ⟨h2, h3, h4, h5, h6, tl, cl, rm⟩
theorem up_all {α : Type} {f : Nat → α} {k : Nat} {v : α} {p : α → Prop} (h : ∀ i, p (f i)) (hv : p v) : ∀ i, p (up f k v i) := by
  intro i; unfold up; split
  · exact hv
  · exact h i
theorem setTx_ok (h : NicOk A) (i : Int) (f : List UInt8) : NicOk (setTxF A i f).2 := by
  obtain ⟨h2, h3, h4, h5, h6, tl, cl, rm⟩ := h
  unfold setTxF
  split
  · exact ⟨h2, h3, h4, h5, h6, tl, cl, rm⟩
  · split
    · exact ⟨h2, h3, h4, h5, h6, tl, cl, rm⟩
    · split
      · exact ⟨h2, h3, h4, h5, h6, tl, cl, rm⟩
      · exact ⟨h2, h3, h4, h5, h6, up_all (p := fun l : List UInt8 => l.length ≤ 274) tl (by omega), cl, rm⟩
theorem setRx_ok (h : NicOk A) (i room : Int) : NicOk (setRxF A i room).2 := by
  obtain ⟨h2, h3, h4, h5, h6, tl, cl, rm⟩ := h
  unfold setRxF
  split
  · exact ⟨h2, h3, h4, h5, h6, tl, cl, rm⟩
  · exact ⟨h2, h3, h4, h5, h6, tl, up_all (p := fun l : List UInt8 => l.length ≤ 65535) cl (by simp), up_all (p := fun x : Int => 0 ≤ x ∧ x ≤ 65535) rm (by omega)⟩
theorem take_ok (h : NicOk A) : NicOk (takeF A) := by
  obtain ⟨h2, h3, h4, h5, h6, tl, cl, rm⟩ := h
  exact ⟨h2, h3, nx_bd, h5, ev_bd h6 (.inr (.inl rfl)), tl, cl, rm⟩
theorem give_ok (h : NicOk A) (f : List UInt8) (bad : Bool) : NicOk (giveF A f bad).2 := by
  obtain ⟨h2, h3, h4, h5, h6, tl, cl, rm⟩ := h
  unfold giveF
  split
  · exact ⟨h2, h3, h4, h5, h6, tl, cl, rm⟩
  · split
    · exact ⟨h2, h3, h4, h5, h6, tl, cl, rm⟩
    · split
      · exact ⟨h2, h3, h4, h5, h6, tl, cl, rm⟩
      · have := rm (A.r 2).toNat
        exact ⟨nx_bd, h3, h4, h5, ev_bd h6 (.inl rfl), tl, up_all (p := fun l : List UInt8 => l.length ≤ 65535) cl (by omega), up_all (p := fun x : Int => 0 ≤ x ∧ x ≤ 65535) rm this⟩
theorem link_ok (h : NicOk A) (u : Bool) : NicOk (linkF A u) := by
  obtain ⟨h2, h3, h4, h5, h6, tl, cl, rm⟩ := h
  unfold linkF
  generalize (if u = true then 1 else 0 : Int) = q
  split
  · exact ⟨h2, h3, h4, h5, h6, tl, cl, rm⟩
  · exact ⟨h2, h3, h4, h5, ev_bd h6 (.inr (.inr rfl)), tl, cl, rm⟩
theorem tick_ok (h : NicOk A) : NicOk (tickF A) := by
  obtain ⟨h2, h3, h4, h5, h6, tl, cl, rm⟩ := h
  exact ⟨h2, h3, h4, h5, h6, tl, cl, rm⟩
end
end Go.Proofs.Ytghfkgcaglabpaa
