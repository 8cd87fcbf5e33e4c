/-
  How the statements' arguments lie in memory; the calls that may change a buffer, said once for all of them.
-/
import Derived.Test.YthofjobcjkeomaaPoolAwake
namespace Go.Proofs.Ythofjobcjkeomaa
open Go.RowKit

/-- An 'Op' of the statements, as plain data. -/
structure OpR where
  kind : Int
  id : Int
  a : Int
  b : Int
  d : List UInt8

def I64 (x : Int) : Prop := -9223372036854775808 ≤ x ∧ x ≤ 9223372036854775807

/-- Five cells from o on are this Op. -/
def OpAt (w : World) (bl o : Nat) (r : OpR) : Prop :=
  w.cell? ⟨bl, o, none⟩ = some (.int .i64 r.kind) ∧ w.cell? ⟨bl, o + 1, none⟩ = some (.int .i64 r.id) ∧ w.cell? ⟨bl, o + 2, none⟩ = some (.int .i64 r.a) ∧ w.cell? ⟨bl, o + 3, none⟩ = some (.int .i64 r.b) ∧
    (∃ a n c, w.cell? ⟨bl, o + 4, none⟩ = some (.slice a n c) ∧ BytesAt w (.slice a n c) r.d ∧ sliceIn (.slice a n c) (fun b => b < w.heap.size)) ∧ I64 r.kind ∧ I64 r.id ∧ I64 r.a ∧ I64 r.b

/-- A slice of Ops. -/
def OpsAt (w : World) (v : Value) (l : List OpR) : Prop :=
  (∃ a c, v = .slice a 0 c ∧ l = []) ∨ ∃ (bl o cap : Nat), v = .slice (some ⟨bl, o, none⟩) l.length cap ∧ bl < w.heap.size ∧ l.length * 56 ≤ 140737488351232 ∧ ∀ j (hj : j < l.length), OpAt w bl (o + j * 5) l[j]

theorem OpAt.only {w w' : World} {bl o : Nat} {r : OpR} (h : OpAt w bl o r) (hb : bl < w.heap.size) (k : Only (fun _ => False) w w') : OpAt w' bl o r := by
  obtain ⟨h0, h1, h2, h3, ⟨a, n, c, h4, h5, h7⟩, h6⟩ := h
  refine ⟨?_, ?_, ?_, ?_, ⟨a, n, c, ?_, h5.only k (fun _ _ _ _ _ _ h => h), fun b o n c e hn => Nat.lt_of_lt_of_le (h7 b o n c e hn) k.size⟩, h6⟩
  · rw [k.cell (a := ⟨bl, o, none⟩) hb id]; exact h0
  · rw [k.cell (a := ⟨bl, o + 1, none⟩) hb id]; exact h1
  · rw [k.cell (a := ⟨bl, o + 2, none⟩) hb id]; exact h2
  · rw [k.cell (a := ⟨bl, o + 3, none⟩) hb id]; exact h3
  · rw [k.cell (a := ⟨bl, o + 4, none⟩) hb id]; exact h4

theorem OpsAt.form {w : World} {v : Value} {l : List OpR} (h : OpsAt w v l) : ∃ a cap, v = .slice a l.length cap := by
  rcases h with ⟨a, c, rfl, rfl⟩ | ⟨b, o, cap, rfl, _⟩
  · exact ⟨a, c, rfl⟩
  · exact ⟨_, _, rfl⟩
theorem OpsAt.len {w : World} {v : Value} {l : List OpR} (h : OpsAt w v l) : l.length * 56 ≤ 140737488351232 := by
  rcases h with ⟨_, _, _, rfl⟩ | ⟨b, o, cap, rfl, _, h, _⟩
  · simp
  · exact h

theorem take_bytes {l : List UInt8} {k : Nat} : ∀ j (h : j < (l.take k).length), (l.take k)[j] = l[j]'(by rw [List.length_take] at h; omega) := fun _ _ => List.getElem_take

/-- Front, as far as it matters to a buffer's data. -/
def FrontPost (w : World) (p ab : Nat) (L : List Bf) (k : Nat) (b : Bf) (e : Ending) (w' : World) : Prop :=
  ∃ x hd, e = .returned (.int .i64 x) ∧ PoolAt w' p ab (L.set k { b with head := hd }) ∧ Only (fun b => b = ab) w w'
theorem front_some {w : World} {p ab : Nat} {L : List Bf} (h : PoolAt w p ab L) {k : Nat} {b : Bf} (hk : L[k]? = some b) (hr : b.refs = 1) {d : List UInt8} {a : Option Addr} {n c : Nat} (hd : BytesAt w (.slice a n c) d) :
    Calls Try.prog 20 #[.pointer (some ⟨p, 0, none⟩), .int .i64 (k : Int), .slice a n c] w (FrontPost w p ab L k b) := by
  have hn : n = d.length := by
    obtain ⟨a', c', e⟩ := hd.form
    simp at e; exact e.2.1
  by_cases hl : d.length ≤ 104
  · subst hn
    exact (front_in h hk hr hd hl).mono (by rintro e w' ⟨rfl, h1, h2⟩; exact ⟨_, _, rfl, h1, h2⟩)
  · refine (front_long h hk hr a n c (by omega)).mono (by
      rintro e w' ⟨rfl, rfl⟩
      refine ⟨_, b.head, rfl, ?_, Only.refl _ _⟩
      have : L.set k b = L := by
        apply List.ext_getElem?
        intro j
        by_cases e : k = j
        · subst e; rw [List.getElem?_set_self (List.getElem?_eq_some_iff.1 hk).1, hk]
        · rw [List.getElem?_set_ne e]
      show PoolAt w p ab (L.set k b)
      rw [this]; exact h)

/-- A slice of slices of bytes. -/
def RowsAt (w : World) (v : Value) (l : List (List UInt8)) : Prop :=
  (∃ a c, v = .slice a 0 c ∧ l = []) ∨ ∃ (bl o cap : Nat), v = .slice (some ⟨bl, o, none⟩) l.length cap ∧ bl < w.heap.size ∧ l.length * 24 ≤ 140737488351232 ∧
    ∀ j (hj : j < l.length), ∃ a n c, w.cell? ⟨bl, o + j, none⟩ = some (.slice a n c) ∧ BytesAt w (.slice a n c) l[j] ∧ sliceIn (.slice a n c) (fun b => b < w.heap.size)
theorem RowsAt.form {w : World} {v : Value} {l : List (List UInt8)} (h : RowsAt w v l) : ∃ a cap, v = .slice a l.length cap := by
  rcases h with ⟨a, c, rfl, rfl⟩ | ⟨b, o, cap, rfl, _⟩
  · exact ⟨a, c, rfl⟩
  · exact ⟨_, _, rfl⟩
theorem RowsAt.len {w : World} {v : Value} {l : List (List UInt8)} (h : RowsAt w v l) : l.length * 24 ≤ 140737488351232 := by
  rcases h with ⟨_, _, _, rfl⟩ | ⟨b, o, cap, rfl, _, h, _⟩
  · simp
  · exact h

/-- A call that may have turned the buffers that one alone holds, and nothing else. -/
def ChgPost (w : World) (p ab : Nat) (L : List Bf) (e : Ending) (w' : World) : Prop :=
  ∃ x L', e = .returned (.int .i64 x) ∧ PoolAt w' p ab L' ∧ Only (fun b => b = ab) w w' ∧ L'.length = L.length ∧ ∀ (j : Nat) (b : Bf), L[j]? = some b → ∃ b' : Bf, L'[j]? = some b' ∧ b'.refs = b.refs ∧ (b.refs ≠ 1 → b' = b)

theorem ChgPost.same {w : World} {p ab : Nat} {L : List Bf} (h : PoolAt w p ab L) (x : Int) : ChgPost w p ab L (.returned (.int .i64 x)) w :=
  ⟨x, L, rfl, h, Only.refl _ _, rfl, fun j b hj => ⟨b, hj, rfl, fun _ => rfl⟩⟩

theorem ChgPost.turn {w w' : World} {p ab : Nat} {L : List Bf} {k : Nat} {b b1 : Bf} (hk : L[k]? = some b) (hr : b.refs = 1) (h : PoolAt w' p ab (L.set k b1)) (ho : Only (fun b => b = ab) w w') (hr1 : b1.refs = 1) (x : Int) : ChgPost w p ab L (.returned (.int .i64 x)) w' := by
  refine ⟨x, _, rfl, h, ho, by simp, fun j c hj => ?_⟩
  by_cases e : k = j
  · subst e
    rw [hk] at hj; cases hj
    exact ⟨b1, by rw [List.getElem?_set_self (List.getElem?_eq_some_iff.1 hk).1], by rw [hr, hr1], fun h => absurd hr h⟩
  · exact ⟨c, by rw [List.getElem?_set_ne e]; exact hj, rfl, fun _ => rfl⟩

theorem set_chg {w : World} {p ab : Nat} {L : List Bf} (h : PoolAt w p ab L) (id : Int) {d : List UInt8} {a : Option Addr} {n c : Nat} (hd : BytesAt w (.slice a n c) d) (hx : sliceIn (.slice a n c) (fun b => ¬ b = ab)) :
    Calls Try.prog 12 #[.pointer (some ⟨p, 0, none⟩), .int .i64 id, .slice a n c] w (ChgPost w p ab L) := by
  have hn : n = d.length := by
    obtain ⟨a', c', e⟩ := hd.form
    simp at e; exact e.2.1
  rcases own_cases L id with he | he | ⟨k, b, rfl, hk, hr⟩
  · exact (set_err h he a n c).mono (by rintro e w' ⟨rfl, rfl⟩; exact .same h _)
  · exact (set_err h he a n c).mono (by rintro e w' ⟨rfl, rfl⟩; exact .same h _)
  · by_cases hl : d.length ≤ 288
    · exact (set_in h hk hr hd hx hl).mono (by rintro e w' ⟨rfl, h1, h2⟩; exact .turn hk hr h1 h2 rfl _)
    · exact (set_long h hk hr a n c (by omega)).mono (by rintro e w' ⟨rfl, rfl⟩; exact .same h _)

theorem append_chg {w : World} {p ab : Nat} {L : List Bf} (h : PoolAt w p ab L) (id : Int) {d : List UInt8} {a : Option Addr} {n c : Nat} (hd : BytesAt w (.slice a n c) d) (hx : sliceIn (.slice a n c) (fun b => ¬ b = ab)) :
    Calls Try.prog 21 #[.pointer (some ⟨p, 0, none⟩), .int .i64 id, .slice a n c] w (ChgPost w p ab L) := by
  have hn : n = d.length := by
    obtain ⟨a', c', e⟩ := hd.form
    simp at e; exact e.2.1
  rcases own_cases L id with he | he | ⟨k, b, rfl, hk, hr⟩
  · exact (append_err h he a n c).mono (by rintro e w' ⟨rfl, rfl⟩; exact .same h _)
  · exact (append_err h he a n c).mono (by rintro e w' ⟨rfl, rfl⟩; exact .same h _)
  · by_cases hl : b.data.length + d.length ≤ 288
    · exact (append_in h hk hr hd hx hl).mono (by rintro e w' ⟨rfl, h1, h2⟩; exact .turn hk hr h1 h2 hr _)
    · exact (append_long h hk hr a n c (by omega) (by have := hd.len; omega)).mono (by rintro e w' ⟨rfl, rfl⟩; exact .same h _)
theorem trim_chg {w : World} {p ab : Nat} {L : List Bf} (h : PoolAt w p ab L) (id f g : Int) :
    Calls Try.prog 22 #[.pointer (some ⟨p, 0, none⟩), .int .i64 id, .int .i64 f, .int .i64 g] w (ChgPost w p ab L) := by
  rcases own_cases L id with he | he | ⟨k, b, rfl, hk, hr⟩
  · exact (trim_err h he f g).mono (by rintro e w' ⟨rfl, rfl⟩; exact .same h _)
  · exact (trim_err h he f g).mono (by rintro e w' ⟨rfl, rfl⟩; exact .same h _)
  · by_cases hl : MayTrim b f g
    · exact (trim_in h hk hr hl).mono (by rintro e w' ⟨rfl, h1, h2⟩; exact .turn hk hr h1 h2 hr _)
    · exact (trim_arg h hk hr hl).mono (by rintro e w' ⟨rfl, rfl⟩; exact .same h _)
theorem front_chg {w : World} {p ab : Nat} {L : List Bf} (h : PoolAt w p ab L) (id : Int) {d : List UInt8} {a : Option Addr} {n c : Nat} (hd : BytesAt w (.slice a n c) d) :
    Calls Try.prog 20 #[.pointer (some ⟨p, 0, none⟩), .int .i64 id, .slice a n c] w (ChgPost w p ab L) := by
  have hn : n = d.length := by
    obtain ⟨a', c', e⟩ := hd.form
    simp at e; exact e.2.1
  rcases own_cases L id with he | he | ⟨k, b, rfl, hk, hr⟩
  · exact (front_err h he a n c).mono (by rintro e w' ⟨rfl, rfl⟩; exact .same h _)
  · exact (front_err h he a n c).mono (by rintro e w' ⟨rfl, rfl⟩; exact .same h _)
  · by_cases hl : d.length ≤ 104
    · subst hn
      exact (front_in h hk hr hd hl).mono (by rintro e w' ⟨rfl, h1, h2⟩; exact .turn hk hr h1 h2 hr _)
    · exact (front_long h hk hr a n c (by omega)).mono (by rintro e w' ⟨rfl, rfl⟩; exact .same h _)

end Go.Proofs.Ythofjobcjkeomaa
