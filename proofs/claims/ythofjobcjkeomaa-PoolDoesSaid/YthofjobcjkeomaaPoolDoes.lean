/-
  'does', walked: a call on both pools gets one answer from both, and both go on alike.
-/
import Derived.Test.YthofjobcjkeomaaPoolSame
namespace Go.Proofs.Ythofjobcjkeomaa
open Go.RowKit
set_option maxRecDepth 100000
set_option maxHeartbeats 2000000

/-- As many buffers, and no count more than one above the greatest. -/
def Next (L L' : List Bf) : Prop := L'.length = L.length ∧ ∀ k, 1 ≤ k → (∀ b ∈ L, b.refs ≤ k) → ∀ b ∈ L', b.refs ≤ k + 1

theorem Next.rfl' (L : List Bf) : Next L L := ⟨rfl, fun _ _ h b hb => Nat.le_succ_of_le (h b hb)⟩
theorem Next.set {L : List Bf} {k : Nat} {b b1 : Bf} (hk : L[k]? = some b) (h : b1.refs ≤ b.refs + 1) : Next L (L.set k b1) := by
  refine ⟨by simp, fun m hm hL x hx => ?_⟩
  rcases List.mem_or_eq_of_mem_set hx with h1 | rfl
  · exact Nat.le_succ_of_le (hL x h1)
  · have := hL b (List.mem_of_getElem? hk)
    omega

def PAns (p ab : Nat) (L' : List Bf) (x : Int) (w : World) (e : Ending) (w' : World) : Prop := e = .returned (.int .i64 x) ∧ PoolAt w' p ab L' ∧ Only (fun b => b = p ∨ b = ab) w w'
def RAns (r rb : Nat) (base : Nat → Prop) (L' : List Bf) (x : Int) (w : World) (e : Ending) (w' : World) : Prop := e = .returned (.int .i64 x) ∧ RefAt w' r rb base L' ∧ Only (fun b => b = rb) w w'

theorem hold_pair {p ab r rb : Nat} {L : List Bf} (id : Int) (hm : ∀ b ∈ L, b.refs < 1000000000000000) :
    ∃ x L', Next L L' ∧ (∀ w, PoolAt w p ab L → Calls Try.prog 13 #[.pointer (some ⟨p, 0, none⟩), .int .i64 id] w (PAns p ab L' x w)) ∧
      (∀ w base, RefAt w r rb base L → Calls Try.prog 27 #[.pointer (some ⟨r, 0, none⟩), .int .i64 id] w (RAns r rb base L' x w)) := by
  by_cases hu : Used L id
  · obtain ⟨k, b, rfl, hk, hr⟩ := hu
    have hb := hm b (List.mem_of_getElem? hk)
    exact ⟨0, _, Next.set hk (Nat.le_refl _), fun w h => (hold_in h hk hr hb).mono (by rintro e w' ⟨rfl, h1, h2⟩; exact ⟨rfl, h1, h2.mono (fun _ h => .inl (.inr h))⟩),
      fun w _ h => (rhold_in h hk hr hb).mono (by rintro e w' ⟨rfl, h1, h2⟩; exact ⟨rfl, h1, h2⟩)⟩
  · exact ⟨7, L, Next.rfl' L, fun w h => (hold_no h hu).mono (by rintro e w' ⟨rfl, rfl⟩; exact ⟨rfl, h, Only.refl _ _⟩), fun w _ h => (rhold_no h hu).mono (by rintro e w' ⟨rfl, rfl⟩; exact ⟨rfl, h, Only.refl _ _⟩)⟩

theorem free_pair {p ab r rb : Nat} {L : List Bf} (id : Int) (hm : ∀ b ∈ L, b.refs < 1000000000000000) :
    ∃ x L', Next L L' ∧ (∀ w, PoolAt w p ab L → Calls Try.prog 14 #[.pointer (some ⟨p, 0, none⟩), .int .i64 id] w (PAns p ab L' x w)) ∧
      (∀ w base, RefAt w r rb base L → Calls Try.prog 28 #[.pointer (some ⟨r, 0, none⟩), .int .i64 id] w (RAns r rb base L' x w)) := by
  by_cases hu : Used L id
  · obtain ⟨k, b, rfl, hk, hr⟩ := hu
    have hb := hm b (List.mem_of_getElem? hk)
    exact ⟨0, L.set k { b with refs := b.refs - 1 }, Next.set hk (by show b.refs - 1 ≤ b.refs + 1; omega), fun w h => (free_in h hk hr hb).mono (by rintro e w' ⟨rfl, h1, h2⟩; exact ⟨rfl, h1, h2⟩),
      fun w _ h => (rfree_in h hk hr hb).mono (by rintro e w' ⟨rfl, h1, h2⟩; exact ⟨rfl, h1, h2⟩)⟩
  · exact ⟨7, L, Next.rfl' L, fun w h => (free_no h hu).mono (by rintro e w' ⟨rfl, rfl⟩; exact ⟨rfl, h, Only.refl _ _⟩), fun w _ h => (rfree_no h hu).mono (by rintro e w' ⟨rfl, rfl⟩; exact ⟨rfl, h, Only.refl _ _⟩)⟩

theorem trim_pair {p ab r rb : Nat} {L : List Bf} (id f g : Int) (hbd : ∀ b ∈ L, b.data.length ≤ 288) :
    ∃ x L', Next L L' ∧ (∀ w, PoolAt w p ab L → Calls Try.prog 22 #[.pointer (some ⟨p, 0, none⟩), .int .i64 id, .int .i64 f, .int .i64 g] w (PAns p ab L' x w)) ∧
      (∀ w base, RefAt w r rb base L → Calls Try.prog 31 #[.pointer (some ⟨r, 0, none⟩), .int .i64 id, .int .i64 f, .int .i64 g] w (RAns r rb base L' x w)) := by
  rcases own_cases L id with he | he | ⟨k, b, rfl, hk, hr⟩
  · exact ⟨_, L, Next.rfl' L, fun w h  => (trim_err h he f g).mono (by rintro e w' ⟨rfl, rfl⟩; exact ⟨rfl, h, Only.refl _ _⟩), fun w _ h => (rtrim_err h he f g).mono (by rintro e w' ⟨rfl, rfl⟩; exact ⟨rfl, h, Only.refl _ _⟩)⟩
  · exact ⟨_, L, Next.rfl' L, fun w h  => (trim_err h he f g).mono (by rintro e w' ⟨rfl, rfl⟩; exact ⟨rfl, h, Only.refl _ _⟩), fun w _ h => (rtrim_err h he f g).mono (by rintro e w' ⟨rfl, rfl⟩; exact ⟨rfl, h, Only.refl _ _⟩)⟩
  · have hb := hbd b (List.mem_of_getElem? hk)
    by_cases hl : MayTrim b f g
    · exact ⟨0, L.set k { b with data := (b.data.drop f.toNat).take (b.data.length - f.toNat - g.toNat) }, Next.set hk (Nat.le_succ _), fun w h  => (trim_in h hk hr hl).mono (by rintro e w' ⟨rfl, h1, h2⟩; exact ⟨rfl, h1, h2.mono (fun _ h => .inl (.inr h))⟩), fun w _ h => (rtrim_in h hk hr hl hb).mono (by rintro e w' ⟨rfl, h1, h2⟩; exact ⟨rfl, h1, h2⟩)⟩
    · exact ⟨1, L, Next.rfl' L, fun w h  => (trim_arg h hk hr hl).mono (by rintro e w' ⟨rfl, rfl⟩; exact ⟨rfl, h, Only.refl _ _⟩), fun w _ h => (rtrim_arg h hk hr hl hb).mono (by rintro e w' ⟨rfl, rfl⟩; exact ⟨rfl, h, Only.refl _ _⟩)⟩

theorem set_pair {p ab r rb : Nat} {L : List Bf} (id : Int) (d : List UInt8) (hbd : ∀ b ∈ L, b.data.length ≤ 288) :
    ∃ x L', Next L L' ∧ (∀ w, PoolAt w p ab L → ∀ (a : Option Addr) (n c : Nat), BytesAt w (.slice a n c) d → sliceIn (.slice a n c) (fun b => ¬ b = ab) → Calls Try.prog 12 #[.pointer (some ⟨p, 0, none⟩), .int .i64 id, .slice a n c] w (PAns p ab L' x w)) ∧
      (∀ w base, RefAt w r rb base L → ∀ (a : Option Addr) (n c : Nat), BytesAt w (.slice a n c) d → Calls Try.prog 29 #[.pointer (some ⟨r, 0, none⟩), .int .i64 id, .slice a n c] w (RAns r rb base L' x w)) := by
  rcases own_cases L id with he | he | ⟨k, b, rfl, hk, hr⟩
  · exact ⟨_, L, Next.rfl' L, fun w h a n c hd hx => (set_err h he _ _ _).mono (by rintro e w' ⟨rfl, rfl⟩; exact ⟨rfl, h, Only.refl _ _⟩), fun w _ h a n c hd => (rset_err h he _ _ _).mono (by rintro e w' ⟨rfl, rfl⟩; exact ⟨rfl, h, Only.refl _ _⟩)⟩
  · exact ⟨_, L, Next.rfl' L, fun w h a n c hd hx => (set_err h he _ _ _).mono (by rintro e w' ⟨rfl, rfl⟩; exact ⟨rfl, h, Only.refl _ _⟩), fun w _ h a n c hd => (rset_err h he _ _ _).mono (by rintro e w' ⟨rfl, rfl⟩; exact ⟨rfl, h, Only.refl _ _⟩)⟩
  · have hb := hbd b (List.mem_of_getElem? hk)
    by_cases hl : d.length ≤ 288
    · exact ⟨0, L.set k ⟨1, [], d⟩, Next.set hk (by show 1 ≤ b.refs + 1; omega), fun w h a n c hd hx => (set_in h hk hr hd hx hl).mono (by rintro e w' ⟨rfl, h1, h2⟩; exact ⟨rfl, h1, h2.mono (fun _ h => .inl (.inr h))⟩), fun w _ h a n c hd => (rset_in h hk hr hd hl).mono (by rintro e w' ⟨rfl, h1, h2⟩; exact ⟨rfl, h1, h2⟩)⟩
    · exact ⟨2, L, Next.rfl' L, fun w h a n c hd hx => (set_long h hk hr _ _ _ (by rw [(show n = d.length from by obtain ⟨_, _, e⟩ := hd.form; simp at e; exact e.2.1)]; omega)).mono (by rintro e w' ⟨rfl, rfl⟩; exact ⟨rfl, h, Only.refl _ _⟩), fun w _ h a n c hd => (rset_long h hk hr _ _ _ (by rw [(show n = d.length from by obtain ⟨_, _, e⟩ := hd.form; simp at e; exact e.2.1)]; omega)).mono (by rintro e w' ⟨rfl, rfl⟩; exact ⟨rfl, h, Only.refl _ _⟩)⟩

theorem append_pair {p ab r rb : Nat} {L : List Bf} (id : Int) (d : List UInt8) (hbd : ∀ b ∈ L, b.data.length ≤ 288) :
    ∃ x L', Next L L' ∧ (∀ w, PoolAt w p ab L → ∀ (a : Option Addr) (n c : Nat), BytesAt w (.slice a n c) d → sliceIn (.slice a n c) (fun b => ¬ b = ab) → Calls Try.prog 21 #[.pointer (some ⟨p, 0, none⟩), .int .i64 id, .slice a n c] w (PAns p ab L' x w)) ∧
      (∀ w base, RefAt w r rb base L → ∀ (a : Option Addr) (n c : Nat), BytesAt w (.slice a n c) d → Calls Try.prog 30 #[.pointer (some ⟨r, 0, none⟩), .int .i64 id, .slice a n c] w (RAns r rb base L' x w)) := by
  rcases own_cases L id with he | he | ⟨k, b, rfl, hk, hr⟩
  · exact ⟨_, L, Next.rfl' L, fun w h a n c hd hx => (append_err h he _ _ _).mono (by rintro e w' ⟨rfl, rfl⟩; exact ⟨rfl, h, Only.refl _ _⟩), fun w _ h a n c hd => (rappend_err h he _ _ _).mono (by rintro e w' ⟨rfl, rfl⟩; exact ⟨rfl, h, Only.refl _ _⟩)⟩
  · exact ⟨_, L, Next.rfl' L, fun w h a n c hd hx => (append_err h he _ _ _).mono (by rintro e w' ⟨rfl, rfl⟩; exact ⟨rfl, h, Only.refl _ _⟩), fun w _ h a n c hd => (rappend_err h he _ _ _).mono (by rintro e w' ⟨rfl, rfl⟩; exact ⟨rfl, h, Only.refl _ _⟩)⟩
  · have hb := hbd b (List.mem_of_getElem? hk)
    by_cases hl : b.data.length + d.length ≤ 288
    · exact ⟨0, L.set k { b with data := b.data ++ d }, Next.set hk (Nat.le_succ _), fun w h a n c hd hx => (append_in h hk hr hd hx hl).mono (by rintro e w' ⟨rfl, h1, h2⟩; exact ⟨rfl, h1, h2.mono (fun _ h => .inl (.inr h))⟩), fun w _ h a n c hd => (rappend_in h hk hr hd hl).mono (by rintro e w' ⟨rfl, h1, h2⟩; exact ⟨rfl, h1, h2⟩)⟩
    · exact ⟨2, L, Next.rfl' L, fun w h a n c hd hx => (append_long h hk hr _ _ _ (by rw [(show n = d.length from by obtain ⟨_, _, e⟩ := hd.form; simp at e; exact e.2.1)]; omega) (by have := hd.len; have e := (show n = d.length from by obtain ⟨_, _, e⟩ := hd.form; simp at e; exact e.2.1); omega)).mono (by rintro e w' ⟨rfl, rfl⟩; exact ⟨rfl, h, Only.refl _ _⟩), fun w _ h a n c hd => (rappend_long h hk hr _ _ _ (by rw [(show n = d.length from by obtain ⟨_, _, e⟩ := hd.form; simp at e; exact e.2.1)]; omega) (by have := hd.len; have e := (show n = d.length from by obtain ⟨_, _, e⟩ := hd.form; simp at e; exact e.2.1); omega) hb).mono (by rintro e w' ⟨rfl, rfl⟩; exact ⟨rfl, h, Only.refl _ _⟩)⟩

theorem front_pair {p ab r rb : Nat} {L : List Bf} (id : Int) (d : List UInt8) (hbd : ∀ b ∈ L, b.data.length ≤ 288) :
    ∃ x L', Next L L' ∧ (∀ w, PoolAt w p ab L → ∀ (a : Option Addr) (n c : Nat), BytesAt w (.slice a n c) d → sliceIn (.slice a n c) (fun b => ¬ b = ab) → Calls Try.prog 20 #[.pointer (some ⟨p, 0, none⟩), .int .i64 id, .slice a n c] w (PAns p ab L' x w)) ∧
      (∀ w base, RefAt w r rb base L → ∀ (a : Option Addr) (n c : Nat), BytesAt w (.slice a n c) d → Calls Try.prog 32 #[.pointer (some ⟨r, 0, none⟩), .int .i64 id, .slice a n c] w (RAns r rb base L' x w)) := by
  rcases own_cases L id with he | he | ⟨k, b, rfl, hk, hr⟩
  · exact ⟨_, L, Next.rfl' L, fun w h a n c hd hx => (front_err h he _ _ _).mono (by rintro e w' ⟨rfl, rfl⟩; exact ⟨rfl, h, Only.refl _ _⟩), fun w _ h a n c hd => (rfront_err h he _ _ _).mono (by rintro e w' ⟨rfl, rfl⟩; exact ⟨rfl, h, Only.refl _ _⟩)⟩
  · exact ⟨_, L, Next.rfl' L, fun w h a n c hd hx => (front_err h he _ _ _).mono (by rintro e w' ⟨rfl, rfl⟩; exact ⟨rfl, h, Only.refl _ _⟩), fun w _ h a n c hd => (rfront_err h he _ _ _).mono (by rintro e w' ⟨rfl, rfl⟩; exact ⟨rfl, h, Only.refl _ _⟩)⟩
  · have hb := hbd b (List.mem_of_getElem? hk)
    by_cases hl : d.length ≤ 104
    · exact ⟨0, L.set k { b with head := d }, Next.set hk (Nat.le_succ _), fun w h a n c hd hx => (front_in h hk hr hd hl).mono (by rintro e w' ⟨rfl, h1, h2⟩; exact ⟨rfl, h1, h2.mono (fun _ h => .inl (.inr h))⟩), fun w _ h a n c hd => (rfront_in h hk hr hd hl).mono (by rintro e w' ⟨rfl, h1, h2⟩; exact ⟨rfl, h1, h2⟩)⟩
    · exact ⟨2, L, Next.rfl' L, fun w h a n c hd hx => (front_long h hk hr _ _ _ (by rw [(show n = d.length from by obtain ⟨_, _, e⟩ := hd.form; simp at e; exact e.2.1)]; omega)).mono (by rintro e w' ⟨rfl, rfl⟩; exact ⟨rfl, h, Only.refl _ _⟩), fun w _ h a n c hd => (rfront_long h hk hr _ _ _ (by rw [(show n = d.length from by obtain ⟨_, _, e⟩ := hd.form; simp at e; exact e.2.1)]; omega)).mono (by rintro e w' ⟨rfl, rfl⟩; exact ⟨rfl, h, Only.refl _ _⟩)⟩

end Go.Proofs.Ythofjobcjkeomaa
