/-
  A region that draws its order, whose operations read what was there and whose calls turn no old block: walked once, in the class of worlds that only new blocks part from the first; with a forced tail, or without.
-/
import Derived.Test.YtpodmpidelifeaaHeap
import Derived.Test.YtpodmpidelifeaaRegion
namespace Go.Proofs.Ytpodmpidelifeaa

/-- A world in which all old blocks are as they were. -/
structure Near (w : World) where
  v : World
  h : Only (fun _ => False) w v

instance near_some (w : World) : Nonempty (Near w) := ⟨⟨w, Only.refl _ _⟩⟩

theorem near_drew (w : World) : ∃ x : Near w, ({ w with drawn := w.drawn + 1 } : World) = x.v := ⟨⟨w.drewN 1, (Only.refl _ _).drewN 1⟩, rfl⟩

section
variable {P : Program} {id : Nat} {Q : Exit → Act → World → Prop} {a : Act} {w : World} {l : List Oper}
theorem wp_region_near_tail (n : Nat) (hm : P.follows .mixedOrders = true) (hB : Region.lexTailB .any l.toArray n = true)
    (h : wpQuiet P l.toArray (fun w' => ∃ x : Near w, w' = x.v) (fun a' => ∀ x : Near w, wpList P l.toArray Q (l.drop n) a' x.v) (l.take n) a) : (Code.region id l.toArray true).wp P Q a w :=
  wp_region_quiet_tail (C := fun w' => ∃ x : Near w, w' = x.v) n hm hB (near_drew w) (by
    have e : (fun a' => ∀ x : Near w, wpList P l.toArray Q (l.drop n) a' x.v) = (fun a' => ∀ w', (∃ x : Near w, w' = x.v) → wpList P l.toArray Q (l.drop n) a' w') := by
      funext a'; apply propext
      exact ⟨fun H w' ⟨q, hq⟩ => hq ▸ H q, fun H q => H _ ⟨q, rfl⟩⟩
    rw [← e]; exact h)
theorem wp_region_near (hm : P.follows .mixedOrders = true) (hB : Region.lexB .any l.toArray = true)
    (h : wpQuiet P l.toArray (fun w' => ∃ x : Near w, w' = x.v) (fun a' => ∀ x : Near w, Q .normal a' x.v) l a) : (Code.region id l.toArray true).wp P Q a w :=
  wp_region_quiet (C := fun w' => ∃ x : Near w, w' = x.v) hm hB (near_drew w) (by
    have e : (fun a' => ∀ x : Near w, Q .normal a' x.v) = (fun a' => ∀ w', (∃ x : Near w, w' = x.v) → Q .normal a' w') := by
      funext a'; apply propext
      exact ⟨fun H w' ⟨q, hq⟩ => hq ▸ H q, fun H q => H _ ⟨q, rfl⟩⟩
    simp only [List.toArray]
    rw [← e]; exact h)
theorem near_call {f : FuncId} {args : Array Value} {v : Value} (x : Near w) (h : Calls P f args x.v fun e w' => e = .returned v ∧ Only (fun _ => False) x.v w') :
    Calls P f args x.v fun e w'' => e = .returned v ∧ ∃ y : Near w, w'' = y.v := h.mono fun _ w' ⟨h1, h2⟩ => ⟨h1, ⟨w', x.h.trans h2⟩, rfl⟩
theorem near_same {f : FuncId} {args : Array Value} {v : Value} (x : Near w) (h : Calls P f args x.v fun e w' => e = .returned v ∧ x.v = w') :
    Calls P f args x.v fun e w'' => e = .returned v ∧ ∃ y : Near w, w'' = y.v := h.mono fun _ _ ⟨h1, h2⟩ => ⟨h1, x, h2.symm⟩
theorem near_drawn {f : FuncId} {args : Array Value} {v : Value} (x : Near w) (h : Calls P f args x.v fun e w' => e = .returned v ∧ ∃ n, w' = x.v.drewN n) :
    Calls P f args x.v fun e w'' => e = .returned v ∧ ∃ y : Near w, w'' = y.v := h.mono fun _ w' ⟨h1, n, h2⟩ => ⟨h1, ⟨w', h2 ▸ x.h.drewN n⟩, rfl⟩
end
/-- What a block known whole says of each near world. -/
theorem Blk.near {w : World} {b : Nat} {c : List Value} {T : TypeId} (h : Blk w b c T) (x : Near w) : Blk x.v b c T := x.h.blk h id
end Go.Proofs.Ytpodmpidelifeaa
