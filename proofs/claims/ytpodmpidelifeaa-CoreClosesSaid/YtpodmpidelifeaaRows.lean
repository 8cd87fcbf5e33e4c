/-
  No cell of these rows narrows 'for every input' (looked for: loops, veiled, ifaces, maps, wideKeys, modest, calm, conditions, laid).
  DERIVED. THE GIVEN ROWS OF THIS SEAT. 5 by the template 'for every input the law returns true; each argument reads behind the call as it read before'; 0 by the template 'total and deterministic' (their statements: YtpodmpidelifeaaTotals.lean).
  GIVEN WITH THE SEED: the statements are not yours to turn. If you find one false, say at which input.
  Laid BY PROGRAM, IN A SANDBOX (cutbox-rows.mjs): the forced cells as the released guide's own fill.sh prints them over the translation aa726b4f7d3fab57… (all of the seat's roots in one cut). By AI agents, Wed Nov 11 2026. No macro, syntax, notation, axiom, sorry.
-/
import Derived.Test.YtpodmpidelifeaaChecked
import GoSem.Claim
import GoSem.ClaimJoined
import GoSem.ClaimMapViews
import Derived.JoinedTies
import Derived.KernelRfl
namespace Go.Proofs.Ytpodmpidelifeaa
/- THE CELL 'sum', in the pinned program and in every row, IS THE sha256 OF THE DUMP (.gsa) THAT YtpodmpidelifeaaProg.lean LOADS. Nothing in Lean hashes anything: it is a label: what it is worth is what the hold of that sum in a sandbox is worth. -/
noncomputable def Try.pinned : Pinned := { name := "ytpodmpidelifeaa", sum := "aa726b4f7d3fab57cd845fcf7c1b99c22162bffd9bfda1b022d414f99e819e37", checked := Try.checked }
namespace Rows
def none {H : Type} : Left H := { results := [], args := [] }

/-- 'packhorselaw15.CoreWithin': WHATEVER THE INPUT: true; the input reads as it did. -/
def coreWithinSpec : ChangeSpec := { name := "coreWithin", fn := fun _ => fun
  | [d1, d2] => { results := [.lit (.bool true)], args := [d1, d2] }
  | _ => none }
def coreWithinRow : OpenClaim := { program := "ytpodmpidelifeaa", sum := "aa726b4f7d3fab57cd845fcf7c1b99c22162bffd9bfda1b022d414f99e819e37", func := "packhorse/packhorselaw15.CoreWithin", spec := "coreWithin", unfollowed := true, recurses := true, apart := false }
def CoreWithinSaid : Prop := coreWithinRow.holds Try.pinned (OpenSpec.ofChange coreWithinSpec)

/-- ITS FALSE NEIGHBOUR: 'it returns false'. Refute it at one input. -/
def coreWithinWrong : ChangeSpec := { name := "coreWithin", fn := fun _ => fun
  | [d1, d2] => { results := [.lit (.bool false)], args := [d1, d2] }
  | _ => none }
def CoreWithinWrongFalsely : Prop := coreWithinRow.holds Try.pinned (OpenSpec.ofChange coreWithinWrong)

/-- 'packhorselaw15.CoreBlind': WHATEVER THE INPUT: true; the input reads as it did. -/
def coreBlindSpec : ChangeSpec := { name := "coreBlind", fn := fun _ => fun
  | [d1, d2, d3, d4, d5] => { results := [.lit (.bool true)], args := [d1, d2, d3, d4, d5] }
  | _ => none }
def coreBlindRow : OpenClaim := { program := "ytpodmpidelifeaa", sum := "aa726b4f7d3fab57cd845fcf7c1b99c22162bffd9bfda1b022d414f99e819e37", func := "packhorse/packhorselaw15.CoreBlind", spec := "coreBlind", unfollowed := true, recurses := true, apart := false }
def CoreBlindSaid : Prop := coreBlindRow.holds Try.pinned (OpenSpec.ofChange coreBlindSpec)

/-- ITS FALSE NEIGHBOUR: 'it returns false'. Refute it at one input. -/
def coreBlindWrong : ChangeSpec := { name := "coreBlind", fn := fun _ => fun
  | [d1, d2, d3, d4, d5] => { results := [.lit (.bool false)], args := [d1, d2, d3, d4, d5] }
  | _ => none }
def CoreBlindWrongFalsely : Prop := coreBlindRow.holds Try.pinned (OpenSpec.ofChange coreBlindWrong)

/-- 'packhorselaw15.CoreMeets': WHATEVER THE INPUT: true; the input reads as it did. -/
def coreMeetsSpec : ChangeSpec := { name := "coreMeets", fn := fun _ => fun
  | [d1, d2, d3, d4, d5] => { results := [.lit (.bool true)], args := [d1, d2, d3, d4, d5] }
  | _ => none }
def coreMeetsRow : OpenClaim := { program := "ytpodmpidelifeaa", sum := "aa726b4f7d3fab57cd845fcf7c1b99c22162bffd9bfda1b022d414f99e819e37", func := "packhorse/packhorselaw15.CoreMeets", spec := "coreMeets", unfollowed := true, recurses := true, apart := false }
def CoreMeetsSaid : Prop := coreMeetsRow.holds Try.pinned (OpenSpec.ofChange coreMeetsSpec)

/-- ITS FALSE NEIGHBOUR: 'it returns false'. Refute it at one input. -/
def coreMeetsWrong : ChangeSpec := { name := "coreMeets", fn := fun _ => fun
  | [d1, d2, d3, d4, d5] => { results := [.lit (.bool false)], args := [d1, d2, d3, d4, d5] }
  | _ => none }
def CoreMeetsWrongFalsely : Prop := coreMeetsRow.holds Try.pinned (OpenSpec.ofChange coreMeetsWrong)

/-- 'packhorselaw15.CoreBegins': WHATEVER THE INPUT: true; the input reads as it did. -/
def coreBeginsSpec : ChangeSpec := { name := "coreBegins", fn := fun _ => fun
  | [d1, d2, d3] => { results := [.lit (.bool true)], args := [d1, d2, d3] }
  | _ => none }
def coreBeginsRow : OpenClaim := { program := "ytpodmpidelifeaa", sum := "aa726b4f7d3fab57cd845fcf7c1b99c22162bffd9bfda1b022d414f99e819e37", func := "packhorse/packhorselaw15.CoreBegins", spec := "coreBegins", unfollowed := true, recurses := true, apart := false }
def CoreBeginsSaid : Prop := coreBeginsRow.holds Try.pinned (OpenSpec.ofChange coreBeginsSpec)

/-- ITS FALSE NEIGHBOUR: 'it returns false'. Refute it at one input. -/
def coreBeginsWrong : ChangeSpec := { name := "coreBegins", fn := fun _ => fun
  | [d1, d2, d3] => { results := [.lit (.bool false)], args := [d1, d2, d3] }
  | _ => none }
def CoreBeginsWrongFalsely : Prop := coreBeginsRow.holds Try.pinned (OpenSpec.ofChange coreBeginsWrong)

/-- 'packhorselaw15.CoreCloses': WHATEVER THE INPUT: true; the input reads as it did. -/
def coreClosesSpec : ChangeSpec := { name := "coreCloses", fn := fun _ => fun
  | [d1, d2, d3] => { results := [.lit (.bool true)], args := [d1, d2, d3] }
  | _ => none }
def coreClosesRow : OpenClaim := { program := "ytpodmpidelifeaa", sum := "aa726b4f7d3fab57cd845fcf7c1b99c22162bffd9bfda1b022d414f99e819e37", func := "packhorse/packhorselaw15.CoreCloses", spec := "coreCloses", unfollowed := true, recurses := true, apart := false }
def CoreClosesSaid : Prop := coreClosesRow.holds Try.pinned (OpenSpec.ofChange coreClosesSpec)

/-- ITS FALSE NEIGHBOUR: 'it returns false'. Refute it at one input. -/
def coreClosesWrong : ChangeSpec := { name := "coreCloses", fn := fun _ => fun
  | [d1, d2, d3] => { results := [.lit (.bool false)], args := [d1, d2, d3] }
  | _ => none }
def CoreClosesWrongFalsely : Prop := coreClosesRow.holds Try.pinned (OpenSpec.ofChange coreClosesWrong)

/- THE SECOND FORM. 'bulk': how many values and letters a reading holds, each counted each time it is reached (what is shared counts as often as it is met; a slice's spare places count too). A statement '..UptoSaid' is the law's where the arguments, and the package variables that the reading takes, are together of bulk at most 1048576: NARROWER than '..Said'. Prove '..Said' where nothing that the law and all that it calls make is longer than what came in: it says more and counts as full. Else prove '..UptoSaid'. A law counts once. -/
mutual
def uptoBulk {H : Type} : DataW H → Nat
  | .lit (.string bytes) => bytes.length + 1
  | .lit _ => 1
  | .nil => 1
  | .ptr d => uptoBulk d + 1
  | .slice elems spare => uptoBulkAll elems + uptoBulkAll spare + 1
  | .agg parts => uptoBulkAll parts + 1
  | .iface _ d => uptoBulk d + 1
  | .map entries => uptoBulkEntries entries + 1
  | .held _ => 1
def uptoBulkAll {H : Type} : List (DataW H) → Nat
  | [] => 0
  | d :: r => uptoBulk d + uptoBulkAll r
def uptoBulkEntries {H : Type} : List (Lit × DataW H) → Nat
  | [] => 0
  | x :: r => uptoBulkEntry x + uptoBulkEntries r
def uptoBulkEntry {H : Type} : Lit × DataW H → Nat
  | (.string bytes, d) => bytes.length + uptoBulk d + 1
  | (_, d) => uptoBulk d + 1
 end
def uptoSmall : (H : Type) → List (DataW H) → Bool := fun _ ds => decide (uptoBulkAll ds ≤ 1048576)
def OpenSpec.upto (s : _root_.Go.ChangeSpec) : _root_.Go.OpenSpec := { _root_.Go.OpenSpec.ofChange s with cond := some uptoSmall }

/-- 'packhorselaw15.CoreWithin', WHERE WHAT IT READS IS OF BULK AT MOST 1048576: true; the input reads as it did. -/
def coreWithinUptoRow : OpenClaim := { program := "ytpodmpidelifeaa", sum := "aa726b4f7d3fab57cd845fcf7c1b99c22162bffd9bfda1b022d414f99e819e37", func := "packhorse/packhorselaw15.CoreWithin", spec := "coreWithin", unfollowed := true, recurses := true, apart := false, narrowed := true }
def CoreWithinUptoSaid : Prop := coreWithinUptoRow.holds Try.pinned (OpenSpec.upto coreWithinSpec)

/-- 'packhorselaw15.CoreBlind', WHERE WHAT IT READS IS OF BULK AT MOST 1048576: true; the input reads as it did. -/
def coreBlindUptoRow : OpenClaim := { program := "ytpodmpidelifeaa", sum := "aa726b4f7d3fab57cd845fcf7c1b99c22162bffd9bfda1b022d414f99e819e37", func := "packhorse/packhorselaw15.CoreBlind", spec := "coreBlind", unfollowed := true, recurses := true, apart := false, narrowed := true }
def CoreBlindUptoSaid : Prop := coreBlindUptoRow.holds Try.pinned (OpenSpec.upto coreBlindSpec)

/-- 'packhorselaw15.CoreMeets', WHERE WHAT IT READS IS OF BULK AT MOST 1048576: true; the input reads as it did. -/
def coreMeetsUptoRow : OpenClaim := { program := "ytpodmpidelifeaa", sum := "aa726b4f7d3fab57cd845fcf7c1b99c22162bffd9bfda1b022d414f99e819e37", func := "packhorse/packhorselaw15.CoreMeets", spec := "coreMeets", unfollowed := true, recurses := true, apart := false, narrowed := true }
def CoreMeetsUptoSaid : Prop := coreMeetsUptoRow.holds Try.pinned (OpenSpec.upto coreMeetsSpec)

/-- 'packhorselaw15.CoreBegins', WHERE WHAT IT READS IS OF BULK AT MOST 1048576: true; the input reads as it did. -/
def coreBeginsUptoRow : OpenClaim := { program := "ytpodmpidelifeaa", sum := "aa726b4f7d3fab57cd845fcf7c1b99c22162bffd9bfda1b022d414f99e819e37", func := "packhorse/packhorselaw15.CoreBegins", spec := "coreBegins", unfollowed := true, recurses := true, apart := false, narrowed := true }
def CoreBeginsUptoSaid : Prop := coreBeginsUptoRow.holds Try.pinned (OpenSpec.upto coreBeginsSpec)

/-- 'packhorselaw15.CoreCloses', WHERE WHAT IT READS IS OF BULK AT MOST 1048576: true; the input reads as it did. -/
def coreClosesUptoRow : OpenClaim := { program := "ytpodmpidelifeaa", sum := "aa726b4f7d3fab57cd845fcf7c1b99c22162bffd9bfda1b022d414f99e819e37", func := "packhorse/packhorselaw15.CoreCloses", spec := "coreCloses", unfollowed := true, recurses := true, apart := false, narrowed := true }
def CoreClosesUptoSaid : Prop := coreClosesUptoRow.holds Try.pinned (OpenSpec.upto coreClosesSpec)

end Rows
end Go.Proofs.Ytpodmpidelifeaa
