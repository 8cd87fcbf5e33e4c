/-
  No cell of these rows narrows 'for every input' (looked for: loops, veiled, ifaces, maps, wideKeys, modest, calm, conditions, laid).
  DERIVED. THE GIVEN ROWS OF THIS SEAT. 3 by the template 'for every input the law returns true; each argument reads behind the call as it read before'; 0 by the template 'total and deterministic' (their statements: YtghfkgcaglabpaaTotals.lean).
  GIVEN WITH THE SEED: the statements are not yours to turn. If you find one false, say at which input.
  Laid BY PROGRAM, IN A SANDBOX (cutbox-rows.mjs): the forced cells as the released guide's own fill.sh prints them over the translation 0fc89771955c723d… (all of the seat's roots in one cut). By AI agents, Wed Nov 11 2026. No macro, syntax, notation, axiom, sorry.
-/
import Derived.Test.YtghfkgcaglabpaaChecked
import GoSem.Claim
import GoSem.ClaimJoined
import GoSem.ClaimMapViews
import Derived.JoinedTies
import Derived.KernelRfl
namespace Go.Proofs.Ytghfkgcaglabpaa
/- THE CELL 'sum', in the pinned program and in every row, IS THE sha256 OF THE DUMP (.gsa) THAT YtghfkgcaglabpaaProg.lean LOADS. Nothing in Lean hashes anything: it is a label: what it is worth is what the hold of that sum in a sandbox is worth. -/
noncomputable def Try.pinned : Pinned := { name := "ytghfkgcaglabpaa", sum := "0fc89771955c723d63ae0e10c3dd5211b09c1a90619d7141892e52c2581682e2", checked := Try.checked }
namespace Rows
def none {H : Type} : Left H := { results := [], args := [] }

/-- 'packhorselaw06.RingHolds': WHATEVER THE INPUT: true; the input reads as it did. -/
def ringHoldsSpec : ChangeSpec := { name := "ringHolds", fn := fun _ => fun
  | [d1, d2] => { results := [.lit (.bool true)], args := [d1, d2] }
  | _ => none }
def ringHoldsRow : OpenClaim := { program := "ytghfkgcaglabpaa", sum := "0fc89771955c723d63ae0e10c3dd5211b09c1a90619d7141892e52c2581682e2", func := "packhorse/packhorselaw06.RingHolds", spec := "ringHolds", unfollowed := true, recurses := true, apart := false }
def RingHoldsSaid : Prop := ringHoldsRow.holds Try.pinned (OpenSpec.ofChange ringHoldsSpec)

/-- ITS FALSE NEIGHBOUR: 'it returns false'. Refute it at one input. -/
def ringHoldsWrong : ChangeSpec := { name := "ringHolds", fn := fun _ => fun
  | [d1, d2] => { results := [.lit (.bool false)], args := [d1, d2] }
  | _ => none }
def RingHoldsWrongFalsely : Prop := ringHoldsRow.holds Try.pinned (OpenSpec.ofChange ringHoldsWrong)

/-- 'packhorselaw06.RingDown': WHATEVER THE INPUT: true; the input reads as it did. -/
def ringDownSpec : ChangeSpec := { name := "ringDown", fn := fun _ => fun
  | [d1, d2, d3] => { results := [.lit (.bool true)], args := [d1, d2, d3] }
  | _ => none }
def ringDownRow : OpenClaim := { program := "ytghfkgcaglabpaa", sum := "0fc89771955c723d63ae0e10c3dd5211b09c1a90619d7141892e52c2581682e2", func := "packhorse/packhorselaw06.RingDown", spec := "ringDown", unfollowed := true, recurses := true, apart := false }
def RingDownSaid : Prop := ringDownRow.holds Try.pinned (OpenSpec.ofChange ringDownSpec)

/-- ITS FALSE NEIGHBOUR: 'it returns false'. Refute it at one input. -/
def ringDownWrong : ChangeSpec := { name := "ringDown", fn := fun _ => fun
  | [d1, d2, d3] => { results := [.lit (.bool false)], args := [d1, d2, d3] }
  | _ => none }
def RingDownWrongFalsely : Prop := ringDownRow.holds Try.pinned (OpenSpec.ofChange ringDownWrong)

/-- 'packhorselaw06.RingFills': WHATEVER THE INPUT: true; the input reads as it did. -/
def ringFillsSpec : ChangeSpec := { name := "ringFills", fn := fun _ => fun
  | [d1, d2] => { results := [.lit (.bool true)], args := [d1, d2] }
  | _ => none }
def ringFillsRow : OpenClaim := { program := "ytghfkgcaglabpaa", sum := "0fc89771955c723d63ae0e10c3dd5211b09c1a90619d7141892e52c2581682e2", func := "packhorse/packhorselaw06.RingFills", spec := "ringFills", unfollowed := true, recurses := true, apart := false }
def RingFillsSaid : Prop := ringFillsRow.holds Try.pinned (OpenSpec.ofChange ringFillsSpec)

/-- ITS FALSE NEIGHBOUR: 'it returns false'. Refute it at one input. -/
def ringFillsWrong : ChangeSpec := { name := "ringFills", fn := fun _ => fun
  | [d1, d2] => { results := [.lit (.bool false)], args := [d1, d2] }
  | _ => none }
def RingFillsWrongFalsely : Prop := ringFillsRow.holds Try.pinned (OpenSpec.ofChange ringFillsWrong)

/- THE SECOND FORM. 'bulk': how many values and letters a reading holds, each counted each time it is reached (what is shared counts as often as it is met; a slice's spare places count too). A statement '..UptoSaid' is the law's where the arguments, and the package variables that the reading takes, are together of bulk at most 1048576: NARROWER than '..Said'. Prove '..Said' where nothing that the law and all that it calls make is longer than what came in: it says more and counts as full. Else prove '..UptoSaid'. A law counts once. -/
mutual
def uptoBulk {H : Type} : DataW H → Nat
  | .lit (.string bytes) => bytes.length + 1
  | .lit _ => 1
  | .nil => 1
  | .ptr d => uptoBulk d + 1
  | .slice elems spare => uptoBulkAll elems + uptoBulkAll spare + 1
  | .agg parts => uptoBulkAll parts + 1
  | .iface _ d => uptoBulk d + 1
  | .map entries => uptoBulkEntries entries + 1
  | .held _ => 1
def uptoBulkAll {H : Type} : List (DataW H) → Nat
  | [] => 0
  | d :: r => uptoBulk d + uptoBulkAll r
def uptoBulkEntries {H : Type} : List (Lit × DataW H) → Nat
  | [] => 0
  | x :: r => uptoBulkEntry x + uptoBulkEntries r
def uptoBulkEntry {H : Type} : Lit × DataW H → Nat
  | (.string bytes, d) => bytes.length + uptoBulk d + 1
  | (_, d) => uptoBulk d + 1
 end
def uptoSmall : (H : Type) → List (DataW H) → Bool := fun _ ds => decide (uptoBulkAll ds ≤ 1048576)
def OpenSpec.upto (s : _root_.Go.ChangeSpec) : _root_.Go.OpenSpec := { _root_.Go.OpenSpec.ofChange s with cond := some uptoSmall }

/-- 'packhorselaw06.RingHolds', WHERE WHAT IT READS IS OF BULK AT MOST 1048576: true; the input reads as it did. -/
def ringHoldsUptoRow : OpenClaim := { program := "ytghfkgcaglabpaa", sum := "0fc89771955c723d63ae0e10c3dd5211b09c1a90619d7141892e52c2581682e2", func := "packhorse/packhorselaw06.RingHolds", spec := "ringHolds", unfollowed := true, recurses := true, apart := false, narrowed := true }
def RingHoldsUptoSaid : Prop := ringHoldsUptoRow.holds Try.pinned (OpenSpec.upto ringHoldsSpec)

/-- 'packhorselaw06.RingDown', WHERE WHAT IT READS IS OF BULK AT MOST 1048576: true; the input reads as it did. -/
def ringDownUptoRow : OpenClaim := { program := "ytghfkgcaglabpaa", sum := "0fc89771955c723d63ae0e10c3dd5211b09c1a90619d7141892e52c2581682e2", func := "packhorse/packhorselaw06.RingDown", spec := "ringDown", unfollowed := true, recurses := true, apart := false, narrowed := true }
def RingDownUptoSaid : Prop := ringDownUptoRow.holds Try.pinned (OpenSpec.upto ringDownSpec)

/-- 'packhorselaw06.RingFills', WHERE WHAT IT READS IS OF BULK AT MOST 1048576: true; the input reads as it did. -/
def ringFillsUptoRow : OpenClaim := { program := "ytghfkgcaglabpaa", sum := "0fc89771955c723d63ae0e10c3dd5211b09c1a90619d7141892e52c2581682e2", func := "packhorse/packhorselaw06.RingFills", spec := "ringFills", unfollowed := true, recurses := true, apart := false, narrowed := true }
def RingFillsUptoSaid : Prop := ringFillsUptoRow.holds Try.pinned (OpenSpec.upto ringFillsSpec)

end Rows
end Go.Proofs.Ytghfkgcaglabpaa
