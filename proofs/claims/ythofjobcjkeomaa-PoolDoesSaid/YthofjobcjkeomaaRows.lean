/-
  No cell of these rows narrows 'for every input' (looked for: loops, veiled, ifaces, maps, wideKeys, modest, calm, conditions, laid).
  DERIVED. THE GIVEN ROWS OF THIS SEAT. 4 by the template 'for every input the law returns true; each argument reads behind the call as it read before'; 0 by the template 'total and deterministic' (their statements: YthofjobcjkeomaaTotals.lean).
  GIVEN WITH THE SEED: the statements are not yours to turn. If you find one false, say at which input.
  Laid BY PROGRAM, IN A SANDBOX (cutbox-rows.mjs): the forced cells as the released guide's own fill.sh prints them over the translation f20cceab349f6039… (all of the seat's roots in one cut). By AI agents, Wed Nov 11 2026. No macro, syntax, notation, axiom, sorry.
-/
import Derived.Test.YthofjobcjkeomaaChecked
import GoSem.Claim
import GoSem.ClaimJoined
import GoSem.ClaimMapViews
import Derived.JoinedTies
import Derived.KernelRfl
namespace Go.Proofs.Ythofjobcjkeomaa
/- THE CELL 'sum', in the pinned program and in every row, IS THE sha256 OF THE DUMP (.gsa) THAT YthofjobcjkeomaaProg.lean LOADS. Nothing in Lean hashes anything: it is a label: what it is worth is what the hold of that sum in a sandbox is worth. -/
noncomputable def Try.pinned : Pinned := { name := "ythofjobcjkeomaa", sum := "f20cceab349f60397477a7b369908852356bf851816d37b042713eb346a0ff3b", checked := Try.checked }
namespace Rows
def none {H : Type} : Left H := { results := [], args := [] }

/-- 'packhorselaw04.PoolLeast': WHATEVER THE INPUT: true; the input reads as it did. -/
def poolLeastSpec : ChangeSpec := { name := "poolLeast", fn := fun _ => fun
  | [d1, d2] => { results := [.lit (.bool true)], args := [d1, d2] }
  | _ => none }
def poolLeastRow : OpenClaim := { program := "ythofjobcjkeomaa", sum := "f20cceab349f60397477a7b369908852356bf851816d37b042713eb346a0ff3b", func := "packhorse/packhorselaw04.PoolLeast", spec := "poolLeast", apart := false }
def PoolLeastSaid : Prop := poolLeastRow.holds Try.pinned (OpenSpec.ofChange poolLeastSpec)

/-- ITS FALSE NEIGHBOUR: 'it returns false'. Refute it at one input. -/
def poolLeastWrong : ChangeSpec := { name := "poolLeast", fn := fun _ => fun
  | [d1, d2] => { results := [.lit (.bool false)], args := [d1, d2] }
  | _ => none }
def PoolLeastWrongFalsely : Prop := poolLeastRow.holds Try.pinned (OpenSpec.ofChange poolLeastWrong)

/-- 'packhorselaw04.PoolDoes': WHATEVER THE INPUT: true; the input reads as it did. -/
def poolDoesSpec : ChangeSpec := { name := "poolDoes", fn := fun _ => fun
  | [d1, d2] => { results := [.lit (.bool true)], args := [d1, d2] }
  | _ => none }
def poolDoesRow : OpenClaim := { program := "ythofjobcjkeomaa", sum := "f20cceab349f60397477a7b369908852356bf851816d37b042713eb346a0ff3b", func := "packhorse/packhorselaw04.PoolDoes", spec := "poolDoes", apart := false }
def PoolDoesSaid : Prop := poolDoesRow.holds Try.pinned (OpenSpec.ofChange poolDoesSpec)

/-- ITS FALSE NEIGHBOUR: 'it returns false'. Refute it at one input. -/
def poolDoesWrong : ChangeSpec := { name := "poolDoes", fn := fun _ => fun
  | [d1, d2] => { results := [.lit (.bool false)], args := [d1, d2] }
  | _ => none }
def PoolDoesWrongFalsely : Prop := poolDoesRow.holds Try.pinned (OpenSpec.ofChange poolDoesWrong)

/-- 'packhorselaw04.PoolHolds': WHATEVER THE INPUT: true; the input reads as it did. -/
def poolHoldsSpec : ChangeSpec := { name := "poolHolds", fn := fun _ => fun
  | [d1, d2, d3, d4] => { results := [.lit (.bool true)], args := [d1, d2, d3, d4] }
  | _ => none }
def poolHoldsRow : OpenClaim := { program := "ythofjobcjkeomaa", sum := "f20cceab349f60397477a7b369908852356bf851816d37b042713eb346a0ff3b", func := "packhorse/packhorselaw04.PoolHolds", spec := "poolHolds", apart := false }
def PoolHoldsSaid : Prop := poolHoldsRow.holds Try.pinned (OpenSpec.ofChange poolHoldsSpec)

/-- ITS FALSE NEIGHBOUR: 'it returns false'. Refute it at one input. -/
def poolHoldsWrong : ChangeSpec := { name := "poolHolds", fn := fun _ => fun
  | [d1, d2, d3, d4] => { results := [.lit (.bool false)], args := [d1, d2, d3, d4] }
  | _ => none }
def PoolHoldsWrongFalsely : Prop := poolHoldsRow.holds Try.pinned (OpenSpec.ofChange poolHoldsWrong)

/-- 'packhorselaw04.PoolParts': WHATEVER THE INPUT: true; the input reads as it did. -/
def poolPartsSpec : ChangeSpec := { name := "poolParts", fn := fun _ => fun
  | [d1, d2, d3, d4] => { results := [.lit (.bool true)], args := [d1, d2, d3, d4] }
  | _ => none }
def poolPartsRow : OpenClaim := { program := "ythofjobcjkeomaa", sum := "f20cceab349f60397477a7b369908852356bf851816d37b042713eb346a0ff3b", func := "packhorse/packhorselaw04.PoolParts", spec := "poolParts", apart := false }
def PoolPartsSaid : Prop := poolPartsRow.holds Try.pinned (OpenSpec.ofChange poolPartsSpec)

/-- ITS FALSE NEIGHBOUR: 'it returns false'. Refute it at one input. -/
def poolPartsWrong : ChangeSpec := { name := "poolParts", fn := fun _ => fun
  | [d1, d2, d3, d4] => { results := [.lit (.bool false)], args := [d1, d2, d3, d4] }
  | _ => none }
def PoolPartsWrongFalsely : Prop := poolPartsRow.holds Try.pinned (OpenSpec.ofChange poolPartsWrong)

/- THE SECOND FORM. 'bulk': how many values and letters a reading holds, each counted each time it is reached (what is shared counts as often as it is met; a slice's spare places count too). A statement '..UptoSaid' is the law's where the arguments, and the package variables that the reading takes, are together of bulk at most 1048576: NARROWER than '..Said'. Prove '..Said' where nothing that the law and all that it calls make is longer than what came in: it says more and counts as full. Else prove '..UptoSaid'. A law counts once. -/
mutual
def uptoBulk {H : Type} : DataW H → Nat
  | .lit (.string bytes) => bytes.length + 1
  | .lit _ => 1
  | .nil => 1
  | .ptr d => uptoBulk d + 1
  | .slice elems spare => uptoBulkAll elems + uptoBulkAll spare + 1
  | .agg parts => uptoBulkAll parts + 1
  | .iface _ d => uptoBulk d + 1
  | .map entries => uptoBulkEntries entries + 1
  | .held _ => 1
def uptoBulkAll {H : Type} : List (DataW H) → Nat
  | [] => 0
  | d :: r => uptoBulk d + uptoBulkAll r
def uptoBulkEntries {H : Type} : List (Lit × DataW H) → Nat
  | [] => 0
  | x :: r => uptoBulkEntry x + uptoBulkEntries r
def uptoBulkEntry {H : Type} : Lit × DataW H → Nat
  | (.string bytes, d) => bytes.length + uptoBulk d + 1
  | (_, d) => uptoBulk d + 1
 end
def uptoSmall : (H : Type) → List (DataW H) → Bool := fun _ ds => decide (uptoBulkAll ds ≤ 1048576)
def OpenSpec.upto (s : _root_.Go.ChangeSpec) : _root_.Go.OpenSpec := { _root_.Go.OpenSpec.ofChange s with cond := some uptoSmall }

/-- 'packhorselaw04.PoolLeast', WHERE WHAT IT READS IS OF BULK AT MOST 1048576: true; the input reads as it did. -/
def poolLeastUptoRow : OpenClaim := { program := "ythofjobcjkeomaa", sum := "f20cceab349f60397477a7b369908852356bf851816d37b042713eb346a0ff3b", func := "packhorse/packhorselaw04.PoolLeast", spec := "poolLeast", apart := false, narrowed := true }
def PoolLeastUptoSaid : Prop := poolLeastUptoRow.holds Try.pinned (OpenSpec.upto poolLeastSpec)

/-- 'packhorselaw04.PoolDoes', WHERE WHAT IT READS IS OF BULK AT MOST 1048576: true; the input reads as it did. -/
def poolDoesUptoRow : OpenClaim := { program := "ythofjobcjkeomaa", sum := "f20cceab349f60397477a7b369908852356bf851816d37b042713eb346a0ff3b", func := "packhorse/packhorselaw04.PoolDoes", spec := "poolDoes", apart := false, narrowed := true }
def PoolDoesUptoSaid : Prop := poolDoesUptoRow.holds Try.pinned (OpenSpec.upto poolDoesSpec)

/-- 'packhorselaw04.PoolHolds', WHERE WHAT IT READS IS OF BULK AT MOST 1048576: true; the input reads as it did. -/
def poolHoldsUptoRow : OpenClaim := { program := "ythofjobcjkeomaa", sum := "f20cceab349f60397477a7b369908852356bf851816d37b042713eb346a0ff3b", func := "packhorse/packhorselaw04.PoolHolds", spec := "poolHolds", apart := false, narrowed := true }
def PoolHoldsUptoSaid : Prop := poolHoldsUptoRow.holds Try.pinned (OpenSpec.upto poolHoldsSpec)

/-- 'packhorselaw04.PoolParts', WHERE WHAT IT READS IS OF BULK AT MOST 1048576: true; the input reads as it did. -/
def poolPartsUptoRow : OpenClaim := { program := "ythofjobcjkeomaa", sum := "f20cceab349f60397477a7b369908852356bf851816d37b042713eb346a0ff3b", func := "packhorse/packhorselaw04.PoolParts", spec := "poolParts", apart := false, narrowed := true }
def PoolPartsUptoSaid : Prop := poolPartsUptoRow.holds Try.pinned (OpenSpec.upto poolPartsSpec)

end Rows
end Go.Proofs.Ythofjobcjkeomaa
