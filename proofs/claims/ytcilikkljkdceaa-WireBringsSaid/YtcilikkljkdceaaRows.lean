/-
  No cell of these rows narrows 'for every input' (looked for: loops, veiled, ifaces, maps, wideKeys, modest, calm, conditions, laid).
  DERIVED. THE GIVEN ROWS OF THIS SEAT. 4 by the template 'for every input the law returns true; each argument reads behind the call as it read before'; 0 by the template 'total and deterministic' (their statements: YtcilikkljkdceaaTotals.lean).
  GIVEN WITH THE SEED: the statements are not yours to turn. If you find one false, say at which input.
  Laid BY PROGRAM, IN A SANDBOX (cutbox-rows.mjs): the forced cells as the released guide's own fill.sh prints them over the translation 44e7f2c60ddd1ab8… (all of the seat's roots in one cut). By AI agents, Wed Nov 11 2026. No macro, syntax, notation, axiom, sorry.
-/
import Derived.Test.YtcilikkljkdceaaChecked
import GoSem.Claim
import GoSem.ClaimJoined
import GoSem.ClaimMapViews
import Derived.JoinedTies
import Derived.KernelRfl
namespace Go.Proofs.Ytcilikkljkdceaa
/- THE CELL 'sum', in the pinned program and in every row, IS THE sha256 OF THE DUMP (.gsa) THAT YtcilikkljkdceaaProg.lean LOADS. Nothing in Lean hashes anything: it is a label: what it is worth is what the hold of that sum in a sandbox is worth. -/
noncomputable def Try.pinned : Pinned := { name := "ytcilikkljkdceaa", sum := "44e7f2c60ddd1ab80d3328ca3c6a45c9db4a6e67c0e31980904929b2e110c659", checked := Try.checked }
namespace Rows
def none {H : Type} : Left H := { results := [], args := [] }

/-- 'packhorselaw03.WireBrings': WHATEVER THE INPUT: true; the input reads as it did. -/
def wireBringsSpec : ChangeSpec := { name := "wireBrings", fn := fun _ => fun
  | [d] => { results := [.lit (.bool true)], args := [d] }
  | _ => none }
def wireBringsRow : OpenClaim := { program := "ytcilikkljkdceaa", sum := "44e7f2c60ddd1ab80d3328ca3c6a45c9db4a6e67c0e31980904929b2e110c659", func := "packhorse/packhorselaw03.WireBrings", spec := "wireBrings", inPlace := ["slices.overlaps[packhorse/api.OnWire]"], unfollowed := true, recurses := true, apart := false }
def WireBringsSaid : Prop := wireBringsRow.holds Try.pinned (OpenSpec.ofChange wireBringsSpec)

/-- ITS FALSE NEIGHBOUR: 'it returns false'. Refute it at one input. -/
def wireBringsWrong : ChangeSpec := { name := "wireBrings", fn := fun _ => fun
  | [d] => { results := [.lit (.bool false)], args := [d] }
  | _ => none }
def WireBringsWrongFalsely : Prop := wireBringsRow.holds Try.pinned (OpenSpec.ofChange wireBringsWrong)

/-- 'packhorselaw03.WireAges': WHATEVER THE INPUT: true; the input reads as it did. -/
def wireAgesSpec : ChangeSpec := { name := "wireAges", fn := fun _ => fun
  | [d] => { results := [.lit (.bool true)], args := [d] }
  | _ => none }
def wireAgesRow : OpenClaim := { program := "ytcilikkljkdceaa", sum := "44e7f2c60ddd1ab80d3328ca3c6a45c9db4a6e67c0e31980904929b2e110c659", func := "packhorse/packhorselaw03.WireAges", spec := "wireAges", inPlace := ["slices.overlaps[packhorse/api.OnWire]"], unfollowed := true, recurses := true, apart := false }
def WireAgesSaid : Prop := wireAgesRow.holds Try.pinned (OpenSpec.ofChange wireAgesSpec)

/-- ITS FALSE NEIGHBOUR: 'it returns false'. Refute it at one input. -/
def wireAgesWrong : ChangeSpec := { name := "wireAges", fn := fun _ => fun
  | [d] => { results := [.lit (.bool false)], args := [d] }
  | _ => none }
def WireAgesWrongFalsely : Prop := wireAgesRow.holds Try.pinned (OpenSpec.ofChange wireAgesWrong)

/-- 'packhorselaw03.WireKeeps': WHATEVER THE INPUT: true; the input reads as it did. -/
def wireKeepsSpec : ChangeSpec := { name := "wireKeeps", fn := fun _ => fun
  | [d1, d2, d3, d4] => { results := [.lit (.bool true)], args := [d1, d2, d3, d4] }
  | _ => none }
def wireKeepsRow : OpenClaim := { program := "ytcilikkljkdceaa", sum := "44e7f2c60ddd1ab80d3328ca3c6a45c9db4a6e67c0e31980904929b2e110c659", func := "packhorse/packhorselaw03.WireKeeps", spec := "wireKeeps", inPlace := ["slices.overlaps[packhorse/api.OnWire]"], unfollowed := true, recurses := true, apart := false }
def WireKeepsSaid : Prop := wireKeepsRow.holds Try.pinned (OpenSpec.ofChange wireKeepsSpec)

/-- ITS FALSE NEIGHBOUR: 'it returns false'. Refute it at one input. -/
def wireKeepsWrong : ChangeSpec := { name := "wireKeeps", fn := fun _ => fun
  | [d1, d2, d3, d4] => { results := [.lit (.bool false)], args := [d1, d2, d3, d4] }
  | _ => none }
def WireKeepsWrongFalsely : Prop := wireKeepsRow.holds Try.pinned (OpenSpec.ofChange wireKeepsWrong)

/-- 'packhorselaw03.WireDoes': WHATEVER THE INPUT: true; the input reads as it did. -/
def wireDoesSpec : ChangeSpec := { name := "wireDoes", fn := fun _ => fun
  | [d] => { results := [.lit (.bool true)], args := [d] }
  | _ => none }
def wireDoesRow : OpenClaim := { program := "ytcilikkljkdceaa", sum := "44e7f2c60ddd1ab80d3328ca3c6a45c9db4a6e67c0e31980904929b2e110c659", func := "packhorse/packhorselaw03.WireDoes", spec := "wireDoes", inPlace := ["slices.overlaps[packhorse/api.OnWire]"], unfollowed := true, recurses := true, apart := false }
def WireDoesSaid : Prop := wireDoesRow.holds Try.pinned (OpenSpec.ofChange wireDoesSpec)

/-- ITS FALSE NEIGHBOUR: 'it returns false'. Refute it at one input. -/
def wireDoesWrong : ChangeSpec := { name := "wireDoes", fn := fun _ => fun
  | [d] => { results := [.lit (.bool false)], args := [d] }
  | _ => none }
def WireDoesWrongFalsely : Prop := wireDoesRow.holds Try.pinned (OpenSpec.ofChange wireDoesWrong)

/- THE SECOND FORM. 'bulk': how many values and letters a reading holds, each counted each time it is reached (what is shared counts as often as it is met; a slice's spare places count too). A statement '..UptoSaid' is the law's where the arguments, and the package variables that the reading takes, are together of bulk at most 1048576: NARROWER than '..Said'. Prove '..Said' where nothing that the law and all that it calls make is longer than what came in: it says more and counts as full. Else prove '..UptoSaid'. A law counts once. -/
mutual
def uptoBulk {H : Type} : DataW H → Nat
  | .lit (.string bytes) => bytes.length + 1
  | .lit _ => 1
  | .nil => 1
  | .ptr d => uptoBulk d + 1
  | .slice elems spare => uptoBulkAll elems + uptoBulkAll spare + 1
  | .agg parts => uptoBulkAll parts + 1
  | .iface _ d => uptoBulk d + 1
  | .map entries => uptoBulkEntries entries + 1
  | .held _ => 1
def uptoBulkAll {H : Type} : List (DataW H) → Nat
  | [] => 0
  | d :: r => uptoBulk d + uptoBulkAll r
def uptoBulkEntries {H : Type} : List (Lit × DataW H) → Nat
  | [] => 0
  | x :: r => uptoBulkEntry x + uptoBulkEntries r
def uptoBulkEntry {H : Type} : Lit × DataW H → Nat
  | (.string bytes, d) => bytes.length + uptoBulk d + 1
  | (_, d) => uptoBulk d + 1
 end
def uptoSmall : (H : Type) → List (DataW H) → Bool := fun _ ds => decide (uptoBulkAll ds ≤ 1048576)
def OpenSpec.upto (s : _root_.Go.ChangeSpec) : _root_.Go.OpenSpec := { _root_.Go.OpenSpec.ofChange s with cond := some uptoSmall }

/-- 'packhorselaw03.WireBrings', WHERE WHAT IT READS IS OF BULK AT MOST 1048576: true; the input reads as it did. -/
def wireBringsUptoRow : OpenClaim := { program := "ytcilikkljkdceaa", sum := "44e7f2c60ddd1ab80d3328ca3c6a45c9db4a6e67c0e31980904929b2e110c659", func := "packhorse/packhorselaw03.WireBrings", spec := "wireBrings", inPlace := ["slices.overlaps[packhorse/api.OnWire]"], unfollowed := true, recurses := true, apart := false, narrowed := true }
def WireBringsUptoSaid : Prop := wireBringsUptoRow.holds Try.pinned (OpenSpec.upto wireBringsSpec)

/-- 'packhorselaw03.WireAges', WHERE WHAT IT READS IS OF BULK AT MOST 1048576: true; the input reads as it did. -/
def wireAgesUptoRow : OpenClaim := { program := "ytcilikkljkdceaa", sum := "44e7f2c60ddd1ab80d3328ca3c6a45c9db4a6e67c0e31980904929b2e110c659", func := "packhorse/packhorselaw03.WireAges", spec := "wireAges", inPlace := ["slices.overlaps[packhorse/api.OnWire]"], unfollowed := true, recurses := true, apart := false, narrowed := true }
def WireAgesUptoSaid : Prop := wireAgesUptoRow.holds Try.pinned (OpenSpec.upto wireAgesSpec)

/-- 'packhorselaw03.WireKeeps', WHERE WHAT IT READS IS OF BULK AT MOST 1048576: true; the input reads as it did. -/
def wireKeepsUptoRow : OpenClaim := { program := "ytcilikkljkdceaa", sum := "44e7f2c60ddd1ab80d3328ca3c6a45c9db4a6e67c0e31980904929b2e110c659", func := "packhorse/packhorselaw03.WireKeeps", spec := "wireKeeps", inPlace := ["slices.overlaps[packhorse/api.OnWire]"], unfollowed := true, recurses := true, apart := false, narrowed := true }
def WireKeepsUptoSaid : Prop := wireKeepsUptoRow.holds Try.pinned (OpenSpec.upto wireKeepsSpec)

/-- 'packhorselaw03.WireDoes', WHERE WHAT IT READS IS OF BULK AT MOST 1048576: true; the input reads as it did. -/
def wireDoesUptoRow : OpenClaim := { program := "ytcilikkljkdceaa", sum := "44e7f2c60ddd1ab80d3328ca3c6a45c9db4a6e67c0e31980904929b2e110c659", func := "packhorse/packhorselaw03.WireDoes", spec := "wireDoes", inPlace := ["slices.overlaps[packhorse/api.OnWire]"], unfollowed := true, recurses := true, apart := false, narrowed := true }
def WireDoesUptoSaid : Prop := wireDoesUptoRow.holds Try.pinned (OpenSpec.upto wireDoesSpec)

end Rows
end Go.Proofs.Ytcilikkljkdceaa
