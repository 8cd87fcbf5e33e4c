/-
  No cell of these rows narrows 'for every input' (looked for: loops, veiled, ifaces, maps, wideKeys, modest, calm, conditions, laid).
  DERIVED. THE GIVEN ROWS OF THIS SEAT. 4 by the template 'for every input the law returns true; each argument reads behind the call as it read before'; 0 by the template 'total and deterministic' (their statements: YtloejpkefoagfaaTotals.lean).
  GIVEN WITH THE SEED: the statements are not yours to turn. If you find one false, say at which input.
  Laid BY PROGRAM, IN A SANDBOX (cutbox-rows.mjs): the forced cells as the released guide's own fill.sh prints them over the translation 3c62641bf464efab… (all of the seat's roots in one cut). By AI agents, Wed Nov 11 2026. No macro, syntax, notation, axiom, sorry.
-/
import Derived.Test.YtloejpkefoagfaaChecked
import GoSem.Claim
import GoSem.ClaimJoined
import GoSem.ClaimMapViews
import Derived.JoinedTies
import Derived.KernelRfl
namespace Go.Proofs.Ytloejpkefoagfaa
/- THE CELL 'sum', in the pinned program and in every row, IS THE sha256 OF THE DUMP (.gsa) THAT YtloejpkefoagfaaProg.lean LOADS. Nothing in Lean hashes anything: it is a label: what it is worth is what the hold of that sum in a sandbox is worth. -/
noncomputable def Try.pinned : Pinned := { name := "ytloejpkefoagfaa", sum := "3c62641bf464efab70640fc8bd281e92baf71c558e861c2fe160ccb6976b74c7", checked := Try.checked }
namespace Rows
def none {H : Type} : Left H := { results := [], args := [] }

/-- 'packhorselaw02.NicCarries': WHATEVER THE INPUT: true; the input reads as it did. -/
def nicCarriesSpec : ChangeSpec := { name := "nicCarries", fn := fun _ => fun
  | [d] => { results := [.lit (.bool true)], args := [d] }
  | _ => none }
def nicCarriesRow : OpenClaim := { program := "ytloejpkefoagfaa", sum := "3c62641bf464efab70640fc8bd281e92baf71c558e861c2fe160ccb6976b74c7", func := "packhorse/packhorselaw02.NicCarries", spec := "nicCarries", apart := false }
def NicCarriesSaid : Prop := nicCarriesRow.holds Try.pinned (OpenSpec.ofChange nicCarriesSpec)

/-- ITS FALSE NEIGHBOUR: 'it returns false'. Refute it at one input. -/
def nicCarriesWrong : ChangeSpec := { name := "nicCarries", fn := fun _ => fun
  | [d] => { results := [.lit (.bool false)], args := [d] }
  | _ => none }
def NicCarriesWrongFalsely : Prop := nicCarriesRow.holds Try.pinned (OpenSpec.ofChange nicCarriesWrong)

/-- 'packhorselaw02.NicOff': WHATEVER THE INPUT: true; the input reads as it did. -/
def nicOffSpec : ChangeSpec := { name := "nicOff", fn := fun _ => fun
  | [d1, d2, d3] => { results := [.lit (.bool true)], args := [d1, d2, d3] }
  | _ => none }
def nicOffRow : OpenClaim := { program := "ytloejpkefoagfaa", sum := "3c62641bf464efab70640fc8bd281e92baf71c558e861c2fe160ccb6976b74c7", func := "packhorse/packhorselaw02.NicOff", spec := "nicOff", apart := false }
def NicOffSaid : Prop := nicOffRow.holds Try.pinned (OpenSpec.ofChange nicOffSpec)

/-- ITS FALSE NEIGHBOUR: 'it returns false'. Refute it at one input. -/
def nicOffWrong : ChangeSpec := { name := "nicOff", fn := fun _ => fun
  | [d1, d2, d3] => { results := [.lit (.bool false)], args := [d1, d2, d3] }
  | _ => none }
def NicOffWrongFalsely : Prop := nicOffRow.holds Try.pinned (OpenSpec.ofChange nicOffWrong)

/-- 'packhorselaw02.NicDoes': WHATEVER THE INPUT: true; the input reads as it did. -/
def nicDoesSpec : ChangeSpec := { name := "nicDoes", fn := fun _ => fun
  | [d] => { results := [.lit (.bool true)], args := [d] }
  | _ => none }
def nicDoesRow : OpenClaim := { program := "ytloejpkefoagfaa", sum := "3c62641bf464efab70640fc8bd281e92baf71c558e861c2fe160ccb6976b74c7", func := "packhorse/packhorselaw02.NicDoes", spec := "nicDoes", apart := false }
def NicDoesSaid : Prop := nicDoesRow.holds Try.pinned (OpenSpec.ofChange nicDoesSpec)

/-- ITS FALSE NEIGHBOUR: 'it returns false'. Refute it at one input. -/
def nicDoesWrong : ChangeSpec := { name := "nicDoes", fn := fun _ => fun
  | [d] => { results := [.lit (.bool false)], args := [d] }
  | _ => none }
def NicDoesWrongFalsely : Prop := nicDoesRow.holds Try.pinned (OpenSpec.ofChange nicDoesWrong)

/-- 'packhorselaw02.NicResets': WHATEVER THE INPUT: true; the input reads as it did. -/
def nicResetsSpec : ChangeSpec := { name := "nicResets", fn := fun _ => fun
  | [d] => { results := [.lit (.bool true)], args := [d] }
  | _ => none }
def nicResetsRow : OpenClaim := { program := "ytloejpkefoagfaa", sum := "3c62641bf464efab70640fc8bd281e92baf71c558e861c2fe160ccb6976b74c7", func := "packhorse/packhorselaw02.NicResets", spec := "nicResets", apart := false }
def NicResetsSaid : Prop := nicResetsRow.holds Try.pinned (OpenSpec.ofChange nicResetsSpec)

/-- ITS FALSE NEIGHBOUR: 'it returns false'. Refute it at one input. -/
def nicResetsWrong : ChangeSpec := { name := "nicResets", fn := fun _ => fun
  | [d] => { results := [.lit (.bool false)], args := [d] }
  | _ => none }
def NicResetsWrongFalsely : Prop := nicResetsRow.holds Try.pinned (OpenSpec.ofChange nicResetsWrong)

/- THE SECOND FORM. 'bulk': how many values and letters a reading holds, each counted each time it is reached (what is shared counts as often as it is met; a slice's spare places count too). A statement '..UptoSaid' is the law's where the arguments, and the package variables that the reading takes, are together of bulk at most 1048576: NARROWER than '..Said'. Prove '..Said' where nothing that the law and all that it calls make is longer than what came in: it says more and counts as full. Else prove '..UptoSaid'. A law counts once. -/
mutual
def uptoBulk {H : Type} : DataW H → Nat
  | .lit (.string bytes) => bytes.length + 1
  | .lit _ => 1
  | .nil => 1
  | .ptr d => uptoBulk d + 1
  | .slice elems spare => uptoBulkAll elems + uptoBulkAll spare + 1
  | .agg parts => uptoBulkAll parts + 1
  | .iface _ d => uptoBulk d + 1
  | .map entries => uptoBulkEntries entries + 1
  | .held _ => 1
def uptoBulkAll {H : Type} : List (DataW H) → Nat
  | [] => 0
  | d :: r => uptoBulk d + uptoBulkAll r
def uptoBulkEntries {H : Type} : List (Lit × DataW H) → Nat
  | [] => 0
  | x :: r => uptoBulkEntry x + uptoBulkEntries r
def uptoBulkEntry {H : Type} : Lit × DataW H → Nat
  | (.string bytes, d) => bytes.length + uptoBulk d + 1
  | (_, d) => uptoBulk d + 1
 end
def uptoSmall : (H : Type) → List (DataW H) → Bool := fun _ ds => decide (uptoBulkAll ds ≤ 1048576)
def OpenSpec.upto (s : _root_.Go.ChangeSpec) : _root_.Go.OpenSpec := { _root_.Go.OpenSpec.ofChange s with cond := some uptoSmall }

/-- 'packhorselaw02.NicCarries', WHERE WHAT IT READS IS OF BULK AT MOST 1048576: true; the input reads as it did. -/
def nicCarriesUptoRow : OpenClaim := { program := "ytloejpkefoagfaa", sum := "3c62641bf464efab70640fc8bd281e92baf71c558e861c2fe160ccb6976b74c7", func := "packhorse/packhorselaw02.NicCarries", spec := "nicCarries", apart := false, narrowed := true }
def NicCarriesUptoSaid : Prop := nicCarriesUptoRow.holds Try.pinned (OpenSpec.upto nicCarriesSpec)

/-- 'packhorselaw02.NicOff', WHERE WHAT IT READS IS OF BULK AT MOST 1048576: true; the input reads as it did. -/
def nicOffUptoRow : OpenClaim := { program := "ytloejpkefoagfaa", sum := "3c62641bf464efab70640fc8bd281e92baf71c558e861c2fe160ccb6976b74c7", func := "packhorse/packhorselaw02.NicOff", spec := "nicOff", apart := false, narrowed := true }
def NicOffUptoSaid : Prop := nicOffUptoRow.holds Try.pinned (OpenSpec.upto nicOffSpec)

/-- 'packhorselaw02.NicDoes', WHERE WHAT IT READS IS OF BULK AT MOST 1048576: true; the input reads as it did. -/
def nicDoesUptoRow : OpenClaim := { program := "ytloejpkefoagfaa", sum := "3c62641bf464efab70640fc8bd281e92baf71c558e861c2fe160ccb6976b74c7", func := "packhorse/packhorselaw02.NicDoes", spec := "nicDoes", apart := false, narrowed := true }
def NicDoesUptoSaid : Prop := nicDoesUptoRow.holds Try.pinned (OpenSpec.upto nicDoesSpec)

/-- 'packhorselaw02.NicResets', WHERE WHAT IT READS IS OF BULK AT MOST 1048576: true; the input reads as it did. -/
def nicResetsUptoRow : OpenClaim := { program := "ytloejpkefoagfaa", sum := "3c62641bf464efab70640fc8bd281e92baf71c558e861c2fe160ccb6976b74c7", func := "packhorse/packhorselaw02.NicResets", spec := "nicResets", apart := false, narrowed := true }
def NicResetsUptoSaid : Prop := nicResetsUptoRow.holds Try.pinned (OpenSpec.upto nicResetsSpec)

end Rows
end Go.Proofs.Ytloejpkefoagfaa
