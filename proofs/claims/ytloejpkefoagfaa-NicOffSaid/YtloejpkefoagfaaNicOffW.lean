/-
  NicOff answers true.
-/
import Derived.Test.YtloejpkefoagfaaNicOffWT
import Derived.Test.YtloejpkefoagfaaNicOffWF
namespace Go.Proofs.Ytloejpkefoagfaa
open Go.RowKit
set_option maxRecDepth 100000
set_option maxHeartbeats 4000000
theorem off_walk (w : World) {vv : Value} {l : List OpR} (h : OpsAt w vv l) (down : Bool) {fv : Value} {f0 : List UInt8} (hf : BytesAt w fv f0 ∧ sliceIn fv (fun b => b < w.heap.size)) : Calls Try.prog 4 #[vv, bo down, fv] w fun e w' => e = .returned (.bool true) ∧ Only (fun _ => False) w w' := by
  cases down
  · exact offf_walk w h hf
  · exact offt_walk w h hf

end Go.Proofs.Ytloejpkefoagfaa
