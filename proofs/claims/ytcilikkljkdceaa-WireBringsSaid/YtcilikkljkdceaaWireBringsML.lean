/-
  WireBrings: for every input the statement answers true, and each argument reads afterwards as it read before. No condition.
-/
import Derived.Test.YtcilikkljkdceaaRows
import Derived.Test.YtcilikkljkdceaaWireBringsM4
namespace Go.Proofs.Ytcilikkljkdceaa
open Go.ChangeShapes Go.WideShapes Go.ChangeAt Go.RowKit Go.Deep
open Go.ChangeMaps (open_string shut_string)

theorem wireBrings_own : ownKnob Try.prog.godebug = none := by kernel_rfl
theorem wireBrings_laid : laidOutB Try.prog = true := by kernel_rfl

set_option maxRecDepth 100000 in
theorem wireBrings_lifted (os : Os) (started : os.Started) (H : Type) (enc : TypeId × Value → H) :
    ReturnsInHanded {} Try.checked os 3 .any (Rows.wireBringsSpec.pre6 enc Try.prog Try.f3 Rows.wireBringsRow.domain false) (Rows.wireBringsSpec.post enc Try.prog Try.f3 false true false false) := by
  refine returnsInHanded_of_change_sized (C := Try.checked) wireBrings_own started (by kernel_rfl) Try.func3
    (ChangeSpec.witness6 (enc := enc) (C := Try.checked) false ⟨#[], #[.slice none 0 0], []⟩ 12 (by kernel_rfl) (by kernel_rfl) (by kernel_rfl) (by kernel_rfl)) ?_
  intro W base args ds gs before hval0 hW hcnd hsz0 _
  have hsz : (DataW.weightsEach Try.prog (Try.f3.params.toList ++ Rows.wireBringsSpec.plain.varTypes Try.prog) (ds ++ gs)).all (· ≤ reachBytes) = true := hsz0
  have hval : ∀ (j : Nat) t v, Try.f3.params[j]? = some t → args[j]? = some v → Value.okWide Try.prog W .any base t v := hval0
  have hW' := hW
  obtain ⟨p, q, hA0, hV, rfl, hfz, hnd⟩ := hW
  have hA : DataW.TrodAll enc Try.prog W 0 (fun _ => true) true Try.f3.params.toList args.toList ds p := hA0
  rw [Try.params3] at hA hval hsz
  obtain ⟨v0, vs0, d0, ds0, p0, q0, hargs, rfl, rfl, h0, r0⟩ := trodAll_cons hA
  obtain ⟨rfl, rfl, rfl⟩ := trodAll_nil r0
  obtain rfl : args = #[v0] := by cases args; simp_all
  obtain ⟨rfl, rfl⟩ := trodVars_none hV
  have hvt : Rows.wireBringsSpec.plain.varTypes Try.prog = [] := rfl
  rw [hvt, List.append_nil, List.append_nil] at hsz
  have hwt : ∀ (j : Nat) t d, [22][j]? = some t → [d0][j]? = some d → ∀ n ∈ DataW.weights Try.prog t d, n ≤ reachBytes := by
    intro j t d ht hd n hn
    have hm := DataW.weights_mem_each (P := Try.prog) (ts := [22]) (ds := [d0]) ht hd n hn
    have := List.all_eq_true.1 hsz n hm
    simpa using this
  have k0 := h0
  have lt0 : ∀ x ∈ p0, x.block < W.heap.size := by obtain ⟨m, hm⟩ := k0; exact DataW.trod_lt m _ _ _ hm
  obtain ⟨l0, o0⟩ := open_ops_arg (hval 0 22 v0 rfl rfl) h0 (hwt 0 _ _ rfl rfl)
  clear hA0 hval0 hsz0 hsz
  refine (brings_walk W o0).mono fun e W' ⟨he, ho⟩ => ?_
  subst he
  have bel : Below W.heap.size W W' := ho.below (fun _ h => h.elim)
  exact ⟨_, rfl, _, _, _, [], _, [], hW', trodAll_mk1 (shut_bool Try.underlying4 _), (trodAll_cons_mk (Below.trod wireBrings_laid (by kernel_rfl) (of_decide_eq_true (by kernel_rfl)) k0 bel lt0) trodAll_mk0), rfl, bel.frame _, fun h => by cases h⟩

/-- WireBrings: true whatever the input. -/
theorem wireBrings_holds : Rows.WireBringsSaid :=
  OpenClaim.holds_of_wide 3 Try.f3 rfl rfl rfl rfl rfl rfl rfl ⟨rfl, rfl, rfl, rfl, rfl⟩ rfl rfl rfl rfl rfl (by kernel_rfl) Try.func3 (by kernel_rfl)
    (of_decide_eq_true (by kernel_rfl)) (by unfold Func.isWrapper; first | (rw [if_pos (by decide +kernel)]; kernel_rfl) | (rw [if_neg (by decide +kernel)]; exact ⟨rfl, rfl⟩))
    (fun os started H enc _ => wireBrings_lifted os started H enc)
end Go.Proofs.Ytcilikkljkdceaa
