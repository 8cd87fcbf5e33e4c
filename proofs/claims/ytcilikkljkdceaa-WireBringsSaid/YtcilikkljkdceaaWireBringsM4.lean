/-
  What the proof of WireBrings stands on, part 4: each theorem by itself, under the conditions that it names.
-/
import Derived.Test.YtcilikkljkdceaaWireBringsM3
/-
  The arguments of the wire's statements, opened.
-/
namespace Go.Proofs.Ytcilikkljkdceaa
open Go.ChangeShapes Go.WideShapes Go.ChangeAt Go.RowKit Go.Deep
set_option maxRecDepth 100000
variable {H : Type} {enc : TypeId × Value → H} {w : World} {base b0 : Nat} {held : Bool} {r : Reach}
theorem ops_nil (a : Option Addr) (c : Nat) : OpsW w (.slice a 0 c) [] := ⟨a, c, rfl, by simp, fun i hi => by simp at hi⟩
theorem open_ops_arg {v : Value} {d : DataW H} {p : List MemPlace} (hv : Value.okWide Try.prog w r b0 22 v) (h : DataW.Trod enc Try.prog w base (fun _ => true) held 22 v d p) (hw : ∀ n ∈ DataW.weights Try.prog 22 d, n ≤ reachBytes) :
    ∃ l, OpsW w v l := by
  obtain ⟨a0, n0, c0, rfl⟩ := okWide_slice Try.underlying22 hv
  obtain ⟨fuel, hf⟩ := h
  have hB : Try.prog.bytesOf 30 = 56 := by kernel_rfl
  rcases open_slice_fields (x := (d, p)) Try.underlying22 Try.underlying30 (by kernel_rfl) (by kernel_rfl) hf with ⟨hcs, _⟩ | ⟨a, len, cap, m, D, Pl, hcs, _, hl, _, hm, hx, hi⟩
  · simp [Value.cells] at hcs
    obtain ⟨rfl, rfl, rfl⟩ := hcs
    exact ⟨[], ops_nil _ _⟩
  · simp [Value.cells] at hcs
    obtain ⟨rfl, rfl, rfl⟩ := hcs
    simp only [if_true] at hm
    subst hm
    obtain ⟨hx, _⟩ := Prod.mk.inj hx
    subst hx
    by_cases h0 : n0 = 0
    · subst h0; exact ⟨[], ops_nil _ _⟩
    have hlen : n0 * 56 ≤ 140737488351232 := by
      have := hw ((((List.range n0).map D).length + ((List.range (m - n0)).map fun j => D (n0 + j)).length) * 56) (by
        simp only [DataW.weights, Try.underlying22, List.mem_cons, hB]
        left; trivial)
      simp only [List.length_map, List.length_range, reachBytes] at this
      omega
    have each : ∀ i, i < n0 → ∃ o : OpW, a.spot = none ∧ OpWAt w a.block (a.off + i * 5) o := by
      intro i hin
      obtain ⟨z, n, hD0, _, hys0, hf0⟩ := hi 0 (by omega)
      obtain ⟨v, y, hc0, _, _⟩ := hf0 0 _ rfl
      have hs : a.spot = none := plain_of_cell hc0
      obtain ⟨ys, n, hD, _, hys, hf⟩ := hi i (by omega)
      have hDm : D i ∈ (List.range n0).map D := List.mem_map.2 ⟨i, List.mem_range.2 hin, rfl⟩
      have hwi : ∀ n ∈ (DataW.agg (ys.map (·.1))).weights Try.prog 30, n ≤ reachBytes := by
        intro q hq
        refine hw q ?_
        simp only [DataW.weights, Try.underlying22, List.mem_cons, List.mem_append]
        right; left
        rw [← hD] at hq
        exact weights_all hDm hq
      obtain ⟨v0, y0, c0, q0, h0⟩ := hf 0 _ rfl
      obtain ⟨v1, y1, c1, q1, h1⟩ := hf 1 _ rfl
      obtain ⟨v2, y2, c2, q2, h2⟩ := hf 2 _ rfl
      obtain ⟨v3, y3, c3, q3, h3⟩ := hf 3 _ rfl
      obtain ⟨v4, y4, c4, q4, h4⟩ := hf 4 _ rfl
      have w4 := weights_agg Try.underlying30 hys hwi rfl q4
      obtain ⟨z0, hz0, _, _⟩ := DataW.trod_int Try.underlying3 h0
      obtain ⟨z1, hz1, _, _⟩ := DataW.trod_int Try.underlying3 h1
      obtain ⟨z2, hz2, _, _⟩ := DataW.trod_int Try.underlying3 h2
      obtain ⟨z3, hz3, _, u3⟩ := DataW.trod_int Try.underlying3 h3
      obtain ⟨b, nn, cc, l, e, k1, k2⟩ := open_bytes Try.underlying28 Try.underlying5 (by kernel_rfl) (by kernel_rfl) h4 w4
      simp at hz0 hz1 hz2 hz3
      subst hz0 hz1 hz2 hz3 e
      rw [plain_add hs] at c0 c1 c2 c3 c4
      refine ⟨⟨z0, z1, z2, z3, .slice b nn cc, l⟩, hs, fun j u hj => ?_, k1, k2, wf_i64 u3⟩
      match j, hj with
      | 0, hj => simp at hj; subst hj; exact c0
      | 1, hj => simp at hj; subst hj; exact c1
      | 2, hj => simp at hj; subst hj; exact c2
      | 3, hj => simp at hj; subst hj; exact c3
      | 4, hj => simp at hj; subst hj; exact c4
      | j + 5, hj => simp at hj
    obtain ⟨_, hs, hfirst⟩ := each 0 (by omega)
    obtain ⟨g, hg⟩ : ∃ g : Nat → OpW, ∀ i, i < n0 → OpWAt w a.block (a.off + i * 5) (g i) := by
      refine ⟨fun i => if h : i < n0 then Classical.choose (each i h) else ⟨0, 0, 0, 0, .slice none 0 0, []⟩, fun i h => ?_⟩
      simp only [h, dite_true]
      exact (Classical.choose_spec (each i h)).2
    refine ⟨(List.range n0).map g, some a, _, by simp; rfl, by simp; omega, fun i hi => ⟨a.block, a.off, ?_, ?_⟩⟩
    · cases a; simp only at hs; subst hs; rfl
    · simp at hi
      simpa using hg i hi
end Go.Proofs.Ytcilikkljkdceaa
