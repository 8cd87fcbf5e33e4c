/-
  The arguments of the core's statements, opened.
-/
import Derived.Test.YtpodmpidelifeaaOpenG
import Derived.Test.YtpodmpidelifeaaCoreOk
namespace Go.Proofs.Ytpodmpidelifeaa
open Go.ChangeShapes Go.WideShapes Go.ChangeAt Go.RowKit Go.Deep
variable {H : Type} {enc : TypeId × Value → H} {w : World} {base b0 : Nat} {held : Bool} {r : Reach}
theorem list_of {α : Type} {cs : List α} {l : List α} (hl : cs.length = l.length) (h : ∀ j, j < l.length → cs[j]? = l[j]?) : cs = l := by
  apply List.ext_getElem?
  intro j
  by_cases hj : j < l.length
  · exact h j hj
  · rw [List.getElem?_eq_none (by omega), List.getElem?_eq_none (by omega)]

theorem open_bytes_arg {v : Value} {d : DataW H} {p : List MemPlace} (hv : Value.okWide Try.prog w r b0 26 v) (h : DataW.Trod enc Try.prog w base (fun _ => true) held 26 v d p) (hw : ∀ n ∈ DataW.weights Try.prog 26 d, n ≤ reachBytes) :
    ∃ l, BytesAt w v l ∧ sliceIn v (fun b => b < w.heap.size) := by
  obtain ⟨a, n, c, rfl⟩ := okWide_slice Try.underlying26 hv
  obtain ⟨fuel, hf⟩ := h
  obtain ⟨a', n', c', l, e, h1, h2⟩ := open_bytes (x := (d, p)) Try.underlying26 Try.underlying5 (by kernel_rfl) (by kernel_rfl) hf hw
  rw [e]
  exact ⟨l, h1, h2⟩
/-- A connection's state. -/
theorem open_ctl_arg {v : Value} {d : DataW H} {p : List MemPlace} (hv : Value.okWide Try.prog w r b0 24 v) (h : DataW.Trod enc Try.prog w base (fun _ => true) held 24 v d p) (_hw : ∀ n ∈ DataW.weights Try.prog 24 d, n ≤ reachBytes) :
    ∃ c : Ctl, v = .agg c.cs.toArray ∧ CtlOk c := by
  obtain ⟨cs, ys, n, rfl, hcl, hyl, hd, hf⟩ := open_agg_fields Try.underlying24 (by kernel_rfl) (by kernel_rfl) hv h
  obtain ⟨v0, y0, c0, q0, h0⟩ := hf 0 _ rfl
  obtain ⟨v1, y1, c1, q1, h1⟩ := hf 1 _ rfl
  obtain ⟨v2, y2, c2, q2, h2⟩ := hf 2 _ rfl
  obtain ⟨v3, y3, c3, q3, h3⟩ := hf 3 _ rfl
  obtain ⟨v4, y4, c4, q4, h4⟩ := hf 4 _ rfl
  obtain ⟨v5, y5, c5, q5, h5⟩ := hf 5 _ rfl
  obtain ⟨v6, y6, c6, q6, h6⟩ := hf 6 _ rfl
  obtain ⟨v7, y7, c7, q7, h7⟩ := hf 7 _ rfl
  obtain ⟨v8, y8, c8, q8, h8⟩ := hf 8 _ rfl
  obtain ⟨v9, y9, c9, q9, h9⟩ := hf 9 _ rfl
  obtain ⟨v10, y10, c10, q10, h10⟩ := hf 10 _ rfl
  obtain ⟨z0, hz0, _, u0⟩ := DataW.trod_int Try.underlying3 h0
  obtain ⟨z1, hz1, _, u1⟩ := DataW.trod_int Try.underlying22 h1
  obtain ⟨z2, hz2, _, u2⟩ := DataW.trod_int Try.underlying22 h2
  obtain ⟨z3, hz3, _, u3⟩ := DataW.trod_int Try.underlying22 h3
  obtain ⟨z4, hz4, _⟩ := DataW.trod_bool Try.underlying4 h4
  obtain ⟨z5, hz5, _, u5⟩ := DataW.trod_int Try.underlying3 h5
  obtain ⟨z6, hz6, _, u6⟩ := DataW.trod_int Try.underlying22 h6
  obtain ⟨z7, hz7, _, u7⟩ := DataW.trod_int Try.underlying22 h7
  obtain ⟨z8, hz8, _, u8⟩ := DataW.trod_int Try.underlying22 h8
  obtain ⟨z9, hz9, _, u9⟩ := DataW.trod_int Try.underlying22 h9
  obtain ⟨z10, hz10, _, u10⟩ := DataW.trod_int Try.underlying22 h10
  simp only [List.cons.injEq, and_true] at hz0 hz1 hz2 hz3 hz4 hz5 hz6 hz7 hz8 hz9 hz10
  subst hz0 hz1 hz2 hz3 hz4 hz5 hz6 hz7 hz8 hz9 hz10
  refine ⟨⟨z0, z1, z2, z3, z4, z5, z6, z7, z8, z9, z10⟩, ?_, ⟨wf_u32 u1, wf_u32 u2, wf_u32 u3, wf_u32 u6, wf_u32 u7, wf_u32 u8, wf_u32 u9, wf_u32 u10⟩⟩
  rw [list_of (l := Ctl.cs ⟨z0, z1, z2, z3, z4, z5, z6, z7, z8, z9, z10⟩) hcl ?_]
  intro j hj
  match j, hj with
  | 0, _ => exact c0
  | 1, _ => exact c1
  | 2, _ => exact c2
  | 3, _ => exact c3
  | 4, _ => exact c4
  | 5, _ => exact c5
  | 6, _ => exact c6
  | 7, _ => exact c7
  | 8, _ => exact c8
  | 9, _ => exact c9
  | 10, _ => exact c10
  | n + 11, h => exact absurd h (by simp [Ctl.cs])

/-- A segment. -/
theorem open_seg_arg {v : Value} {d : DataW H} {p : List MemPlace} (hv : Value.okWide Try.prog w r b0 28 v) (h : DataW.Trod enc Try.prog w base (fun _ => true) held 28 v d p) (hw : ∀ n ∈ DataW.weights Try.prog 28 d, n ≤ reachBytes) :
    ∃ s : Seg, v = .agg s.cs.toArray ∧ SegOk s := by
  obtain ⟨cs, ys, n, rfl, hcl, hyl, hd, hf⟩ := open_agg_fields Try.underlying28 (by kernel_rfl) (by kernel_rfl) hv h
  subst hd
  obtain ⟨v0, y0, c0, q0, h0⟩ := hf 0 _ rfl
  obtain ⟨v1, y1, c1, q1, h1⟩ := hf 1 _ rfl
  obtain ⟨v2, y2, c2, q2, h2⟩ := hf 2 _ rfl
  obtain ⟨v3, y3, c3, q3, h3⟩ := hf 3 _ rfl
  obtain ⟨v4, y4, c4, q4, h4⟩ := hf 4 _ rfl
  obtain ⟨v5, y5, c5, q5, h5⟩ := hf 5 _ rfl
  obtain ⟨v6, y6, c6, q6, h6⟩ := hf 6 _ rfl
  obtain ⟨v7, y7, c7, q7, h7⟩ := hf 7 _ rfl
  obtain ⟨v8, y8, c8, q8, h8⟩ := hf 8 _ rfl
  obtain ⟨v9, y9, c9, q9, h9⟩ := hf 9 _ rfl
  obtain ⟨z0, hz0, _, u0⟩ := DataW.trod_int Try.underlying3 h0
  obtain ⟨z1, hz1, _, u1⟩ := DataW.trod_int Try.underlying3 h1
  obtain ⟨z2, hz2, _, u2⟩ := DataW.trod_int Try.underlying22 h2
  obtain ⟨z3, hz3, _, u3⟩ := DataW.trod_int Try.underlying22 h3
  obtain ⟨z4, hz4, _, u4⟩ := DataW.trod_int Try.underlying3 h4
  obtain ⟨z5, hz5, _, u5⟩ := DataW.trod_int Try.underlying3 h5
  obtain ⟨z6, hz6, _, u6⟩ := DataW.trod_int Try.underlying3 h6
  obtain ⟨z7, hz7, _⟩ := DataW.trod_bool Try.underlying4 h7
  obtain ⟨ga, gn, gc, rfl⟩ := trod_slice_form Try.underlying25 h8
  have w9 := weights_agg Try.underlying28 hyl hw rfl q9
  obtain ⟨da, dn, dc, l, rfl, k1, k2⟩ := open_bytes Try.underlying26 Try.underlying5 (by kernel_rfl) (by kernel_rfl) h9 w9
  simp only [List.cons.injEq, and_true] at hz0 hz1 hz2 hz3 hz4 hz5 hz6 hz7
  subst hz0 hz1 hz2 hz3 hz4 hz5 hz6 hz7
  have hdn : dn ≤ 140737488351232 := by obtain ⟨_, _, e⟩ := k1.form; simp at e; have := k1.len; omega
  refine ⟨⟨z0, z1, z2, z3, z4, z5, z6, z7, ga, gn, gc, da, dn, dc⟩, ?_, ⟨wf_u32 u2, wf_u32 u3, hdn⟩⟩
  rw [list_of (l := Seg.cs ⟨z0, z1, z2, z3, z4, z5, z6, z7, ga, gn, gc, da, dn, dc⟩) hcl ?_]
  intro j hj
  match j, hj with
  | 0, _ => exact c0
  | 1, _ => exact c1
  | 2, _ => exact c2
  | 3, _ => exact c3
  | 4, _ => exact c4
  | 5, _ => exact c5
  | 6, _ => exact c6
  | 7, _ => exact c7
  | 8, _ => exact c8
  | 9, _ => exact c9
  | n + 10, h => exact absurd h (by simp [Seg.cs])
end Go.Proofs.Ytpodmpidelifeaa
