/-
  The light machine's laws: slices that are made. No program is named here.
-/
import Derived.Test.YtpodmpidelifeaaSyBin
namespace Go.Proofs.Ytpodmpidelifeaa
open Go.RowKit

/-- A block that a constant's bytes were laid into: what lies behind it is marked. -/
def Fz (w : World) (b : Nat) (c : List Value) (T : TypeId) : Prop := w.heap[b]? = some (.cells c.toArray T (c.length, c.length + 1))
theorem Fz.lt {w : World} {b : Nat} {c : List Value} {T : TypeId} (h : Fz w b c T) : b < w.heap.size := (Array.getElem?_eq_some_iff.1 h).1
theorem Fz.cell {w : World} {b : Nat} {c : List Value} {T : TypeId} (h : Fz w b c T) (o : Nat) : w.cell? ⟨b, o, none⟩ = c[o]? := by unfold Fz at h; simp [World.cell?, h]
def rFz (b : Nat) (c : List Value) (T : TypeId) : Res where
  ok w := Fz w b c T
  fp k := k = b
  lt w h k hk := by subst hk; exact Fz.lt h
  st w w' h hw := by unfold Fz; rw [hw b rfl]; exact h
/-- No more is known of these blocks. -/
def rAny (b : Nat) : Res where
  ok w := b < w.heap.size
  fp k := k = b
  lt w h k hk := by subst hk; exact h
  st w w' h hw := by
    have h1 := hw b rfl
    rw [Array.getElem?_eq_getElem h] at h1
    exact (Array.getElem?_eq_some_iff.1 h1).1

section
variable {P : Program} {X : Cx} {ops : Array Oper} {Q : Exit → Act → World → Prop} {rest : List Oper} {o : Oper} {m : List (Nat × Value)} {l : List Res} {v : Value} {d : Nat}
variable {t : TypeId} {x y : Operand}

theorem built_slice {w : World} {e n size : Nat} {parts : Array (Nat × Value)} {z cs : List Value} (hu : P.underlying t = some (.slice e)) (hs : (P.info? e).map (fun i => (i.size, i.zero.map (·.cells.toList))) = some (size, some z)) (hn : n * size ≤ 2 ^ 24)
    (hc : Instr.fill (fun i => some (i * size, size)) ((Array.range (n * size)).map (z.toArray[· % z.toArray.size]!)) parts.toList = some cs.toArray) :
    (Instr.buildSlice t n parts).run P w = .ok (.slice (some ⟨w.heap.size, 0, none⟩) n n) (w.alloc (.cells cs.toArray e)) := by
  obtain ⟨i, hi, hz⟩ := map_some hs
  simp only [Prod.mk.injEq, Option.map_eq_some_iff] at hz
  obtain ⟨hz1, zv, hz2, hz3⟩ := hz
  have hzr : (zeroValue e).run P w = .ok zv w := by simp [zeroValue, typeInfo, hi, hz2]
  unfold Instr.buildSlice
  simp only [Sem.run_bind, run_underlying hu w, Result.andThen_ok, size_run (show (P.info? e).map (·.size) = some size by rw [hi]; simp [hz1]) w]
  rw [if_neg (by omega)]
  have hzc : zv.cells = z.toArray := by rw [← hz3]
  by_cases h0 : n * size = 0
  · rw [if_pos h0]
    have hr0 : Array.range (n * size) = #[] := by rw [h0]; rfl
    rw [hr0, Array.map_empty] at hc
    simp only [Sem.run_bind, Sem.run_pure, Result.andThen_ok, hr0, Array.map_empty, hc]
    rfl
  · rw [if_neg h0]
    simp only [Sem.run_bind, hzr, Result.andThen_ok, Sem.run_pure, hzc, hc]
    rfl
theorem SL.buildSlice {e n size : Nat} {parts : List (Nat × Operand)} {vals : List (Nat × Value)} {z cs : List Value} (hg : o.guard = none) (hd : o.dst = some d) (hn : d < X.n) (ho : o.op = .buildSlice t n parts.toArray)
    (hu : P.underlying t = some (.slice e)) (hs : (P.info? e).map (fun i => (i.size, i.zero.map (·.cells.toList))) = some (size, some z)) (hsz : Nat.ble (n * size) 16777216 = true) (hp : parts.mapM (fun x => (evM m x.2).map (x.1, ·)) = some vals)
    (hc : Instr.fill (fun i => some (i * size, size)) ((Array.range (n * size)).map (z.toArray[· % z.toArray.size]!)) vals = some cs.toArray)
    (k : ∀ b, X.w0.heap.size ≤ b → SL P X ops Q rest ((d, .slice (some ⟨b, 0, none⟩) n n) :: m) (l ++ [rBlk b cs e])) : SL P X ops Q (o :: rest) m l := fun a w hf hI =>
  wpList_plain hg fun K hK => by
    unfold Oper.wp execOp
    rw [ho]
    have hv : (parts.toArray.map fun (i, x) => (i, a.eval x)) = vals.toArray := by
      have : parts.map (fun (x : Nat × Operand) => (x.1, a.eval x.2)) = vals := by
        clear ho hc
        induction parts generalizing vals with
        | nil => simp at hp; simpa using hp.symm
        | cons y r ih =>
          simp only [List.mapM_cons, Option.bind_eq_bind, Option.bind_eq_some_iff, Option.map_eq_some_iff] at hp
          obtain ⟨u, ⟨u', hu, rfl⟩, us, hus, h⟩ := hp
          cases h
          rw [List.map_cons, ih hus, hf.ev hu]
      rw [← this]; simp
    have hrun := built_slice (P := P) (w := w) (parts := vals.toArray) hu hs (Nat.le_of_ble_eq_true hsz) hc
    simp only [hv, Sem.run_bind, hrun, Result.andThen_ok, Sem.run_pure, Oper.upon_value, hd]
    exact hK _ _ (k _ hI.2.size _ _ (hf.put hn _) (new_blk hI _ _))
theorem run_mark {w : World} {b : Nat} {c : List Value} {T e : TypeId} {n cp : Nat} (hb : Blk w b c T) (hu : P.underlying t = some (.slice e)) (he : P.underlying e = some (.int .u8)) :
    ∃ w', (Go.convert t t (.slice (some ⟨b, 0, none⟩) n cp)).run P w = .ok (.slice (some ⟨b, 0, none⟩) n cp) w' ∧ Fz w' b c T ∧ Only (fun k => k = b) w w' := by
  refine ⟨w.freeze ⟨b, c.length, none⟩ 1, ?_, ?_, ?_⟩
  · have hsh : w.shape? b = some (T, c.length) := by unfold Blk at hb; simp [World.shape?, hb]
    unfold Go.convert
    simp only [Sem.run_bind, run_underlying hu w, Result.andThen_ok, run_underlying he w, beq_self_eq_true]
    unfold markStringish
    simp only [Sem.run_bind, Go.shape, Sem.run, hsh, Result.andThen_ok, Go.freeze]
    rfl
  · unfold Fz World.freeze
    unfold Blk at hb
    simp [Array.getElem?_modify, hb]
  · refine ⟨by simp [World.freeze], by simp [World.freeze], by simp [World.freeze], by simp [World.freeze], fun k _ hk => ?_⟩
    have : ¬ b = k := fun e => hk e.symm
    simp [World.freeze, Array.getElem?_modify, this]
theorem SL.mark {e : TypeId} {i b n cp : Nat} {c : List Value} {T : TypeId} (hg : o.guard = none) (hd : o.dst = some d) (hn : d < X.n) (ho : o.op = .convert t t x) (hu : P.underlying t = some (.slice e)) (he : P.underlying e = some (.int .u8))
    (hx : evM m x = some (.slice (some ⟨b, 0, none⟩) n cp)) (hi : l[i]? = some (rBlk b c T)) (hS : X.S b ∨ X.w0.heap.size ≤ b)
    (k : SL P X ops Q rest ((d, .slice (some ⟨b, 0, none⟩) n cp) :: m) (l.set i (rFz b c T))) : SL P X ops Q (o :: rest) m l := fun a w hf hI =>
  wpList_plain hg fun K hK => by
    obtain ⟨w', hr, hz, hO⟩ := run_mark (P := P) (t := t) (e := e) (n := n) (cp := cp) (hI.1.get hi) hu he
    unfold Oper.wp execOp
    rw [ho]
    simp only [hf.ev hx, Sem.run_bind, hr, Result.andThen_ok, Sem.run_pure, Oper.upon_value, hd]
    exact hK _ _ (k _ _ (hf.put hn _) (hI.upd hi hO (fun b' hb' => by cases hb'; exact hS) hz (fun b' hb' => .inl hb')))

/-! Answers that lie in memory. -/
theorem run_cell {w : World} (hI : Inv X w l) {t : TypeId} {z : List Value} (ht : TyAg P t z) {i b : Nat} {c : List Value} {T : TypeId} (hi : l[i]? = some (rBlk b c T)) (hc : c.length = z.length) : (loadVar t ⟨b, 0, none⟩).run P w = .ok (.agg c.toArray) w := by
  have hb : Blk w b c T := hI.1.get hi
  obtain ⟨⟨d, hd, hdb⟩, hsz, _⟩ := ht
  obtain ⟨inf, hinf, hz⟩ := map_some hsz
  simp only [Prod.mk.injEq] at hz
  exact run_loadVar_at (P := P) w b 0 t c d (fun j hj => by rw [hb.cell, Nat.zero_add]) hd (by cases d <;> simp_all [isAggD]) (by rw [hinf]; simp [hz.1, hc])
theorem res_c {fn : Func} {p ty : Nat} {z : List Value} (h : fn.results = #[.cell p ty]) (ht : TyAg P ty z) {b : Nat} (hp : look m p = some (.pointer (some ⟨b, 0, none⟩))) (i : Nat) {c : List Value} {T : TypeId} (hi : l[i]? = some (rBlk b c T)) (hc : c.length = z.length) :
    ∀ a w, Fr X.n a m → Inv X w l → (results fn a.tmps).run P w = .ok (.agg c.toArray) w := fun a w hf hI => by
  have h1 := look_tmps hf hp
  have h1' : a.tmps[p]?.getD undef = .pointer (some ⟨b, 0, none⟩) := by simpa using h1
  simp [results, h, h1', asAddr, run_cell hI ht hi hc]
theorem res_ct {fn : Func} {p ty u : Nat} {z : List Value} (h : fn.results = #[.cell p ty, .tmp u]) (ht : TyAg P ty z) {b : Nat} (hp : look m p = some (.pointer (some ⟨b, 0, none⟩))) (hu : look m u = some v) (i : Nat) {c : List Value} {T : TypeId} (hi : l[i]? = some (rBlk b c T)) (hc : c.length = z.length) :
    ∀ a w, Fr X.n a m → Inv X w l → (results fn a.tmps).run P w = .ok (.tuple #[.agg c.toArray, v]) w := fun a w hf hI => by
  have h1 := look_tmps hf hp
  have h2 := look_tmps hf hu
  have h1' : a.tmps[p]?.getD undef = .pointer (some ⟨b, 0, none⟩) := by simpa using h1
  have h2' : a.tmps[u]?.getD undef = v := by simpa using h2
  simp [results, h, h1', h2', asAddr, run_cell hI ht hi hc]
theorem res_cct {fn : Func} {p q ty ty' u : Nat} {z z' : List Value} (h : fn.results = #[.cell p ty, .cell q ty', .tmp u]) (ht : TyAg P ty z) (ht' : TyAg P ty' z') {b b' : Nat} (hp : look m p = some (.pointer (some ⟨b, 0, none⟩))) (hq : look m q = some (.pointer (some ⟨b', 0, none⟩))) (hu : look m u = some v) (i i' : Nat) {c c' : List Value} {T T' : TypeId}
    (hi : l[i]? = some (rBlk b c T)) (hi' : l[i']? = some (rBlk b' c' T')) (hc : c.length = z.length) (hc' : c'.length = z'.length) :
    ∀ a w, Fr X.n a m → Inv X w l → (results fn a.tmps).run P w = .ok (.tuple #[.agg c.toArray, .agg c'.toArray, v]) w := fun a w hf hI => by
  have h1 := look_tmps hf hp
  have h2 := look_tmps hf hu
  have h3 := look_tmps hf hq
  have h1' : a.tmps[p]?.getD undef = .pointer (some ⟨b, 0, none⟩) := by simpa using h1
  have h2' : a.tmps[u]?.getD undef = v := by simpa using h2
  have h3' : a.tmps[q]?.getD undef = .pointer (some ⟨b', 0, none⟩) := by simpa using h3
  simp [results, h, h1', h2', h3', asAddr, run_cell hI ht hi hc, run_cell hI ht' hi' hc']
theorem res3 {fn : Func} {t u x : Nat} {v1 v2 v3 : Value} (h : fn.results = #[.tmp t, .tmp u, .tmp x]) (ht : look m t = some v1) (hu : look m u = some v2) (hx : look m x = some v3) : ∀ a w, Fr X.n a m → Inv X w l → (results fn a.tmps).run P w = .ok (.tuple #[v1, v2, v3]) w := fun a w hf _ => by
  have h1 : a.tmps[t]?.getD undef = v1 := by simpa using look_tmps hf ht
  have h2 : a.tmps[u]?.getD undef = v2 := by simpa using look_tmps hf hu
  have h3 : a.tmps[x]?.getD undef = v3 := by simpa using look_tmps hf hx
  simp [results, h, h1, h2, h3]
end
end Go.Proofs.Ytpodmpidelifeaa
