/-
  The light machine's laws: slices that are made. No program is named here.
-/
import Derived.Test.YtloejpkefoagfaaSyBin
import Derived.Laws.MakeOwn
namespace Go.Proofs.Ytloejpkefoagfaa
open Go.RowKit

/-- A block that a constant's bytes were laid into: what lies behind it is marked. -/
def Fz (w : World) (b : Nat) (c : List Value) (T : TypeId) : Prop := w.heap[b]? = some (.cells c.toArray T (c.length, c.length + 1))
theorem Fz.lt {w : World} {b : Nat} {c : List Value} {T : TypeId} (h : Fz w b c T) : b < w.heap.size := (Array.getElem?_eq_some_iff.1 h).1
theorem Fz.cell {w : World} {b : Nat} {c : List Value} {T : TypeId} (h : Fz w b c T) (o : Nat) : w.cell? ⟨b, o, none⟩ = c[o]? := by unfold Fz at h; simp [World.cell?, h]
def rFz (b : Nat) (c : List Value) (T : TypeId) : Res where
  ok w := Fz w b c T
  fp k := k = b
  lt w h k hk := by subst hk; exact Fz.lt h
  st w w' h hw := by unfold Fz; rw [hw b rfl]; exact h
/-- No more is known of these blocks. -/
def rAny (b : Nat) : Res where
  ok w := b < w.heap.size
  fp k := k = b
  lt w h k hk := by subst hk; exact h
  st w w' h hw := by
    have h1 := hw b rfl
    rw [Array.getElem?_eq_getElem h] at h1
    exact (Array.getElem?_eq_some_iff.1 h1).1

section
variable {P : Program} {X : Cx} {ops : Array Oper} {Q : Exit → Act → World → Prop} {rest : List Oper} {o : Oper} {m : List (Nat × Value)} {l : List Res} {v : Value} {d : Nat}
variable {t : TypeId} {x y : Operand}

theorem built_slice {w : World} {e n size : Nat} {parts : Array (Nat × Value)} {z cs : List Value} (hu : P.underlying t = some (.slice e)) (hs : (P.info? e).map (fun i => (i.size, i.zero.map (·.cells.toList))) = some (size, some z)) (hn : n * size ≤ 2 ^ 24)
    (hc : Instr.fill (fun i => some (i * size, size)) ((Array.range (n * size)).map (z.toArray[· % z.toArray.size]!)) parts.toList = some cs.toArray) :
    (Instr.buildSlice t n parts).run P w = .ok (.slice (some ⟨w.heap.size, 0, none⟩) n n) (w.alloc (.cells cs.toArray e)) := by
  obtain ⟨i, hi, hz⟩ := map_some hs
  simp only [Prod.mk.injEq, Option.map_eq_some_iff] at hz
  obtain ⟨hz1, zv, hz2, hz3⟩ := hz
  have hzr : (zeroValue e).run P w = .ok zv w := by simp [zeroValue, typeInfo, hi, hz2]
  unfold Instr.buildSlice
  simp only [Sem.run_bind, run_underlying hu w, Result.andThen_ok, size_run (show (P.info? e).map (·.size) = some size by rw [hi]; simp [hz1]) w]
  rw [if_neg (by omega)]
  have hzc : zv.cells = z.toArray := by rw [← hz3]
  by_cases h0 : n * size = 0
  · rw [if_pos h0]
    have hr0 : Array.range (n * size) = #[] := by rw [h0]; rfl
    rw [hr0, Array.map_empty] at hc
    simp only [Sem.run_bind, Sem.run_pure, Result.andThen_ok, hr0, Array.map_empty, hc]
    rfl
  · rw [if_neg h0]
    simp only [Sem.run_bind, hzr, Result.andThen_ok, Sem.run_pure, hzc, hc]
    rfl
theorem SL.buildSlice {e n size : Nat} {parts : List (Nat × Operand)} {vals : List (Nat × Value)} {z cs : List Value} (hg : o.guard = none) (hd : o.dst = some d) (hn : d < X.n) (ho : o.op = .buildSlice t n parts.toArray)
    (hu : P.underlying t = some (.slice e)) (hs : (P.info? e).map (fun i => (i.size, i.zero.map (·.cells.toList))) = some (size, some z)) (hsz : Nat.ble (n * size) 16777216 = true) (hp : parts.mapM (fun x => (evM m x.2).map (x.1, ·)) = some vals)
    (hc : Instr.fill (fun i => some (i * size, size)) ((Array.range (n * size)).map (z.toArray[· % z.toArray.size]!)) vals = some cs.toArray)
    (k : ∀ b, X.w0.heap.size ≤ b → SL P X ops Q rest ((d, .slice (some ⟨b, 0, none⟩) n n) :: m) (l ++ [rBlk b cs e])) : SL P X ops Q (o :: rest) m l := fun a w hf hI =>
  wpList_plain hg fun K hK => by
    unfold Oper.wp execOp
    rw [ho]
    have hv : (parts.toArray.map fun (i, x) => (i, a.eval x)) = vals.toArray := by
      have : parts.map (fun (x : Nat × Operand) => (x.1, a.eval x.2)) = vals := by
        clear ho hc
        induction parts generalizing vals with
        | nil => simp at hp; simpa using hp.symm
        | cons y r ih =>
          simp only [List.mapM_cons, Option.bind_eq_bind, Option.bind_eq_some_iff, Option.map_eq_some_iff] at hp
          obtain ⟨u, ⟨u', hu, rfl⟩, us, hus, h⟩ := hp
          cases h
          rw [List.map_cons, ih hus, hf.ev hu]
      rw [← this]; simp
    have hrun := built_slice (P := P) (w := w) (parts := vals.toArray) hu hs (Nat.le_of_ble_eq_true hsz) hc
    simp only [hv, Sem.run_bind, hrun, Result.andThen_ok, Sem.run_pure, Oper.upon_value, hd]
    exact hK _ _ (k _ hI.2.size _ _ (hf.put hn _) (new_blk hI _ _))
theorem run_mark {w : World} {b : Nat} {c : List Value} {T e : TypeId} {n cp : Nat} (hb : Blk w b c T) (hu : P.underlying t = some (.slice e)) (he : P.underlying e = some (.int .u8)) :
    ∃ w', (Go.convert t t (.slice (some ⟨b, 0, none⟩) n cp)).run P w = .ok (.slice (some ⟨b, 0, none⟩) n cp) w' ∧ Fz w' b c T ∧ Only (fun k => k = b) w w' := by
  refine ⟨w.freeze ⟨b, c.length, none⟩ 1, ?_, ?_, ?_⟩
  · have hsh : w.shape? b = some (T, c.length) := by unfold Blk at hb; simp [World.shape?, hb]
    unfold Go.convert
    simp only [Sem.run_bind, run_underlying hu w, Result.andThen_ok, run_underlying he w, beq_self_eq_true]
    unfold markStringish
    simp only [Sem.run_bind, Go.shape, Sem.run, hsh, Result.andThen_ok, Go.freeze]
    rfl
  · unfold Fz World.freeze
    unfold Blk at hb
    simp [Array.getElem?_modify, hb]
  · refine ⟨by simp [World.freeze], by simp [World.freeze], by simp [World.freeze], by simp [World.freeze], fun k _ hk => ?_⟩
    have : ¬ b = k := fun e => hk e.symm
    simp [World.freeze, Array.getElem?_modify, this]
theorem SL.mark {e : TypeId} {i b n cp : Nat} {c : List Value} {T : TypeId} (hg : o.guard = none) (hd : o.dst = some d) (hn : d < X.n) (ho : o.op = .convert t t x) (hu : P.underlying t = some (.slice e)) (he : P.underlying e = some (.int .u8))
    (hx : evM m x = some (.slice (some ⟨b, 0, none⟩) n cp)) (hi : l[i]? = some (rBlk b c T)) (hS : X.S b ∨ X.w0.heap.size ≤ b)
    (k : SL P X ops Q rest ((d, .slice (some ⟨b, 0, none⟩) n cp) :: m) (l.set i (rFz b c T))) : SL P X ops Q (o :: rest) m l := fun a w hf hI =>
  wpList_plain hg fun K hK => by
    obtain ⟨w', hr, hz, hO⟩ := run_mark (P := P) (t := t) (e := e) (n := n) (cp := cp) (hI.1.get hi) hu he
    unfold Oper.wp execOp
    rw [ho]
    simp only [hf.ev hx, Sem.run_bind, hr, Result.andThen_ok, Sem.run_pure, Oper.upon_value, hd]
    exact hK _ _ (k _ _ (hf.put hn _) (hI.upd hi hO (fun b' hb' => by cases hb'; exact hS) hz (fun b' hb' => .inl hb')))

/-! Answers that lie in memory. -/
theorem run_cell {w : World} (hI : Inv X w l) {t : TypeId} {z : List Value} (ht : TyAg P t z) {i b : Nat} {c : List Value} {T : TypeId} (hi : l[i]? = some (rBlk b c T)) (hc : c.length = z.length) : (loadVar t ⟨b, 0, none⟩).run P w = .ok (.agg c.toArray) w := by
  have hb : Blk w b c T := hI.1.get hi
  obtain ⟨⟨d, hd, hdb⟩, hsz, _⟩ := ht
  obtain ⟨inf, hinf, hz⟩ := map_some hsz
  simp only [Prod.mk.injEq] at hz
  exact run_loadVar_at (P := P) w b 0 t c d (fun j hj => by rw [hb.cell, Nat.zero_add]) hd (by cases d <;> simp_all [isAggD]) (by rw [hinf]; simp [hz.1, hc])
theorem res_c {fn : Func} {p ty : Nat} {z : List Value} (h : fn.results = #[.cell p ty]) (ht : TyAg P ty z) {b : Nat} (hp : look m p = some (.pointer (some ⟨b, 0, none⟩))) (i : Nat) {c : List Value} {T : TypeId} (hi : l[i]? = some (rBlk b c T)) (hc : c.length = z.length) :
    ∀ a w, Fr X.n a m → Inv X w l → (results fn a.tmps).run P w = .ok (.agg c.toArray) w := fun a w hf hI => by
  have h1 := look_tmps hf hp
  have h1' : a.tmps[p]?.getD undef = .pointer (some ⟨b, 0, none⟩) := by simpa using h1
  simp [results, h, h1', asAddr, run_cell hI ht hi hc]
theorem res_ct {fn : Func} {p ty u : Nat} {z : List Value} (h : fn.results = #[.cell p ty, .tmp u]) (ht : TyAg P ty z) {b : Nat} (hp : look m p = some (.pointer (some ⟨b, 0, none⟩))) (hu : look m u = some v) (i : Nat) {c : List Value} {T : TypeId} (hi : l[i]? = some (rBlk b c T)) (hc : c.length = z.length) :
    ∀ a w, Fr X.n a m → Inv X w l → (results fn a.tmps).run P w = .ok (.tuple #[.agg c.toArray, v]) w := fun a w hf hI => by
  have h1 := look_tmps hf hp
  have h2 := look_tmps hf hu
  have h1' : a.tmps[p]?.getD undef = .pointer (some ⟨b, 0, none⟩) := by simpa using h1
  have h2' : a.tmps[u]?.getD undef = v := by simpa using h2
  simp [results, h, h1', h2', asAddr, run_cell hI ht hi hc]
theorem res_cct {fn : Func} {p q ty ty' u : Nat} {z z' : List Value} (h : fn.results = #[.cell p ty, .cell q ty', .tmp u]) (ht : TyAg P ty z) (ht' : TyAg P ty' z') {b b' : Nat} (hp : look m p = some (.pointer (some ⟨b, 0, none⟩))) (hq : look m q = some (.pointer (some ⟨b', 0, none⟩))) (hu : look m u = some v) (i i' : Nat) {c c' : List Value} {T T' : TypeId}
    (hi : l[i]? = some (rBlk b c T)) (hi' : l[i']? = some (rBlk b' c' T')) (hc : c.length = z.length) (hc' : c'.length = z'.length) :
    ∀ a w, Fr X.n a m → Inv X w l → (results fn a.tmps).run P w = .ok (.tuple #[.agg c.toArray, .agg c'.toArray, v]) w := fun a w hf hI => by
  have h1 := look_tmps hf hp
  have h2 := look_tmps hf hu
  have h3 := look_tmps hf hq
  have h1' : a.tmps[p]?.getD undef = .pointer (some ⟨b, 0, none⟩) := by simpa using h1
  have h2' : a.tmps[u]?.getD undef = v := by simpa using h2
  have h3' : a.tmps[q]?.getD undef = .pointer (some ⟨b', 0, none⟩) := by simpa using h3
  simp [results, h, h1', h2', h3', asAddr, run_cell hI ht hi hc, run_cell hI ht' hi' hc']
theorem res3 {fn : Func} {t u x : Nat} {v1 v2 v3 : Value} (h : fn.results = #[.tmp t, .tmp u, .tmp x]) (ht : look m t = some v1) (hu : look m u = some v2) (hx : look m x = some v3) : ∀ a w, Fr X.n a m → Inv X w l → (results fn a.tmps).run P w = .ok (.tuple #[v1, v2, v3]) w := fun a w hf _ => by
  have h1 : a.tmps[t]?.getD undef = v1 := by simpa using look_tmps hf ht
  have h2 : a.tmps[u]?.getD undef = v2 := by simpa using look_tmps hf hu
  have h3 : a.tmps[x]?.getD undef = v3 := by simpa using look_tmps hf hx
  simp [results, h, h1, h2, h3]

/-! make and append with room. -/
theorem made_len (z : Array Value) (n : Nat) : (madeCells z n).toList.length = n := by rw [Array.length_toList, size_madeCells]
theorem SL.make {e n c : Nat} {z : Value} {size bytes : Nat} {y : Operand} (hg : o.guard = none) (hd : o.dst = some d) (hn : d < X.n) (ho : o.op = .makeSlice t x y) (hu : P.underlying t = some (.slice e)) (hz : (P.info? e).map (fun i => (i.zero, i.size, i.bytes)) = some (some z, size, bytes))
    (hx : evM m x = some (.int .i64 (n : Int))) (hy : evM m y = some (.int .i64 (c : Int))) (hnc : n ≤ c) (hb : bytes * c ≤ 281474976710656) (h63 : c ≤ 9223372036854775807)
    (k : ∀ b, X.w0.heap.size ≤ b → SL P X ops Q rest ((d, .slice (some ⟨b, 0, none⟩) n c) :: m) (l ++ [rBlk b (madeCells z.cells (c * size)).toList e])) : SL P X ops Q (o :: rest) m l := fun a w hf hI =>
  wpList_plain hg fun K hK => by
    obtain ⟨i, hi, h3⟩ := map_some hz
    simp only [Prod.mk.injEq] at h3
    obtain ⟨z0, z1, z2⟩ := h3
    have hrun := run_make (P := P) w t e i z hu hi z0 .i64 .i64 (n : Int) (c : Int) (by omega) (by omega) (by rw [z2, ← Int.natCast_mul]; exact Int.ofNat_le.2 hb) (by omega)
    unfold Oper.wp execOp
    rw [ho]
    simp only [hf.ev hx, hf.ev hy, Sem.run_bind, hrun, Result.andThen_ok, Sem.run_pure, Oper.upon_value, hd]
    simp only [Int.toNat_natCast, z1]
    exact hK _ _ (k _ hI.2.size _ _ (hf.put hn _) (new_blk hI _ _))
theorem run_room {w : World} {ty e g n : Nat} {c : List Value} {v : Value} {f : List UInt8} (hu : P.underlying t = some (.slice e)) (hs : (P.info? e).map (·.size) = some 1) (hb : Blk w g c e) (hx : BytesAt w v f) (cap : Nat) (hr : n + f.length ≤ cap) (hc : n + f.length ≤ c.length) :
    ∃ w', (Builtin.append_ #[t, t] ty #[.slice (some ⟨g, 0, none⟩) n cap, v]).run P w = .ok (.slice (some ⟨g, 0, none⟩) (n + f.length) cap) w' ∧ Blk w' g (c.take n ++ f.map bv ++ c.drop (n + f.length)) e ∧ Only (fun k => k = g) w w' := by
  obtain ⟨i, hi, hsz⟩ := map_some hs
  rcases hx with ⟨a, q, rfl, hq, rfl⟩ | ⟨b, so, q, rfl, h1, h2, h3⟩
  · refine ⟨w, ?_, by simpa using hb, Only.refl _ _⟩
    have hso : (sizeOf e).run P w = .ok 1 w := by simp [sizeOf, typeInfo, hi, hsz]
    unfold Builtin.append_
    simp only [List.getElem?_toArray, List.getElem?_cons_zero, List.getElem?_cons_succ, Sem.run_bind, run_underlying hu w, Result.andThen_ok, hso, Sem.run_pure, Builtin.lenOf]
    simp only [List.length_nil, Nat.add_zero] at hr
    simp [hr, Builtin.firstCells]
    cases a with
    | none => rfl
    | some a => rfl
  · have hrun := run_append_room (P := P) (w := w) t ty e i hu hi g n cap c.toArray hb ⟨b, so, none⟩ f.length q (f.map bv) (by simp [hsz]) (fun j u hj => by
        have hjl : j < f.length := by have := (List.getElem?_eq_some_iff.1 hj).1; simpa using this
        rw [add_at, h3 j hjl]
        simp only [List.getElem?_map, List.getElem?_eq_getElem hjl, Option.map_some] at hj
        exact hj) (fun u hu => by obtain ⟨y, _, rfl⟩ := List.mem_map.1 hu; rfl) hr (by simp [hsz]; omega)
    refine ⟨_, hrun, ?_, ⟨rfl, rfl, rfl, by simp [World.setRow], fun k' _ hk' => setRow_other w g k' _ hk'⟩⟩
    have := setRow_heap w g c.toArray ((c.take n ++ f.map bv ++ c.drop (n + f.length))).toArray e (0, 0) hb
    unfold Blk
    simpa [hsz] using this
theorem SL.room {e i g n cap : Nat} {c c' : List Value} {v : Value} {f : List UInt8} {y : Operand} (hg : o.guard = none) (hd : o.dst = some d) (hn : d < X.n) (ho : o.op = .call { callee := .builtin .append, args := #[x, y], argTypes := #[t, t] }) (hu : P.underlying t = some (.slice e)) (hs : (P.info? e).map (·.size) = some 1)
    (hx : evM m x = some (.slice (some ⟨g, 0, none⟩) n cap)) (hy : evM m y = some v) (hi : l[i]? = some (rBlk g c e)) (hb : ∀ w, Inv X w l → BytesAt w v f) (hr : n + f.length ≤ cap) (hc : n + f.length ≤ c.length) (hS : X.S g ∨ X.w0.heap.size ≤ g) (hc' : c.take n ++ f.map bv ++ c.drop (n + f.length) = c')
    (k : SL P X ops Q rest ((d, .slice (some ⟨g, 0, none⟩) (n + f.length) cap) :: m) (l.set i (rBlk g c' e))) : SL P X ops Q (o :: rest) m l := fun a w hf hI =>
  wpList_plain hg fun K hK => by
    obtain ⟨w', hrun, hB, hO⟩ := run_room (P := P) (ty := o.type) hu hs (hI.1.get hi) (hb w hI) cap hr hc
    unfold Oper.wp execOp
    rw [ho]
    have he : #[x, y].map a.eval = #[.slice (some ⟨g, 0, none⟩) n cap, v] := by simp [hf.ev hx, hf.ev hy]
    simp only [resolve, he, Sem.run_bind, Sem.run_pure, Result.andThen_ok, invoke, builtin, hrun, Oper.upon_value, hd]
    exact hK _ _ (k _ _ (hf.put hn _) (hI.upd hi hO (fun b' hb' => by cases hb'; exact hS) (hc' ▸ hB) (fun b' hb' => .inl hb')))

theorem wpList_room {w : World} {a : Act} {e g n cap : Nat} {c : List Value} {v : Value} {f : List UInt8} {y : Operand} (hg : o.guard = none) (ho : o.op = .call { callee := .builtin .append, args := #[x, y], argTypes := #[t, t] }) (hu : P.underlying t = some (.slice e)) (hs : (P.info? e).map (·.size) = some 1)
    (hx : a.eval x = .slice (some ⟨g, 0, none⟩) n cap) (hy : a.eval y = v) (hb : Blk w g c e) (hv : BytesAt w v f) (hr : n + f.length ≤ cap) (hc : n + f.length ≤ c.length)
    (k : ∀ w', Blk w' g (c.take n ++ f.map bv ++ c.drop (n + f.length)) e → Only (fun k => k = g) w w' → wpList P ops Q rest (a.put o.dst (.slice (some ⟨g, 0, none⟩) (n + f.length) cap)) w') : wpList P ops Q (o :: rest) a w :=
  wpList_plain hg fun K hK => by
    obtain ⟨w', hrun, hB, hO⟩ := run_room (P := P) (ty := o.type) hu hs hb hv cap hr hc
    unfold Oper.wp execOp
    rw [ho]
    have he : #[x, y].map a.eval = #[.slice (some ⟨g, 0, none⟩) n cap, v] := by simp [hx, hy]
    simp only [resolve, he, Sem.run_bind, Sem.run_pure, Result.andThen_ok, invoke, builtin, hrun, Oper.upon_value]
    exact hK _ _ (k w' hB hO)
theorem make_u8 {e n : Nat} (hu : P.underlying t = some (.slice e)) (hz : (P.info? e).map (fun i => (i.zero, i.size, i.bytes)) = some (some (.int .u8 0), 1, 1)) (hn : n ≤ 281474976710656) (w : World) :
    (Instr.makeSlice t (.int .i64 0) (.int .i64 (n : Int))).run P w = .ok (.slice (some ⟨w.heap.size, 0, none⟩) 0 n) (w.alloc (.cells (madeCells #[.int .u8 0] n) e)) := by
  obtain ⟨i, hi, h3⟩ := map_some hz
  simp only [Prod.mk.injEq] at h3
  obtain ⟨z0, z1, z2⟩ := h3
  have := run_make (P := P) w t e i (.int .u8 0) hu hi z0 .i64 .i64 0 (n : Int) (by omega) (by omega) (by rw [z2]; omega) (by omega)
  rw [this]
  simp [z1, Value.cells]
end
end Go.Proofs.Ytloejpkefoagfaa
