/-
  The light machine: bytes of one's own (append), strings. No program is named here.
-/
import Derived.Test.YtloejpkefoagfaaSySp
import Derived.Laws.BytesString
namespace Go.Proofs.Ytloejpkefoagfaa
open Go.RowKit

def appA (t : World) (n : Nat) : Option Addr := if n = 0 then none else some ⟨t.heap.size, 0, none⟩
def appC (t : World) (e : TypeId) (n : Nat) : Nat := if n = 0 then 0 else grownCap t n 0 e
def appV (t : World) (e : TypeId) (n : Nat) : Value := .slice (appA t n) n (appC t e n)
theorem appV_own {t : World} {e : TypeId} {n b : Nat} (h : (appV t e n).ownBlock = some b) : b = t.heap.size := by
  by_cases h0 : n = 0
  · simp [appV, appA, h0, Value.ownBlock] at h
  · simp [appV, appA, h0, Value.ownBlock] at h; exact h.symm
/-- Bytes of one's own: a row that no one else holds. -/
def rMine (v : Value) (f : List UInt8) (e : TypeId) : Res where
  ok w := OwnBytes w 0 e v f
  fp j := v.ownBlock = some j
  lt w h b hb := (World.ownsRow.lt h b hb).2
  st w w' h hw := by
    refine ⟨h.1, ?_⟩
    rcases h.2 with ⟨h1, h2⟩ | ⟨g, cap, cur, rfl, h1, h2, h3⟩
    · exact .inl ⟨h1, h2⟩
    · exact .inr ⟨g, cap, cur, rfl, h1, by rw [hw g rfl]; exact h2, h3⟩
theorem ownb_new {w : World} {g : Nat} {f : List UInt8} {e : TypeId} (h : Blk w g (f.map bv) e) (hl : f.length ≤ 140737488351232) : OwnBytes w 0 e (sl g 0 f.length f.length) f :=
  ⟨by simp, .inr ⟨g, f.length, (f.map bv).toArray, rfl, Nat.zero_le _, h, Nat.le_refl _, by unfold maxLen; omega, by simp, by rw [Nat.mul_one]; exact List.take_of_length_le (by simp)⟩⟩
theorem ownb_nil (w : World) (e : TypeId) : OwnBytes w 0 e (.slice none 0 0) [] := World.ownsRow_nil w 0 e 1
/-- Its two ways. -/
theorem OwnBytes.blk {w : World} {v : Value} {f : List UInt8} {e : TypeId} (h : OwnBytes w 0 e v f) : (v = .slice none 0 0 ∧ f = []) ∨ ∃ g cap tl, v = sl g 0 f.length cap ∧ f.length + tl.length = cap ∧ cap ≤ maxLen ∧ Blk w g (f.map bv ++ tl) e := by
  rcases h.2 with ⟨h1, h2⟩ | ⟨g, cap, cur, rfl, h1, h2, h3, h4, h5, h6⟩
  · exact .inl ⟨h1, List.eq_nil_of_length_eq_zero h2⟩
  · refine .inr ⟨g, cap, cur.toList.drop f.length, rfl, by have hc : cur.toList.length = cur.size := Array.length_toList; rw [List.length_drop, hc]; omega, h4, ?_⟩
    rw [Nat.mul_one] at h6
    rw [← h6, List.take_append_drop]
    exact h2
theorem OwnBytes.of_blk {w : World} {g cap : Nat} {f : List UInt8} {tl : List Value} {e : TypeId} (h : Blk w g (f.map bv ++ tl) e) (h2 : cap ≤ maxLen) (h3 : f.length + tl.length = cap) : OwnBytes w 0 e (sl g 0 f.length cap) f :=
  ⟨by simp, .inr ⟨g, cap, (f.map bv ++ tl).toArray, rfl, Nat.zero_le _, h, by omega, h2, by simp; omega, by simp⟩⟩
/-- Nothing. -/
def rNone : Res where
  ok _ := True
  fp _ := False
  lt _ _ _ h := h.elim
  st _ _ _ _ := trivial
theorem get_at {q : List UInt8} {tl : List Value} {j : Nat} (h : j < q.length) : (q.map bv ++ tl)[j]? = some (Value.int .u8 ((q.getD j 0).toNat : Int)) := by
  rw [List.getElem?_append_left (by simpa using h), List.getElem?_map, List.getElem?_eq_getElem h]
  simp [bv, h]
theorem set_inc {q : List UInt8} {tl : List Value} {j : Nat} (h : j < q.length) : (q.map bv ++ tl).set j (Value.int .u8 (IntKind.u8.wrap (((q.getD j 0).toNat : Int) + 1))) = (q.set j (q.getD j 0 + 1)).map bv ++ tl := by
  rw [List.set_append_left _ _ (by simpa using h), List.map_set]
  congr 2
theorem Inv.weak {X : Cx} {w : World} {l : List Res} {i : Nat} {r r' : Res} (h : Inv X w l) (hi : l[i]? = some r) (hr : r.ok w → r'.ok w) (hf : ∀ b, r'.fp b → r.fp b) : Inv X w (l.set i r') :=
  ⟨h.1.upd hi (fun _ _ _ => rfl) (hr (h.1.get hi)) (fun b hb => .inl (hf b hb)), h.2⟩

section
variable {P : Program} {X : Cx} {ops : Array Oper} {Q : Exit → Act → World → Prop} {rest : List Oper} {o : Oper} {m : List (Nat × Value)} {l : List Res} {v : Value} {d k : Nat} {sp : List Nat} {C : (Nat → Bool) → World → Prop} {K : Act → Prop} {x y : Operand} {t t' : TypeId}

theorem push_all (l : List UInt8) (s : ByteArray) : ((l.map fun x => (x.toNat : Int)).foldl (fun r n => r.push (UInt8.ofNat n.toNat)) s) = ⟨s.data ++ l.toArray⟩ := by
  induction l generalizing s with
  | nil => simp
  | cons x l ih =>
    simp only [List.map_cons, List.foldl_cons, ih]
    simp [ByteArray.push]
/-- 'string(b)': the bytes. -/
theorem run_str {P : Program} {src dst e : TypeId} (hs : P.underlying src = some (.slice e)) (he : P.underlying e = some (.int .u8)) (hd : P.underlying dst = some .string)
    {w : World} {v : Value} {l : List UInt8} (h : BytesAt w v l) : (convert src dst v).run P w = .ok (.string ⟨l.toArray⟩) w := by
  rcases h with ⟨a, c, rfl, _, rfl⟩ | ⟨b, o, cap, rfl, h1, h2, h3⟩
  · rw [run_convert_bytes_string w src dst e a 0 c hs he hd]
    cases a with
    | none => rfl
    | some a =>
      have hl := run_loadCells_list (P := P) w a [] (by simp)
      rw [run_bytesToString w a 0 c [] (by simpa using hl)]
      rfl
  · rw [run_convert_bytes_string w src dst e _ _ _ hs he hd]
    have hl := run_loadCells_list (P := P) w ⟨b, o, none⟩ (l.map bv) (by
      intro j v hj
      have hjl : j < l.length := by have := (List.getElem?_eq_some_iff.1 hj).1; simpa using this
      have hadd : (⟨b, o, none⟩ : Addr).add j = ⟨b, o + j, none⟩ := by unfold Addr.add; split <;> simp_all
      rw [hadd, h3 j hjl]
      simp only [List.getElem?_map, List.getElem?_eq_getElem hjl, Option.map_some] at hj
      exact hj)
    rw [List.length_map] at hl
    have e : l.map bv = (l.map fun x => (x.toNat : Int)).map (Value.int .u8) := by simp
    rw [e] at hl
    rw [run_bytesToString w ⟨b, o, none⟩ l.length cap _ hl, push_all]
    simp
theorem ru_str {e : TypeId} {f : List UInt8} {vx : Value} (hs : P.underlying t = some (.slice e)) (he : P.underlying e = some (.int .u8)) (hd : P.underlying t' = some .string) (ho : o.op = .convert t t' x) (hx : evM m x = some vx) (hb : ∀ w, Inv X w l → BytesAt w vx f) :
    Ru P X o m l (.string ⟨f.toArray⟩) := fun a w hf hI => by
  unfold execOp; rw [ho]
  simp only [hf.ev hx, Sem.run_bind, run_str hs he hd (hb w hI), Result.andThen_ok, Sem.run_pure]
theorem ru_streq {f h : List UInt8} (hu : P.underlying t = some .string) (ho : o.op = .binOp .eql t x y t') (hx : evM m x = some (.string ⟨f.toArray⟩)) (hy : evM m y = some (.string ⟨h.toArray⟩)) {b : Bool} (hv : decide (f = h) = b) : Ru P X o m l (.bool b) :=
  ru_binv ho hx hy (fun w => rfl) fun w _ => by
    subst hv
    simp [binOp, Op.stringOp]
    rw [Bool.eq_iff_iff]; simp

/-! 'append(nil, b...)' in a region that draws its order: one row made, whenever. -/
def CT (X : Cx) (l : List Res) (k : Nat) (t : World) (r : Res) : (Nat → Bool) → World → Prop := fun D w => if D k then Inv X w (l ++ [r]) else Inv X w l ∧ w.heap.size = t.heap.size ∧ w.tape = t.tape ∧ w.drawn = t.drawn
theorem CT.base {r : Res} {t : World} : ∀ D w, CT X l k t r D w → Inv X w l := fun D w h => by
  unfold CT at h
  split at h
  · refine ⟨⟨fun s hs => h.1.1 s (by simp [hs]), ?_⟩, h.2⟩
    have := h.1.2
    rw [List.pairwise_append] at this
    exact this.1
  · exact h.1
theorem SC.region_app {id : Nat} {L : List Oper} (n k : Nat) (r : World → Res) (hm : P.follows .mixedOrders = true) (hB : Region.lexTailB .any L.toArray n = true)
    (hg : ([k].all fun i => decide (i < n) && ((L[i]?).map (fun o => o.guard.isNone)).getD false) = true)
    (h : ∀ t : World, X.w0.heap.size ≤ t.heap.size → SS P X L.toArray [k] (CT X l k t (r t)) (fun a' => ∀ D w', (∀ i ∈ [k], D i = true) → CT X l k t (r t) D w' → wpList P L.toArray Q (L.drop n) a' w') 0 (L.take n) m) : SC P X (.region id L.toArray true) Q m l :=
  fun a w hf hi => wp_region_spread_tail n [k] (CT X l k { w with drawn := w.drawn + 1 } (r { w with drawn := w.drawn + 1 })) hm hB hg (by unfold CT; exact ⟨hi.draw1, rfl, rfl, rfl⟩) (h { w with drawn := w.drawn + 1 } hi.2.size a hf)
theorem SS.nilT {r : Res} {t : World} {k : Nat} {L : List Oper} {j : Nat} (h : SL P X ops Q L m (l ++ [r])) : SS P X ops sp C (fun a' => ∀ D w', (∀ i ∈ [k], D i = true) → CT X l k t r D w' → wpList P ops Q L a' w') j [] m := fun a hf => by
  unfold wpSpread
  intro D w' hD hC
  unfold CT at hC
  rw [if_pos (hD k (by simp))] at hC
  exact h a w' hf hC
theorem run_app0 {w : World} {e ty : TypeId} {vx : Value} {f : List UInt8} (ht : P.underlying t = some (.slice e)) (hz : (P.info? e).map (fun i => (i.zero, i.size, i.bytes)) = some (some (.int .u8 0), 1, 1)) (hb : BytesAt w vx f) :
    ∃ w', (Builtin.append_ #[t, t] ty #[.slice none 0 0, vx]).run P w = .ok (appV w e f.length) w' ∧ OwnBytes w' 0 e (appV w e f.length) f ∧ Only (fun _ => False) w w' := by
  obtain ⟨i, hi, h3⟩ := map_some hz
  simp only [Prod.mk.injEq] at h3
  obtain ⟨z0, z1, z2⟩ := h3
  have hlen := hb.len
  by_cases h0 : f.length = 0
  · have : f = [] := List.eq_nil_of_length_eq_zero h0
    subst this
    obtain ⟨a, c, rfl⟩ := hb.form
    refine ⟨w, ?_, ownb_nil w e, Only.refl _ _⟩
    cases a <;> simp [Builtin.append_, run_underlying ht, sizeOf, typeInfo, hi, Builtin.lenOf, Builtin.firstCells, loadCells, loadCellsFrom, appV, appA, appC]
  · rcases hb with ⟨a, c, rfl, _, rfl⟩ | ⟨b, so, cap, rfl, h1, h2, h4⟩
    · exact absurd rfl h0
    · have hr := run_append_nil (P := P) w t ty e i (.int .u8 0) ht hi z0 ⟨b, so, none⟩ f.length cap (f.map bv) (by simp [z1]) (fun j u hj => by
          have hjl : j < f.length := by have := (List.getElem?_eq_some_iff.1 hj).1; simpa using this
          rw [add_at, h4 j hjl]
          simp only [List.getElem?_map, List.getElem?_eq_getElem hjl, Option.map_some] at hj
          exact hj) (by omega) (by omega) (by rw [z2]; omega)
      have hv : appV w e f.length = sl w.heap.size 0 f.length (grownCap w f.length 0 e) := by unfold appV appA appC; rw [if_neg h0, if_neg h0]
      rw [hv]
      refine ⟨_, hr, ⟨by simp, .inr ⟨w.heap.size, _, _, rfl, Nat.zero_le _, heap_alloc_new w.drew _, grownCap_ge _ _ _ _, grownCap_le_maxLen _ _ _ _ (by unfold maxLen; omega), ?_, ?_⟩⟩, ⟨rfl, rfl, rfl, by simp, fun k hk _ => heap_alloc_old w.drew _ hk⟩⟩
      · have := grownCap_ge w f.length 0 e
        simp only [Array.size_append, List.size_toArray, size_zeroCells, List.length_map]
        simp [Value.cells]; omega
      · simp
theorem run_call_app {w : World} {a : Act} {z : Operand} (ho : o.op = .call { callee := .builtin .append, args := #[z, x], argTypes := #[t, t] }) {vz vx v : Value} {w' : World} (hz : a.eval z = vz) (hx : a.eval x = vx)
    (h : (Builtin.append_ #[t, t] o.type #[vz, vx]).run P w = .ok v w') : (execOp a.eval o).run P w = .ok (.value v) w' := by
  unfold execOp; rw [ho]
  have he : #[z, x].map a.eval = #[vz, vx] := by simp [hz, hx]
  simp only [resolve, he, Sem.run_bind, Sem.run_pure, Result.andThen_ok, invoke, builtin, h]
theorem SS.append0 {t0 : World} {e : TypeId} {z : Operand} {vx : Value} {f : List UInt8} (hg : o.guard = none) (hd : o.dst = some d) (hn : d < X.n) (ho : o.op = .call { callee := .builtin .append, args := #[z, x], argTypes := #[t, t] })
    (ht : P.underlying t = some (.slice e)) (hz : (P.info? e).map (fun i => (i.zero, i.size, i.bytes)) = some (some (.int .u8 0), 1, 1)) (h0 : evM m z = some (.slice none 0 0)) (hx : evM m x = some vx) (hb : ∀ w, Inv X w l → BytesAt w vx f)
    (h : SS P X ops [k] (CT X l k t0 (rMine (appV t0 e f.length) f e)) K (k + 1) rest ((d, appV t0 e f.length) :: m)) : SS P X ops [k] (CT X l k t0 (rMine (appV t0 e f.length) f e)) K k (o :: rest) m := fun a hf => by
  unfold wpSpread
  rw [if_pos (by simp [Region.wanted, hg])]
  refine ⟨appV t0 e f.length, fun D w hD hf' => ?_, ?_⟩
  · have hk := hf' (by simp)
    unfold CT at hD
    rw [if_neg (by simp [hk])] at hD
    obtain ⟨hI, hs, htp, hdr⟩ := hD
    obtain ⟨w', hr, hO, hU⟩ := run_app0 (P := P) (ty := o.type) ht hz (hb w hI)
    have ev : appV w e f.length = appV t0 e f.length := by unfold appV appA appC grownCap; rw [hs, htp, hdr]
    rw [ev] at hr hO
    rw [run_call_app ho (hf.ev h0) (hf.ev hx) hr]
    refine ⟨rfl, ?_⟩
    unfold doneSet CT
    rw [if_pos (by simp)]
    refine hI.add hU hO (fun b hb => ?_)
    have := appV_own (show (appV t0 e f.length).ownBlock = some b from hb)
    omega
  · rw [hd]; exact h _ (hf.put hn _)
/-- .. and in a region that goes in order. -/
theorem SL.append0 {e : TypeId} {z : Operand} {vx : Value} {f : List UInt8} (hg : o.guard = none) (hd : o.dst = some d) (hn : d < X.n) (ho : o.op = .call { callee := .builtin .append, args := #[z, x], argTypes := #[t, t] })
    (ht : P.underlying t = some (.slice e)) (hz : (P.info? e).map (fun i => (i.zero, i.size, i.bytes)) = some (some (.int .u8 0), 1, 1)) (h0 : evM m z = some (.slice none 0 0)) (hx : evM m x = some vx) (hb : ∀ w, Inv X w l → BytesAt w vx f)
    (h : ∀ (q : Option Addr) (c : Nat), (∀ b, (Value.slice q f.length c).ownBlock = some b → X.w0.heap.size ≤ b) → SL P X ops Q rest ((d, .slice q f.length c) :: m) (l ++ [rMine (.slice q f.length c) f e])) : SL P X ops Q (o :: rest) m l := fun a w hf hI =>
  wpList_plain hg fun K' hK => by
    obtain ⟨w', hr, hO, hU⟩ := run_app0 (P := P) (ty := o.type) ht hz (hb w hI)
    unfold Oper.wp
    rw [run_call_app ho (hf.ev h0) (hf.ev hx) hr]
    simp only [Oper.upon_value, hd]
    have hown : ∀ b, (appV w e f.length).ownBlock = some b → w.heap.size ≤ b := fun b hb => Nat.le_of_eq (appV_own hb).symm
    exact hK _ _ (h _ _ (fun b hb => Nat.le_trans hI.2.size (hown b hb)) _ _ (hf.put hn _) (hI.add hU hO hown))
/-- 'append(b, ..)' onto bytes of one's own, where but the length is asked for. -/
theorem SL.append1 {e : TypeId} {z : Operand} {vx : Value} {f h : List UInt8} {tl : List Value} {i g n cap : Nat} (hfn : f.length = n) (hg : o.guard = none) (hd : o.dst = some d) (hn : d < X.n) (ho : o.op = .call { callee := .builtin .append, args := #[z, x], argTypes := #[t, t] })
    (ht : P.underlying t = some (.slice e)) (hz : (P.info? e).map (fun i => (i.zero, i.size, i.bytes)) = some (some (.int .u8 0), 1, 1)) (h0 : evM m z = some (sl g 0 n cap)) (hx : evM m x = some vx) (hi : l[i]? = some (rBlk g (f.map bv ++ tl) e)) (hc1 : f.length + tl.length = cap) (hc2 : cap ≤ maxLen) (hb : ∀ w, Inv X w l → BytesAt w vx h)
    (hl : f.length + h.length ≤ 140737488355328) (hS : X.S g ∨ X.w0.heap.size ≤ g)
    (k : ∀ (q : Option Addr) (c : Nat), SL P X ops Q rest ((d, .slice q (n + h.length) c) :: m) (l.set i (rAny g))) : SL P X ops Q (o :: rest) m l := fun a w hf hI => by
  subst hfn
  have hB : Blk w g (f.map bv ++ tl) e := hI.1.get hi
  obtain ⟨j, hj, h3⟩ := map_some hz
  simp only [Prod.mk.injEq] at h3
  obtain ⟨z0, z1, z2⟩ := h3
  have hown := OwnBytes.of_blk hB hc2 hc1
  have done : ∀ v' w', w'.ownsRow 0 e 1 v' (f.length + h.length) ((f.map bv) ++ (h.map bv)) → w.grownBy w' (some g) → wpList P ops Q rest (a.put o.dst v') w' := by
    intro v' w' h1 h2
    rw [hd]
    have hO := grown_only h2 (fun k => k = g) (fun k e => by cases e; rfl)
    have hI' : Inv X w' (l.set i (rAny g)) := hI.upd hi hO (fun b' hb' => by cases hb'; exact hS) (Nat.lt_of_lt_of_le hB.lt h2.size) (fun b' hb' => .inl hb')
    rcases h1.2 with ⟨hv, hn0⟩ | ⟨g', cap', cur, hv, _⟩
    · subst hv
      have := k none 0
      rw [hn0] at this
      exact this _ _ (hf.put hn _) hI'
    · subst hv
      exact k _ _ _ _ (hf.put hn _) hI'
  have hbx := hb w hI
  rcases hbx with ⟨b, c, rfl, hbn, rfl⟩ | ⟨b, so, cp, rfl, k1, k2, k3⟩
  · cases b with
    | none =>
      have hc := hbn rfl
      subst hc
      exact wpList_append_own_none hg z x t ho 0 e j 1 ht hj _ _ _ (hf.ev h0) hown (hf.ev hx) (done _ w (by have := hown; unfold OwnBytes at this; simpa using this) ⟨rfl, rfl, rfl, Nat.le_refl _, fun _ _ _ => rfl⟩)
    | some b =>
      refine wpList_append_own w hg z x t ho 0 e j (.int .u8 0) 1 1 ht hj z0 z1 z2 rfl (by decide) _ _ _ (hf.ev h0) hown b 0 c [] (hf.ev hx) rfl (by simp) (by simp) (by unfold maxLen; simp at hl ⊢; omega) (by simp at hl ⊢; omega) (Nat.zero_le _) ?_
      intro v' w' h1 h2 _
      exact done v' w' (by simpa using h1) h2
  · refine wpList_append_own w hg z x t ho 0 e j (.int .u8 0) 1 1 ht hj z0 z1 z2 rfl (by decide) _ _ _ (hf.ev h0) hown ⟨b, so, none⟩ h.length cp (h.map bv) (hf.ev hx) (by simp) ?_ ?_ (by unfold maxLen; omega) (by omega) (Nat.zero_le _) ?_
    · intro j u hj
      have hjl : j < h.length := by have := (List.getElem?_eq_some_iff.1 hj).1; simpa using this
      rw [add_at, k3 j hjl]
      simp only [List.getElem?_map, List.getElem?_eq_getElem hjl, Option.map_some] at hj
      exact hj
    · intro u hu
      obtain ⟨y, _, rfl⟩ := List.mem_map.1 hu
      rfl
    · intro v' w' h1 h2 _
      exact done v' w' h1 h2

/-- Bytes of one's own: none, or a block. -/
theorem SC.mine {cd : Code} {i c : Nat} {q : Option Addr} {f : List UInt8} {e : TypeId} (hi : l[i]? = some (rMine (.slice q f.length c) f e)) (h0 : q = none → f = [] → SC P X cd Q m l)
    (h1 : ∀ (g : Nat) (tl : List Value), q = some ⟨g, 0, none⟩ → f.length + tl.length = c → c ≤ maxLen → SC P X cd Q m (l.set i (rBlk g (f.map bv ++ tl) e))) : SC P X cd Q m l := fun a w hf hI => by
  rcases (show OwnBytes w 0 e (.slice q f.length c) f from hI.1.get hi).blk with ⟨k1, k2⟩ | ⟨g, cap, tl, k1, k2, k3, k4⟩
  · simp only [Value.slice.injEq] at k1
    exact h0 k1.1 k2 a w hf hI
  · simp only [Value.slice.injEq, true_and] at k1
    obtain ⟨rfl, rfl⟩ := k1
    exact h1 g tl rfl k2 k3 a w hf (hI.weak hi (fun _ => k4) (fun b hb => by cases hb; rfl))

/-! A loop, round by round. -/
def SR (P : Program) (X : Cx) (c : Code) (Q : Exit → Act → World → Prop) (n : Nat) (m : List (Nat × Value)) (l : List Res) : Prop := ∀ a w, Fr X.n a m → Inv X w l → Code.rounds P c Q n a w
theorem SC.rounds {c : Code} (n : Nat) (h : SR P X c Q n m l) : SC P X (.loop c) Q m l := fun a w hf hI => wp_loop_rounds n (h a w hf hI)
theorem SR.next {c : Code} {n : Nat} (h : SC P X c (Exit.then (Code.rounds P c Q n) Q) m l) : SR P X c Q (n + 1) m l := fun a w hf hI => h a w hf hI
theorem SR.norm {c : Code} {n : Nat} (m' : List (Nat × Value)) (l' : List Res) (hm : Subs m m') (hl : l = l') (h : SR P X c Q n m' l') : SR P X c Q n m l := fun a w hf hI => h a w (hf.sub hm) (hl ▸ hI)
theorem Inv.keep {w : World} (h : Inv X w l) (n : Nat) : Inv X w (l.take n) := ⟨⟨fun s hs => h.1.1 s (List.mem_of_mem_take hs), h.1.2.sublist (List.take_sublist _ _)⟩, h.2⟩
theorem SR.keep {c : Code} {n : Nat} (j : Nat) (h : SR P X c Q n m (l.take j)) : SR P X c Q n m l := fun a w hf hI => h a w hf (hI.keep j)
theorem SE.round {c : Code} {n : Nat} (h : SR P X c Q n m l) : SE X (Exit.then (Code.rounds P c Q n) Q) .normal m l := fun a w hf hI => h a w hf hI
end
end Go.Proofs.Ytloejpkefoagfaa
