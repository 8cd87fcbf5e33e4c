/-
  The document's pool in memory, and what its calls do: each call's answer, for every input.
-/
import Derived.Test.YthofjobcjkeomaaPoolArgs
import Derived.Test.YthofjobcjkeomaaSpread
import Derived.Deep.LoopGhost
import Derived.Deep.DeepCutAuto
namespace Go.Proofs.Ythofjobcjkeomaa
open Go.RowKit
set_option maxRecDepth 100000
set_option maxHeartbeats 1000000

theorem run_append_bytes {P : Program} {w : World} {t ty e : TypeId} (ht : P.underlying t = some (.slice e))
    (hz : (P.info? e).map (fun i => (i.zero, i.size, i.bytes)) = some (some (.int .u8 0), 1, 1))
    (base : Nat) (l d : List UInt8) {s x : Value} (hown : OwnBytes w base e s l) (hx : BytesAt w x d) (hl : l.length + d.length ≤ 140737488355328) (hbase : base ≤ w.heap.size) :
    ∃ v' w', (Builtin.append_ #[t, t] ty #[s, x]).run P w = .ok v' w' ∧ OwnBytes w' base e v' (l ++ d) ∧ Only (fun k => base ≤ k) w w' := by
  obtain ⟨i, hi, hz0, h1, h2⟩ : ∃ i, P.info? e = some i ∧ i.zero = some (.int .u8 0) ∧ i.size = 1 ∧ i.bytes = 1 := by
    cases hi : P.info? e with
    | none => rw [hi] at hz; simp at hz
    | some i => rw [hi] at hz; simp at hz; exact ⟨i, rfl, hz.1, hz.2.1, hz.2.2⟩
  have hrow : ∀ k, s.ownBlock = some k → base ≤ k := by
    intro k hk
    rcases hown.2 with ⟨hv, _⟩ | ⟨g, cap, cur, hv, hb, _⟩
    · rw [hv] at hk; simp [Value.ownBlock] at hk
    · rw [hv] at hk; simp [Value.ownBlock] at hk; omega
  rcases hx with ⟨b, c, rfl, hbn, rfl⟩ | ⟨b, so, cap, rfl, k1, k2, k3⟩
  · cases b with
    | none =>
      have hc := hbn rfl
      subst hc
      exact ⟨s, w, run_append_owned_none w base t ty e i 1 ht hi _ _ _ hown, by simpa using hown, Only.refl _ _⟩
    | some b =>
      obtain ⟨v', w', hr, ho, hg, _⟩ := run_append_own (P := P) (w := w) base t ty e i (.int .u8 0) 1 1 ht hi hz0 h1 h2 rfl (by decide) _ _ _ hown b 0 c [] rfl (by simp) (by simp) (by unfold maxLen; simp at hl ⊢; omega) (by simp at hl ⊢; omega) hbase
      exact ⟨v', w', hr, by simpa [OwnBytes] using ho, grown_only hg _ hrow⟩
  · obtain ⟨v', w', hr, ho, hg, _⟩ := run_append_own (P := P) (w := w) base t ty e i (.int .u8 0) 1 1 ht hi hz0 h1 h2 rfl (by decide) _ _ _ hown ⟨b, so, none⟩ d.length cap (d.map bv) (by simp) (by
      intro j u hj
      have hjl : j < d.length := by have := (List.getElem?_eq_some_iff.1 hj).1; simpa using this
      have hadd : (⟨b, so, none⟩ : Addr).add j = ⟨b, so + j, none⟩ := by unfold Addr.add; split <;> simp_all
      rw [hadd, k3 j hjl]
      simp only [List.getElem?_map, List.getElem?_eq_getElem hjl, Option.map_some] at hj
      exact hj) (by
      intro u hu
      obtain ⟨y, _, rfl⟩ := List.mem_map.1 hu
      rfl) (by unfold maxLen; omega) (by omega) hbase
    exact ⟨v', w', hr, by simpa [OwnBytes] using ho, grown_only hg _ hrow⟩

theorem exec_append {P : Program} {w w' : World} {o : Oper} {a : Act} {s x : Operand} {t : TypeId} {v : Value} (ho : o.op = .call { callee := .builtin .append, args := #[s, x], argTypes := #[t, t] })
    (hrun : (Builtin.append_ #[t, t] o.type #[a.eval s, a.eval x]).run P w = .ok v w') : (execOp a.eval o).run P w = .ok (.value v) w' := by
  simp [execOp, ho, resolve, invoke, builtin, hrun, Result.andThen]

theorem Only.undrew {w w1 : World} (h : Only (fun k => w.heap.size ≤ k) w.drew w1) (S : Nat → Prop) : Only S w w1 :=
  ⟨h.os, h.tape, h.output, h.size, fun b hb _ => h.block b hb (fun hk => absurd hb (Nat.not_lt.2 hk))⟩

theorem own_nil (w : World) (base : Nat) (T : TypeId) : OwnBytes w base T (.slice none 0 0) [] := ⟨rfl, .inl ⟨rfl, rfl⟩⟩

theorem OwnBytes.sliceIn {w : World} {base : Nat} {T : TypeId} {v : Value} {l : List UInt8} (h : OwnBytes w base T v l) : sliceIn v (fun b => base ≤ b) := by
  intro b o n c e _
  rcases h.2 with ⟨hv, _⟩ | ⟨g, cap, cur, hv, hb, _⟩
  · rw [hv] at e; simp at e
  · rw [hv] at e; simp at e; omega

/-- A buffer's three cells, from o on. -/
def RefBuf (w : World) (c : List Value) (o : Nat) (base : Nat → Prop) (b : Bf) : Prop :=
  c[o]? = some (.int .i64 (b.refs : Int)) ∧
  (∃ x n k, c[o + 1]? = some (.slice x n k) ∧ BytesAt w (.slice x n k) b.head ∧ sliceIn (.slice x n k) base) ∧
  (∃ x n k, c[o + 2]? = some (.slice x n k) ∧ BytesAt w (.slice x n k) b.data ∧ sliceIn (.slice x n k) base)

def RefAt (w : World) (r rb : Nat) (base : Nat → Prop) (L : List Bf) : Prop :=
  Blk w r [.slice (some ⟨rb, 0, none⟩) L.length L.length] 64 ∧ r ≠ rb ∧ ¬ base r ∧ ¬ base rb ∧ 1 ≤ L.length ∧ L.length ≤ 4096 ∧ (∀ b, w.heap.size ≤ b → base b) ∧
  ∃ c, Blk w rb c 36 ∧ c.length = L.length * 3 ∧ ∀ k b, L[k]? = some b → RefBuf w c (k * 3) base b

theorem RefBuf.only {w w' : World} {c : List Value} {o : Nat} {base : Nat → Prop} {b : Bf} (h : RefBuf w c o base b) {S : Nat → Prop} (k : Only S w w') (hs : ∀ x, base x → x < w.heap.size → ¬ S x) : RefBuf w' c o base b := by
  obtain ⟨h0, ⟨x, n, m, h1, h2, h3⟩, ⟨y, n', m', h4, h5, h6⟩⟩ := h
  refine ⟨h0, ⟨x, n, m, h1, h2.only k ?_, h3⟩, ⟨y, n', m', h4, h5.only k ?_, h6⟩⟩
  · intro b o n c e hn; exact hs b (h3 b o n c e hn) (h2.lt b o n c e hn)
  · intro b o n c e hn; exact hs b (h6 b o n c e hn) (h5.lt b o n c e hn)

theorem RefAt.only {w w' : World} {r rb : Nat} {base : Nat → Prop} {L : List Bf} (h : RefAt w r rb base L) {S : Nat → Prop} (k : Only S w w') (h1 : ¬ S r) (h2 : ¬ S rb) (hs : ∀ x, base x → x < w.heap.size → ¬ S x) : RefAt w' r rb base L := by
  obtain ⟨hr, e0, e1, e2, e3, e4, e5, c, hc, hl, hb⟩ := h
  exact ⟨k.blk hr h1, e0, e1, e2, e3, e4, fun b hb => e5 b (Nat.le_trans k.size hb), c, k.blk hc h2, hl, fun j b hj => (hb j b hj).only k hs⟩

theorem RefAt.alloc {w : World} {r rb : Nat} {base : Nat → Prop} {L : List Bf} (h : RefAt w r rb base L) (o : Obj) : RefAt (w.alloc o) r rb base L :=
  h.only ((Only.refl (fun _ => False) w).alloc o) id id (fun _ _ _ h => h)

theorem RefAt.cell0 {w : World} {r rb : Nat} {base : Nat → Prop} {L : List Bf} (h : RefAt w r rb base L) : w.cell? ⟨r, 0, none⟩ = some (.slice (some ⟨rb, 0, none⟩) L.length L.length) := by
  rw [h.1.cell]; rfl
theorem RefAt.cellr {w : World} {r rb : Nat} {base : Nat → Prop} {L : List Bf} (h : RefAt w r rb base L) {k : Nat} {b : Bf} (hk : L[k]? = some b) : w.cell? ⟨rb, k * 3, none⟩ = some (.int .i64 (b.refs : Int)) := by
  obtain ⟨hr, e0, e1, e2, e3, e4, e5, c, hc, hl, hb⟩ := h
  rw [hc.cell]; exact (hb k b hk).1

/-- One buffer's cells are turned. -/
theorem RefAt.turn {w w' : World} {r rb : Nat} {base : Nat → Prop} {L : List Bf} (h : RefAt w r rb base L) {k : Nat} {b1 : Bf} {c c' : List Value} (hc : Blk w rb c 36) (k1 : Only (fun x => x = rb) w w')
    (hc' : Blk w' rb c' 36) (hl : c'.length = c.length) (hout : ∀ o, (o < k * 3 ∨ k * 3 + 3 ≤ o) → c'[o]? = c[o]?) (hin : RefBuf w' c' (k * 3) base b1) : RefAt w' r rb base (L.set k b1) := by
  obtain ⟨hr, e0, e1, e2, e3, e4, e5, c0, hc0, hl0, hb⟩ := h
  have ec := hc.uniq hc0
  subst ec
  refine ⟨by simpa using k1.blk hr e0, e0, e1, e2, by simpa using e3, by simpa using e4, fun b hb => e5 b (Nat.le_trans k1.size hb), c', hc', by simp; omega, fun j b hj => ?_⟩
  by_cases e : k = j
  · subst e
    rw [List.getElem?_set] at hj
    simp at hj
    obtain ⟨_, rfl⟩ := hj
    exact hin
  · rw [List.getElem?_set_ne e] at hj
    have h2 := (hb j b hj).only k1 (fun x hx _ hs => e2 (by have e' : x = rb := hs; exact e' ▸ hx))
    obtain ⟨a0, ⟨x, n, m, a1, a2⟩, ⟨y, n', m', a4, a5⟩⟩ := h2
    refine ⟨?_, ⟨x, n, m, ?_, a2⟩, ⟨y, n', m', ?_, a5⟩⟩
    · rw [hout _ (by omega)]; exact a0
    · rw [hout _ (by omega)]; exact a1
    · rw [hout _ (by omega)]; exact a4

theorem rused_in {w : World} {r rb : Nat} {base : Nat → Prop} {L : List Bf} (h : RefAt w r rb base L) {k : Nat} {b : Bf} (hk : L[k]? = some b) (hr : 0 < b.refs) :
    Calls Try.prog 34 #[.pointer (some ⟨r, 0, none⟩), .int .i64 (k : Int)] w fun e w' => e = .returned (.bool true) ∧ w = w' := by
  have hp0 := h.cell0
  have hb0 := h.cellr hk
  have hkl : k < L.length := (List.getElem?_eq_some_iff.1 hk).1
  have hL := h.2.2.2.2.2.1
  clear h hk
  go_enter Try.func34, Try.ntmps34
  go_wp2
  go_ret
  exact ⟨rfl, rfl⟩

theorem rused_no {w : World} {r rb : Nat} {base : Nat → Prop} {L : List Bf} (h : RefAt w r rb base L) {id : Int} (hn : ¬ Used L id) :
    Calls Try.prog 34 #[.pointer (some ⟨r, 0, none⟩), .int .i64 id] w fun e w' => e = .returned (.bool false) ∧ w = w' := by
  have hp0 := h.cell0
  have hL := h.2.2.2.2.2.1
  rcases not_used hn with h0 | h1 | ⟨k, b, rfl, hkl, hk, hr⟩
  · clear h hn
    go_enter Try.func34, Try.ntmps34
    go_wp2
    go_ret
    exact ⟨rfl, rfl⟩
  · clear h hn
    have h0 : 0 ≤ id := by omega
    go_enter Try.func34, Try.ntmps34
    go_wp2
    go_ret
    exact ⟨rfl, rfl⟩
  · have hb0 := h.cellr hk
    rw [hr] at hb0
    clear h hn hk hr
    go_enter Try.func34, Try.ntmps34
    go_wp2
    go_ret
    exact ⟨rfl, rfl⟩

theorem rown_err {w : World} {r rb : Nat} {base : Nat → Prop} {L : List Bf} (h : RefAt w r rb base L) {id x : Int} (hn : OwnErr L id x) :
    Calls Try.prog 35 #[.pointer (some ⟨r, 0, none⟩), .int .i64 id] w fun e w' => e = .returned (.int .i64 x) ∧ w = w' := by
  rcases hn with ⟨hn, rfl⟩ | ⟨k, b, rfl, hk, hr, rfl⟩
  · go_enter Try.func35, Try.ntmps35
    go_wp2_with (go_at_call 34; refine (rused_no h hn).mono ?_; rintro e w' ⟨rfl, rfl⟩)
    go_ret
    exact ⟨rfl, rfl⟩
  · have hp0 := h.cell0
    have hb0 := h.cellr hk
    have hkl : k < L.length := (List.getElem?_eq_some_iff.1 hk).1
    have hU := rused_in h hk (by omega)
    have hr2 : (1 : Int) < (b.refs : Int) := by omega
    have hL := h.2.2.2.2.2.1
    clear h hk
    go_enter Try.func35, Try.ntmps35
    go_wp2_with (go_at_call 34; refine hU.mono ?_; rintro e w' ⟨rfl, rfl⟩)
    go_ret
    exact ⟨rfl, rfl⟩

theorem rown_in {w : World} {r rb : Nat} {base : Nat → Prop} {L : List Bf} (h : RefAt w r rb base L) {k : Nat} {b : Bf} (hk : L[k]? = some b) (hr : b.refs = 1) :
    Calls Try.prog 35 #[.pointer (some ⟨r, 0, none⟩), .int .i64 (k : Int)] w fun e w' => e = .returned (.int .i64 0) ∧ w = w' := by
  have hp0 := h.cell0
  have hb0 := h.cellr hk
  have hkl : k < L.length := (List.getElem?_eq_some_iff.1 hk).1
  have hU := rused_in h hk (by omega)
  have hL := h.2.2.2.2.2.1
  rw [hr] at hb0
  clear h hk hr
  go_enter Try.func35, Try.ntmps35
  go_wp2_with (go_at_call 34; refine hU.mono ?_; rintro e w' ⟨rfl, rfl⟩)
  go_ret
  exact ⟨rfl, rfl⟩

theorem rhold_no {w : World} {r rb : Nat} {base : Nat → Prop} {L : List Bf} (h : RefAt w r rb base L) {id : Int} (hn : ¬ Used L id) :
    Calls Try.prog 27 #[.pointer (some ⟨r, 0, none⟩), .int .i64 id] w fun e w' => e = .returned (.int .i64 7) ∧ w = w' := by
  go_enter Try.func27, Try.ntmps27
  go_wp2_with (go_at_call 34; refine (rused_no h hn).mono ?_; rintro e w' ⟨rfl, rfl⟩)
  go_ret
  exact ⟨rfl, rfl⟩

theorem rfree_no {w : World} {r rb : Nat} {base : Nat → Prop} {L : List Bf} (h : RefAt w r rb base L) {id : Int} (hn : ¬ Used L id) :
    Calls Try.prog 28 #[.pointer (some ⟨r, 0, none⟩), .int .i64 id] w fun e w' => e = .returned (.int .i64 7) ∧ w = w' := by
  go_enter Try.func28, Try.ntmps28
  go_wp2_with (go_at_call 34; refine (rused_no h hn).mono ?_; rintro e w' ⟨rfl, rfl⟩)
  go_ret
  exact ⟨rfl, rfl⟩

/-- The count's cell is turned. -/
theorem RefAt.count {w : World} {r rb : Nat} {base : Nat → Prop} {L : List Bf} (h : RefAt w r rb base L) {k : Nat} {b : Bf} (hk : L[k]? = some b) {x : Int} {n : Nat} (hx : x = (n : Int)) :
    RefAt (w.setCell ⟨rb, k * 3, none⟩ (.int .i64 x)) r rb base (L.set k { b with refs := n }) := by
  have h0 := h
  obtain ⟨hr, e0, e1, e2, e3, e4, e5, c, hc, hl, hb⟩ := h0
  have hkl : k < L.length := (List.getElem?_eq_some_iff.1 hk).1
  have ho := Only.st (Only.refl (fun x => x = rb) w) rfl (k * 3) (.int .i64 x)
  obtain ⟨a0, ⟨y, m, q, a1, a2, a3⟩, ⟨z, m', q', a4, a5, a6⟩⟩ := (hb k b hk).only ho (fun x hx _ hs => e2 (by have e' : x = rb := hs; exact e' ▸ hx))
  refine h.turn hc ho (hc.set _ _) (by simp) (fun o ho => set_ne_at (by omega)) ⟨?_, ⟨y, m, q, ?_, a2, a3⟩, ⟨z, m', q', ?_, a5, a6⟩⟩
  · rw [List.getElem?_set_self (by omega), hx]
  · rw [set_ne_at (by omega)]; exact a1
  · rw [set_ne_at (by omega)]; exact a4

theorem rhold_in {w : World} {r rb : Nat} {base : Nat → Prop} {L : List Bf} (h : RefAt w r rb base L) {k : Nat} {b : Bf} (hk : L[k]? = some b) (hr : 0 < b.refs) (hm : b.refs < 1000000000000000) :
    Calls Try.prog 27 #[.pointer (some ⟨r, 0, none⟩), .int .i64 (k : Int)] w fun e w' => e = .returned (.int .i64 0) ∧ RefAt w' r rb base (L.set k { b with refs := b.refs + 1 }) ∧ Only (fun x => x = rb) w w' := by
  have hp0 := h.cell0
  have hb0 := h.cellr hk
  have hkl : k < L.length := (List.getElem?_eq_some_iff.1 hk).1
  have hU := rused_in h hk hr
  have hL := h.2.2.2.2.2.1
  obtain ⟨c, hc, -⟩ := h.2.2.2.2.2.2.2
  have hz := fun o => hc.fz o
  have H := Lib.hid (And.intro h hk)
  clear h hk hc
  go_enter Try.func27, Try.ntmps27
  go_wp2_with (go_at_call 34; refine hU.mono ?_; rintro e w' ⟨rfl, rfl⟩)
  go_ret
  exact ⟨rfl, H.out.1.count H.out.2 (by simp), Only.st (Only.refl (fun x => x = rb) _) rfl _ _⟩

theorem rfree_in {w : World} {r rb : Nat} {base : Nat → Prop} {L : List Bf} (h : RefAt w r rb base L) {k : Nat} {b : Bf} (hk : L[k]? = some b) (hr : 0 < b.refs) (hm : b.refs < 1000000000000000) :
    Calls Try.prog 28 #[.pointer (some ⟨r, 0, none⟩), .int .i64 (k : Int)] w fun e w' => e = .returned (.int .i64 0) ∧ RefAt w' r rb base (L.set k { b with refs := b.refs - 1 }) ∧ Only (fun x => x = rb) w w' := by
  have hp0 := h.cell0
  have hb0 := h.cellr hk
  have hkl : k < L.length := (List.getElem?_eq_some_iff.1 hk).1
  have hU := rused_in h hk hr
  have hL := h.2.2.2.2.2.1
  obtain ⟨c, hc, -⟩ := h.2.2.2.2.2.2.2
  have hz := fun o => hc.fz o
  have H := Lib.hid (And.intro h hk)
  clear h hk hc
  go_enter Try.func28, Try.ntmps28
  go_wp2_with (go_at_call 34; refine hU.mono ?_; rintro e w' ⟨rfl, rfl⟩)
  go_ret
  exact ⟨rfl, H.out.1.count H.out.2 (by omega), Only.st (Only.refl (fun x => x = rb) _) rfl _ _⟩

/-- What a See comes to: the list's own slices. -/
def RSeePost (w : World) (base : Nat → Prop) (b : Bf) (e : Ending) (w' : World) : Prop :=
  ∃ x n k y n' k', e = .returned (.tuple #[.agg #[.int .i64 (b.refs : Int), .slice x n k, .slice y n' k'], .int .i64 0]) ∧ BytesAt w' (.slice x n k) b.head ∧ BytesAt w' (.slice y n' k') b.data ∧
    sliceIn (.slice x n k) (fun b => base b ∧ b < w.heap.size) ∧ sliceIn (.slice y n' k') (fun b => base b ∧ b < w.heap.size) ∧ Only (fun _ => False) w w'

theorem rsee_in {w : World} {r rb : Nat} {base : Nat → Prop} {L : List Bf} (h : RefAt w r rb base L) {k : Nat} {b : Bf} (hk : L[k]? = some b) (hr : 0 < b.refs) :
    Calls Try.prog 33 #[.pointer (some ⟨r, 0, none⟩), .int .i64 (k : Int)] w (RSeePost w base b) := by
  have hp0 := h.cell0
  have hkl : k < L.length := (List.getElem?_eq_some_iff.1 hk).1
  have hL := h.2.2.2.2.2.1
  have HU := Lib.hid (fun o => rused_in (h.alloc o) hk hr)
  obtain ⟨c, hc, hcl, hb⟩ := h.2.2.2.2.2.2.2
  obtain ⟨a0, ⟨x, n, q, a1, a2, a3⟩, ⟨y, n', q', a4, a5, a6⟩⟩ := hb k b hk
  have g0 : w.cell? ⟨rb, k * 3, none⟩ = some (.int .i64 (b.refs : Int)) := by rw [hc.cell]; exact a0
  have g1 : w.cell? ⟨rb, k * 3 + 1, none⟩ = some (.slice x n q) := by rw [hc.cell]; exact a1
  have g2 : w.cell? ⟨rb, k * 3 + 2, none⟩ = some (.slice y n' q') := by rw [hc.cell]; exact a4
  have hlr := h.1.lt
  have hlb := hc.lt
  have H := Lib.hid (And.intro a2 (And.intro a5 (And.intro a3 a6)))
  clear h hk hc hb a0 a1 a2 a3 a4 a5 a6 hcl
  go_enter Try.func33, Try.ntmps33
  go_wp2_with (go_at_call 34; refine (HU.out _).mono ?_; rintro e w' ⟨rfl, rfl⟩)
  obtain ⟨a2, a5, a3, a6⟩ := H.out
  exact bodyPost_ret (v := .tuple #[.agg #[.int .i64 (b.refs : Int), .slice x n q, .slice y n' q'], .int .i64 0]) (by simp [results, Try.results33, go_sem]) rfl
    ⟨x, n, q, y, n', q', rfl, a2.only ((Only.refl _ _).alloc _) (fun _ _ _ _ _ _ h => h), a5.only ((Only.refl _ _).alloc _) (fun _ _ _ _ _ _ h => h), fun b o n c e hn => ⟨a3 b o n c e hn, a2.lt b o n c e hn⟩, fun b o n c e hn => ⟨a6 b o n c e hn, a5.lt b o n c e hn⟩, (Only.refl _ _).alloc _⟩

theorem rsee_no {w : World} {r rb : Nat} {base : Nat → Prop} {L : List Bf} (h : RefAt w r rb base L) {id : Int} (hn : ¬ Used L id) :
    Calls Try.prog 33 #[.pointer (some ⟨r, 0, none⟩), .int .i64 id] w fun e w' => e = .returned (.tuple #[.agg #[.int .i64 0, .slice none 0 0, .slice none 0 0], .int .i64 7]) ∧ Only (fun _ => False) w w' := by
  have HU := Lib.hid (fun o => rused_no (h.alloc o) hn)
  clear h
  go_enter Try.func33, Try.ntmps33
  go_wp2_with (go_at_call 34; refine (HU.out _).mono ?_; rintro e w' ⟨rfl, rfl⟩)
  exact bodyPost_ret (v := .tuple #[.agg #[.int .i64 0, .slice none 0 0, .slice none 0 0], .int .i64 7]) (by simp [results, Try.results33, go_sem]) rfl ⟨rfl, Only.alloc (Only.refl _ _) _⟩

end Go.Proofs.Ythofjobcjkeomaa
