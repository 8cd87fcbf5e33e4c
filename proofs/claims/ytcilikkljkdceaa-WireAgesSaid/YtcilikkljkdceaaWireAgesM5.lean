/-
  What the proof of WireAges stands on, part 5: each theorem by itself, under the conditions that it names.
-/
import Derived.Test.YtcilikkljkdceaaWireAgesM4
import Derived.ProofKit
import Derived.OpenShut
import Derived.ShutString
import Derived.ChangeOld
import Derived.SizedLaws
import Derived.ChangeSlices
import Derived.Deep.Slices
import Derived.Deep.Fields
import Derived.ChangeSame
/-
  What eight ticks leave of a wire between two devices that are on: plain.
-/
namespace Go.Proofs.Ytcilikkljkdceaa
open Go.RowKit
theorem old_yes {now tick : Int} (h0 : 0 ≤ tick) (hn : now < 4000000000000000000) (h : tick + 8 ≤ now) : oldB now tick = true := by
  unfold oldB
  rw [IntKind.wrap_i64]
  exact decide_eq_true (by omega)
theorem on_off {A : NicA} (h : onA' A) : offB A = false := by unfold offB; rw [h.1, h.2]; rfl
theorem drain_all {now : Int} : ∀ (m : Nat) {A : NicA}, NicOk A → onA' A → (∀ j, oldB now (A.tp j) = true) → (A.r 5 - A.r 4) % 16 ≤ (m : Int) → (drainF now m A).r 4 = (drainF now m A).r 5
  | 0, A, hk, _, _, hm => by
    have h4 := hk.h4
    have h5 := hk.h5
    show A.r 4 = A.r 5
    omega
  | m + 1, A, hk, ho, hp, hm => by
    have h4 := hk.h4
    have h5 := hk.h5
    unfold drainF
    by_cases e : A.r 4 = A.r 5
    · have eo : oldF A = (0, false) := by unfold oldF; exact if_pos e
      rw [eo]
      exact e
    · have eo : oldF A = (A.tp (A.r 4).toNat, true) := by unfold oldF; exact if_neg e
      have et : takeR A = (((A.tb (A.r 4).toNat, A.tp (A.r 4).toNat), 0), takeF A) := by unfold takeR; rw [on_off ho, if_neg (by decide), if_neg e]
      have e4 : (takeF A).r 4 = nx (A.r 4) := by simp [takeF, up]
      have e5 : (takeF A).r 5 = A.r 5 := by simp [takeF, up]
      rw [eo, hp, et]
      simp only [Bool.and_self, if_true]
      rw [if_neg (by decide)]
      have hk2 : NicOk (takeF A) := take_ok hk
      have ho2 : onA' (takeF A) := by have := on_take ho; rw [et] at this; exact this
      refine drain_all m hk2 ho2 (fun j => hp j) ?_
      rw [e4, e5]
      unfold nx
      omega
structure AgB (nw : Int) (n k : Nat) (T : Wi) : Prop where
  wb : Wb (n + k) T
  now : T.now = nw + k
  on : onW T
  p0 : ∀ j, T.A0.tp j ≤ nw
  p1 : ∀ j, T.A1.tp j ≤ nw
  l0 : ∀ x ∈ T.L0, x.tick ≤ nw
  l1 : ∀ x ∈ T.L1, x.tick ≤ nw
theorem AgB.tick {now : Int} {n k : Nat} {T : Wi} (h : AgB now n k T) (hn : n + k < 3000000000000) : AgB now n (k + 1) (tickW T) :=
  ⟨(h.wb.tick (by omega)).1, by rw [(h.wb.tick (by omega)).2, h.now]; push_cast; omega, on_tick h.on,
    fun j => by rw [show (tickW T).A0.tp = T.A0.tp from drain_tp 16 _]; exact h.p0 j, fun j => by rw [show (tickW T).A1.tp = T.A1.tp from drain_tp 16 _]; exact h.p1 j,
    fun x hx => h.l0 x (List.mem_filter.1 hx).1, fun x hx => h.l1 x (List.mem_filter.1 hx).1⟩
theorem AgB.zero {n : Nat} {S : Wi} (h : Wb n S) (ho : onW S) : AgB S.now n 0 S :=
  ⟨h, by omega, ho, fun j => (h.d0.tp j).2, fun j => (h.d1.tp j).2, fun x hx => (h.l0.2 x hx).2.2, fun x hx => (h.l1.2 x hx).2.2⟩
structure Gone (T : Wi) : Prop where
  l0 : T.L0 = []
  l1 : T.L1 = []
  a0 : T.A0.r 4 = T.A0.r 5
  a1 : T.A1.r 4 = T.A1.r 5
  on : onW T
theorem AgB.gone {now : Int} {n : Nat} {T : Wi} (h : AgB now n 7 T) (hn : n < 2900000000000) : Gone (tickW T) := by
  have e := (h.wb.tick (by omega)).2
  have en : (tickW T).now = now + 8 := by rw [e, h.now]; omega
  have ei : inc T.now = now + 8 := en
  have hb := h.wb.now
  have hN : now + 8 < 4000000000000000000 := by have := h.now; omega
  have aged : ∀ {l : List Fm}, Lb (n + 7) T.now l → (∀ x ∈ l, x.tick ≤ now) → ageF (now + 8) l = [] := fun {l} hl hx => by
    refine List.filter_eq_nil_iff.2 fun x hm => ?_
    rw [old_yes (hl.2 x hm).2.1 hN (by have := hx x hm; omega)]
    decide
  have drained : ∀ {A : NicA}, Db T.now A → onA' A → (∀ j, A.tp j ≤ now) → (drainF (now + 8) 16 (tickF A)).r 4 = (drainF (now + 8) 16 (tickF A)).r 5 := fun {A} hd ho hp => by
    have hk : NicOk (tickF A) := tick_ok hd.ok
    have h4 := hk.h4
    have h5 := hk.h5
    exact drain_all 16 hk ho (fun j => old_yes (hd.tp j).1 hN (by have := hp j; show A.tp j + 8 ≤ _; omega)) (by omega)
  refine ⟨?_, ?_, ?_, ?_, on_tick h.on⟩
  · show ageF (inc T.now) T.L0 = []
    rw [ei]; exact aged h.wb.l0 h.l0
  · show ageF (inc T.now) T.L1 = []
    rw [ei]; exact aged h.wb.l1 h.l1
  · show (drainF (inc T.now) 16 (tickF T.A0)).r 4 = (drainF (inc T.now) 16 (tickF T.A0)).r 5
    rw [ei]; exact drained h.wb.d0 h.on.1 h.p0
  · show (drainF (inc T.now) 16 (tickF T.A1)).r 4 = (drainF (inc T.now) 16 (tickF T.A1)).r 5
    rw [ei]; exact drained h.wb.d1 h.on.2 h.p1
theorem take_none {A : NicA} (ho : onA' A) (e : A.r 4 = A.r 5) : takeR A = ((([], 0), 7), A) := by unfold takeR; rw [on_off ho, if_neg (by decide), if_pos e]
theorem Gone.pull0 {T : Wi} (h : Gone T) : pullD T 0 = (7, T) := by
  show pullF T false = _
  unfold pullF
  rw [show T.A false = T.A0 from rfl, take_none h.on.1 h.a0]
  rfl
theorem Gone.pull1 {T : Wi} (h : Gone T) : pullD T 1 = (7, T) := by
  show pullF T true = _
  unfold pullF
  rw [show T.A true = T.A1 from rfl, take_none h.on.2 h.a1]
  rfl
theorem Gone.old0 {T : Wi} (h : Gone T) : oldF T.A0 = (0, false) := by unfold oldF; exact if_pos h.a0
theorem Gone.old1 {T : Wi} (h : Gone T) : oldF T.A1 = (0, false) := by unfold oldF; exact if_pos h.a1
theorem Gone.len0 {T : Wi} (h : Gone T) : lenD T 0 = 0 := by show (T.L0.length : Int) = 0; rw [h.l0]; rfl
theorem Gone.len1 {T : Wi} (h : Gone T) : lenD T 1 = 0 := by show (T.L1.length : Int) = 0; rw [h.l1]; rfl
theorem gone8 {n : Nat} {S : Wi} (h : Wb n S) (ho : onW S) (hn : n < 2900000000000) : Gone (tickW (tickW (tickW (tickW (tickW (tickW (tickW (tickW S)))))))) :=
  AgB.gone (((((((AgB.zero h ho).tick (by omega)).tick (by omega)).tick (by omega)).tick (by omega)).tick (by omega)).tick (by omega) |>.tick (by omega)) hn
end Go.Proofs.Ytcilikkljkdceaa

/-
  From a row's reading of the arguments to what the walks ask of memory; no statement is named here.
-/
namespace Go.Proofs.Ytcilikkljkdceaa
open Go.ChangeShapes Go.WideShapes Go.ChangeAt Go.RowKit Go.Deep

def I64 (n : Int) : Prop := -9223372036854775808 ≤ n ∧ n ≤ 9223372036854775807
theorem sliceIn_nil {S : Nat → Prop} {n c : Nat} : sliceIn (.slice none n c) S := fun b o n c e _ => by simp at e

section
variable {H : Type} {enc : TypeId × Value → H} {P : Program} {w : World} {base : Nat} {spare : Nat → Bool} {held : Bool}

theorem open_slice_fields {t e : TypeId} {fs : Array Field} {fuel : Nat} {cs : List Value} {x : DataW H × List MemPlace} (ht : P.underlying t = some (.slice e)) (he : P.underlying e = some (.struct fs))
    (hone : oneCellFields P fs = true) (hC : P.cellsOf e = fs.size) (h : DataW.trod enc P w base spare held fuel t cs = some x) :
    (cs = [.slice none 0 0] ∧ x = (.nil, [])) ∨
    ∃ (a : Addr) (len cap m : Nat) (D : Nat → DataW H) (Pl : Nat → List MemPlace), cs = [.slice (some a) len cap] ∧ base ≤ a.block ∧ len ≤ cap ∧ cap ≤ maxLen ∧ m = (if spare a.block then cap else len) ∧
      x = (.slice ((List.range len).map D) ((List.range (m - len)).map fun j => D (len + j)), MemPlace.row a (m * fs.size) ++ (List.range m).flatMap Pl) ∧
      ∀ i, i < m → ∃ (ys : List (DataW H × List MemPlace)) (n : Nat), D i = .agg (ys.map (·.1)) ∧ Pl i = ys.flatMap (·.2) ∧ ys.length = fs.size ∧
        ∀ (j : Nat) (f : Field), fs[j]? = some f → ∃ (v : Value) (y : DataW H × List MemPlace), w.cell? (a.add (i * fs.size + j)) = some v ∧ ys[j]? = some y ∧ DataW.trod enc P w base spare held n f.type [v] = some y := by
  rcases open_slice ht h with h0 | ⟨a, len, cap, m, n, D, Pl, hcs, hb, hl, hm, hmm, hx, hi⟩
  · exact .inl h0
  · refine .inr ⟨a, len, cap, m, D, Pl, hcs, hb, hl, hm, hmm, by rw [hC] at hx; exact hx, fun i him => ?_⟩
    obtain ⟨cs', hc, ht'⟩ := hi i him
    rw [hC] at hc
    obtain ⟨ys, n', hn', hy, hlen, hyl, hf⟩ := DataW.trod_struct he ht'
    obtain ⟨_, hcl, hat⟩ := World.cells?_some hc
    simp only [Prod.mk.injEq] at hy
    refine ⟨ys, n', hy.1, hy.2, hyl, fun j f hj => ?_⟩
    obtain ⟨ho, hk⟩ := hone_of hone j f hj
    have hjl : j < fs.size := (Array.getElem?_eq_some_iff.1 hj).1
    have hcell := hat j hjl
    have hv : cs'[j]? = some (cs'[j]'(by omega)) := List.getElem?_eq_getElem (by omega)
    have h1 := hf j f hj
    rw [ho, hk] at h1
    have hone' : (cs'.drop j).take 1 = [cs'[j]'(by omega)] := by
      rw [List.drop_eq_getElem_cons (by omega)]
      rfl
    rw [hone'] at h1
    have hys : ys[j]? = some (ys[j]'(by omega)) := List.getElem?_eq_getElem (by omega)
    refine ⟨_, _, ?_, hys, h1.trans hys⟩
    rw [← Go.Deep.add_add, hcell, hv]

theorem plain_of_cell {a : Addr} {v : Value} (h : w.cell? (a.add 0) = some v) : a.spot = none := by
  cases hsp : a.spot with
  | none => rfl
  | some s =>
    unfold World.cell? Addr.add at h
    simp only [if_true, hsp, Option.isSome_some] at h
    split at h <;> simp at h
theorem plain_add {a : Addr} (hs : a.spot = none) (i : Nat) : a.add i = ⟨a.block, a.off + i, none⟩ := by
  cases a; simp only at hs; subst hs
  unfold Addr.add; split <;> simp_all

theorem wf_i64 {n : Int} (h : (Lit.int .i64 n).wf = true) : I64 n := by
  simp only [Lit.wf, Bool.and_eq_true, decide_eq_true_eq] at h
  unfold I64
  exact ⟨Int.le_trans (by decide) h.1, Int.le_trans h.2 (by decide)⟩
theorem wf_u8 {n : Int} (h : (Lit.int .u8 n).wf = true) : 0 ≤ n ∧ n < 256 := by
  simp only [Lit.wf, Bool.and_eq_true, decide_eq_true_eq] at h
  exact ⟨Int.le_trans (by decide) h.1, Int.lt_of_le_of_lt h.2 (by decide)⟩

theorem open_bytes {t e : TypeId} {fuel : Nat} {v : Value} {x : DataW H × List MemPlace} (ht : P.underlying t = some (.slice e)) (he : P.underlying e = some (.int .u8)) (hc : P.cellsOf e = 1) (hB : P.bytesOf e = 1)
    (h : DataW.trod enc P w base (fun _ => true) held fuel t [v] = some x) (hw : ∀ n ∈ x.1.weights P t, n ≤ reachBytes) :
    ∃ a n c l, v = .slice a n c ∧ BytesAt w (.slice a n c) l ∧ sliceIn (.slice a n c) (fun b => b < w.heap.size) := by
  rcases open_ints ht he hc h with ⟨hcs, _⟩ | ⟨a, len, cap, zs, hcs, _, hl, hm, hz, hx, hcell, hwf⟩
  · simp at hcs; subst hcs
    exact ⟨none, 0, 0, [], rfl, .nil _, sliceIn_nil⟩
  · simp at hcs; subst hcs
    simp only [if_true] at hz
    have hcap : cap ≤ 140737488351232 := by
      have := hw ((zs.take len).length * 1 + (zs.drop len).length * 1) (by
        rw [hx]
        simp only [DataW.weights, ht, hB, List.mem_cons]
        left
        simp [lits])
      simp only [reachBytes] at this
      have e1 : (zs.take len).length + (zs.drop len).length = zs.length := by rw [List.length_take, List.length_drop]; omega
      omega
    refine ⟨some a, len, cap, (zs.take len).map fun z => UInt8.ofNat z.toNat, rfl, ?_, ?_⟩
    · by_cases h0 : len = 0
      · subst h0
        exact .inl ⟨_, _, rfl, (fun h => by cases h), by simp⟩
      · have hs : a.spot = none := plain_of_cell (hcell 0 (by omega))
        have hll : ((zs.take len).map fun z => UInt8.ofNat z.toNat).length = len := by simp; omega
        refine .inr ⟨a.block, a.off, cap, ?_, by omega, by omega, fun j hj => ?_⟩
        · rw [hll]; cases a; simp only at hs; subst hs; rfl
        · rw [hll] at hj
          have hcj := hcell j (by omega)
          rw [plain_add hs] at hcj
          rw [hcj]
          have hzj : zs.getD j 0 = zs[j] := by simp [List.getElem?_eq_getElem (show j < zs.length by omega)]
          have hr := wf_u8 (hwf zs[j] (List.getElem_mem _))
          have e2 : ((UInt8.ofNat zs[j].toNat).toNat : Int) = zs[j] := by
            rw [UInt8.toNat_ofNat']; omega
          simp only [List.getElem_map, List.getElem_take, hzj, bv, e2]
    · intro b o n c e hn
      simp at e
      obtain ⟨rfl, rfl, rfl⟩ := e
      have := block_lt_of_cell (hcell 0 (by omega))
      exact this

theorem weights_agg {fs : Array Field} {t : TypeId} (hu : P.underlying t = some (.struct fs)) {ys : List (DataW H × List MemPlace)} (hl : ys.length = fs.size) {B : Nat} (hw : ∀ n ∈ (DataW.agg (ys.map (·.1))).weights P t, n ≤ B)
    {j : Nat} {f : Field} {y : DataW H × List MemPlace} (hf : fs[j]? = some f) (hy : ys[j]? = some y) : ∀ n ∈ y.1.weights P f.type, n ≤ B := by
  intro n hn
  refine hw n ?_
  simp only [DataW.weights, hu]
  exact DataW.weights_mem_each (j := j) (t := f.type) (d := y.1) (by simp [hf]) (by simp [hy]) n hn

theorem weights_all {t : TypeId} {l : List (DataW H)} {n : Nat} {d : DataW H} (hd : d ∈ l) (hn : n ∈ d.weights P t) : n ∈ DataW.weightsAll P t l := by
  induction l with
  | nil => cases hd
  | cons x l ih =>
    simp only [DataW.weightsAll, List.mem_append]
    rcases List.mem_cons.1 hd with rfl | h
    · exact .inl hn
    · exact .inr (ih h)
end
end Go.Proofs.Ytcilikkljkdceaa

/-
  The calls that lie in an argument of the laws of the wire.
-/
namespace Go.Proofs.Ytcilikkljkdceaa
open Go.RowKit
structure OpW where
  k : Int
  dir : Int
  kk : Int
  to : Int
  ov : Value
  f : List UInt8
def OpWAt (w : World) (b o : Nat) (r : OpW) : Prop := (∀ j u, [iw r.k, iw r.dir, iw r.kk, iw r.to, r.ov][j]? = some u → w.cell? ⟨b, o + j, none⟩ = some u) ∧ BytesAt w r.ov r.f ∧ sliceIn r.ov (fun b => b < w.heap.size) ∧ I64 r.to
def OpsW (w : World) (v : Value) (l : List OpW) : Prop := ∃ a c, v = .slice a l.length c ∧ l.length * 56 ≤ 140737488351232 ∧ ∀ i (hi : i < l.length), ∃ b o, a = some ⟨b, o, none⟩ ∧ OpWAt w b (o + i * 5) l[i]
end Go.Proofs.Ytcilikkljkdceaa

/-
  Loads of memory that was there at the start, and has not been turned.
-/
namespace Go.Proofs.Ytcilikkljkdceaa
open Go.RowKit
section
variable {X : Cx} {P : Program} {o : Oper} {m : List (Nat × Value)} {l : List Res}
theorem ru_loada_old {t : TypeId} {z : List Value} {x : Operand} {b o' : Nat} {vs : List Value} (hS : ∀ b, ¬ X.S b) (ht : TyAg P t z) (ho : o.op = .load t x) (hx : evM m x = some (.pointer (some ⟨b, o', none⟩))) (hv : vs.length = z.length)
    (hc : ∀ j u, vs[j]? = some u → X.w0.cell? ⟨b, o' + j, none⟩ = some u) : Ru P X o m l (.agg vs.toArray) := fun a w hf hI => by
  obtain ⟨⟨d, hd, hdb⟩, hsz, _⟩ := ht
  obtain ⟨inf, hinf, hz⟩ := map_some hsz
  simp only [Prod.mk.injEq] at hz
  have hcell : ∀ j (hj : j < vs.length), w.cell? ⟨b, o' + j, none⟩ = some vs[j] := fun j hj => by
    have h1 := hc j vs[j] (List.getElem?_eq_getElem hj)
    rw [← h1]
    exact hI.2.cell (a := ⟨b, o' + j, none⟩) (block_lt_of_cell h1) (hS b)
  unfold execOp; rw [ho]
  simp only [hf.ev hx, Instr.loadAt, Instr.sureAddr, Sem.run_bind, Sem.run_pure, Result.andThen_ok]
  have := run_loadVar_at (P := P) w b o' t vs d (fun j hj => by rw [hcell j hj, List.getElem?_eq_getElem hj]) hd (by cases d <;> simp_all [isAggD]) (by rw [hinf]; simp [hz.1, hv])
  rw [this]; rfl
end
end Go.Proofs.Ytcilikkljkdceaa

/-
  awake.
-/
namespace Go.Proofs.Ytcilikkljkdceaa
open Go.RowKit
set_option maxRecDepth 100000
set_option maxHeartbeats 4000000
theorem wb0 : Wb 0 wi0 := by
  have h : Db 0 onA := by
    refine Db.write ⟨newA_ok, rfl, fun i => ⟨Int.le_refl _, Int.le_refl _⟩⟩ (Int.le_refl _) 0 1
  exact ⟨⟨Int.le_refl _, Int.le_refl _⟩, h, h, ⟨Nat.le_refl _, by simp [wi0]⟩, ⟨Nat.le_refl _, by simp [wi0]⟩⟩
theorem seeD_len {n : Nat} {S : Wi} (h : Wb n S) (dir k : Int) : (seeD S dir k).1.f.length ≤ 140737488351232 := by
  have h1 : ∀ b, (seeW S b k).f.length ≤ 274 := fun b => by
    unfold seeW
    split
    · rename_i e; exact ((h.l b).get e).2.1
    · simp [fm0]
  unfold seeD dirF
  split
  · have := h1 false; simp only; omega
  · split
    · have := h1 true; simp only; omega
    · simp [fm0]
def aw0 : Wi := (postF wi0 false 0 [120]).1
def aw1 : Wi := (pullD aw0 0).2
def aw2 : Wi := (doubleD aw1 0 0).2
def aw3 : Wi := (damageD aw2 0 1 0).2
def aw4 : Wi := tickW aw3
def aw5 : Wi := tickW aw4
def aw6 : Wi := tickW aw5
def aw7 : Wi := tickW aw6
def aw8 : Wi := tickW aw7
def aw9 : Wi := tickW aw8
def aw10 : Wi := tickW aw9
def aw11 : Wi := tickW aw10
def aw12 : Wi := (pullD aw11 2).2
theorem awake_any (w : World) : Calls Try.prog 7 #[] w fun e w' => e = .returned (bo true) ∧ Only (fun _ => False) w w' := by
  refine calls_sc (l0 := []) (args := []) (fun _ => False) Try.func7 rfl 99 Try.ntmps7 (le_b rfl) ⟨⟨by simp, List.Pairwise.nil⟩, Only.refl _ _⟩ ?_
  show SC _ _ _ _ [] []
  refine SC.sr ?_
  refine SL.as ?_
  refine SL.nl ?_
  refine SC.sr ?_
  refine SL.call (ζ := Nat × Nat × Nat × Nat × Nat × Nat × Nat × (Nat → Prop) × (Nat → Prop)) (fun z => pt z.1 0) (fun z => RgL z.1 z.2.1 z.2.2.1 z.2.2.2.1 z.2.2.2.2.1 z.2.2.2.2.2.1 z.2.2.2.2.2.2.1 z.2.2.2.2.2.2.2.1 z.2.2.2.2.2.2.2.2 rg0) (fun z => w.heap.size ≤ z.1 ∧ (∀ b, z.2.2.2.2.2.2.2.1 b → w.heap.size ≤ b) ∧ ∀ b, z.2.2.2.2.2.2.2.2 b → w.heap.size ≤ b) rfl rfl co8 rfl rfl rfl (lt_b rfl) (fun w9 hI => (begun_any w9).mono fun e w2 ⟨g, wd, d0, d1, vd, e0, e1, G1, G2, h1, h2, h3, h4, h5, h6⟩ => ⟨(g, wd, d0, d1, vd, e0, e1, G1, G2), h1, ⟨h2, hI.2.trans' h6 (fun b hb => hb.elim)⟩, Nat.le_trans hI.2.size h3, fun b hb => Nat.le_trans hI.2.size (h4 b hb), fun b hb => Nat.le_trans hI.2.size (h5 b hb)⟩) ?_
  rintro ⟨g, wd, d0, d1, vd, e0, e1, G1, G2⟩ ⟨hgn, hn1, hn2⟩
  dsimp only at hgn hn1 hn2
  have hG1 : ∀ b, G1 b → False ∨ w.heap.size ≤ b := fun b hb => .inr (hn1 b hb)
  have hG2 : ∀ b, G2 b → False ∨ w.heap.size ≤ b := fun b hb => .inr (hn2 b hb)
  refine SL.as ?_
  refine SL.nl ?_
  refine SC.seq ?_
  refine SC.sr ?_
  refine SL.mv ?_
  refine SL.uu (ru_eqnil Try.underlying24 rfl rfl rfl rfl) ?_
  refine SL.nl ?_
  refine SC.no rfl ?_
  refine SC.skip ?_
  refine SC.of_SE ?_
  refine SC.sr ?_
  refine SL.mv ?_
  refine SL.buildSlice (size := 1) (vals := [(0, Value.int .u8 120)]) (z := [Value.int .u8 0]) (cs := [Value.int .u8 120]) rfl rfl (lt_b rfl) rfl Try.underlying28 (by kernel_rfl) rfl rfl (by kernel_rfl) fun b1 hb1 => ?_
  refine SL.mark (i := 3) rfl rfl (lt_b rfl) rfl Try.underlying28 Try.underlying5 rfl rfl (.inr hb1) ?_
  have hB4 := wb0.post false 0 [120]
  refine SL.call (ζ := (Nat → Prop) × (Nat → Prop)) (fun z => bo true) (fun z => [rG g d0 d1 wd e0 e1 vd ((postF wi0 false 0 [120]).2) 0 0 0 41, rWp wd d0 d1 z.1 aw0, rWq vd e0 e1 z.2 aw0, rFz b1 [Value.int .u8 120] 5]) (fun z => (∀ b, z.1 b → False ∨ w.heap.size ≤ b) ∧ ∀ b, z.2 b → False ∨ w.heap.size ≤ b) rfl rfl co25 rfl rfl rfl (lt_b rfl) (fun w5 hI => (post0_any (f := [120]) wb0 (by decide) (fz_bytesw (l := [120]) (hI.1.get (i := 3) rfl) (by decide)) (mine_in fun b hb => rg_apart (X := ⟨99, w, fun _ => False⟩) (g := g) (wd := wd) (d0 := d0) (d1 := d1) (vd := vd) (e0 := e0) (e1 := e1) (R := ⟨wi0, wi0, 0, 0, 0, 0⟩) (G1 := G1) (G2 := G2) (l := [rFz b1 [Value.int .u8 120] 5]) (r := rFz b1 [Value.int .u8 120] 5) hI (by simp) (by cases hb; rfl)) ((hI.keep 3).1)).mono fun e w2 ⟨h1, kz⟩ => by obtain ⟨I1, I2, k1, k2, k3⟩ := Inv.rgto (X := ⟨99, w, fun _ => False⟩) (g := g) (wd := wd) (d0 := d0) (d1 := d1) (vd := vd) (e0 := e0) (e1 := e1) (R := ⟨wi0, wi0, 0, 0, 0, 0⟩) (G1 := G1) (G2 := G2) (l := [rFz b1 [Value.int .u8 120] 5]) hI (fun b hb => hb.elim (fun e => by rw [e]; exact .inr hgn) (fun e => e.elim (hG1 b) (hG2 b))) kz; exact ⟨(I1, I2), h1, k1, k2, k3⟩) ?_
  rintro ⟨Gp2, Gq3⟩ ⟨hGp2, hGq3⟩
  refine SL.as ?_
  refine SL.nl ?_
  refine SC.sr ?_
  refine SL.mv ?_
  refine SL.nk ?_
  refine SL.fa 2 fd41_1 ?_
  refine SL.ld 0 ts35 ?_
  have hB6 := hB4.pullD 0
  refine SL.call (ζ := Nat → Prop) (fun Gw5 => iw ((pullD aw0 0).1)) (fun Gw5 => [rG g d0 d1 wd e0 e1 vd ((postF wi0 false 0 [120]).2) 0 0 0 41, rWp wd d0 d1 Gw5 aw1, rWq vd e0 e1 Gq3 aw0, rFz b1 [Value.int .u8 120] 5]) (fun Gw5 => ∀ b, Gw5 b → False ∨ w.heap.size ≤ b) rfl rfl co21 rfl rfl rfl (lt_b rfl) (fun w5 hI => (rw_pull hB4 (by omega) (hI.1.get (i := 1) rfl) 0).mono fun e w2 ⟨h1, kz⟩ => by obtain ⟨G9, k1, k2⟩ := hI.rto (i := 1) rfl hGp2 kz; exact ⟨G9, h1, k1, k2⟩) ?_
  intro Gw5 hGw5
  refine SL.as ?_
  refine SL.nl ?_
  refine SC.sr ?_
  refine SL.mv ?_
  refine SL.nk ?_
  refine SL.fa 2 fd41_1 ?_
  refine SL.ld 0 ts35 ?_
  have hB8 := hB6.doubleD 0 0
  refine SL.call (ζ := Nat → Prop) (fun Gw7 => iw ((doubleD aw1 0 0).1)) (fun Gw7 => [rG g d0 d1 wd e0 e1 vd ((postF wi0 false 0 [120]).2) 0 0 0 41, rWp wd d0 d1 Gw7 aw2, rWq vd e0 e1 Gq3 aw0, rFz b1 [Value.int .u8 120] 5]) (fun Gw7 => ∀ b, Gw7 b → False ∨ w.heap.size ≤ b) rfl rfl co14 rfl rfl rfl (lt_b rfl) (fun w5 hI => (rw_double hB6 (by omega) (hI.1.get (i := 1) rfl) 0 0).mono fun e w2 ⟨h1, kz⟩ => by obtain ⟨G9, k1, k2⟩ := hI.rto (i := 1) rfl hGw5 kz; exact ⟨G9, h1, k1, k2⟩) ?_
  intro Gw7 hGw7
  refine SL.as ?_
  refine SL.nl ?_
  refine SC.sr ?_
  refine SL.mv ?_
  refine SL.nk ?_
  refine SL.fa 2 fd41_1 ?_
  refine SL.ld 0 ts35 ?_
  have hB10 := hB8.damageD 0 1 0
  refine SL.call (ζ := Nat → Prop) (fun Gw9 => iw ((damageD aw2 0 1 0).1)) (fun Gw9 => [rG g d0 d1 wd e0 e1 vd ((postF wi0 false 0 [120]).2) 0 0 0 41, rWp wd d0 d1 Gw9 aw3, rWq vd e0 e1 Gq3 aw0, rFz b1 [Value.int .u8 120] 5]) (fun Gw9 => ∀ b, Gw9 b → False ∨ w.heap.size ≤ b) rfl rfl co23 rfl rfl rfl (lt_b rfl) (fun w5 hI => (rw_damage hB8 (by omega) (hI.1.get (i := 1) rfl) 0 1 0 (by decide) ).mono fun e w2 ⟨h1, kz⟩ => by obtain ⟨G9, k1, k2⟩ := hI.rto (i := 1) rfl hGw7 kz; exact ⟨G9, h1, k1, k2⟩) ?_
  intro Gw9 hGw9
  refine SL.as ?_
  refine SL.nl ?_
  refine SC.sr ?_
  refine SL.mv ?_
  refine SL.nk ?_
  refine SL.fa 2 fd41_1 ?_
  refine SL.ld 0 ts35 ?_
  refine SL.mk (Mk.take ⟨99, w, fun _ => False⟩ ((seeD aw3 0 1).1.f) (seeD aw3 0 1).1.bad (seeD aw3 0 1).1.tick (seeD aw3 0 1).2 5) (w_all rfl) rfl co13 rfl rfl rfl (lt_b rfl) (fun l' w hI => (rw_see hB10 (hI.1.get (i := 1) rfl) 0 1).mono fun e w2 ⟨q, c, h1, h2, h3, h4⟩ => ⟨_, h1, ⟨q, c, fun b hb => Nat.le_trans hI.2.size (h3 b hb), rfl⟩, hI.add (r := rMine (.slice q _ c) _ 5) h4 h2 h3⟩) ?_
  rintro _ ⟨q11, c12, hoq11, rfl⟩
  refine SL.mv ?_
  refine SL.uu (ru_extract rfl rfl rfl) ?_
  refine SL.uu (ru_extract rfl rfl rfl) ?_
  refine SL.alloca rfl rfl (lt_b rfl) ta46 rfl fun b13 hb13 => ?_
  refine SL.storea (i := 5) (vs := [Value.slice q11 (((seeD aw3 0 1).1.f).length) c12, bo ((seeD aw3 0 1).1.bad), iw ((seeD aw3 0 1).1.tick)]) (c' := [Value.slice q11 (((seeD aw3 0 1).1.f).length) c12, bo ((seeD aw3 0 1).1.bad), iw ((seeD aw3 0 1).1.tick)]) rfl rfl ta46 rfl rfl rfl rfl rfl rfl (le_b rfl) (.inr hb13) rfl ?_
  refine SL.as ?_
  refine SL.nr [rG g d0 d1 wd e0 e1 vd ((postF wi0 false 0 [120]).2) 0 0 0 41, rWp wd d0 d1 Gw9 aw3, rWq vd e0 e1 Gq3 aw0, rFz b1 [Value.int .u8 120] 5, rMine (.slice q11 ((seeD aw3 0 1).1.f).length c12) ((seeD aw3 0 1).1.f) 5, rBlk b13 [Value.slice q11 (((seeD aw3 0 1).1.f).length) c12, bo ((seeD aw3 0 1).1.bad), iw ((seeD aw3 0 1).1.tick)] 46] ?_
  refine SC.seq ?_
  refine SC.sr ?_
  refine SL.as ?_
  refine SL.nl ?_
  refine SC.block ?_
  refine SC.rounds 9 ?_
  refine SR.norm [(0, bo false), (1, pt g 0), (2, bo true), (3, iw ((pullD aw0 0).1)), (4, iw ((doubleD aw1 0 0).1)), (5, iw ((damageD aw2 0 1 0).1)), (6, pt b13 0), (7, iw ((seeD aw3 0 1).2)), (8, iw 0)] _ ⟨rfl, rfl, rfl, rfl, rfl, rfl, rfl, rfl, rfl, trivial⟩ rfl ?_
  refine SR.next ?_
  refine SC.seq ?_
  refine SC.sr ?_
  refine SL.mv ?_
  refine SL.uu (ru_lt (b := true) rfl rfl rfl rfl) ?_
  refine SL.nl ?_
  refine SC.yes rfl ?_
  refine SC.skip ?_
  refine SC.of_SE ?_
  refine SC.seq ?_
  refine SC.block ?_
  refine SC.region ?_
  refine SL.mv ?_
  refine SL.nk ?_
  refine SL.fa 2 fd41_1 ?_
  refine SL.ld 0 ts35 ?_
  have hB15 := (hB10.tick (by omega)).1
  refine SL.call (ζ := Nat → Prop) (fun Gw14 => Value.tuple #[]) (fun Gw14 => [rG g d0 d1 wd e0 e1 vd ((postF wi0 false 0 [120]).2) 0 0 0 41, rWp wd d0 d1 Gw14 aw4, rWq vd e0 e1 Gq3 aw0, rFz b1 [Value.int .u8 120] 5, rMine (.slice q11 ((seeD aw3 0 1).1.f).length c12) ((seeD aw3 0 1).1.f) 5, rBlk b13 [Value.slice q11 (((seeD aw3 0 1).1.f).length) c12, bo ((seeD aw3 0 1).1.bad), iw ((seeD aw3 0 1).1.tick)] 46]) (fun Gw14 => ∀ b, Gw14 b → False ∨ w.heap.size ≤ b) rfl rfl co18 rfl rfl rfl (lt_b rfl) (fun w5 hI => (rw_tick hB10 (by omega) (hI.1.get (i := 1) rfl)).mono fun e w2 ⟨h1, kz⟩ => by obtain ⟨G9, k1, k2⟩ := hI.rto (i := 1) rfl hGw9 kz; exact ⟨G9, h1, k1, k2⟩) ?_
  intro Gw14 hGw14
  refine SL.nil ?_
  refine SE.blkn ?_
  refine SC.of_SE ?_
  refine SC.region ?_
  refine SL.mv ?_
  refine SL.uu (ru_add (r := 1) rfl rfl rfl rfl) ?_
  refine SL.as ?_
  refine SL.nil ?_
  refine SE.round ?_
  refine SR.norm [(0, bo false), (1, pt g 0), (2, bo true), (3, iw ((pullD aw0 0).1)), (4, iw ((doubleD aw1 0 0).1)), (5, iw ((damageD aw2 0 1 0).1)), (6, pt b13 0), (7, iw ((seeD aw3 0 1).2)), (8, iw 1)] _ ⟨rfl, rfl, rfl, rfl, rfl, rfl, rfl, rfl, rfl, trivial⟩ rfl ?_
  refine SR.next ?_
  refine SC.seq ?_
  refine SC.sr ?_
  refine SL.mv ?_
  refine SL.uu (ru_lt (b := true) rfl rfl rfl rfl) ?_
  refine SL.nl ?_
  refine SC.yes rfl ?_
  refine SC.skip ?_
  refine SC.of_SE ?_
  refine SC.seq ?_
  refine SC.block ?_
  refine SC.region ?_
  refine SL.mv ?_
  refine SL.nk ?_
  refine SL.fa 2 fd41_1 ?_
  refine SL.ld 0 ts35 ?_
  have hB17 := (hB15.tick (by omega)).1
  refine SL.call (ζ := Nat → Prop) (fun Gw16 => Value.tuple #[]) (fun Gw16 => [rG g d0 d1 wd e0 e1 vd ((postF wi0 false 0 [120]).2) 0 0 0 41, rWp wd d0 d1 Gw16 aw5, rWq vd e0 e1 Gq3 aw0, rFz b1 [Value.int .u8 120] 5, rMine (.slice q11 ((seeD aw3 0 1).1.f).length c12) ((seeD aw3 0 1).1.f) 5, rBlk b13 [Value.slice q11 (((seeD aw3 0 1).1.f).length) c12, bo ((seeD aw3 0 1).1.bad), iw ((seeD aw3 0 1).1.tick)] 46]) (fun Gw16 => ∀ b, Gw16 b → False ∨ w.heap.size ≤ b) rfl rfl co18 rfl rfl rfl (lt_b rfl) (fun w5 hI => (rw_tick hB15 (by omega) (hI.1.get (i := 1) rfl)).mono fun e w2 ⟨h1, kz⟩ => by obtain ⟨G9, k1, k2⟩ := hI.rto (i := 1) rfl hGw14 kz; exact ⟨G9, h1, k1, k2⟩) ?_
  intro Gw16 hGw16
  refine SL.nil ?_
  refine SE.blkn ?_
  refine SC.of_SE ?_
  refine SC.region ?_
  refine SL.mv ?_
  refine SL.uu (ru_add (r := 2) rfl rfl rfl rfl) ?_
  refine SL.as ?_
  refine SL.nil ?_
  refine SE.round ?_
  refine SR.norm [(0, bo false), (1, pt g 0), (2, bo true), (3, iw ((pullD aw0 0).1)), (4, iw ((doubleD aw1 0 0).1)), (5, iw ((damageD aw2 0 1 0).1)), (6, pt b13 0), (7, iw ((seeD aw3 0 1).2)), (8, iw 2)] _ ⟨rfl, rfl, rfl, rfl, rfl, rfl, rfl, rfl, rfl, trivial⟩ rfl ?_
  refine SR.next ?_
  refine SC.seq ?_
  refine SC.sr ?_
  refine SL.mv ?_
  refine SL.uu (ru_lt (b := true) rfl rfl rfl rfl) ?_
  refine SL.nl ?_
  refine SC.yes rfl ?_
  refine SC.skip ?_
  refine SC.of_SE ?_
  refine SC.seq ?_
  refine SC.block ?_
  refine SC.region ?_
  refine SL.mv ?_
  refine SL.nk ?_
  refine SL.fa 2 fd41_1 ?_
  refine SL.ld 0 ts35 ?_
  have hB19 := (hB17.tick (by omega)).1
  refine SL.call (ζ := Nat → Prop) (fun Gw18 => Value.tuple #[]) (fun Gw18 => [rG g d0 d1 wd e0 e1 vd ((postF wi0 false 0 [120]).2) 0 0 0 41, rWp wd d0 d1 Gw18 aw6, rWq vd e0 e1 Gq3 aw0, rFz b1 [Value.int .u8 120] 5, rMine (.slice q11 ((seeD aw3 0 1).1.f).length c12) ((seeD aw3 0 1).1.f) 5, rBlk b13 [Value.slice q11 (((seeD aw3 0 1).1.f).length) c12, bo ((seeD aw3 0 1).1.bad), iw ((seeD aw3 0 1).1.tick)] 46]) (fun Gw18 => ∀ b, Gw18 b → False ∨ w.heap.size ≤ b) rfl rfl co18 rfl rfl rfl (lt_b rfl) (fun w5 hI => (rw_tick hB17 (by omega) (hI.1.get (i := 1) rfl)).mono fun e w2 ⟨h1, kz⟩ => by obtain ⟨G9, k1, k2⟩ := hI.rto (i := 1) rfl hGw16 kz; exact ⟨G9, h1, k1, k2⟩) ?_
  intro Gw18 hGw18
  refine SL.nil ?_
  refine SE.blkn ?_
  refine SC.of_SE ?_
  refine SC.region ?_
  refine SL.mv ?_
  refine SL.uu (ru_add (r := 3) rfl rfl rfl rfl) ?_
  refine SL.as ?_
  refine SL.nil ?_
  refine SE.round ?_
  refine SR.norm [(0, bo false), (1, pt g 0), (2, bo true), (3, iw ((pullD aw0 0).1)), (4, iw ((doubleD aw1 0 0).1)), (5, iw ((damageD aw2 0 1 0).1)), (6, pt b13 0), (7, iw ((seeD aw3 0 1).2)), (8, iw 3)] _ ⟨rfl, rfl, rfl, rfl, rfl, rfl, rfl, rfl, rfl, trivial⟩ rfl ?_
  refine SR.next ?_
  refine SC.seq ?_
  refine SC.sr ?_
  refine SL.mv ?_
  refine SL.uu (ru_lt (b := true) rfl rfl rfl rfl) ?_
  refine SL.nl ?_
  refine SC.yes rfl ?_
  refine SC.skip ?_
  refine SC.of_SE ?_
  refine SC.seq ?_
  refine SC.block ?_
  refine SC.region ?_
  refine SL.mv ?_
  refine SL.nk ?_
  refine SL.fa 2 fd41_1 ?_
  refine SL.ld 0 ts35 ?_
  have hB21 := (hB19.tick (by omega)).1
  refine SL.call (ζ := Nat → Prop) (fun Gw20 => Value.tuple #[]) (fun Gw20 => [rG g d0 d1 wd e0 e1 vd ((postF wi0 false 0 [120]).2) 0 0 0 41, rWp wd d0 d1 Gw20 aw7, rWq vd e0 e1 Gq3 aw0, rFz b1 [Value.int .u8 120] 5, rMine (.slice q11 ((seeD aw3 0 1).1.f).length c12) ((seeD aw3 0 1).1.f) 5, rBlk b13 [Value.slice q11 (((seeD aw3 0 1).1.f).length) c12, bo ((seeD aw3 0 1).1.bad), iw ((seeD aw3 0 1).1.tick)] 46]) (fun Gw20 => ∀ b, Gw20 b → False ∨ w.heap.size ≤ b) rfl rfl co18 rfl rfl rfl (lt_b rfl) (fun w5 hI => (rw_tick hB19 (by omega) (hI.1.get (i := 1) rfl)).mono fun e w2 ⟨h1, kz⟩ => by obtain ⟨G9, k1, k2⟩ := hI.rto (i := 1) rfl hGw18 kz; exact ⟨G9, h1, k1, k2⟩) ?_
  intro Gw20 hGw20
  refine SL.nil ?_
  refine SE.blkn ?_
  refine SC.of_SE ?_
  refine SC.region ?_
  refine SL.mv ?_
  refine SL.uu (ru_add (r := 4) rfl rfl rfl rfl) ?_
  refine SL.as ?_
  refine SL.nil ?_
  refine SE.round ?_
  refine SR.norm [(0, bo false), (1, pt g 0), (2, bo true), (3, iw ((pullD aw0 0).1)), (4, iw ((doubleD aw1 0 0).1)), (5, iw ((damageD aw2 0 1 0).1)), (6, pt b13 0), (7, iw ((seeD aw3 0 1).2)), (8, iw 4)] _ ⟨rfl, rfl, rfl, rfl, rfl, rfl, rfl, rfl, rfl, trivial⟩ rfl ?_
  refine SR.next ?_
  refine SC.seq ?_
  refine SC.sr ?_
  refine SL.mv ?_
  refine SL.uu (ru_lt (b := true) rfl rfl rfl rfl) ?_
  refine SL.nl ?_
  refine SC.yes rfl ?_
  refine SC.skip ?_
  refine SC.of_SE ?_
  refine SC.seq ?_
  refine SC.block ?_
  refine SC.region ?_
  refine SL.mv ?_
  refine SL.nk ?_
  refine SL.fa 2 fd41_1 ?_
  refine SL.ld 0 ts35 ?_
  have hB23 := (hB21.tick (by omega)).1
  refine SL.call (ζ := Nat → Prop) (fun Gw22 => Value.tuple #[]) (fun Gw22 => [rG g d0 d1 wd e0 e1 vd ((postF wi0 false 0 [120]).2) 0 0 0 41, rWp wd d0 d1 Gw22 aw8, rWq vd e0 e1 Gq3 aw0, rFz b1 [Value.int .u8 120] 5, rMine (.slice q11 ((seeD aw3 0 1).1.f).length c12) ((seeD aw3 0 1).1.f) 5, rBlk b13 [Value.slice q11 (((seeD aw3 0 1).1.f).length) c12, bo ((seeD aw3 0 1).1.bad), iw ((seeD aw3 0 1).1.tick)] 46]) (fun Gw22 => ∀ b, Gw22 b → False ∨ w.heap.size ≤ b) rfl rfl co18 rfl rfl rfl (lt_b rfl) (fun w5 hI => (rw_tick hB21 (by omega) (hI.1.get (i := 1) rfl)).mono fun e w2 ⟨h1, kz⟩ => by obtain ⟨G9, k1, k2⟩ := hI.rto (i := 1) rfl hGw20 kz; exact ⟨G9, h1, k1, k2⟩) ?_
  intro Gw22 hGw22
  refine SL.nil ?_
  refine SE.blkn ?_
  refine SC.of_SE ?_
  refine SC.norm [(0, bo false), (1, pt g 0), (2, bo true), (3, iw ((pullD aw0 0).1)), (4, iw ((doubleD aw1 0 0).1)), (5, iw ((damageD aw2 0 1 0).1)), (6, pt b13 0), (7, iw ((seeD aw3 0 1).2)), (8, iw 4)] _ ⟨rfl, rfl, rfl, rfl, rfl, rfl, rfl, rfl, rfl, trivial⟩ rfl ?_
  refine SC.region ?_
  refine SL.mv ?_
  refine SL.uu (ru_add (r := 5) rfl rfl rfl rfl) ?_
  refine SL.as ?_
  refine SL.nil ?_
  refine SE.round ?_
  refine SR.norm [(0, bo false), (1, pt g 0), (2, bo true), (3, iw ((pullD aw0 0).1)), (4, iw ((doubleD aw1 0 0).1)), (5, iw ((damageD aw2 0 1 0).1)), (6, pt b13 0), (7, iw ((seeD aw3 0 1).2)), (8, iw 5)] _ ⟨rfl, rfl, rfl, rfl, rfl, rfl, rfl, rfl, rfl, trivial⟩ rfl ?_
  refine SR.next ?_
  refine SC.seq ?_
  refine SC.sr ?_
  refine SL.mv ?_
  refine SL.uu (ru_lt (b := true) rfl rfl rfl rfl) ?_
  refine SL.nl ?_
  refine SC.yes rfl ?_
  refine SC.skip ?_
  refine SC.of_SE ?_
  refine SC.seq ?_
  refine SC.block ?_
  refine SC.region ?_
  refine SL.mv ?_
  refine SL.nk ?_
  refine SL.fa 2 fd41_1 ?_
  refine SL.ld 0 ts35 ?_
  have hB25 := (hB23.tick (by omega)).1
  refine SL.call (ζ := Nat → Prop) (fun Gw24 => Value.tuple #[]) (fun Gw24 => [rG g d0 d1 wd e0 e1 vd ((postF wi0 false 0 [120]).2) 0 0 0 41, rWp wd d0 d1 Gw24 aw9, rWq vd e0 e1 Gq3 aw0, rFz b1 [Value.int .u8 120] 5, rMine (.slice q11 ((seeD aw3 0 1).1.f).length c12) ((seeD aw3 0 1).1.f) 5, rBlk b13 [Value.slice q11 (((seeD aw3 0 1).1.f).length) c12, bo ((seeD aw3 0 1).1.bad), iw ((seeD aw3 0 1).1.tick)] 46]) (fun Gw24 => ∀ b, Gw24 b → False ∨ w.heap.size ≤ b) rfl rfl co18 rfl rfl rfl (lt_b rfl) (fun w5 hI => (rw_tick hB23 (by omega) (hI.1.get (i := 1) rfl)).mono fun e w2 ⟨h1, kz⟩ => by obtain ⟨G9, k1, k2⟩ := hI.rto (i := 1) rfl hGw22 kz; exact ⟨G9, h1, k1, k2⟩) ?_
  intro Gw24 hGw24
  refine SL.nil ?_
  refine SE.blkn ?_
  refine SC.of_SE ?_
  refine SC.region ?_
  refine SL.mv ?_
  refine SL.uu (ru_add (r := 6) rfl rfl rfl rfl) ?_
  refine SL.as ?_
  refine SL.nil ?_
  refine SE.round ?_
  refine SR.norm [(0, bo false), (1, pt g 0), (2, bo true), (3, iw ((pullD aw0 0).1)), (4, iw ((doubleD aw1 0 0).1)), (5, iw ((damageD aw2 0 1 0).1)), (6, pt b13 0), (7, iw ((seeD aw3 0 1).2)), (8, iw 6)] _ ⟨rfl, rfl, rfl, rfl, rfl, rfl, rfl, rfl, rfl, trivial⟩ rfl ?_
  refine SR.next ?_
  refine SC.seq ?_
  refine SC.sr ?_
  refine SL.mv ?_
  refine SL.uu (ru_lt (b := true) rfl rfl rfl rfl) ?_
  refine SL.nl ?_
  refine SC.yes rfl ?_
  refine SC.skip ?_
  refine SC.of_SE ?_
  refine SC.seq ?_
  refine SC.block ?_
  refine SC.region ?_
  refine SL.mv ?_
  refine SL.nk ?_
  refine SL.fa 2 fd41_1 ?_
  refine SL.ld 0 ts35 ?_
  have hB27 := (hB25.tick (by omega)).1
  refine SL.call (ζ := Nat → Prop) (fun Gw26 => Value.tuple #[]) (fun Gw26 => [rG g d0 d1 wd e0 e1 vd ((postF wi0 false 0 [120]).2) 0 0 0 41, rWp wd d0 d1 Gw26 aw10, rWq vd e0 e1 Gq3 aw0, rFz b1 [Value.int .u8 120] 5, rMine (.slice q11 ((seeD aw3 0 1).1.f).length c12) ((seeD aw3 0 1).1.f) 5, rBlk b13 [Value.slice q11 (((seeD aw3 0 1).1.f).length) c12, bo ((seeD aw3 0 1).1.bad), iw ((seeD aw3 0 1).1.tick)] 46]) (fun Gw26 => ∀ b, Gw26 b → False ∨ w.heap.size ≤ b) rfl rfl co18 rfl rfl rfl (lt_b rfl) (fun w5 hI => (rw_tick hB25 (by omega) (hI.1.get (i := 1) rfl)).mono fun e w2 ⟨h1, kz⟩ => by obtain ⟨G9, k1, k2⟩ := hI.rto (i := 1) rfl hGw24 kz; exact ⟨G9, h1, k1, k2⟩) ?_
  intro Gw26 hGw26
  refine SL.nil ?_
  refine SE.blkn ?_
  refine SC.of_SE ?_
  refine SC.nr [rG g d0 d1 wd e0 e1 vd ((postF wi0 false 0 [120]).2) 0 0 0 41, rWp wd d0 d1 Gw26 aw10, rWq vd e0 e1 Gq3 aw0, rFz b1 [Value.int .u8 120] 5, rMine (.slice q11 ((seeD aw3 0 1).1.f).length c12) ((seeD aw3 0 1).1.f) 5, rBlk b13 [Value.slice q11 (((seeD aw3 0 1).1.f).length) c12, bo ((seeD aw3 0 1).1.bad), iw ((seeD aw3 0 1).1.tick)] 46] ?_
  refine SC.region ?_
  refine SL.mv ?_
  refine SL.uu (ru_add (r := 7) rfl rfl rfl rfl) ?_
  refine SL.as ?_
  refine SL.nil ?_
  refine SE.round ?_
  refine SR.norm [(0, bo false), (1, pt g 0), (2, bo true), (3, iw ((pullD aw0 0).1)), (4, iw ((doubleD aw1 0 0).1)), (5, iw ((damageD aw2 0 1 0).1)), (6, pt b13 0), (7, iw ((seeD aw3 0 1).2)), (8, iw 7)] _ ⟨rfl, rfl, rfl, rfl, rfl, rfl, rfl, rfl, rfl, trivial⟩ rfl ?_
  refine SR.next ?_
  refine SC.seq ?_
  refine SC.sr ?_
  refine SL.mv ?_
  refine SL.uu (ru_lt (b := true) rfl rfl rfl rfl) ?_
  refine SL.nl ?_
  refine SC.yes rfl ?_
  refine SC.skip ?_
  refine SC.of_SE ?_
  refine SC.seq ?_
  refine SC.block ?_
  refine SC.region ?_
  refine SL.mv ?_
  refine SL.nk ?_
  refine SL.fa 2 fd41_1 ?_
  refine SL.ld 0 ts35 ?_
  have hB29 := (hB27.tick (by omega)).1
  refine SL.call (ζ := Nat → Prop) (fun Gw28 => Value.tuple #[]) (fun Gw28 => [rG g d0 d1 wd e0 e1 vd ((postF wi0 false 0 [120]).2) 0 0 0 41, rWp wd d0 d1 Gw28 aw11, rWq vd e0 e1 Gq3 aw0, rFz b1 [Value.int .u8 120] 5, rMine (.slice q11 ((seeD aw3 0 1).1.f).length c12) ((seeD aw3 0 1).1.f) 5, rBlk b13 [Value.slice q11 (((seeD aw3 0 1).1.f).length) c12, bo ((seeD aw3 0 1).1.bad), iw ((seeD aw3 0 1).1.tick)] 46]) (fun Gw28 => ∀ b, Gw28 b → False ∨ w.heap.size ≤ b) rfl rfl co18 rfl rfl rfl (lt_b rfl) (fun w5 hI => (rw_tick hB27 (by omega) (hI.1.get (i := 1) rfl)).mono fun e w2 ⟨h1, kz⟩ => by obtain ⟨G9, k1, k2⟩ := hI.rto (i := 1) rfl hGw26 kz; exact ⟨G9, h1, k1, k2⟩) ?_
  intro Gw28 hGw28
  refine SL.nil ?_
  refine SE.blkn ?_
  refine SC.of_SE ?_
  refine SC.region ?_
  refine SL.mv ?_
  refine SL.uu (ru_add (r := 8) rfl rfl rfl rfl) ?_
  refine SL.as ?_
  refine SL.nil ?_
  refine SE.round ?_
  refine SR.norm [(0, bo false), (1, pt g 0), (2, bo true), (3, iw ((pullD aw0 0).1)), (4, iw ((doubleD aw1 0 0).1)), (5, iw ((damageD aw2 0 1 0).1)), (6, pt b13 0), (7, iw ((seeD aw3 0 1).2)), (8, iw 8)] _ ⟨rfl, rfl, rfl, rfl, rfl, rfl, rfl, rfl, rfl, trivial⟩ rfl ?_
  refine SR.next ?_
  refine SC.seq ?_
  refine SC.sr ?_
  refine SL.mv ?_
  refine SL.uu (ru_lt (b := false) rfl rfl rfl rfl) ?_
  refine SL.nl ?_
  refine SC.no rfl ?_
  refine SC.exit ?_
  refine SE.passe ?_
  refine SE.passe ?_
  refine SE.blke ?_
  refine SC.of_SE ?_
  refine SC.sr ?_
  refine SL.mv ?_
  refine SL.mv ?_
  refine SL.gg (ru_move rfl rfl) ?_
  refine SL.gg (ru_eq (b := true) rfl rfl rfl (by decide +kernel)) ?_
  refine SL.pk (bo true) (bo false) ?_
  refine SL.mv ?_
  refine SL.gg (ru_move rfl rfl) ?_
  refine SL.gg (ru_eq (b := true) rfl rfl rfl (by decide +kernel)) ?_
  refine SL.pk (bo true) (bo false) ?_
  refine SL.mv ?_
  refine SL.gg (ru_move rfl rfl) ?_
  refine SL.gg (ru_eq (b := true) rfl rfl rfl (by decide +kernel)) ?_
  refine SL.pk (bo true) (bo false) ?_
  refine SL.mv ?_
  refine SL.gg (ru_move rfl rfl) ?_
  refine SL.gg (ru_eq (b := true) rfl rfl rfl (by decide +kernel)) ?_
  refine SL.pk (bo true) (bo false) ?_
  refine SL.mv ?_
  refine SL.gg (ru_fieldAddr (o2 := 0) fd46_0 rfl rfl rfl) ?_
  refine SL.gg (ru_load (i := 5) ts28 rfl rfl rfl rfl) ?_
  refine SL.gg (ru_str (f := ((seeD aw3 0 1).1.f)) Try.underlying28 Try.underlying5 Try.underlying9 rfl rfl (fun w hI => mine_bytesw hI (j := 4) rfl (seeD_len hB10 _ _))) ?_
  refine SL.gg (ru_streq (f := (seeD aw3 0 1).1.f) (h := [121]) (b := true) Try.underlying9 rfl rfl rfl (by decide +kernel)) ?_
  refine SL.pk (bo true) (bo false) ?_
  refine SL.mv ?_
  refine SL.gg (ru_fieldAddr (o2 := 1) fd46_1 rfl rfl rfl) ?_
  refine SL.gg (ru_load (i := 5) ts4 rfl rfl rfl rfl) ?_
  refine SL.pk (bo ((seeD aw3 0 1).1.bad)) (bo false) ?_
  refine SL.mv ?_
  refine SL.norm [(0, bo false), (1, pt g 0), (2, bo true), (3, iw ((pullD aw0 0).1)), (4, iw ((doubleD aw1 0 0).1)), (5, iw ((damageD aw2 0 1 0).1)), (6, pt b13 0), (7, iw ((seeD aw3 0 1).2)), (48, bo true), (49, bo true), (50, iw ((pullD aw0 0).1)), (51, bo true), (52, bo true), (53, bo true), (54, iw ((doubleD aw1 0 0).1)), (55, bo true), (56, bo true), (57, bo true), (58, iw ((damageD aw2 0 1 0).1)), (59, bo true), (60, bo true), (61, bo true), (62, iw ((seeD aw3 0 1).2)), (63, bo true), (64, bo true), (65, bo true), (66, pt b13 0), (67, Value.slice q11 (((seeD aw3 0 1).1.f).length) c12), (68, Value.string ⟨((seeD aw3 0 1).1.f).toArray⟩), (69, bo true), (70, bo true), (71, bo true), (72, pt b13 1), (73, bo true), (74, bo true), (75, bo true)] _ ⟨rfl, rfl, rfl, rfl, rfl, rfl, rfl, rfl, rfl, rfl, rfl, rfl, rfl, rfl, rfl, rfl, rfl, rfl, rfl, rfl, rfl, rfl, rfl, rfl, rfl, rfl, rfl, rfl, rfl, rfl, rfl, rfl, rfl, (congrArg (fun bx => some (Value.bool bx)) (show ((seeD aw3 0 1).1.bad) = true from (by decide +kernel))), (congrArg (fun bx => some (Value.bool bx)) (show ((seeD aw3 0 1).1.bad) = true from (by decide +kernel))), (congrArg (fun bx => some (Value.bool bx)) (show ((seeD aw3 0 1).1.bad) = true from (by decide +kernel))), trivial⟩ rfl ?_
  refine SL.gg (ru_move rfl rfl) ?_
  refine SL.gg (ru_nilCheck rfl rfl) ?_
  refine SL.gg (ru_fieldAddr (o2 := 2) fd41_1 rfl rfl rfl) ?_
  refine SL.gg (ru_load (i := 0) ts35 rfl rfl rfl rfl) ?_
  refine SL.callvg (iw (lenD aw11 0)) rfl rfl rfl rfl co20 rfl rfl rfl (lt_b rfl) (fun w hI => H_only hI (rw_len (hI.1.get (i := 1) rfl) 0)) ?_
  refine SL.gg (ru_eq (b := true) rfl rfl rfl (by decide +kernel)) ?_
  refine SL.pk (bo true) (bo false) ?_
  refine SL.mv ?_
  refine SL.gg (ru_move rfl rfl) ?_
  refine SL.gg (ru_nilCheck rfl rfl) ?_
  refine SL.gg (ru_fieldAddr (o2 := 2) fd41_1 rfl rfl rfl) ?_
  refine SL.gg (ru_load (i := 0) ts35 rfl rfl rfl rfl) ?_
  refine SL.callvg (iw aw11.now) rfl rfl rfl rfl co12 rfl rfl rfl (lt_b rfl) (fun w hI => H_only hI (rw_now (hI.1.get (i := 1) rfl))) ?_
  refine SL.gg (ru_eq (b := true) rfl rfl rfl (by decide +kernel)) ?_
  refine SL.pk (bo true) (bo false) ?_
  refine SL.mv ?_
  refine SL.gg (ru_move rfl rfl) ?_
  refine SL.gg (ru_nilCheck rfl rfl) ?_
  refine SL.gg (ru_fieldAddr (o2 := 2) fd41_1 rfl rfl rfl) ?_
  refine SL.gg (ru_load (i := 0) ts35 rfl rfl rfl rfl) ?_
  have hB31 := hB29.pullD 2
  refine SL.callg (ζ := Nat → Prop) (fun Gw30 => iw ((pullD aw11 2).1)) (fun Gw30 => [rG g d0 d1 wd e0 e1 vd ((postF wi0 false 0 [120]).2) 0 0 0 41, rWp wd d0 d1 Gw30 aw12, rWq vd e0 e1 Gq3 aw0, rFz b1 [Value.int .u8 120] 5, rMine (.slice q11 ((seeD aw3 0 1).1.f).length c12) ((seeD aw3 0 1).1.f) 5, rBlk b13 [Value.slice q11 (((seeD aw3 0 1).1.f).length) c12, bo ((seeD aw3 0 1).1.bad), iw ((seeD aw3 0 1).1.tick)] 46]) (fun Gw30 => ∀ b, Gw30 b → False ∨ w.heap.size ≤ b) rfl rfl rfl rfl co21 rfl rfl rfl (lt_b rfl) (fun w5 hI => (rw_pull hB29 (by omega) (hI.1.get (i := 1) rfl) 2).mono fun e w2 ⟨h1, kz⟩ => by obtain ⟨G9, k1, k2⟩ := hI.rto (i := 1) rfl hGw28 kz; exact ⟨G9, h1, k1, k2⟩) ?_
  intro Gw30 hGw30
  refine SL.gg (ru_eq (b := true) rfl rfl rfl (by decide +kernel)) ?_
  refine SL.pk (bo true) (bo false) ?_
  refine SL.as ?_
  refine SL.nl ?_
  refine SC.ret ?_
  refine SE.res (.inl rfl) (res1 Try.results7 rfl) fun w1 hI => ⟨rfl, hI.2⟩

end Go.Proofs.Ytcilikkljkdceaa

/-
  What the laws of the wire begin with.
-/
namespace Go.Proofs.Ytcilikkljkdceaa
open Go.RowKit
set_option maxRecDepth 100000
set_option maxHeartbeats 4000000
theorem rn0 : Rn 0 wi0 0 0 0 0 := ⟨wb0, zero16, zero16, zero16, zero16⟩
theorem on0 : onW wi0 := ⟨⟨rfl, rfl⟩, ⟨rfl, rfl⟩⟩

end Go.Proofs.Ytcilikkljkdceaa

/-
  WireAges, walked.
-/
namespace Go.Proofs.Ytcilikkljkdceaa
open Go.RowKit
set_option maxRecDepth 100000
set_option maxHeartbeats 4000000
theorem ages_walk (w : World) {v : Value} {l : List OpW} (ho : OpsW w v l) : Calls Try.prog 4 #[v] w fun e w' => e = .returned (bo true) ∧ Only (fun _ => False) w w' := by
  obtain ⟨oa, oc, rfl, hlen, hops⟩ := ho
  refine calls_sc (l0 := []) (args := [Value.slice oa l.length oc]) (fun _ => False) Try.func4 rfl 110 Try.ntmps4 (le_b rfl) ⟨⟨by simp, List.Pairwise.nil⟩, Only.refl _ _⟩ ?_
  show SC _ _ _ _ [(0, Value.slice oa l.length oc)] []
  refine SC.sr ?_
  refine SL.as ?_
  refine SL.nl ?_
  refine SC.sr ?_
  refine SL.callv (bo true) rfl rfl co7 rfl rfl rfl (lt_b rfl) (fun w hI => H_only hI (awake_any _)) ?_
  refine SL.as ?_
  refine SL.nl ?_
  refine SC.sr ?_
  refine SL.call (ζ := Nat × Nat × Nat × Nat × Nat × Nat × Nat × (Nat → Prop) × (Nat → Prop)) (fun z => pt z.1 0) (fun z => RgL z.1 z.2.1 z.2.2.1 z.2.2.2.1 z.2.2.2.2.1 z.2.2.2.2.2.1 z.2.2.2.2.2.2.1 z.2.2.2.2.2.2.2.1 z.2.2.2.2.2.2.2.2 rg0) (fun z => w.heap.size ≤ z.1 ∧ (∀ b, z.2.2.2.2.2.2.2.1 b → w.heap.size ≤ b) ∧ ∀ b, z.2.2.2.2.2.2.2.2 b → w.heap.size ≤ b) rfl rfl co8 rfl rfl rfl (lt_b rfl) (fun w9 hI => (begun_any w9).mono fun e w2 ⟨g, wd, d0, d1, vd, e0, e1, G1, G2, h1, h2, h3, h4, h5, h6⟩ => ⟨(g, wd, d0, d1, vd, e0, e1, G1, G2), h1, ⟨h2, hI.2.trans' h6 (fun b hb => hb.elim)⟩, Nat.le_trans hI.2.size h3, fun b hb => Nat.le_trans hI.2.size (h4 b hb), fun b hb => Nat.le_trans hI.2.size (h5 b hb)⟩) ?_
  rintro ⟨g, wd, d0, d1, vd, e0, e1, G1, G2⟩ ⟨hgn, hn1, hn2⟩
  dsimp only at hgn hn1 hn2
  have hG1 : ∀ b, G1 b → False ∨ w.heap.size ≤ b := fun b hb => .inr (hn1 b hb)
  have hG2 : ∀ b, G2 b → False ∨ w.heap.size ≤ b := fun b hb => .inr (hn2 b hb)
  refine SL.as ?_
  refine SL.nl ?_
  refine SC.seq ?_
  refine SC.sr ?_
  refine SL.mv ?_
  refine SL.uu (ru_not (c := false) rfl rfl rfl) ?_
  refine SL.mv ?_
  refine SL.gg (ru_move rfl rfl) ?_
  refine SL.gg (ru_eqnil Try.underlying24 rfl rfl rfl rfl) ?_
  refine SL.pk (bo true) (bo false) ?_
  refine SL.nl ?_
  refine SC.no rfl ?_
  refine SC.skip ?_
  refine SC.of_SE ?_
  refine SC.seq ?_
  refine SC.sr ?_
  refine SL.as ?_
  refine SL.nl ?_
  refine SC.block ?_
  clear hn1 hn2
  refine SC.loop (γ := Nat × Wi × Int × Int × Int × Int × (Nat → Prop) × (Nat → Prop)) (fun k z => [(0, Value.slice oa l.length oc), (2, bo false), (4, pt g 0), (5, iw (z.1 : Int))]) (fun k z => [rG g d0 d1 wd e0 e1 vd z.2.2.1 z.2.2.2.1 z.2.2.2.2.1 z.2.2.2.2.2.1 41, rWp wd d0 d1 z.2.2.2.2.2.2.1 z.2.1, rWq vd e0 e1 z.2.2.2.2.2.2.2 z.2.1]) (fun k z => k + z.1 = l.length ∧ Rn z.1 z.2.1 z.2.2.1 z.2.2.2.1 z.2.2.2.2.1 z.2.2.2.2.2.1 ∧ onW z.2.1 ∧ (∀ b, z.2.2.2.2.2.2.1 b → False ∨ w.heap.size ≤ b) ∧ ∀ b, z.2.2.2.2.2.2.2 b → False ∨ w.heap.size ≤ b) l.length (0, wi0, 0, 0, 0, 0, G1, G2) ⟨rfl, rn0, on0, hG1, hG2⟩ ⟨rfl, rfl, rfl, rfl, trivial⟩ rfl ?_
  clear hG1 hG2
  clear G1 G2
  rintro N ⟨i, S, t0, t1, f0, f1, G1, G2⟩ ⟨hn, hR, hon, hG1, hG2⟩
  dsimp only at hn hR hG1 hG2 hon
  rcases N with _ | N
  · skip
    refine SC.seq ?_
    refine SC.sr ?_
    refine SL.mv ?_
    refine SL.mv ?_
    refine SL.uu (ru_len Try.underlying22 rfl rfl) ?_
    refine SL.uu (ru_lt (b := (decide (((i : Int) : Int) < (l.length : Int)))) rfl rfl rfl rfl) ?_
    refine SL.nl ?_
    refine SC.no (show some (Value.bool (decide (((i : Int) : Int) < (l.length : Int)))) = some (Value.bool false) from congrArg (fun x => some (Value.bool x)) (decide_eq_false (by omega))) ?_
    refine SC.exit ?_
    refine SE.passe ?_
    refine SE.passe ?_
    refine SE.blke ?_
    refine SC.of_SE ?_
    refine SC.seq ?_
    refine SC.sr ?_
    refine SL.as ?_
    refine SL.nl ?_
    refine SC.block ?_
    refine SC.rounds 9 ?_
    refine SR.norm [(2, bo false), (4, pt g 0), (6, iw 0)] _ ⟨rfl, rfl, rfl, trivial⟩ rfl ?_
    refine SR.next ?_
    refine SC.seq ?_
    refine SC.sr ?_
    refine SL.mv ?_
    refine SL.uu (ru_lt (b := true) rfl rfl rfl rfl) ?_
    refine SL.nl ?_
    refine SC.yes rfl ?_
    refine SC.skip ?_
    refine SC.of_SE ?_
    refine SC.seq ?_
    refine SC.block ?_
    refine SC.region ?_
    refine SL.mv ?_
    refine SL.nk ?_
    refine SL.fa 2 fd41_1 ?_
    refine SL.ld 0 ts35 ?_
    have hB2 := (hR.wb.tick (by omega)).1
    refine SL.call (ζ := Nat → Prop) (fun Gw1 => Value.tuple #[]) (fun Gw1 => [rG g d0 d1 wd e0 e1 vd t0 t1 f0 f1 41, rWp wd d0 d1 Gw1 (tickW S), rWq vd e0 e1 G2 S]) (fun Gw1 => ∀ b, Gw1 b → False ∨ w.heap.size ≤ b) rfl rfl co18 rfl rfl rfl (lt_b rfl) (fun w5 hI => (rw_tick hR.wb (by omega) (hI.1.get (i := 1) rfl)).mono fun e w2 ⟨h1, kz⟩ => by obtain ⟨G9, k1, k2⟩ := hI.rto (i := 1) rfl hG1 kz; exact ⟨G9, h1, k1, k2⟩) ?_
    intro Gw1 hGw1
    refine SL.nil ?_
    refine SE.blkn ?_
    refine SC.of_SE ?_
    refine SC.region ?_
    refine SL.mv ?_
    refine SL.uu (ru_add (r := 1) rfl rfl rfl rfl) ?_
    refine SL.as ?_
    refine SL.nil ?_
    refine SE.round ?_
    refine SR.norm [(2, bo false), (4, pt g 0), (6, iw 1)] _ ⟨rfl, rfl, rfl, trivial⟩ rfl ?_
    refine SR.next ?_
    refine SC.seq ?_
    refine SC.sr ?_
    refine SL.mv ?_
    refine SL.uu (ru_lt (b := true) rfl rfl rfl rfl) ?_
    refine SL.nl ?_
    refine SC.yes rfl ?_
    refine SC.skip ?_
    refine SC.of_SE ?_
    refine SC.seq ?_
    refine SC.block ?_
    refine SC.region ?_
    refine SL.mv ?_
    refine SL.nk ?_
    refine SL.fa 2 fd41_1 ?_
    refine SL.ld 0 ts35 ?_
    have hB4 := (hB2.tick (by omega)).1
    refine SL.call (ζ := Nat → Prop) (fun Gw3 => Value.tuple #[]) (fun Gw3 => [rG g d0 d1 wd e0 e1 vd t0 t1 f0 f1 41, rWp wd d0 d1 Gw3 (tickW (tickW S)), rWq vd e0 e1 G2 S]) (fun Gw3 => ∀ b, Gw3 b → False ∨ w.heap.size ≤ b) rfl rfl co18 rfl rfl rfl (lt_b rfl) (fun w5 hI => (rw_tick hB2 (by omega) (hI.1.get (i := 1) rfl)).mono fun e w2 ⟨h1, kz⟩ => by obtain ⟨G9, k1, k2⟩ := hI.rto (i := 1) rfl hGw1 kz; exact ⟨G9, h1, k1, k2⟩) ?_
    intro Gw3 hGw3
    refine SL.nil ?_
    refine SE.blkn ?_
    refine SC.of_SE ?_
    refine SC.region ?_
    refine SL.mv ?_
    refine SL.uu (ru_add (r := 2) rfl rfl rfl rfl) ?_
    refine SL.as ?_
    refine SL.nil ?_
    refine SE.round ?_
    refine SR.norm [(2, bo false), (4, pt g 0), (6, iw 2)] _ ⟨rfl, rfl, rfl, trivial⟩ rfl ?_
    refine SR.next ?_
    refine SC.seq ?_
    refine SC.sr ?_
    refine SL.mv ?_
    refine SL.uu (ru_lt (b := true) rfl rfl rfl rfl) ?_
    refine SL.nl ?_
    refine SC.yes rfl ?_
    refine SC.skip ?_
    refine SC.of_SE ?_
    refine SC.seq ?_
    refine SC.block ?_
    refine SC.region ?_
    refine SL.mv ?_
    refine SL.nk ?_
    refine SL.fa 2 fd41_1 ?_
    refine SL.ld 0 ts35 ?_
    have hB6 := (hB4.tick (by omega)).1
    refine SL.call (ζ := Nat → Prop) (fun Gw5 => Value.tuple #[]) (fun Gw5 => [rG g d0 d1 wd e0 e1 vd t0 t1 f0 f1 41, rWp wd d0 d1 Gw5 (tickW (tickW (tickW S))), rWq vd e0 e1 G2 S]) (fun Gw5 => ∀ b, Gw5 b → False ∨ w.heap.size ≤ b) rfl rfl co18 rfl rfl rfl (lt_b rfl) (fun w5 hI => (rw_tick hB4 (by omega) (hI.1.get (i := 1) rfl)).mono fun e w2 ⟨h1, kz⟩ => by obtain ⟨G9, k1, k2⟩ := hI.rto (i := 1) rfl hGw3 kz; exact ⟨G9, h1, k1, k2⟩) ?_
    intro Gw5 hGw5
    refine SL.nil ?_
    refine SE.blkn ?_
    refine SC.of_SE ?_
    refine SC.region ?_
    refine SL.mv ?_
    refine SL.uu (ru_add (r := 3) rfl rfl rfl rfl) ?_
    refine SL.as ?_
    refine SL.nil ?_
    refine SE.round ?_
    refine SR.norm [(2, bo false), (4, pt g 0), (6, iw 3)] _ ⟨rfl, rfl, rfl, trivial⟩ rfl ?_
    refine SR.next ?_
    refine SC.seq ?_
    refine SC.sr ?_
    refine SL.mv ?_
    refine SL.uu (ru_lt (b := true) rfl rfl rfl rfl) ?_
    refine SL.nl ?_
    refine SC.yes rfl ?_
    refine SC.skip ?_
    refine SC.of_SE ?_
    refine SC.seq ?_
    refine SC.block ?_
    refine SC.region ?_
    refine SL.mv ?_
    refine SL.nk ?_
    refine SL.fa 2 fd41_1 ?_
    refine SL.ld 0 ts35 ?_
    have hB8 := (hB6.tick (by omega)).1
    refine SL.call (ζ := Nat → Prop) (fun Gw7 => Value.tuple #[]) (fun Gw7 => [rG g d0 d1 wd e0 e1 vd t0 t1 f0 f1 41, rWp wd d0 d1 Gw7 (tickW (tickW (tickW (tickW S)))), rWq vd e0 e1 G2 S]) (fun Gw7 => ∀ b, Gw7 b → False ∨ w.heap.size ≤ b) rfl rfl co18 rfl rfl rfl (lt_b rfl) (fun w5 hI => (rw_tick hB6 (by omega) (hI.1.get (i := 1) rfl)).mono fun e w2 ⟨h1, kz⟩ => by obtain ⟨G9, k1, k2⟩ := hI.rto (i := 1) rfl hGw5 kz; exact ⟨G9, h1, k1, k2⟩) ?_
    intro Gw7 hGw7
    refine SL.nil ?_
    refine SE.blkn ?_
    refine SC.of_SE ?_
    refine SC.region ?_
    refine SL.mv ?_
    refine SL.uu (ru_add (r := 4) rfl rfl rfl rfl) ?_
    refine SL.as ?_
    refine SL.nil ?_
    refine SE.round ?_
    refine SR.norm [(2, bo false), (4, pt g 0), (6, iw 4)] _ ⟨rfl, rfl, rfl, trivial⟩ rfl ?_
    refine SR.next ?_
    refine SC.seq ?_
    refine SC.sr ?_
    refine SL.mv ?_
    refine SL.uu (ru_lt (b := true) rfl rfl rfl rfl) ?_
    refine SL.nl ?_
    refine SC.yes rfl ?_
    refine SC.skip ?_
    refine SC.of_SE ?_
    refine SC.seq ?_
    refine SC.block ?_
    refine SC.region ?_
    refine SL.mv ?_
    refine SL.nk ?_
    refine SL.fa 2 fd41_1 ?_
    refine SL.ld 0 ts35 ?_
    have hB10 := (hB8.tick (by omega)).1
    refine SL.call (ζ := Nat → Prop) (fun Gw9 => Value.tuple #[]) (fun Gw9 => [rG g d0 d1 wd e0 e1 vd t0 t1 f0 f1 41, rWp wd d0 d1 Gw9 (tickW (tickW (tickW (tickW (tickW S))))), rWq vd e0 e1 G2 S]) (fun Gw9 => ∀ b, Gw9 b → False ∨ w.heap.size ≤ b) rfl rfl co18 rfl rfl rfl (lt_b rfl) (fun w5 hI => (rw_tick hB8 (by omega) (hI.1.get (i := 1) rfl)).mono fun e w2 ⟨h1, kz⟩ => by obtain ⟨G9, k1, k2⟩ := hI.rto (i := 1) rfl hGw7 kz; exact ⟨G9, h1, k1, k2⟩) ?_
    intro Gw9 hGw9
    refine SL.nil ?_
    refine SE.blkn ?_
    refine SC.of_SE ?_
    refine SC.norm [(2, bo false), (4, pt g 0), (6, iw 4)] _ ⟨rfl, rfl, rfl, trivial⟩ rfl ?_
    refine SC.region ?_
    refine SL.mv ?_
    refine SL.uu (ru_add (r := 5) rfl rfl rfl rfl) ?_
    refine SL.as ?_
    refine SL.nil ?_
    refine SE.round ?_
    refine SR.norm [(2, bo false), (4, pt g 0), (6, iw 5)] _ ⟨rfl, rfl, rfl, trivial⟩ rfl ?_
    refine SR.next ?_
    refine SC.seq ?_
    refine SC.sr ?_
    refine SL.mv ?_
    refine SL.uu (ru_lt (b := true) rfl rfl rfl rfl) ?_
    refine SL.nl ?_
    refine SC.yes rfl ?_
    refine SC.skip ?_
    refine SC.of_SE ?_
    refine SC.seq ?_
    refine SC.block ?_
    refine SC.region ?_
    refine SL.mv ?_
    refine SL.nk ?_
    refine SL.fa 2 fd41_1 ?_
    refine SL.ld 0 ts35 ?_
    have hB12 := (hB10.tick (by omega)).1
    refine SL.call (ζ := Nat → Prop) (fun Gw11 => Value.tuple #[]) (fun Gw11 => [rG g d0 d1 wd e0 e1 vd t0 t1 f0 f1 41, rWp wd d0 d1 Gw11 (tickW (tickW (tickW (tickW (tickW (tickW S)))))), rWq vd e0 e1 G2 S]) (fun Gw11 => ∀ b, Gw11 b → False ∨ w.heap.size ≤ b) rfl rfl co18 rfl rfl rfl (lt_b rfl) (fun w5 hI => (rw_tick hB10 (by omega) (hI.1.get (i := 1) rfl)).mono fun e w2 ⟨h1, kz⟩ => by obtain ⟨G9, k1, k2⟩ := hI.rto (i := 1) rfl hGw9 kz; exact ⟨G9, h1, k1, k2⟩) ?_
    intro Gw11 hGw11
    refine SL.nil ?_
    refine SE.blkn ?_
    refine SC.of_SE ?_
    refine SC.region ?_
    refine SL.mv ?_
    refine SL.uu (ru_add (r := 6) rfl rfl rfl rfl) ?_
    refine SL.as ?_
    refine SL.nil ?_
    refine SE.round ?_
    refine SR.norm [(2, bo false), (4, pt g 0), (6, iw 6)] _ ⟨rfl, rfl, rfl, trivial⟩ rfl ?_
    refine SR.next ?_
    refine SC.seq ?_
    refine SC.sr ?_
    refine SL.mv ?_
    refine SL.uu (ru_lt (b := true) rfl rfl rfl rfl) ?_
    refine SL.nl ?_
    refine SC.yes rfl ?_
    refine SC.skip ?_
    refine SC.of_SE ?_
    refine SC.seq ?_
    refine SC.block ?_
    refine SC.region ?_
    refine SL.mv ?_
    refine SL.nk ?_
    refine SL.fa 2 fd41_1 ?_
    refine SL.ld 0 ts35 ?_
    have hB14 := (hB12.tick (by omega)).1
    refine SL.call (ζ := Nat → Prop) (fun Gw13 => Value.tuple #[]) (fun Gw13 => [rG g d0 d1 wd e0 e1 vd t0 t1 f0 f1 41, rWp wd d0 d1 Gw13 (tickW (tickW (tickW (tickW (tickW (tickW (tickW S))))))), rWq vd e0 e1 G2 S]) (fun Gw13 => ∀ b, Gw13 b → False ∨ w.heap.size ≤ b) rfl rfl co18 rfl rfl rfl (lt_b rfl) (fun w5 hI => (rw_tick hB12 (by omega) (hI.1.get (i := 1) rfl)).mono fun e w2 ⟨h1, kz⟩ => by obtain ⟨G9, k1, k2⟩ := hI.rto (i := 1) rfl hGw11 kz; exact ⟨G9, h1, k1, k2⟩) ?_
    intro Gw13 hGw13
    refine SL.nil ?_
    refine SE.blkn ?_
    refine SC.of_SE ?_
    refine SC.nr [rG g d0 d1 wd e0 e1 vd t0 t1 f0 f1 41, rWp wd d0 d1 Gw13 (tickW (tickW (tickW (tickW (tickW (tickW (tickW S))))))), rWq vd e0 e1 G2 S] ?_
    refine SC.region ?_
    refine SL.mv ?_
    refine SL.uu (ru_add (r := 7) rfl rfl rfl rfl) ?_
    refine SL.as ?_
    refine SL.nil ?_
    refine SE.round ?_
    refine SR.norm [(2, bo false), (4, pt g 0), (6, iw 7)] _ ⟨rfl, rfl, rfl, trivial⟩ rfl ?_
    refine SR.next ?_
    refine SC.seq ?_
    refine SC.sr ?_
    refine SL.mv ?_
    refine SL.uu (ru_lt (b := true) rfl rfl rfl rfl) ?_
    refine SL.nl ?_
    refine SC.yes rfl ?_
    refine SC.skip ?_
    refine SC.of_SE ?_
    refine SC.seq ?_
    refine SC.block ?_
    refine SC.region ?_
    refine SL.mv ?_
    refine SL.nk ?_
    refine SL.fa 2 fd41_1 ?_
    refine SL.ld 0 ts35 ?_
    have hB16 := (hB14.tick (by omega)).1
    refine SL.call (ζ := Nat → Prop) (fun Gw15 => Value.tuple #[]) (fun Gw15 => [rG g d0 d1 wd e0 e1 vd t0 t1 f0 f1 41, rWp wd d0 d1 Gw15 (tickW (tickW (tickW (tickW (tickW (tickW (tickW (tickW S)))))))), rWq vd e0 e1 G2 S]) (fun Gw15 => ∀ b, Gw15 b → False ∨ w.heap.size ≤ b) rfl rfl co18 rfl rfl rfl (lt_b rfl) (fun w5 hI => (rw_tick hB14 (by omega) (hI.1.get (i := 1) rfl)).mono fun e w2 ⟨h1, kz⟩ => by obtain ⟨G9, k1, k2⟩ := hI.rto (i := 1) rfl hGw13 kz; exact ⟨G9, h1, k1, k2⟩) ?_
    intro Gw15 hGw15
    refine SL.nil ?_
    refine SE.blkn ?_
    refine SC.of_SE ?_
    refine SC.region ?_
    refine SL.mv ?_
    refine SL.uu (ru_add (r := 8) rfl rfl rfl rfl) ?_
    refine SL.as ?_
    refine SL.nil ?_
    refine SE.round ?_
    refine SR.norm [(2, bo false), (4, pt g 0), (6, iw 8)] _ ⟨rfl, rfl, rfl, trivial⟩ rfl ?_
    refine SR.next ?_
    refine SC.seq ?_
    refine SC.sr ?_
    refine SL.mv ?_
    refine SL.uu (ru_lt (b := false) rfl rfl rfl rfl) ?_
    refine SL.nl ?_
    refine SC.no rfl ?_
    refine SC.exit ?_
    refine SE.passe ?_
    refine SE.passe ?_
    refine SE.blke ?_
    refine SC.of_SE ?_
    refine SC.seq ?_
    have hg := gone8 hR.wb hon (by omega)
    refine SC.region ?_
    refine SL.mv ?_
    refine SL.nk ?_
    refine SL.fa 0 fd41_0 ?_
    refine SL.ia 0 ar34 ?_
    refine SL.ld 0 ts33 ?_
    refine SL.callv (Value.tuple #[iw ((oldF (tickW (tickW (tickW (tickW (tickW (tickW (tickW (tickW S)))))))).A0).1), bo ((oldF (tickW (tickW (tickW (tickW (tickW (tickW (tickW (tickW S)))))))).A0).2)]) rfl rfl co19 rfl rfl rfl (lt_b rfl) (fun w hI => H_only hI (rw_old0 (hI.1.get (i := 1) rfl) hB16.d0.ok)) ?_
    refine SL.mv ?_
    refine SL.uu (ru_extract rfl rfl rfl) ?_
    refine SL.uu (ru_extract rfl rfl rfl) ?_
    refine SL.as ?_
    refine SL.as ?_
    refine SL.nn [(2, bo false), (4, pt g 0), (8, bo ((oldF (tickW (tickW (tickW (tickW (tickW (tickW (tickW (tickW S)))))))).A0).2))] _ ⟨rfl, rfl, rfl, trivial⟩ ?_
    refine SC.sr ?_
    refine SL.mv ?_
    refine SL.nk ?_
    refine SL.fa 0 fd41_0 ?_
    refine SL.ia 1 ar34 ?_
    refine SL.ld 0 ts33 ?_
    refine SL.callv (Value.tuple #[iw ((oldF (tickW (tickW (tickW (tickW (tickW (tickW (tickW (tickW S)))))))).A1).1), bo ((oldF (tickW (tickW (tickW (tickW (tickW (tickW (tickW (tickW S)))))))).A1).2)]) rfl rfl co19 rfl rfl rfl (lt_b rfl) (fun w hI => H_only hI (rw_old1 (hI.1.get (i := 1) rfl) hB16.d1.ok)) ?_
    refine SL.mv ?_
    refine SL.uu (ru_extract rfl rfl rfl) ?_
    refine SL.uu (ru_extract rfl rfl rfl) ?_
    refine SL.as ?_
    refine SL.as ?_
    refine SL.nl ?_
    refine SC.sr ?_
    refine SL.mv ?_
    refine SL.nk ?_
    refine SL.fa 2 fd41_1 ?_
    refine SL.ld 0 ts35 ?_
    refine SL.callv (iw (lenD (tickW (tickW (tickW (tickW (tickW (tickW (tickW (tickW S)))))))) 0)) rfl rfl co20 rfl rfl rfl (lt_b rfl) (fun w hI => H_only hI (rw_len (hI.1.get (i := 1) rfl) 0)) ?_
    refine SL.uu (ru_eq (b := true) rfl rfl rfl ((by simp [hg.len0, hg.len1, hg.pull0, hg.pull1, hg.old0, hg.old1]))) ?_
    refine SL.mv ?_
    refine SL.gg (ru_move rfl rfl) ?_
    refine SL.gg (ru_nilCheck rfl rfl) ?_
    refine SL.gg (ru_fieldAddr (o2 := 2) fd41_1 rfl rfl rfl) ?_
    refine SL.gg (ru_load (i := 0) ts35 rfl rfl rfl rfl) ?_
    refine SL.callvg (iw (lenD (tickW (tickW (tickW (tickW (tickW (tickW (tickW (tickW S)))))))) 1)) rfl rfl rfl rfl co20 rfl rfl rfl (lt_b rfl) (fun w hI => H_only hI (rw_len (hI.1.get (i := 1) rfl) 1)) ?_
    refine SL.gg (ru_eq (b := true) rfl rfl rfl ((by simp [hg.len0, hg.len1, hg.pull0, hg.pull1, hg.old0, hg.old1]))) ?_
    refine SL.pk (bo true) (bo false) ?_
    refine SL.mv ?_
    refine SL.gg (ru_move rfl rfl) ?_
    refine SL.gg (ru_not (c := (!((oldF (tickW (tickW (tickW (tickW (tickW (tickW (tickW (tickW S)))))))).A0).2))) rfl rfl rfl) ?_
    refine SL.pk (bo (!((oldF (tickW (tickW (tickW (tickW (tickW (tickW (tickW (tickW S)))))))).A0).2))) (bo false) ?_
    refine SL.mv ?_
    refine SL.norm [(2, bo false), (4, pt g 0), (8, bo ((oldF (tickW (tickW (tickW (tickW (tickW (tickW (tickW (tickW S)))))))).A0).2)), (10, bo ((oldF (tickW (tickW (tickW (tickW (tickW (tickW (tickW (tickW S)))))))).A1).2)), (72, pt g 0), (73, pt g 0), (74, pt g 2), (75, pt wd 0), (76, iw (lenD (tickW (tickW (tickW (tickW (tickW (tickW (tickW (tickW S)))))))) 0)), (77, bo true), (78, bo true), (79, pt g 0), (80, pt g 0), (81, pt g 2), (82, pt wd 0), (83, iw (lenD (tickW (tickW (tickW (tickW (tickW (tickW (tickW (tickW S)))))))) 1)), (84, bo true), (85, bo true), (86, bo true), (87, bo ((oldF (tickW (tickW (tickW (tickW (tickW (tickW (tickW (tickW S)))))))).A0).2)), (88, bo true), (89, bo true), (90, bo true)] _ ⟨rfl, rfl, rfl, rfl, rfl, rfl, rfl, rfl, rfl, rfl, rfl, rfl, rfl, rfl, rfl, rfl, rfl, rfl, rfl, rfl, (congrArg (fun bx => some (Value.bool bx)) (show (!((oldF (tickW (tickW (tickW (tickW (tickW (tickW (tickW (tickW S)))))))).A0).2)) = true from (by simp [hg.len0, hg.len1, hg.pull0, hg.pull1, hg.old0, hg.old1]))), (congrArg (fun bx => some (Value.bool bx)) (show (!((oldF (tickW (tickW (tickW (tickW (tickW (tickW (tickW (tickW S)))))))).A0).2)) = true from (by simp [hg.len0, hg.len1, hg.pull0, hg.pull1, hg.old0, hg.old1]))), (congrArg (fun bx => some (Value.bool bx)) (show (!((oldF (tickW (tickW (tickW (tickW (tickW (tickW (tickW (tickW S)))))))).A0).2)) = true from (by simp [hg.len0, hg.len1, hg.pull0, hg.pull1, hg.old0, hg.old1]))), trivial⟩ rfl ?_
    refine SL.gg (ru_move rfl rfl) ?_
    refine SL.gg (ru_not (c := (!((oldF (tickW (tickW (tickW (tickW (tickW (tickW (tickW (tickW S)))))))).A1).2))) rfl rfl rfl) ?_
    refine SL.pk (bo (!((oldF (tickW (tickW (tickW (tickW (tickW (tickW (tickW (tickW S)))))))).A1).2))) (bo false) ?_
    refine SL.mv ?_
    refine SL.norm [(2, bo false), (4, pt g 0), (8, bo ((oldF (tickW (tickW (tickW (tickW (tickW (tickW (tickW (tickW S)))))))).A0).2)), (10, bo ((oldF (tickW (tickW (tickW (tickW (tickW (tickW (tickW (tickW S)))))))).A1).2)), (72, pt g 0), (73, pt g 0), (74, pt g 2), (75, pt wd 0), (76, iw (lenD (tickW (tickW (tickW (tickW (tickW (tickW (tickW (tickW S)))))))) 0)), (77, bo true), (78, bo true), (79, pt g 0), (80, pt g 0), (81, pt g 2), (82, pt wd 0), (83, iw (lenD (tickW (tickW (tickW (tickW (tickW (tickW (tickW (tickW S)))))))) 1)), (84, bo true), (85, bo true), (86, bo true), (87, bo ((oldF (tickW (tickW (tickW (tickW (tickW (tickW (tickW (tickW S)))))))).A0).2)), (88, bo true), (89, bo true), (90, bo true), (91, bo ((oldF (tickW (tickW (tickW (tickW (tickW (tickW (tickW (tickW S)))))))).A1).2)), (92, bo true), (93, bo true), (94, bo true)] _ ⟨rfl, rfl, rfl, rfl, rfl, rfl, rfl, rfl, rfl, rfl, rfl, rfl, rfl, rfl, rfl, rfl, rfl, rfl, rfl, rfl, rfl, rfl, rfl, rfl, (congrArg (fun bx => some (Value.bool bx)) (show (!((oldF (tickW (tickW (tickW (tickW (tickW (tickW (tickW (tickW S)))))))).A1).2)) = true from (by simp [hg.len0, hg.len1, hg.pull0, hg.pull1, hg.old0, hg.old1]))), (congrArg (fun bx => some (Value.bool bx)) (show (!((oldF (tickW (tickW (tickW (tickW (tickW (tickW (tickW (tickW S)))))))).A1).2)) = true from (by simp [hg.len0, hg.len1, hg.pull0, hg.pull1, hg.old0, hg.old1]))), (congrArg (fun bx => some (Value.bool bx)) (show (!((oldF (tickW (tickW (tickW (tickW (tickW (tickW (tickW (tickW S)))))))).A1).2)) = true from (by simp [hg.len0, hg.len1, hg.pull0, hg.pull1, hg.old0, hg.old1]))), trivial⟩ rfl ?_
    refine SL.gg (ru_move rfl rfl) ?_
    refine SL.gg (ru_nilCheck rfl rfl) ?_
    refine SL.gg (ru_fieldAddr (o2 := 2) fd41_1 rfl rfl rfl) ?_
    refine SL.gg (ru_load (i := 0) ts35 rfl rfl rfl rfl) ?_
    have hB18 := hB16.pullD 0
    refine SL.callg (ζ := Nat → Prop) (fun Gw17 => iw ((pullD (tickW (tickW (tickW (tickW (tickW (tickW (tickW (tickW S)))))))) 0).1)) (fun Gw17 => [rG g d0 d1 wd e0 e1 vd t0 t1 f0 f1 41, rWp wd d0 d1 Gw17 ((pullD (tickW (tickW (tickW (tickW (tickW (tickW (tickW (tickW S)))))))) 0).2), rWq vd e0 e1 G2 S]) (fun Gw17 => ∀ b, Gw17 b → False ∨ w.heap.size ≤ b) rfl rfl rfl rfl co21 rfl rfl rfl (lt_b rfl) (fun w5 hI => (rw_pull hB16 (by omega) (hI.1.get (i := 1) rfl) 0).mono fun e w2 ⟨h1, kz⟩ => by obtain ⟨G9, k1, k2⟩ := hI.rto (i := 1) rfl hGw15 kz; exact ⟨G9, h1, k1, k2⟩) ?_
    intro Gw17 hGw17
    refine SL.gg (ru_eq (b := true) rfl rfl rfl ((by simp [hg.len0, hg.len1, hg.pull0, hg.pull1, hg.old0, hg.old1]))) ?_
    refine SL.pk (bo true) (bo false) ?_
    refine SL.mv ?_
    refine SL.gg (ru_move rfl rfl) ?_
    refine SL.gg (ru_nilCheck rfl rfl) ?_
    refine SL.gg (ru_fieldAddr (o2 := 2) fd41_1 rfl rfl rfl) ?_
    refine SL.gg (ru_load (i := 0) ts35 rfl rfl rfl rfl) ?_
    have hB20 := hB18.pullD 1
    refine SL.callg (ζ := Nat → Prop) (fun Gw19 => iw ((pullD ((pullD (tickW (tickW (tickW (tickW (tickW (tickW (tickW (tickW S)))))))) 0).2) 1).1)) (fun Gw19 => [rG g d0 d1 wd e0 e1 vd t0 t1 f0 f1 41, rWp wd d0 d1 Gw19 ((pullD ((pullD (tickW (tickW (tickW (tickW (tickW (tickW (tickW (tickW S)))))))) 0).2) 1).2), rWq vd e0 e1 G2 S]) (fun Gw19 => ∀ b, Gw19 b → False ∨ w.heap.size ≤ b) rfl rfl rfl rfl co21 rfl rfl rfl (lt_b rfl) (fun w5 hI => (rw_pull hB18 (by omega) (hI.1.get (i := 1) rfl) 1).mono fun e w2 ⟨h1, kz⟩ => by obtain ⟨G9, k1, k2⟩ := hI.rto (i := 1) rfl hGw17 kz; exact ⟨G9, h1, k1, k2⟩) ?_
    intro Gw19 hGw19
    refine SL.gg (ru_eq (b := true) rfl rfl rfl ((by simp [hg.len0, hg.len1, hg.pull0, hg.pull1, hg.old0, hg.old1]))) ?_
    refine SL.pk (bo true) (bo false) ?_
    refine SL.as ?_
    refine SL.nr [rG g d0 d1 wd e0 e1 vd t0 t1 f0 f1 41, rWp wd d0 d1 Gw19 ((pullD ((pullD (tickW (tickW (tickW (tickW (tickW (tickW (tickW (tickW S)))))))) 0).2) 1).2), rWq vd e0 e1 G2 S] ?_
    refine SC.ret ?_
    refine SE.res (.inl rfl) (res1 Try.results4 rfl) fun w1 hI => ⟨rfl, hI.2⟩
  obtain ⟨ob, oo, ea, hop⟩ := hops i (by omega)
  obtain ⟨⟨k, dir, kk, to, ov, f⟩, hl⟩ : ∃ op : OpW, op = l[i]'(by omega) := ⟨_, rfl⟩
  rw [← hl] at hop
  obtain ⟨hc, hb0, hs0, hi9⟩ := hop
  simp only at hc hb0 hs0 hi9
  obtain ⟨fa, fc, rfl⟩ := hb0.form
  subst ea
  have hto : to ≤ 9223372036854775807 := hi9.2
  refine SC.seq ?_
  refine SC.sr ?_
  refine SL.mv ?_
  refine SL.mv ?_
  refine SL.uu (ru_len Try.underlying22 rfl rfl) ?_
  refine SL.uu (ru_lt (b := (decide (((i : Int) : Int) < (l.length : Int)))) rfl rfl rfl rfl) ?_
  refine SL.nl ?_
  refine SC.yes (show some (Value.bool (decide (((i : Int) : Int) < (l.length : Int)))) = some (Value.bool true) from congrArg (fun x => some (Value.bool x)) (decide_eq_true (by omega))) ?_
  refine SC.skip ?_
  refine SC.of_SE ?_
  refine SC.seq ?_
  refine SC.block ?_
  refine SC.sr ?_
  refine SL.mv ?_
  refine SL.mv ?_
  refine SL.uu (ru_indexS (o2 := oo + (i : Int).toNat * 5) si22 rfl rfl rfl (by omega) (by omega) rfl) ?_
  refine SL.fa (oo + (i : Int).toNat * 5 + 0) fd30_0 ?_
  refine SL.uu (ru_load_old (u := iw k) (fun _ h => h) ts3 rfl rfl (by rw [Int.toNat_natCast]; exact hc 0 _ rfl)) ?_
  refine SL.uu (ru_ne (b := ((k : Int) != 9)) rfl rfl rfl rfl) ?_
  refine SL.mv ?_
  refine SL.join 7 [(0, sl ob oo l.length oc), (2, bo false), (4, pt g 0), (5, iw (i : Int)), (25, sl ob oo l.length oc), (26, iw (i : Int)), (27, pt ob (oo + (i : Int).toNat * 5)), (28, pt ob (oo + (i : Int).toNat * 5 + 0)), (29, iw k), (30, bo ((k : Int) != 9)), (31, bo ((k : Int) != 9)), (38, bo (((k : Int) != 9) && ((k : Int) != 10)))] [rG g d0 d1 wd e0 e1 vd t0 t1 f0 f1 41, rWp wd d0 d1 G1 S, rWq vd e0 e1 G2 S] ?_ ?_
  rotate_left
  · intro K hK
    rcases tf ((k : Int) != 9) with h21 | h21
    · skip
      refine SL.norm [(0, sl ob oo l.length oc), (2, bo false), (4, pt g 0), (5, iw (i : Int)), (25, sl ob oo l.length oc), (26, iw (i : Int)), (27, pt ob (oo + (i : Int).toNat * 5)), (28, pt ob (oo + (i : Int).toNat * 5 + 0)), (29, iw k), (30, bo true), (31, bo true)] _ ⟨rfl, rfl, rfl, rfl, rfl, rfl, rfl, rfl, rfl, (congrArg (fun x => some (Value.bool x)) h21), (congrArg (fun x => some (Value.bool x)) h21), trivial⟩ rfl ?_
      refine SL.gg (ru_move rfl rfl) ?_
      refine SL.gg (ru_move rfl rfl) ?_
      refine SL.gg (ru_indexS (o2 := oo + (i : Int).toNat * 5) si22 rfl rfl rfl (by omega) (by omega) rfl) ?_
      refine SL.gg (ru_fieldAddr (o2 := (oo + (i : Int).toNat * 5 + 0)) fd30_0 rfl rfl rfl) ?_
      refine SL.gg (ru_load_old (u := iw k) (fun _ h => h) ts3 rfl rfl (by rw [Int.toNat_natCast]; exact hc 0 _ rfl)) ?_
      refine SL.gg (ru_ne (b := ((k : Int) != 10)) rfl rfl rfl rfl) ?_
      refine SL.pk (bo ((k : Int) != 10)) (bo false) ?_
      exact SL.joined hK ⟨rfl, rfl, rfl, rfl, rfl, rfl, rfl, rfl, rfl, (congrArg (fun x => some (Value.bool x)) h21.symm), (congrArg (fun x => some (Value.bool x)) h21.symm), (congrArg (fun bx => some (Value.bool (bx && ((k : Int) != 10)))) h21.symm), trivial⟩ rfl
    refine SL.norm [(0, sl ob oo l.length oc), (2, bo false), (4, pt g 0), (5, iw (i : Int)), (25, sl ob oo l.length oc), (26, iw (i : Int)), (27, pt ob (oo + (i : Int).toNat * 5)), (28, pt ob (oo + (i : Int).toNat * 5 + 0)), (29, iw k), (30, bo false), (31, bo false)] _ ⟨rfl, rfl, rfl, rfl, rfl, rfl, rfl, rfl, rfl, (congrArg (fun x => some (Value.bool x)) h21), (congrArg (fun x => some (Value.bool x)) h21), trivial⟩ rfl ?_
    refine SL.oo ?_
    refine SL.oo ?_
    refine SL.oo ?_
    refine SL.oo ?_
    refine SL.oo ?_
    refine SL.oo ?_
    refine SL.pk (undef) (bo false) ?_
    exact SL.joined hK ⟨rfl, rfl, rfl, rfl, rfl, rfl, rfl, rfl, rfl, (congrArg (fun x => some (Value.bool x)) h21.symm), (congrArg (fun x => some (Value.bool x)) h21.symm), (congrArg (fun bx => some (Value.bool (bx && ((k : Int) != 10)))) h21.symm), trivial⟩ rfl
  skip
  refine SL.nl ?_
  refine SC.both (((k : Int) != 9) && ((k : Int) != 10)) rfl (fun h22 => ?_) (fun h22 => ?_)
  · skip
    refine SC.region ?_
    refine SL.mv ?_
    refine SL.mv ?_
    refine SL.mv ?_
    refine SL.uu (ru_indexS (o2 := oo + (i : Int).toNat * 5) si22 rfl rfl rfl (by omega) (by omega) rfl) ?_
    refine SL.uu (ru_loada_old (vs := [iw k, iw dir, iw kk, iw to, Value.slice fa f.length fc]) (fun _ h => h) ta30 rfl rfl rfl (by rw [Int.toNat_natCast]; exact hc)) ?_
    have hk9 : k ≠ 9 ∧ k ≠ 10 := by simpa using h22
    refine SL.call (ζ := Wi × Int × Int × Int × Int × (Nat → Prop) × (Nat → Prop)) (fun z => bo true) (fun z => [rG g d0 d1 wd e0 e1 vd z.2.1 z.2.2.1 z.2.2.2.1 z.2.2.2.2.1 41, rWp wd d0 d1 z.2.2.2.2.2.1 z.1, rWq vd e0 e1 z.2.2.2.2.2.2 z.1]) (fun z => Rn (i + 1) z.1 z.2.1 z.2.2.1 z.2.2.2.1 z.2.2.2.2.1 ∧ onW z.1 ∧ (∀ b, z.2.2.2.2.2.1 b → False ∨ w.heap.size ≤ b) ∧ ∀ b, z.2.2.2.2.2.2 b → False ∨ w.heap.size ≤ b) rfl rfl co17 rfl rfl rfl (lt_b rfl) (fun w5 hI => (does_any (by omega) hto hR (hb0.only hI.2 (fun b _ _ _ _ _ h => h)) (fun b o n c e hn => ⟨fun hz => by have h8 := hs0 b o n c e hn; rcases hz with e1 | e1 | e1; (omega); (have := (hG1 b e1).resolve_left id; omega); (have := (hG2 b e1).resolve_left id; omega), Nat.lt_of_lt_of_le (hs0 b o n c e hn) hI.2.size⟩) ((hI.keep 3).1)).mono fun e w2 ⟨h1, S9, t09, t19, f09, f19, kz, hR9, hon9⟩ => by obtain ⟨I1, I2, k1, k2, k3⟩ := Inv.rgto (X := ⟨110, w, fun _ => False⟩) (g := g) (wd := wd) (d0 := d0) (d1 := d1) (vd := vd) (e0 := e0) (e1 := e1) (R := ⟨S, S, t0, t1, f0, f1⟩) (G1 := G1) (G2 := G2) (l := []) hI (fun b hb => hb.elim (fun e => by rw [e]; exact .inr hgn) (fun e => e.elim (hG1 b) (hG2 b))) kz; exact ⟨(S9, t09, t19, f09, f19, I1, I2), h1, k1, hR9, hon9 hk9.1 hk9.2 hon, k2, k3⟩) ?_
    rintro ⟨S9, t09, t19, f09, f19, Ga, Gb⟩ ⟨hR9, hon9, hGa, hGb⟩
    dsimp only at hR9 hGa hGb hon9
    refine SL.nil ?_
    refine SE.blkn ?_
    refine SC.of_SE ?_
    refine SC.region ?_
    refine SL.mv ?_
    refine SL.uu (ru_add (r := (IntKind.i64.wrap ((i : Int) + 1))) rfl rfl rfl rfl) ?_
    refine SL.as ?_
    refine SL.nil ?_
    refine SE.keep 3 ?_
    refine SE.again N (i + 1, S9, t09, t19, f09, f19, Ga, Gb) (by omega) ⟨by dsimp only; omega, hR9, hon9, hGa, hGb⟩ ⟨rfl, rfl, rfl, (congrArg (fun x => some (iw x)) (show IntKind.i64.wrap ((i : Int) + 1) = ((i + 1 : Nat) : Int) by rw [IntKind.wrap_i64]; omega)), trivial⟩ rfl
  refine SC.skip ?_
  refine SE.blkn ?_
  refine SC.of_SE ?_
  refine SC.region ?_
  refine SL.mv ?_
  refine SL.uu (ru_add (r := (IntKind.i64.wrap ((i : Int) + 1))) rfl rfl rfl rfl) ?_
  refine SL.as ?_
  refine SL.nil ?_
  refine SE.keep 3 ?_
  refine SE.again N (i + 1, S, t0, t1, f0, f1, G1, G2) (by omega) ⟨by dsimp only; omega, hR.le (Nat.le_succ i), hon, hG1, hG2⟩ ⟨rfl, rfl, rfl, (congrArg (fun x => some (iw x)) (show IntKind.i64.wrap ((i : Int) + 1) = ((i + 1 : Nat) : Int) by rw [IntKind.wrap_i64]; omega)), trivial⟩ rfl

end Go.Proofs.Ytcilikkljkdceaa

/-
  The arguments of the wire's statements, opened.
-/
namespace Go.Proofs.Ytcilikkljkdceaa
open Go.ChangeShapes Go.WideShapes Go.ChangeAt Go.RowKit Go.Deep
set_option maxRecDepth 100000
variable {H : Type} {enc : TypeId × Value → H} {w : World} {base b0 : Nat} {held : Bool} {r : Reach}
theorem ops_nil (a : Option Addr) (c : Nat) : OpsW w (.slice a 0 c) [] := ⟨a, c, rfl, by simp, fun i hi => by simp at hi⟩
theorem open_ops_arg {v : Value} {d : DataW H} {p : List MemPlace} (hv : Value.okWide Try.prog w r b0 22 v) (h : DataW.Trod enc Try.prog w base (fun _ => true) held 22 v d p) (hw : ∀ n ∈ DataW.weights Try.prog 22 d, n ≤ reachBytes) :
    ∃ l, OpsW w v l := by
  obtain ⟨a0, n0, c0, rfl⟩ := okWide_slice Try.underlying22 hv
  obtain ⟨fuel, hf⟩ := h
  have hB : Try.prog.bytesOf 30 = 56 := by kernel_rfl
  rcases open_slice_fields (x := (d, p)) Try.underlying22 Try.underlying30 (by kernel_rfl) (by kernel_rfl) hf with ⟨hcs, _⟩ | ⟨a, len, cap, m, D, Pl, hcs, _, hl, _, hm, hx, hi⟩
  · simp [Value.cells] at hcs
    obtain ⟨rfl, rfl, rfl⟩ := hcs
    exact ⟨[], ops_nil _ _⟩
  · simp [Value.cells] at hcs
    obtain ⟨rfl, rfl, rfl⟩ := hcs
    simp only [if_true] at hm
    subst hm
    obtain ⟨hx, _⟩ := Prod.mk.inj hx
    subst hx
    by_cases h0 : n0 = 0
    · subst h0; exact ⟨[], ops_nil _ _⟩
    have hlen : n0 * 56 ≤ 140737488351232 := by
      have := hw ((((List.range n0).map D).length + ((List.range (m - n0)).map fun j => D (n0 + j)).length) * 56) (by
        simp only [DataW.weights, Try.underlying22, List.mem_cons, hB]
        left; trivial)
      simp only [List.length_map, List.length_range, reachBytes] at this
      omega
    have each : ∀ i, i < n0 → ∃ o : OpW, a.spot = none ∧ OpWAt w a.block (a.off + i * 5) o := by
      intro i hin
      obtain ⟨z, n, hD0, _, hys0, hf0⟩ := hi 0 (by omega)
      obtain ⟨v, y, hc0, _, _⟩ := hf0 0 _ rfl
      have hs : a.spot = none := plain_of_cell hc0
      obtain ⟨ys, n, hD, _, hys, hf⟩ := hi i (by omega)
      have hDm : D i ∈ (List.range n0).map D := List.mem_map.2 ⟨i, List.mem_range.2 hin, rfl⟩
      have hwi : ∀ n ∈ (DataW.agg (ys.map (·.1))).weights Try.prog 30, n ≤ reachBytes := by
        intro q hq
        refine hw q ?_
        simp only [DataW.weights, Try.underlying22, List.mem_cons, List.mem_append]
        right; left
        rw [← hD] at hq
        exact weights_all hDm hq
      obtain ⟨v0, y0, c0, q0, h0⟩ := hf 0 _ rfl
      obtain ⟨v1, y1, c1, q1, h1⟩ := hf 1 _ rfl
      obtain ⟨v2, y2, c2, q2, h2⟩ := hf 2 _ rfl
      obtain ⟨v3, y3, c3, q3, h3⟩ := hf 3 _ rfl
      obtain ⟨v4, y4, c4, q4, h4⟩ := hf 4 _ rfl
      have w4 := weights_agg Try.underlying30 hys hwi rfl q4
      obtain ⟨z0, hz0, _, _⟩ := DataW.trod_int Try.underlying3 h0
      obtain ⟨z1, hz1, _, _⟩ := DataW.trod_int Try.underlying3 h1
      obtain ⟨z2, hz2, _, _⟩ := DataW.trod_int Try.underlying3 h2
      obtain ⟨z3, hz3, _, u3⟩ := DataW.trod_int Try.underlying3 h3
      obtain ⟨b, nn, cc, l, e, k1, k2⟩ := open_bytes Try.underlying28 Try.underlying5 (by kernel_rfl) (by kernel_rfl) h4 w4
      simp at hz0 hz1 hz2 hz3
      subst hz0 hz1 hz2 hz3 e
      rw [plain_add hs] at c0 c1 c2 c3 c4
      refine ⟨⟨z0, z1, z2, z3, .slice b nn cc, l⟩, hs, fun j u hj => ?_, k1, k2, wf_i64 u3⟩
      match j, hj with
      | 0, hj => simp at hj; subst hj; exact c0
      | 1, hj => simp at hj; subst hj; exact c1
      | 2, hj => simp at hj; subst hj; exact c2
      | 3, hj => simp at hj; subst hj; exact c3
      | 4, hj => simp at hj; subst hj; exact c4
      | j + 5, hj => simp at hj
    obtain ⟨_, hs, hfirst⟩ := each 0 (by omega)
    obtain ⟨g, hg⟩ : ∃ g : Nat → OpW, ∀ i, i < n0 → OpWAt w a.block (a.off + i * 5) (g i) := by
      refine ⟨fun i => if h : i < n0 then Classical.choose (each i h) else ⟨0, 0, 0, 0, .slice none 0 0, []⟩, fun i h => ?_⟩
      simp only [h, dite_true]
      exact (Classical.choose_spec (each i h)).2
    refine ⟨(List.range n0).map g, some a, _, by simp; rfl, by simp; omega, fun i hi => ⟨a.block, a.off, ?_, ?_⟩⟩
    · cases a; simp only at hs; subst hs; rfl
    · simp at hi
      simpa using hg i hi
end Go.Proofs.Ytcilikkljkdceaa
