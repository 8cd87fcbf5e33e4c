/-
  What the proof of WireKeeps stands on, part 5: each theorem by itself, under the conditions that it names.
-/
import Derived.Test.YtcilikkljkdceaaWireKeepsM4
import Derived.ProofKit
import Derived.OpenShut
import Derived.ShutString
import Derived.ChangeOld
import Derived.SizedLaws
import Derived.ChangeSlices
import Derived.Deep.Slices
import Derived.Deep.Fields
import Derived.ChangeSame
/-
  What eight ticks leave of a wire between two devices that are on: plain.
-/
namespace Go.Proofs.Ytcilikkljkdceaa
open Go.RowKit
structure AgB (nw : Int) (n k : Nat) (T : Wi) : Prop where
  wb : Wb (n + k) T
  now : T.now = nw + k
  on : onW T
  p0 : ∀ j, T.A0.tp j ≤ nw
  p1 : ∀ j, T.A1.tp j ≤ nw
  l0 : ∀ x ∈ T.L0, x.tick ≤ nw
  l1 : ∀ x ∈ T.L1, x.tick ≤ nw
structure Gone (T : Wi) : Prop where
  l0 : T.L0 = []
  l1 : T.L1 = []
  a0 : T.A0.r 4 = T.A0.r 5
  a1 : T.A1.r 4 = T.A1.r 5
  on : onW T
end Go.Proofs.Ytcilikkljkdceaa

/-
  From a row's reading of the arguments to what the walks ask of memory; no statement is named here.
-/
namespace Go.Proofs.Ytcilikkljkdceaa
open Go.ChangeShapes Go.WideShapes Go.ChangeAt Go.RowKit Go.Deep

def I64 (n : Int) : Prop := -9223372036854775808 ≤ n ∧ n ≤ 9223372036854775807
theorem sliceIn_nil {S : Nat → Prop} {n c : Nat} : sliceIn (.slice none n c) S := fun b o n c e _ => by simp at e

section
variable {H : Type} {enc : TypeId × Value → H} {P : Program} {w : World} {base : Nat} {spare : Nat → Bool} {held : Bool}

theorem open_slice_fields {t e : TypeId} {fs : Array Field} {fuel : Nat} {cs : List Value} {x : DataW H × List MemPlace} (ht : P.underlying t = some (.slice e)) (he : P.underlying e = some (.struct fs))
    (hone : oneCellFields P fs = true) (hC : P.cellsOf e = fs.size) (h : DataW.trod enc P w base spare held fuel t cs = some x) :
    (cs = [.slice none 0 0] ∧ x = (.nil, [])) ∨
    ∃ (a : Addr) (len cap m : Nat) (D : Nat → DataW H) (Pl : Nat → List MemPlace), cs = [.slice (some a) len cap] ∧ base ≤ a.block ∧ len ≤ cap ∧ cap ≤ maxLen ∧ m = (if spare a.block then cap else len) ∧
      x = (.slice ((List.range len).map D) ((List.range (m - len)).map fun j => D (len + j)), MemPlace.row a (m * fs.size) ++ (List.range m).flatMap Pl) ∧
      ∀ i, i < m → ∃ (ys : List (DataW H × List MemPlace)) (n : Nat), D i = .agg (ys.map (·.1)) ∧ Pl i = ys.flatMap (·.2) ∧ ys.length = fs.size ∧
        ∀ (j : Nat) (f : Field), fs[j]? = some f → ∃ (v : Value) (y : DataW H × List MemPlace), w.cell? (a.add (i * fs.size + j)) = some v ∧ ys[j]? = some y ∧ DataW.trod enc P w base spare held n f.type [v] = some y := by
  rcases open_slice ht h with h0 | ⟨a, len, cap, m, n, D, Pl, hcs, hb, hl, hm, hmm, hx, hi⟩
  · exact .inl h0
  · refine .inr ⟨a, len, cap, m, D, Pl, hcs, hb, hl, hm, hmm, by rw [hC] at hx; exact hx, fun i him => ?_⟩
    obtain ⟨cs', hc, ht'⟩ := hi i him
    rw [hC] at hc
    obtain ⟨ys, n', hn', hy, hlen, hyl, hf⟩ := DataW.trod_struct he ht'
    obtain ⟨_, hcl, hat⟩ := World.cells?_some hc
    simp only [Prod.mk.injEq] at hy
    refine ⟨ys, n', hy.1, hy.2, hyl, fun j f hj => ?_⟩
    obtain ⟨ho, hk⟩ := hone_of hone j f hj
    have hjl : j < fs.size := (Array.getElem?_eq_some_iff.1 hj).1
    have hcell := hat j hjl
    have hv : cs'[j]? = some (cs'[j]'(by omega)) := List.getElem?_eq_getElem (by omega)
    have h1 := hf j f hj
    rw [ho, hk] at h1
    have hone' : (cs'.drop j).take 1 = [cs'[j]'(by omega)] := by
      rw [List.drop_eq_getElem_cons (by omega)]
      rfl
    rw [hone'] at h1
    have hys : ys[j]? = some (ys[j]'(by omega)) := List.getElem?_eq_getElem (by omega)
    refine ⟨_, _, ?_, hys, h1.trans hys⟩
    rw [← Go.Deep.add_add, hcell, hv]

theorem plain_of_cell {a : Addr} {v : Value} (h : w.cell? (a.add 0) = some v) : a.spot = none := by
  cases hsp : a.spot with
  | none => rfl
  | some s =>
    unfold World.cell? Addr.add at h
    simp only [if_true, hsp, Option.isSome_some] at h
    split at h <;> simp at h
theorem plain_add {a : Addr} (hs : a.spot = none) (i : Nat) : a.add i = ⟨a.block, a.off + i, none⟩ := by
  cases a; simp only at hs; subst hs
  unfold Addr.add; split <;> simp_all

theorem wf_i64 {n : Int} (h : (Lit.int .i64 n).wf = true) : I64 n := by
  simp only [Lit.wf, Bool.and_eq_true, decide_eq_true_eq] at h
  unfold I64
  exact ⟨Int.le_trans (by decide) h.1, Int.le_trans h.2 (by decide)⟩
theorem wf_u8 {n : Int} (h : (Lit.int .u8 n).wf = true) : 0 ≤ n ∧ n < 256 := by
  simp only [Lit.wf, Bool.and_eq_true, decide_eq_true_eq] at h
  exact ⟨Int.le_trans (by decide) h.1, Int.lt_of_le_of_lt h.2 (by decide)⟩

theorem open_bytes {t e : TypeId} {fuel : Nat} {v : Value} {x : DataW H × List MemPlace} (ht : P.underlying t = some (.slice e)) (he : P.underlying e = some (.int .u8)) (hc : P.cellsOf e = 1) (hB : P.bytesOf e = 1)
    (h : DataW.trod enc P w base (fun _ => true) held fuel t [v] = some x) (hw : ∀ n ∈ x.1.weights P t, n ≤ reachBytes) :
    ∃ a n c l, v = .slice a n c ∧ BytesAt w (.slice a n c) l ∧ sliceIn (.slice a n c) (fun b => b < w.heap.size) := by
  rcases open_ints ht he hc h with ⟨hcs, _⟩ | ⟨a, len, cap, zs, hcs, _, hl, hm, hz, hx, hcell, hwf⟩
  · simp at hcs; subst hcs
    exact ⟨none, 0, 0, [], rfl, .nil _, sliceIn_nil⟩
  · simp at hcs; subst hcs
    simp only [if_true] at hz
    have hcap : cap ≤ 140737488351232 := by
      have := hw ((zs.take len).length * 1 + (zs.drop len).length * 1) (by
        rw [hx]
        simp only [DataW.weights, ht, hB, List.mem_cons]
        left
        simp [lits])
      simp only [reachBytes] at this
      have e1 : (zs.take len).length + (zs.drop len).length = zs.length := by rw [List.length_take, List.length_drop]; omega
      omega
    refine ⟨some a, len, cap, (zs.take len).map fun z => UInt8.ofNat z.toNat, rfl, ?_, ?_⟩
    · by_cases h0 : len = 0
      · subst h0
        exact .inl ⟨_, _, rfl, (fun h => by cases h), by simp⟩
      · have hs : a.spot = none := plain_of_cell (hcell 0 (by omega))
        have hll : ((zs.take len).map fun z => UInt8.ofNat z.toNat).length = len := by simp; omega
        refine .inr ⟨a.block, a.off, cap, ?_, by omega, by omega, fun j hj => ?_⟩
        · rw [hll]; cases a; simp only at hs; subst hs; rfl
        · rw [hll] at hj
          have hcj := hcell j (by omega)
          rw [plain_add hs] at hcj
          rw [hcj]
          have hzj : zs.getD j 0 = zs[j] := by simp [List.getElem?_eq_getElem (show j < zs.length by omega)]
          have hr := wf_u8 (hwf zs[j] (List.getElem_mem _))
          have e2 : ((UInt8.ofNat zs[j].toNat).toNat : Int) = zs[j] := by
            rw [UInt8.toNat_ofNat']; omega
          simp only [List.getElem_map, List.getElem_take, hzj, bv, e2]
    · intro b o n c e hn
      simp at e
      obtain ⟨rfl, rfl, rfl⟩ := e
      have := block_lt_of_cell (hcell 0 (by omega))
      exact this

theorem weights_agg {fs : Array Field} {t : TypeId} (hu : P.underlying t = some (.struct fs)) {ys : List (DataW H × List MemPlace)} (hl : ys.length = fs.size) {B : Nat} (hw : ∀ n ∈ (DataW.agg (ys.map (·.1))).weights P t, n ≤ B)
    {j : Nat} {f : Field} {y : DataW H × List MemPlace} (hf : fs[j]? = some f) (hy : ys[j]? = some y) : ∀ n ∈ y.1.weights P f.type, n ≤ B := by
  intro n hn
  refine hw n ?_
  simp only [DataW.weights, hu]
  exact DataW.weights_mem_each (j := j) (t := f.type) (d := y.1) (by simp [hf]) (by simp [hy]) n hn

theorem weights_all {t : TypeId} {l : List (DataW H)} {n : Nat} {d : DataW H} (hd : d ∈ l) (hn : n ∈ d.weights P t) : n ∈ DataW.weightsAll P t l := by
  induction l with
  | nil => cases hd
  | cons x l ih =>
    simp only [DataW.weightsAll, List.mem_append]
    rcases List.mem_cons.1 hd with rfl | h
    · exact .inl hn
    · exact .inr (ih h)
end
end Go.Proofs.Ytcilikkljkdceaa

/-
  The calls that lie in an argument of the laws of the wire.
-/
namespace Go.Proofs.Ytcilikkljkdceaa
open Go.RowKit
structure OpW where
  k : Int
  dir : Int
  kk : Int
  to : Int
  ov : Value
  f : List UInt8
def OpWAt (w : World) (b o : Nat) (r : OpW) : Prop := (∀ j u, [iw r.k, iw r.dir, iw r.kk, iw r.to, r.ov][j]? = some u → w.cell? ⟨b, o + j, none⟩ = some u) ∧ BytesAt w r.ov r.f ∧ sliceIn r.ov (fun b => b < w.heap.size) ∧ I64 r.to
def OpsW (w : World) (v : Value) (l : List OpW) : Prop := ∃ a c, v = .slice a l.length c ∧ l.length * 56 ≤ 140737488351232 ∧ ∀ i (hi : i < l.length), ∃ b o, a = some ⟨b, o, none⟩ ∧ OpWAt w b (o + i * 5) l[i]
end Go.Proofs.Ytcilikkljkdceaa

/-
  Loads of memory that was there at the start, and has not been turned.
-/
namespace Go.Proofs.Ytcilikkljkdceaa
open Go.RowKit
section
variable {X : Cx} {P : Program} {o : Oper} {m : List (Nat × Value)} {l : List Res}
theorem ru_loada_old {t : TypeId} {z : List Value} {x : Operand} {b o' : Nat} {vs : List Value} (hS : ∀ b, ¬ X.S b) (ht : TyAg P t z) (ho : o.op = .load t x) (hx : evM m x = some (.pointer (some ⟨b, o', none⟩))) (hv : vs.length = z.length)
    (hc : ∀ j u, vs[j]? = some u → X.w0.cell? ⟨b, o' + j, none⟩ = some u) : Ru P X o m l (.agg vs.toArray) := fun a w hf hI => by
  obtain ⟨⟨d, hd, hdb⟩, hsz, _⟩ := ht
  obtain ⟨inf, hinf, hz⟩ := map_some hsz
  simp only [Prod.mk.injEq] at hz
  have hcell : ∀ j (hj : j < vs.length), w.cell? ⟨b, o' + j, none⟩ = some vs[j] := fun j hj => by
    have h1 := hc j vs[j] (List.getElem?_eq_getElem hj)
    rw [← h1]
    exact hI.2.cell (a := ⟨b, o' + j, none⟩) (block_lt_of_cell h1) (hS b)
  unfold execOp; rw [ho]
  simp only [hf.ev hx, Instr.loadAt, Instr.sureAddr, Sem.run_bind, Sem.run_pure, Result.andThen_ok]
  have := run_loadVar_at (P := P) w b o' t vs d (fun j hj => by rw [hcell j hj, List.getElem?_eq_getElem hj]) hd (by cases d <;> simp_all [isAggD]) (by rw [hinf]; simp [hz.1, hv])
  rw [this]; rfl
end
end Go.Proofs.Ytcilikkljkdceaa

/-
  awake.
-/
namespace Go.Proofs.Ytcilikkljkdceaa
open Go.RowKit
set_option maxRecDepth 100000
set_option maxHeartbeats 4000000
theorem wb0 : Wb 0 wi0 := by
  have h : Db 0 onA := by
    refine Db.write ⟨newA_ok, rfl, fun i => ⟨Int.le_refl _, Int.le_refl _⟩⟩ (Int.le_refl _) 0 1
  exact ⟨⟨Int.le_refl _, Int.le_refl _⟩, h, h, ⟨Nat.le_refl _, by simp [wi0]⟩, ⟨Nat.le_refl _, by simp [wi0]⟩⟩
theorem seeD_len {n : Nat} {S : Wi} (h : Wb n S) (dir k : Int) : (seeD S dir k).1.f.length ≤ 140737488351232 := by
  have h1 : ∀ b, (seeW S b k).f.length ≤ 274 := fun b => by
    unfold seeW
    split
    · rename_i e; exact ((h.l b).get e).2.1
    · simp [fm0]
  unfold seeD dirF
  split
  · have := h1 false; simp only; omega
  · split
    · have := h1 true; simp only; omega
    · simp [fm0]
def aw0 : Wi := (postF wi0 false 0 [120]).1
def aw1 : Wi := (pullD aw0 0).2
def aw2 : Wi := (doubleD aw1 0 0).2
def aw3 : Wi := (damageD aw2 0 1 0).2
def aw4 : Wi := tickW aw3
def aw5 : Wi := tickW aw4
def aw6 : Wi := tickW aw5
def aw7 : Wi := tickW aw6
def aw8 : Wi := tickW aw7
def aw9 : Wi := tickW aw8
def aw10 : Wi := tickW aw9
def aw11 : Wi := tickW aw10
def aw12 : Wi := (pullD aw11 2).2
theorem awake_any (w : World) : Calls Try.prog 7 #[] w fun e w' => e = .returned (bo true) ∧ Only (fun _ => False) w w' := by
  refine calls_sc (l0 := []) (args := []) (fun _ => False) Try.func7 rfl 99 Try.ntmps7 (le_b rfl) ⟨⟨by simp, List.Pairwise.nil⟩, Only.refl _ _⟩ ?_
  show SC _ _ _ _ [] []
  refine SC.sr ?_
  refine SL.as ?_
  refine SL.nl ?_
  refine SC.sr ?_
  refine SL.call (ζ := Nat × Nat × Nat × Nat × Nat × Nat × Nat × (Nat → Prop) × (Nat → Prop)) (fun z => pt z.1 0) (fun z => RgL z.1 z.2.1 z.2.2.1 z.2.2.2.1 z.2.2.2.2.1 z.2.2.2.2.2.1 z.2.2.2.2.2.2.1 z.2.2.2.2.2.2.2.1 z.2.2.2.2.2.2.2.2 rg0) (fun z => w.heap.size ≤ z.1 ∧ (∀ b, z.2.2.2.2.2.2.2.1 b → w.heap.size ≤ b) ∧ ∀ b, z.2.2.2.2.2.2.2.2 b → w.heap.size ≤ b) rfl rfl co8 rfl rfl rfl (lt_b rfl) (fun w9 hI => (begun_any w9).mono fun e w2 ⟨g, wd, d0, d1, vd, e0, e1, G1, G2, h1, h2, h3, h4, h5, h6⟩ => ⟨(g, wd, d0, d1, vd, e0, e1, G1, G2), h1, ⟨h2, hI.2.trans' h6 (fun b hb => hb.elim)⟩, Nat.le_trans hI.2.size h3, fun b hb => Nat.le_trans hI.2.size (h4 b hb), fun b hb => Nat.le_trans hI.2.size (h5 b hb)⟩) ?_
  rintro ⟨g, wd, d0, d1, vd, e0, e1, G1, G2⟩ ⟨hgn, hn1, hn2⟩
  dsimp only at hgn hn1 hn2
  have hG1 : ∀ b, G1 b → False ∨ w.heap.size ≤ b := fun b hb => .inr (hn1 b hb)
  have hG2 : ∀ b, G2 b → False ∨ w.heap.size ≤ b := fun b hb => .inr (hn2 b hb)
  refine SL.as ?_
  refine SL.nl ?_
  refine SC.seq ?_
  refine SC.sr ?_
  refine SL.mv ?_
  refine SL.uu (ru_eqnil Try.underlying24 rfl rfl rfl rfl) ?_
  refine SL.nl ?_
  refine SC.no rfl ?_
  refine SC.skip ?_
  refine SC.of_SE ?_
  refine SC.sr ?_
  refine SL.mv ?_
  refine SL.buildSlice (size := 1) (vals := [(0, Value.int .u8 120)]) (z := [Value.int .u8 0]) (cs := [Value.int .u8 120]) rfl rfl (lt_b rfl) rfl Try.underlying28 (by kernel_rfl) rfl rfl (by kernel_rfl) fun b1 hb1 => ?_
  refine SL.mark (i := 3) rfl rfl (lt_b rfl) rfl Try.underlying28 Try.underlying5 rfl rfl (.inr hb1) ?_
  have hB4 := wb0.post false 0 [120]
  refine SL.call (ζ := (Nat → Prop) × (Nat → Prop)) (fun z => bo true) (fun z => [rG g d0 d1 wd e0 e1 vd ((postF wi0 false 0 [120]).2) 0 0 0 41, rWp wd d0 d1 z.1 aw0, rWq vd e0 e1 z.2 aw0, rFz b1 [Value.int .u8 120] 5]) (fun z => (∀ b, z.1 b → False ∨ w.heap.size ≤ b) ∧ ∀ b, z.2 b → False ∨ w.heap.size ≤ b) rfl rfl co25 rfl rfl rfl (lt_b rfl) (fun w5 hI => (post0_any (f := [120]) wb0 (by decide) (fz_bytesw (l := [120]) (hI.1.get (i := 3) rfl) (by decide)) (mine_in fun b hb => rg_apart (X := ⟨99, w, fun _ => False⟩) (g := g) (wd := wd) (d0 := d0) (d1 := d1) (vd := vd) (e0 := e0) (e1 := e1) (R := ⟨wi0, wi0, 0, 0, 0, 0⟩) (G1 := G1) (G2 := G2) (l := [rFz b1 [Value.int .u8 120] 5]) (r := rFz b1 [Value.int .u8 120] 5) hI (by simp) (by cases hb; rfl)) ((hI.keep 3).1)).mono fun e w2 ⟨h1, kz⟩ => by obtain ⟨I1, I2, k1, k2, k3⟩ := Inv.rgto (X := ⟨99, w, fun _ => False⟩) (g := g) (wd := wd) (d0 := d0) (d1 := d1) (vd := vd) (e0 := e0) (e1 := e1) (R := ⟨wi0, wi0, 0, 0, 0, 0⟩) (G1 := G1) (G2 := G2) (l := [rFz b1 [Value.int .u8 120] 5]) hI (fun b hb => hb.elim (fun e => by rw [e]; exact .inr hgn) (fun e => e.elim (hG1 b) (hG2 b))) kz; exact ⟨(I1, I2), h1, k1, k2, k3⟩) ?_
  rintro ⟨Gp2, Gq3⟩ ⟨hGp2, hGq3⟩
  refine SL.as ?_
  refine SL.nl ?_
  refine SC.sr ?_
  refine SL.mv ?_
  refine SL.nk ?_
  refine SL.fa 2 fd41_1 ?_
  refine SL.ld 0 ts35 ?_
  have hB6 := hB4.pullD 0
  refine SL.call (ζ := Nat → Prop) (fun Gw5 => iw ((pullD aw0 0).1)) (fun Gw5 => [rG g d0 d1 wd e0 e1 vd ((postF wi0 false 0 [120]).2) 0 0 0 41, rWp wd d0 d1 Gw5 aw1, rWq vd e0 e1 Gq3 aw0, rFz b1 [Value.int .u8 120] 5]) (fun Gw5 => ∀ b, Gw5 b → False ∨ w.heap.size ≤ b) rfl rfl co21 rfl rfl rfl (lt_b rfl) (fun w5 hI => (rw_pull hB4 (by omega) (hI.1.get (i := 1) rfl) 0).mono fun e w2 ⟨h1, kz⟩ => by obtain ⟨G9, k1, k2⟩ := hI.rto (i := 1) rfl hGp2 kz; exact ⟨G9, h1, k1, k2⟩) ?_
  intro Gw5 hGw5
  refine SL.as ?_
  refine SL.nl ?_
  refine SC.sr ?_
  refine SL.mv ?_
  refine SL.nk ?_
  refine SL.fa 2 fd41_1 ?_
  refine SL.ld 0 ts35 ?_
  have hB8 := hB6.doubleD 0 0
  refine SL.call (ζ := Nat → Prop) (fun Gw7 => iw ((doubleD aw1 0 0).1)) (fun Gw7 => [rG g d0 d1 wd e0 e1 vd ((postF wi0 false 0 [120]).2) 0 0 0 41, rWp wd d0 d1 Gw7 aw2, rWq vd e0 e1 Gq3 aw0, rFz b1 [Value.int .u8 120] 5]) (fun Gw7 => ∀ b, Gw7 b → False ∨ w.heap.size ≤ b) rfl rfl co14 rfl rfl rfl (lt_b rfl) (fun w5 hI => (rw_double hB6 (by omega) (hI.1.get (i := 1) rfl) 0 0).mono fun e w2 ⟨h1, kz⟩ => by obtain ⟨G9, k1, k2⟩ := hI.rto (i := 1) rfl hGw5 kz; exact ⟨G9, h1, k1, k2⟩) ?_
  intro Gw7 hGw7
  refine SL.as ?_
  refine SL.nl ?_
  refine SC.sr ?_
  refine SL.mv ?_
  refine SL.nk ?_
  refine SL.fa 2 fd41_1 ?_
  refine SL.ld 0 ts35 ?_
  have hB10 := hB8.damageD 0 1 0
  refine SL.call (ζ := Nat → Prop) (fun Gw9 => iw ((damageD aw2 0 1 0).1)) (fun Gw9 => [rG g d0 d1 wd e0 e1 vd ((postF wi0 false 0 [120]).2) 0 0 0 41, rWp wd d0 d1 Gw9 aw3, rWq vd e0 e1 Gq3 aw0, rFz b1 [Value.int .u8 120] 5]) (fun Gw9 => ∀ b, Gw9 b → False ∨ w.heap.size ≤ b) rfl rfl co23 rfl rfl rfl (lt_b rfl) (fun w5 hI => (rw_damage hB8 (by omega) (hI.1.get (i := 1) rfl) 0 1 0 (by decide) ).mono fun e w2 ⟨h1, kz⟩ => by obtain ⟨G9, k1, k2⟩ := hI.rto (i := 1) rfl hGw7 kz; exact ⟨G9, h1, k1, k2⟩) ?_
  intro Gw9 hGw9
  refine SL.as ?_
  refine SL.nl ?_
  refine SC.sr ?_
  refine SL.mv ?_
  refine SL.nk ?_
  refine SL.fa 2 fd41_1 ?_
  refine SL.ld 0 ts35 ?_
  refine SL.mk (Mk.take ⟨99, w, fun _ => False⟩ ((seeD aw3 0 1).1.f) (seeD aw3 0 1).1.bad (seeD aw3 0 1).1.tick (seeD aw3 0 1).2 5) (w_all rfl) rfl co13 rfl rfl rfl (lt_b rfl) (fun l' w hI => (rw_see hB10 (hI.1.get (i := 1) rfl) 0 1).mono fun e w2 ⟨q, c, h1, h2, h3, h4⟩ => ⟨_, h1, ⟨q, c, fun b hb => Nat.le_trans hI.2.size (h3 b hb), rfl⟩, hI.add (r := rMine (.slice q _ c) _ 5) h4 h2 h3⟩) ?_
  rintro _ ⟨q11, c12, hoq11, rfl⟩
  refine SL.mv ?_
  refine SL.uu (ru_extract rfl rfl rfl) ?_
  refine SL.uu (ru_extract rfl rfl rfl) ?_
  refine SL.alloca rfl rfl (lt_b rfl) ta46 rfl fun b13 hb13 => ?_
  refine SL.storea (i := 5) (vs := [Value.slice q11 (((seeD aw3 0 1).1.f).length) c12, bo ((seeD aw3 0 1).1.bad), iw ((seeD aw3 0 1).1.tick)]) (c' := [Value.slice q11 (((seeD aw3 0 1).1.f).length) c12, bo ((seeD aw3 0 1).1.bad), iw ((seeD aw3 0 1).1.tick)]) rfl rfl ta46 rfl rfl rfl rfl rfl rfl (le_b rfl) (.inr hb13) rfl ?_
  refine SL.as ?_
  refine SL.nr [rG g d0 d1 wd e0 e1 vd ((postF wi0 false 0 [120]).2) 0 0 0 41, rWp wd d0 d1 Gw9 aw3, rWq vd e0 e1 Gq3 aw0, rFz b1 [Value.int .u8 120] 5, rMine (.slice q11 ((seeD aw3 0 1).1.f).length c12) ((seeD aw3 0 1).1.f) 5, rBlk b13 [Value.slice q11 (((seeD aw3 0 1).1.f).length) c12, bo ((seeD aw3 0 1).1.bad), iw ((seeD aw3 0 1).1.tick)] 46] ?_
  refine SC.seq ?_
  refine SC.sr ?_
  refine SL.as ?_
  refine SL.nl ?_
  refine SC.block ?_
  refine SC.rounds 9 ?_
  refine SR.norm [(0, bo false), (1, pt g 0), (2, bo true), (3, iw ((pullD aw0 0).1)), (4, iw ((doubleD aw1 0 0).1)), (5, iw ((damageD aw2 0 1 0).1)), (6, pt b13 0), (7, iw ((seeD aw3 0 1).2)), (8, iw 0)] _ ⟨rfl, rfl, rfl, rfl, rfl, rfl, rfl, rfl, rfl, trivial⟩ rfl ?_
  refine SR.next ?_
  refine SC.seq ?_
  refine SC.sr ?_
  refine SL.mv ?_
  refine SL.uu (ru_lt (b := true) rfl rfl rfl rfl) ?_
  refine SL.nl ?_
  refine SC.yes rfl ?_
  refine SC.skip ?_
  refine SC.of_SE ?_
  refine SC.seq ?_
  refine SC.block ?_
  refine SC.region ?_
  refine SL.mv ?_
  refine SL.nk ?_
  refine SL.fa 2 fd41_1 ?_
  refine SL.ld 0 ts35 ?_
  have hB15 := (hB10.tick (by omega)).1
  refine SL.call (ζ := Nat → Prop) (fun Gw14 => Value.tuple #[]) (fun Gw14 => [rG g d0 d1 wd e0 e1 vd ((postF wi0 false 0 [120]).2) 0 0 0 41, rWp wd d0 d1 Gw14 aw4, rWq vd e0 e1 Gq3 aw0, rFz b1 [Value.int .u8 120] 5, rMine (.slice q11 ((seeD aw3 0 1).1.f).length c12) ((seeD aw3 0 1).1.f) 5, rBlk b13 [Value.slice q11 (((seeD aw3 0 1).1.f).length) c12, bo ((seeD aw3 0 1).1.bad), iw ((seeD aw3 0 1).1.tick)] 46]) (fun Gw14 => ∀ b, Gw14 b → False ∨ w.heap.size ≤ b) rfl rfl co18 rfl rfl rfl (lt_b rfl) (fun w5 hI => (rw_tick hB10 (by omega) (hI.1.get (i := 1) rfl)).mono fun e w2 ⟨h1, kz⟩ => by obtain ⟨G9, k1, k2⟩ := hI.rto (i := 1) rfl hGw9 kz; exact ⟨G9, h1, k1, k2⟩) ?_
  intro Gw14 hGw14
  refine SL.nil ?_
  refine SE.blkn ?_
  refine SC.of_SE ?_
  refine SC.region ?_
  refine SL.mv ?_
  refine SL.uu (ru_add (r := 1) rfl rfl rfl rfl) ?_
  refine SL.as ?_
  refine SL.nil ?_
  refine SE.round ?_
  refine SR.norm [(0, bo false), (1, pt g 0), (2, bo true), (3, iw ((pullD aw0 0).1)), (4, iw ((doubleD aw1 0 0).1)), (5, iw ((damageD aw2 0 1 0).1)), (6, pt b13 0), (7, iw ((seeD aw3 0 1).2)), (8, iw 1)] _ ⟨rfl, rfl, rfl, rfl, rfl, rfl, rfl, rfl, rfl, trivial⟩ rfl ?_
  refine SR.next ?_
  refine SC.seq ?_
  refine SC.sr ?_
  refine SL.mv ?_
  refine SL.uu (ru_lt (b := true) rfl rfl rfl rfl) ?_
  refine SL.nl ?_
  refine SC.yes rfl ?_
  refine SC.skip ?_
  refine SC.of_SE ?_
  refine SC.seq ?_
  refine SC.block ?_
  refine SC.region ?_
  refine SL.mv ?_
  refine SL.nk ?_
  refine SL.fa 2 fd41_1 ?_
  refine SL.ld 0 ts35 ?_
  have hB17 := (hB15.tick (by omega)).1
  refine SL.call (ζ := Nat → Prop) (fun Gw16 => Value.tuple #[]) (fun Gw16 => [rG g d0 d1 wd e0 e1 vd ((postF wi0 false 0 [120]).2) 0 0 0 41, rWp wd d0 d1 Gw16 aw5, rWq vd e0 e1 Gq3 aw0, rFz b1 [Value.int .u8 120] 5, rMine (.slice q11 ((seeD aw3 0 1).1.f).length c12) ((seeD aw3 0 1).1.f) 5, rBlk b13 [Value.slice q11 (((seeD aw3 0 1).1.f).length) c12, bo ((seeD aw3 0 1).1.bad), iw ((seeD aw3 0 1).1.tick)] 46]) (fun Gw16 => ∀ b, Gw16 b → False ∨ w.heap.size ≤ b) rfl rfl co18 rfl rfl rfl (lt_b rfl) (fun w5 hI => (rw_tick hB15 (by omega) (hI.1.get (i := 1) rfl)).mono fun e w2 ⟨h1, kz⟩ => by obtain ⟨G9, k1, k2⟩ := hI.rto (i := 1) rfl hGw14 kz; exact ⟨G9, h1, k1, k2⟩) ?_
  intro Gw16 hGw16
  refine SL.nil ?_
  refine SE.blkn ?_
  refine SC.of_SE ?_
  refine SC.region ?_
  refine SL.mv ?_
  refine SL.uu (ru_add (r := 2) rfl rfl rfl rfl) ?_
  refine SL.as ?_
  refine SL.nil ?_
  refine SE.round ?_
  refine SR.norm [(0, bo false), (1, pt g 0), (2, bo true), (3, iw ((pullD aw0 0).1)), (4, iw ((doubleD aw1 0 0).1)), (5, iw ((damageD aw2 0 1 0).1)), (6, pt b13 0), (7, iw ((seeD aw3 0 1).2)), (8, iw 2)] _ ⟨rfl, rfl, rfl, rfl, rfl, rfl, rfl, rfl, rfl, trivial⟩ rfl ?_
  refine SR.next ?_
  refine SC.seq ?_
  refine SC.sr ?_
  refine SL.mv ?_
  refine SL.uu (ru_lt (b := true) rfl rfl rfl rfl) ?_
  refine SL.nl ?_
  refine SC.yes rfl ?_
  refine SC.skip ?_
  refine SC.of_SE ?_
  refine SC.seq ?_
  refine SC.block ?_
  refine SC.region ?_
  refine SL.mv ?_
  refine SL.nk ?_
  refine SL.fa 2 fd41_1 ?_
  refine SL.ld 0 ts35 ?_
  have hB19 := (hB17.tick (by omega)).1
  refine SL.call (ζ := Nat → Prop) (fun Gw18 => Value.tuple #[]) (fun Gw18 => [rG g d0 d1 wd e0 e1 vd ((postF wi0 false 0 [120]).2) 0 0 0 41, rWp wd d0 d1 Gw18 aw6, rWq vd e0 e1 Gq3 aw0, rFz b1 [Value.int .u8 120] 5, rMine (.slice q11 ((seeD aw3 0 1).1.f).length c12) ((seeD aw3 0 1).1.f) 5, rBlk b13 [Value.slice q11 (((seeD aw3 0 1).1.f).length) c12, bo ((seeD aw3 0 1).1.bad), iw ((seeD aw3 0 1).1.tick)] 46]) (fun Gw18 => ∀ b, Gw18 b → False ∨ w.heap.size ≤ b) rfl rfl co18 rfl rfl rfl (lt_b rfl) (fun w5 hI => (rw_tick hB17 (by omega) (hI.1.get (i := 1) rfl)).mono fun e w2 ⟨h1, kz⟩ => by obtain ⟨G9, k1, k2⟩ := hI.rto (i := 1) rfl hGw16 kz; exact ⟨G9, h1, k1, k2⟩) ?_
  intro Gw18 hGw18
  refine SL.nil ?_
  refine SE.blkn ?_
  refine SC.of_SE ?_
  refine SC.region ?_
  refine SL.mv ?_
  refine SL.uu (ru_add (r := 3) rfl rfl rfl rfl) ?_
  refine SL.as ?_
  refine SL.nil ?_
  refine SE.round ?_
  refine SR.norm [(0, bo false), (1, pt g 0), (2, bo true), (3, iw ((pullD aw0 0).1)), (4, iw ((doubleD aw1 0 0).1)), (5, iw ((damageD aw2 0 1 0).1)), (6, pt b13 0), (7, iw ((seeD aw3 0 1).2)), (8, iw 3)] _ ⟨rfl, rfl, rfl, rfl, rfl, rfl, rfl, rfl, rfl, trivial⟩ rfl ?_
  refine SR.next ?_
  refine SC.seq ?_
  refine SC.sr ?_
  refine SL.mv ?_
  refine SL.uu (ru_lt (b := true) rfl rfl rfl rfl) ?_
  refine SL.nl ?_
  refine SC.yes rfl ?_
  refine SC.skip ?_
  refine SC.of_SE ?_
  refine SC.seq ?_
  refine SC.block ?_
  refine SC.region ?_
  refine SL.mv ?_
  refine SL.nk ?_
  refine SL.fa 2 fd41_1 ?_
  refine SL.ld 0 ts35 ?_
  have hB21 := (hB19.tick (by omega)).1
  refine SL.call (ζ := Nat → Prop) (fun Gw20 => Value.tuple #[]) (fun Gw20 => [rG g d0 d1 wd e0 e1 vd ((postF wi0 false 0 [120]).2) 0 0 0 41, rWp wd d0 d1 Gw20 aw7, rWq vd e0 e1 Gq3 aw0, rFz b1 [Value.int .u8 120] 5, rMine (.slice q11 ((seeD aw3 0 1).1.f).length c12) ((seeD aw3 0 1).1.f) 5, rBlk b13 [Value.slice q11 (((seeD aw3 0 1).1.f).length) c12, bo ((seeD aw3 0 1).1.bad), iw ((seeD aw3 0 1).1.tick)] 46]) (fun Gw20 => ∀ b, Gw20 b → False ∨ w.heap.size ≤ b) rfl rfl co18 rfl rfl rfl (lt_b rfl) (fun w5 hI => (rw_tick hB19 (by omega) (hI.1.get (i := 1) rfl)).mono fun e w2 ⟨h1, kz⟩ => by obtain ⟨G9, k1, k2⟩ := hI.rto (i := 1) rfl hGw18 kz; exact ⟨G9, h1, k1, k2⟩) ?_
  intro Gw20 hGw20
  refine SL.nil ?_
  refine SE.blkn ?_
  refine SC.of_SE ?_
  refine SC.region ?_
  refine SL.mv ?_
  refine SL.uu (ru_add (r := 4) rfl rfl rfl rfl) ?_
  refine SL.as ?_
  refine SL.nil ?_
  refine SE.round ?_
  refine SR.norm [(0, bo false), (1, pt g 0), (2, bo true), (3, iw ((pullD aw0 0).1)), (4, iw ((doubleD aw1 0 0).1)), (5, iw ((damageD aw2 0 1 0).1)), (6, pt b13 0), (7, iw ((seeD aw3 0 1).2)), (8, iw 4)] _ ⟨rfl, rfl, rfl, rfl, rfl, rfl, rfl, rfl, rfl, trivial⟩ rfl ?_
  refine SR.next ?_
  refine SC.seq ?_
  refine SC.sr ?_
  refine SL.mv ?_
  refine SL.uu (ru_lt (b := true) rfl rfl rfl rfl) ?_
  refine SL.nl ?_
  refine SC.yes rfl ?_
  refine SC.skip ?_
  refine SC.of_SE ?_
  refine SC.seq ?_
  refine SC.block ?_
  refine SC.region ?_
  refine SL.mv ?_
  refine SL.nk ?_
  refine SL.fa 2 fd41_1 ?_
  refine SL.ld 0 ts35 ?_
  have hB23 := (hB21.tick (by omega)).1
  refine SL.call (ζ := Nat → Prop) (fun Gw22 => Value.tuple #[]) (fun Gw22 => [rG g d0 d1 wd e0 e1 vd ((postF wi0 false 0 [120]).2) 0 0 0 41, rWp wd d0 d1 Gw22 aw8, rWq vd e0 e1 Gq3 aw0, rFz b1 [Value.int .u8 120] 5, rMine (.slice q11 ((seeD aw3 0 1).1.f).length c12) ((seeD aw3 0 1).1.f) 5, rBlk b13 [Value.slice q11 (((seeD aw3 0 1).1.f).length) c12, bo ((seeD aw3 0 1).1.bad), iw ((seeD aw3 0 1).1.tick)] 46]) (fun Gw22 => ∀ b, Gw22 b → False ∨ w.heap.size ≤ b) rfl rfl co18 rfl rfl rfl (lt_b rfl) (fun w5 hI => (rw_tick hB21 (by omega) (hI.1.get (i := 1) rfl)).mono fun e w2 ⟨h1, kz⟩ => by obtain ⟨G9, k1, k2⟩ := hI.rto (i := 1) rfl hGw20 kz; exact ⟨G9, h1, k1, k2⟩) ?_
  intro Gw22 hGw22
  refine SL.nil ?_
  refine SE.blkn ?_
  refine SC.of_SE ?_
  refine SC.norm [(0, bo false), (1, pt g 0), (2, bo true), (3, iw ((pullD aw0 0).1)), (4, iw ((doubleD aw1 0 0).1)), (5, iw ((damageD aw2 0 1 0).1)), (6, pt b13 0), (7, iw ((seeD aw3 0 1).2)), (8, iw 4)] _ ⟨rfl, rfl, rfl, rfl, rfl, rfl, rfl, rfl, rfl, trivial⟩ rfl ?_
  refine SC.region ?_
  refine SL.mv ?_
  refine SL.uu (ru_add (r := 5) rfl rfl rfl rfl) ?_
  refine SL.as ?_
  refine SL.nil ?_
  refine SE.round ?_
  refine SR.norm [(0, bo false), (1, pt g 0), (2, bo true), (3, iw ((pullD aw0 0).1)), (4, iw ((doubleD aw1 0 0).1)), (5, iw ((damageD aw2 0 1 0).1)), (6, pt b13 0), (7, iw ((seeD aw3 0 1).2)), (8, iw 5)] _ ⟨rfl, rfl, rfl, rfl, rfl, rfl, rfl, rfl, rfl, trivial⟩ rfl ?_
  refine SR.next ?_
  refine SC.seq ?_
  refine SC.sr ?_
  refine SL.mv ?_
  refine SL.uu (ru_lt (b := true) rfl rfl rfl rfl) ?_
  refine SL.nl ?_
  refine SC.yes rfl ?_
  refine SC.skip ?_
  refine SC.of_SE ?_
  refine SC.seq ?_
  refine SC.block ?_
  refine SC.region ?_
  refine SL.mv ?_
  refine SL.nk ?_
  refine SL.fa 2 fd41_1 ?_
  refine SL.ld 0 ts35 ?_
  have hB25 := (hB23.tick (by omega)).1
  refine SL.call (ζ := Nat → Prop) (fun Gw24 => Value.tuple #[]) (fun Gw24 => [rG g d0 d1 wd e0 e1 vd ((postF wi0 false 0 [120]).2) 0 0 0 41, rWp wd d0 d1 Gw24 aw9, rWq vd e0 e1 Gq3 aw0, rFz b1 [Value.int .u8 120] 5, rMine (.slice q11 ((seeD aw3 0 1).1.f).length c12) ((seeD aw3 0 1).1.f) 5, rBlk b13 [Value.slice q11 (((seeD aw3 0 1).1.f).length) c12, bo ((seeD aw3 0 1).1.bad), iw ((seeD aw3 0 1).1.tick)] 46]) (fun Gw24 => ∀ b, Gw24 b → False ∨ w.heap.size ≤ b) rfl rfl co18 rfl rfl rfl (lt_b rfl) (fun w5 hI => (rw_tick hB23 (by omega) (hI.1.get (i := 1) rfl)).mono fun e w2 ⟨h1, kz⟩ => by obtain ⟨G9, k1, k2⟩ := hI.rto (i := 1) rfl hGw22 kz; exact ⟨G9, h1, k1, k2⟩) ?_
  intro Gw24 hGw24
  refine SL.nil ?_
  refine SE.blkn ?_
  refine SC.of_SE ?_
  refine SC.region ?_
  refine SL.mv ?_
  refine SL.uu (ru_add (r := 6) rfl rfl rfl rfl) ?_
  refine SL.as ?_
  refine SL.nil ?_
  refine SE.round ?_
  refine SR.norm [(0, bo false), (1, pt g 0), (2, bo true), (3, iw ((pullD aw0 0).1)), (4, iw ((doubleD aw1 0 0).1)), (5, iw ((damageD aw2 0 1 0).1)), (6, pt b13 0), (7, iw ((seeD aw3 0 1).2)), (8, iw 6)] _ ⟨rfl, rfl, rfl, rfl, rfl, rfl, rfl, rfl, rfl, trivial⟩ rfl ?_
  refine SR.next ?_
  refine SC.seq ?_
  refine SC.sr ?_
  refine SL.mv ?_
  refine SL.uu (ru_lt (b := true) rfl rfl rfl rfl) ?_
  refine SL.nl ?_
  refine SC.yes rfl ?_
  refine SC.skip ?_
  refine SC.of_SE ?_
  refine SC.seq ?_
  refine SC.block ?_
  refine SC.region ?_
  refine SL.mv ?_
  refine SL.nk ?_
  refine SL.fa 2 fd41_1 ?_
  refine SL.ld 0 ts35 ?_
  have hB27 := (hB25.tick (by omega)).1
  refine SL.call (ζ := Nat → Prop) (fun Gw26 => Value.tuple #[]) (fun Gw26 => [rG g d0 d1 wd e0 e1 vd ((postF wi0 false 0 [120]).2) 0 0 0 41, rWp wd d0 d1 Gw26 aw10, rWq vd e0 e1 Gq3 aw0, rFz b1 [Value.int .u8 120] 5, rMine (.slice q11 ((seeD aw3 0 1).1.f).length c12) ((seeD aw3 0 1).1.f) 5, rBlk b13 [Value.slice q11 (((seeD aw3 0 1).1.f).length) c12, bo ((seeD aw3 0 1).1.bad), iw ((seeD aw3 0 1).1.tick)] 46]) (fun Gw26 => ∀ b, Gw26 b → False ∨ w.heap.size ≤ b) rfl rfl co18 rfl rfl rfl (lt_b rfl) (fun w5 hI => (rw_tick hB25 (by omega) (hI.1.get (i := 1) rfl)).mono fun e w2 ⟨h1, kz⟩ => by obtain ⟨G9, k1, k2⟩ := hI.rto (i := 1) rfl hGw24 kz; exact ⟨G9, h1, k1, k2⟩) ?_
  intro Gw26 hGw26
  refine SL.nil ?_
  refine SE.blkn ?_
  refine SC.of_SE ?_
  refine SC.nr [rG g d0 d1 wd e0 e1 vd ((postF wi0 false 0 [120]).2) 0 0 0 41, rWp wd d0 d1 Gw26 aw10, rWq vd e0 e1 Gq3 aw0, rFz b1 [Value.int .u8 120] 5, rMine (.slice q11 ((seeD aw3 0 1).1.f).length c12) ((seeD aw3 0 1).1.f) 5, rBlk b13 [Value.slice q11 (((seeD aw3 0 1).1.f).length) c12, bo ((seeD aw3 0 1).1.bad), iw ((seeD aw3 0 1).1.tick)] 46] ?_
  refine SC.region ?_
  refine SL.mv ?_
  refine SL.uu (ru_add (r := 7) rfl rfl rfl rfl) ?_
  refine SL.as ?_
  refine SL.nil ?_
  refine SE.round ?_
  refine SR.norm [(0, bo false), (1, pt g 0), (2, bo true), (3, iw ((pullD aw0 0).1)), (4, iw ((doubleD aw1 0 0).1)), (5, iw ((damageD aw2 0 1 0).1)), (6, pt b13 0), (7, iw ((seeD aw3 0 1).2)), (8, iw 7)] _ ⟨rfl, rfl, rfl, rfl, rfl, rfl, rfl, rfl, rfl, trivial⟩ rfl ?_
  refine SR.next ?_
  refine SC.seq ?_
  refine SC.sr ?_
  refine SL.mv ?_
  refine SL.uu (ru_lt (b := true) rfl rfl rfl rfl) ?_
  refine SL.nl ?_
  refine SC.yes rfl ?_
  refine SC.skip ?_
  refine SC.of_SE ?_
  refine SC.seq ?_
  refine SC.block ?_
  refine SC.region ?_
  refine SL.mv ?_
  refine SL.nk ?_
  refine SL.fa 2 fd41_1 ?_
  refine SL.ld 0 ts35 ?_
  have hB29 := (hB27.tick (by omega)).1
  refine SL.call (ζ := Nat → Prop) (fun Gw28 => Value.tuple #[]) (fun Gw28 => [rG g d0 d1 wd e0 e1 vd ((postF wi0 false 0 [120]).2) 0 0 0 41, rWp wd d0 d1 Gw28 aw11, rWq vd e0 e1 Gq3 aw0, rFz b1 [Value.int .u8 120] 5, rMine (.slice q11 ((seeD aw3 0 1).1.f).length c12) ((seeD aw3 0 1).1.f) 5, rBlk b13 [Value.slice q11 (((seeD aw3 0 1).1.f).length) c12, bo ((seeD aw3 0 1).1.bad), iw ((seeD aw3 0 1).1.tick)] 46]) (fun Gw28 => ∀ b, Gw28 b → False ∨ w.heap.size ≤ b) rfl rfl co18 rfl rfl rfl (lt_b rfl) (fun w5 hI => (rw_tick hB27 (by omega) (hI.1.get (i := 1) rfl)).mono fun e w2 ⟨h1, kz⟩ => by obtain ⟨G9, k1, k2⟩ := hI.rto (i := 1) rfl hGw26 kz; exact ⟨G9, h1, k1, k2⟩) ?_
  intro Gw28 hGw28
  refine SL.nil ?_
  refine SE.blkn ?_
  refine SC.of_SE ?_
  refine SC.region ?_
  refine SL.mv ?_
  refine SL.uu (ru_add (r := 8) rfl rfl rfl rfl) ?_
  refine SL.as ?_
  refine SL.nil ?_
  refine SE.round ?_
  refine SR.norm [(0, bo false), (1, pt g 0), (2, bo true), (3, iw ((pullD aw0 0).1)), (4, iw ((doubleD aw1 0 0).1)), (5, iw ((damageD aw2 0 1 0).1)), (6, pt b13 0), (7, iw ((seeD aw3 0 1).2)), (8, iw 8)] _ ⟨rfl, rfl, rfl, rfl, rfl, rfl, rfl, rfl, rfl, trivial⟩ rfl ?_
  refine SR.next ?_
  refine SC.seq ?_
  refine SC.sr ?_
  refine SL.mv ?_
  refine SL.uu (ru_lt (b := false) rfl rfl rfl rfl) ?_
  refine SL.nl ?_
  refine SC.no rfl ?_
  refine SC.exit ?_
  refine SE.passe ?_
  refine SE.passe ?_
  refine SE.blke ?_
  refine SC.of_SE ?_
  refine SC.sr ?_
  refine SL.mv ?_
  refine SL.mv ?_
  refine SL.gg (ru_move rfl rfl) ?_
  refine SL.gg (ru_eq (b := true) rfl rfl rfl (by decide +kernel)) ?_
  refine SL.pk (bo true) (bo false) ?_
  refine SL.mv ?_
  refine SL.gg (ru_move rfl rfl) ?_
  refine SL.gg (ru_eq (b := true) rfl rfl rfl (by decide +kernel)) ?_
  refine SL.pk (bo true) (bo false) ?_
  refine SL.mv ?_
  refine SL.gg (ru_move rfl rfl) ?_
  refine SL.gg (ru_eq (b := true) rfl rfl rfl (by decide +kernel)) ?_
  refine SL.pk (bo true) (bo false) ?_
  refine SL.mv ?_
  refine SL.gg (ru_move rfl rfl) ?_
  refine SL.gg (ru_eq (b := true) rfl rfl rfl (by decide +kernel)) ?_
  refine SL.pk (bo true) (bo false) ?_
  refine SL.mv ?_
  refine SL.gg (ru_fieldAddr (o2 := 0) fd46_0 rfl rfl rfl) ?_
  refine SL.gg (ru_load (i := 5) ts28 rfl rfl rfl rfl) ?_
  refine SL.gg (ru_str (f := ((seeD aw3 0 1).1.f)) Try.underlying28 Try.underlying5 Try.underlying9 rfl rfl (fun w hI => mine_bytesw hI (j := 4) rfl (seeD_len hB10 _ _))) ?_
  refine SL.gg (ru_streq (f := (seeD aw3 0 1).1.f) (h := [121]) (b := true) Try.underlying9 rfl rfl rfl (by decide +kernel)) ?_
  refine SL.pk (bo true) (bo false) ?_
  refine SL.mv ?_
  refine SL.gg (ru_fieldAddr (o2 := 1) fd46_1 rfl rfl rfl) ?_
  refine SL.gg (ru_load (i := 5) ts4 rfl rfl rfl rfl) ?_
  refine SL.pk (bo ((seeD aw3 0 1).1.bad)) (bo false) ?_
  refine SL.mv ?_
  refine SL.norm [(0, bo false), (1, pt g 0), (2, bo true), (3, iw ((pullD aw0 0).1)), (4, iw ((doubleD aw1 0 0).1)), (5, iw ((damageD aw2 0 1 0).1)), (6, pt b13 0), (7, iw ((seeD aw3 0 1).2)), (48, bo true), (49, bo true), (50, iw ((pullD aw0 0).1)), (51, bo true), (52, bo true), (53, bo true), (54, iw ((doubleD aw1 0 0).1)), (55, bo true), (56, bo true), (57, bo true), (58, iw ((damageD aw2 0 1 0).1)), (59, bo true), (60, bo true), (61, bo true), (62, iw ((seeD aw3 0 1).2)), (63, bo true), (64, bo true), (65, bo true), (66, pt b13 0), (67, Value.slice q11 (((seeD aw3 0 1).1.f).length) c12), (68, Value.string ⟨((seeD aw3 0 1).1.f).toArray⟩), (69, bo true), (70, bo true), (71, bo true), (72, pt b13 1), (73, bo true), (74, bo true), (75, bo true)] _ ⟨rfl, rfl, rfl, rfl, rfl, rfl, rfl, rfl, rfl, rfl, rfl, rfl, rfl, rfl, rfl, rfl, rfl, rfl, rfl, rfl, rfl, rfl, rfl, rfl, rfl, rfl, rfl, rfl, rfl, rfl, rfl, rfl, rfl, (congrArg (fun bx => some (Value.bool bx)) (show ((seeD aw3 0 1).1.bad) = true from (by decide +kernel))), (congrArg (fun bx => some (Value.bool bx)) (show ((seeD aw3 0 1).1.bad) = true from (by decide +kernel))), (congrArg (fun bx => some (Value.bool bx)) (show ((seeD aw3 0 1).1.bad) = true from (by decide +kernel))), trivial⟩ rfl ?_
  refine SL.gg (ru_move rfl rfl) ?_
  refine SL.gg (ru_nilCheck rfl rfl) ?_
  refine SL.gg (ru_fieldAddr (o2 := 2) fd41_1 rfl rfl rfl) ?_
  refine SL.gg (ru_load (i := 0) ts35 rfl rfl rfl rfl) ?_
  refine SL.callvg (iw (lenD aw11 0)) rfl rfl rfl rfl co20 rfl rfl rfl (lt_b rfl) (fun w hI => H_only hI (rw_len (hI.1.get (i := 1) rfl) 0)) ?_
  refine SL.gg (ru_eq (b := true) rfl rfl rfl (by decide +kernel)) ?_
  refine SL.pk (bo true) (bo false) ?_
  refine SL.mv ?_
  refine SL.gg (ru_move rfl rfl) ?_
  refine SL.gg (ru_nilCheck rfl rfl) ?_
  refine SL.gg (ru_fieldAddr (o2 := 2) fd41_1 rfl rfl rfl) ?_
  refine SL.gg (ru_load (i := 0) ts35 rfl rfl rfl rfl) ?_
  refine SL.callvg (iw aw11.now) rfl rfl rfl rfl co12 rfl rfl rfl (lt_b rfl) (fun w hI => H_only hI (rw_now (hI.1.get (i := 1) rfl))) ?_
  refine SL.gg (ru_eq (b := true) rfl rfl rfl (by decide +kernel)) ?_
  refine SL.pk (bo true) (bo false) ?_
  refine SL.mv ?_
  refine SL.gg (ru_move rfl rfl) ?_
  refine SL.gg (ru_nilCheck rfl rfl) ?_
  refine SL.gg (ru_fieldAddr (o2 := 2) fd41_1 rfl rfl rfl) ?_
  refine SL.gg (ru_load (i := 0) ts35 rfl rfl rfl rfl) ?_
  have hB31 := hB29.pullD 2
  refine SL.callg (ζ := Nat → Prop) (fun Gw30 => iw ((pullD aw11 2).1)) (fun Gw30 => [rG g d0 d1 wd e0 e1 vd ((postF wi0 false 0 [120]).2) 0 0 0 41, rWp wd d0 d1 Gw30 aw12, rWq vd e0 e1 Gq3 aw0, rFz b1 [Value.int .u8 120] 5, rMine (.slice q11 ((seeD aw3 0 1).1.f).length c12) ((seeD aw3 0 1).1.f) 5, rBlk b13 [Value.slice q11 (((seeD aw3 0 1).1.f).length) c12, bo ((seeD aw3 0 1).1.bad), iw ((seeD aw3 0 1).1.tick)] 46]) (fun Gw30 => ∀ b, Gw30 b → False ∨ w.heap.size ≤ b) rfl rfl rfl rfl co21 rfl rfl rfl (lt_b rfl) (fun w5 hI => (rw_pull hB29 (by omega) (hI.1.get (i := 1) rfl) 2).mono fun e w2 ⟨h1, kz⟩ => by obtain ⟨G9, k1, k2⟩ := hI.rto (i := 1) rfl hGw28 kz; exact ⟨G9, h1, k1, k2⟩) ?_
  intro Gw30 hGw30
  refine SL.gg (ru_eq (b := true) rfl rfl rfl (by decide +kernel)) ?_
  refine SL.pk (bo true) (bo false) ?_
  refine SL.as ?_
  refine SL.nl ?_
  refine SC.ret ?_
  refine SE.res (.inl rfl) (res1 Try.results7 rfl) fun w1 hI => ⟨rfl, hI.2⟩

end Go.Proofs.Ytcilikkljkdceaa

/-
  What the laws of the wire begin with.
-/
namespace Go.Proofs.Ytcilikkljkdceaa
open Go.RowKit
set_option maxRecDepth 100000
set_option maxHeartbeats 4000000
theorem rn0 : Rn 0 wi0 0 0 0 0 := ⟨wb0, zero16, zero16, zero16, zero16⟩
end Go.Proofs.Ytcilikkljkdceaa

/-
  Moving a frame, and damaging one twice: plain; bytes that no longer change, beside anything.
-/
namespace Go.Proofs.Ytcilikkljkdceaa
open Go.RowKit
section
variable {S T : Wi} {k to bit : Int} {x : Fm}
theorem there_is (l : List Fm) (k : Int) : thereF l k = if 0 ≤ k ∧ k < l.length then 0 else 7 := by
  unfold thereF
  by_cases h : 0 ≤ k ∧ k < l.length
  · rw [if_pos h, if_neg (by simp; omega)]
  · rw [if_neg h, if_pos (by simp; omega)]
theorem move_cases (S : Wi) (k to : Int) : (¬ (0 ≤ k ∧ k < S.L0.length ∧ 0 ≤ to ∧ to < S.L0.length) ∧ (moveD S 0 k to).1 ≠ 0 ∧ (moveD S 0 k to).2 = S) ∨
    ∃ x, (0 ≤ k ∧ k < S.L0.length ∧ 0 ≤ to ∧ to < S.L0.length) ∧ S.L0[k.toNat]? = some x ∧ moveD S 0 k to = (0, S.setL false (insF (outF S.L0 k) to x)) := by
  have e : moveD S 0 k to = moveF S false k to := rfl
  rw [e]
  unfold moveF
  rw [show S.L false = S.L0 from rfl, there_is]
  by_cases h1 : 0 ≤ k ∧ k < S.L0.length
  · rw [if_pos h1, if_neg (by decide)]
    by_cases h2 : 0 ≤ to ∧ to < S.L0.length
    · rw [if_neg (by simp; omega)]
      have hk : k.toNat < S.L0.length := by omega
      refine .inr ⟨S.L0[k.toNat], by omega, List.getElem?_eq_getElem hk, ?_⟩
      rw [List.getD_eq_getElem?_getD, List.getElem?_eq_getElem hk]; rfl
    · rw [if_pos (by simp; omega)]
      exact .inl ⟨by omega, show (1 : Int) ≠ 0 by decide, rfl⟩
  · rw [if_neg h1, if_pos (by decide)]
    exact .inl ⟨by omega, show (7 : Int) ≠ 0 by decide, rfl⟩
theorem move_tells (S : Wi) (k to : Int) : (((moveD S 0 k to).1 == 0) != (((decide (0 ≤ k) && decide (k < (S.L0.length : Int))) && decide (0 ≤ to)) && decide (to < (S.L0.length : Int)))) = false := by
  rcases move_cases S k to with ⟨h, h1, _⟩ | ⟨x, h, _, e⟩
  · have e1 : ((moveD S 0 k to).1 == 0) = false := by simpa using h1
    rw [e1]
    simp only [bne_eq_false_iff_eq]
    rw [Eq.comm, Bool.eq_false_iff]
    intro hc
    simp at hc
    omega
  · rw [e]
    simp only [bne_eq_false_iff_eq]
    rw [Eq.comm]
    simp
    omega
theorem ins_at {l : List Fm} {to : Int} {x : Fm} (h0 : 0 ≤ to) (h1 : to ≤ l.length) : (insF l to x)[to.toNat]? = some x := by
  unfold insF
  rw [List.getElem?_append_right (by rw [List.length_take]; omega), List.length_take, show to.toNat - min to.toNat l.length = 0 by omega]
  rfl
theorem move_len (S : Wi) (k to : Int) : (moveD S 0 k to).2.L0.length = S.L0.length := by
  rcases move_cases S k to with ⟨_, _, e⟩ | ⟨x, h, _, e⟩
  · rw [e]
  · rw [e]
    show (insF (outF S.L0 k) to x).length = _
    have := out_len (l := S.L0) h.1 h.2.1
    rw [ins_len h.2.2.1 (by omega)]
    omega
theorem move_in (h : (moveD S 0 k to).1 = 0) : ∃ x, S.L0[k.toNat]? = some x ∧ 0 ≤ k ∧ k < S.L0.length ∧ 0 ≤ to ∧ to < S.L0.length ∧ (moveD S 0 k to).2.L0[to.toNat]? = some x := by
  rcases move_cases S k to with ⟨_, h1, _⟩ | ⟨x, h, hx, e⟩
  · exact absurd h h1
  · refine ⟨x, hx, h.1, h.2.1, h.2.2.1, h.2.2.2, ?_⟩
    rw [e]
    have := out_len (l := S.L0) h.1 h.2.1
    exact ins_at h.2.2.1 (by omega)
theorem dam_dam (f : List UInt8) (bit : Int) : damF (damF f bit) bit = f := by
  unfold damF
  by_cases h : bit.toNat / 8 < f.length
  · rw [List.set_set, List.getD_eq_getElem?_getD, List.getD_eq_getElem?_getD, List.getElem?_set_self h, List.getElem?_eq_getElem h]
    simp only [Option.getD_some]
    rw [UInt8.xor_assoc, UInt8.xor_self, UInt8.xor_zero]
    exact List.set_getElem_self h
  · rw [List.set_eq_of_length_le (by rw [List.length_set]; omega), List.set_eq_of_length_le (by omega)]
theorem dam_cases (h0 : 0 ≤ to) (hx : T.L0[to.toNat]? = some x) (bit : Int) : (¬ (0 ≤ bit ∧ bit < 8 * (x.f.length : Int)) ∧ damageD T 0 to bit = (1, T)) ∨
    (0 ≤ bit ∧ bit < 8 * (x.f.length : Int)) ∧ damageD T 0 to bit = (0, T.setL false (T.L0.set to.toNat ⟨damF x.f bit, true, x.tick⟩)) := by
  have hl : to.toNat < T.L0.length := (List.getElem?_eq_some_iff.1 hx).1
  have e : damageD T 0 to bit = damageF T false to bit := rfl
  have eg : T.L0.getD to.toNat fm0 = x := by rw [List.getD_eq_getElem?_getD, hx]; rfl
  rw [e]
  unfold damageF
  have h9 : 0 ≤ to ∧ to < (T.L0.length : Int) := ⟨h0, by omega⟩
  rw [show T.L false = T.L0 from rfl, there_is, if_pos h9, if_neg (by decide), eg]
  by_cases h : 0 ≤ bit ∧ bit < 8 * (x.f.length : Int)
  · rw [if_neg (by simp; omega)]; exact .inr ⟨h, rfl⟩
  · rw [if_pos (by simp; omega)]; exact .inl ⟨h, rfl⟩
theorem dam_tells (h0 : 0 ≤ to) (hx : T.L0[to.toNat]? = some x) (bit : Int) : (((damageD T 0 to bit).1 == 0) != (decide (0 ≤ bit) && decide (bit < 8 * (x.f.length : Int)))) = false := by
  rcases dam_cases h0 hx bit with ⟨h, e⟩ | ⟨h, e⟩
  · rw [e]
    simp only [bne_eq_false_iff_eq]
    rw [show ((1 : Int) == 0) = false from rfl, Eq.comm, Bool.eq_false_iff]
    intro hc
    simp at hc
    omega
  · rw [e]
    simp only [bne_eq_false_iff_eq]
    rw [Eq.comm]
    simp
    omega
theorem dam_twice (h0 : 0 ≤ to) (hx : T.L0[to.toNat]? = some x) (bit : Int) : (damageD (damageD T 0 to bit).2 0 to bit).1 = (damageD T 0 to bit).1 ∧
    ∃ bb, (damageD (damageD T 0 to bit).2 0 to bit).2.L0[to.toNat]? = some ⟨x.f, bb, x.tick⟩ ∧ (bb || ((damageD T 0 to bit).1 != 0)) = true := by
  have hl : to.toNat < T.L0.length := (List.getElem?_eq_some_iff.1 hx).1
  rcases dam_cases h0 hx bit with ⟨h, e⟩ | ⟨h, e⟩
  · rw [e]
    simp only
    rw [e]
    exact ⟨rfl, x.bad, hx, by simp⟩
  · rw [e]
    have hx2 : (T.setL false (T.L0.set to.toNat ⟨damF x.f bit, true, x.tick⟩)).L0[to.toNat]? = some ⟨damF x.f bit, true, x.tick⟩ := List.getElem?_set_self hl
    rcases dam_cases h0 hx2 bit with ⟨h2, _⟩ | ⟨_, e2⟩
    · exact absurd ⟨h.1, by rw [dam_len]; exact h.2⟩ h2
    · rw [e2]
      refine ⟨rfl, true, ?_, rfl⟩
      show ((T.L0.set to.toNat ⟨damF x.f bit, true, x.tick⟩).set to.toNat ⟨damF (damF x.f bit) bit, true, x.tick⟩)[to.toNat]? = _
      rw [dam_dam, List.set_set, List.getElem?_set_self hl]
end
section
variable {X : Cx} {P : Program} {Q : Exit → Act → World → Prop} {ex : Exit} {m : List (Nat × Value)} {w : World} {l : List Res} {F : Nat → Prop} {fs : Value → List UInt8 → Prop} {v : Value} {f : List UInt8} {U : TypeId}
theorem Inv.frz (h : Inv X w (l ++ [rZ F fs, rMine v f U])) (hf : f.length ≤ 1000000) : Inv X w (l ++ [rZ (fun b => F b ∨ v.ownBlock = some b) (fun v' f' => fs v' f' ∨ v' = v ∧ f' = f)]) := by
  have hp := List.pairwise_append.1 h.1.2
  have hm : OwnBytes w 0 U v f := h.1.1 (rMine v f U) (by simp)
  have hz : (rZ F fs).ok w := h.1.1 (rZ F fs) (by simp)
  refine ⟨⟨fun s hs => ?_, List.pairwise_append.2 ⟨hp.1, List.pairwise_singleton _ _, fun a ha b hb => ?_⟩⟩, h.2⟩
  · rcases List.mem_append.1 hs with hs | hs
    · exact h.1.1 s (List.mem_append_left _ hs)
    · obtain rfl := List.mem_singleton.1 hs
      refine ⟨fun b hb => hb.elim (hz.1 b) (fun e => (World.ownsRow.lt hm b e).2), fun v' f' hv => ?_⟩
      rcases hv with hv | ⟨rfl, rfl⟩
      · exact ⟨(hz.2 v' f' hv).1, fun b o n c e hn => .inl ((hz.2 v' f' hv).2 b o n c e hn)⟩
      · exact ⟨OwnBytes.bytes hm (by omega), fun b o n c e hn => .inr (by rw [e]; rfl)⟩
  · obtain rfl := List.mem_singleton.1 hb
    intro c hc hcb
    rcases hcb with hcb | hcb
    · exact hp.2.2 a ha (rZ F fs) (by simp) c hc hcb
    · exact hp.2.2 a ha (rMine v f U) (by simp) c hc hcb
theorem SE.imp {l' : List Res} (hi : ∀ w, Inv X w l → Inv X w l') (h : SE X Q ex m l') : SE X Q ex m l := fun a w hf hI => h a w hf (hi w hI)
end
end Go.Proofs.Ytcilikkljkdceaa

/-
  WireKeeps, walked.
-/
namespace Go.Proofs.Ytcilikkljkdceaa
open Go.RowKit
set_option maxRecDepth 100000
set_option maxHeartbeats 4000000
theorem keeps_walk (w : World) {v : Value} {l : List OpW} (ho : OpsW w v l) (k to bit : Int) (hbit : I64 bit) : Calls Try.prog 5 #[v, iw k, iw to, iw bit] w fun e w' => e = .returned (bo true) ∧ Only (fun _ => False) w w' := by
  obtain ⟨oa, oc, rfl, hlen, hops⟩ := ho
  refine calls_sc (l0 := []) (args := [Value.slice oa l.length oc, iw k, iw to, iw bit]) (fun _ => False) Try.func5 rfl 189 Try.ntmps5 (le_b rfl) ⟨⟨by simp, List.Pairwise.nil⟩, Only.refl _ _⟩ ?_
  show SC _ _ _ _ [(0, Value.slice oa l.length oc), (1, iw k), (2, iw to), (3, iw bit)] []
  refine SC.sr ?_
  refine SL.as ?_
  refine SL.nl ?_
  refine SC.sr ?_
  refine SL.callv (bo true) rfl rfl co7 rfl rfl rfl (lt_b rfl) (fun w hI => H_only hI (awake_any _)) ?_
  refine SL.as ?_
  refine SL.nl ?_
  refine SC.sr ?_
  refine SL.call (ζ := Nat × Nat × Nat × Nat × Nat × Nat × Nat × (Nat → Prop) × (Nat → Prop)) (fun z => pt z.1 0) (fun z => RgL z.1 z.2.1 z.2.2.1 z.2.2.2.1 z.2.2.2.2.1 z.2.2.2.2.2.1 z.2.2.2.2.2.2.1 z.2.2.2.2.2.2.2.1 z.2.2.2.2.2.2.2.2 rg0) (fun z => w.heap.size ≤ z.1 ∧ (∀ b, z.2.2.2.2.2.2.2.1 b → w.heap.size ≤ b) ∧ ∀ b, z.2.2.2.2.2.2.2.2 b → w.heap.size ≤ b) rfl rfl co8 rfl rfl rfl (lt_b rfl) (fun w9 hI => (begun_any w9).mono fun e w2 ⟨g, wd, d0, d1, vd, e0, e1, G1, G2, h1, h2, h3, h4, h5, h6⟩ => ⟨(g, wd, d0, d1, vd, e0, e1, G1, G2), h1, ⟨h2, hI.2.trans' h6 (fun b hb => hb.elim)⟩, Nat.le_trans hI.2.size h3, fun b hb => Nat.le_trans hI.2.size (h4 b hb), fun b hb => Nat.le_trans hI.2.size (h5 b hb)⟩) ?_
  rintro ⟨g, wd, d0, d1, vd, e0, e1, G1, G2⟩ ⟨hgn, hn1, hn2⟩
  dsimp only at hgn hn1 hn2
  have hG1 : ∀ b, G1 b → False ∨ w.heap.size ≤ b := fun b hb => .inr (hn1 b hb)
  have hG2 : ∀ b, G2 b → False ∨ w.heap.size ≤ b := fun b hb => .inr (hn2 b hb)
  refine SL.as ?_
  refine SL.nl ?_
  refine SC.seq ?_
  refine SC.sr ?_
  refine SL.mv ?_
  refine SL.uu (ru_not (c := false) rfl rfl rfl) ?_
  refine SL.mv ?_
  refine SL.gg (ru_move rfl rfl) ?_
  refine SL.gg (ru_eqnil Try.underlying24 rfl rfl rfl rfl) ?_
  refine SL.pk (bo true) (bo false) ?_
  refine SL.nl ?_
  refine SC.no rfl ?_
  refine SC.skip ?_
  refine SC.of_SE ?_
  refine SC.seq ?_
  refine SC.sr ?_
  refine SL.as ?_
  refine SL.nl ?_
  refine SC.block ?_
  clear hn1 hn2
  refine SC.loop (γ := Nat × Wi × Int × Int × Int × Int × (Nat → Prop) × (Nat → Prop)) (fun kn z => [(0, Value.slice oa l.length oc), (1, iw k), (2, iw to), (3, iw bit), (8, bo false), (10, pt g 0), (11, iw (z.1 : Int))]) (fun kn z => [rG g d0 d1 wd e0 e1 vd z.2.2.1 z.2.2.2.1 z.2.2.2.2.1 z.2.2.2.2.2.1 41, rWp wd d0 d1 z.2.2.2.2.2.2.1 z.2.1, rWq vd e0 e1 z.2.2.2.2.2.2.2 z.2.1]) (fun kn z => kn + z.1 = l.length ∧ Rn z.1 z.2.1 z.2.2.1 z.2.2.2.1 z.2.2.2.2.1 z.2.2.2.2.2.1 ∧ (∀ b, z.2.2.2.2.2.2.1 b → False ∨ w.heap.size ≤ b) ∧ ∀ b, z.2.2.2.2.2.2.2 b → False ∨ w.heap.size ≤ b) l.length (0, wi0, 0, 0, 0, 0, G1, G2) ⟨rfl, rn0, hG1, hG2⟩ ⟨rfl, rfl, rfl, rfl, rfl, rfl, rfl, trivial⟩ rfl ?_
  clear hG1 hG2
  clear G1 G2
  rintro N ⟨i, S, t0, t1, f0, f1, G1, G2⟩ ⟨hn, hR, hG1, hG2⟩
  dsimp only at hn hR hG1 hG2
  rcases N with _ | N
  · skip
    refine SC.seq ?_
    refine SC.sr ?_
    refine SL.mv ?_
    refine SL.mv ?_
    refine SL.uu (ru_len Try.underlying22 rfl rfl) ?_
    refine SL.uu (ru_lt (b := (decide (((i : Int) : Int) < (l.length : Int)))) rfl rfl rfl rfl) ?_
    refine SL.nl ?_
    refine SC.no (show some (Value.bool (decide (((i : Int) : Int) < (l.length : Int)))) = some (Value.bool false) from congrArg (fun x => some (Value.bool x)) (decide_eq_false (by omega))) ?_
    refine SC.exit ?_
    refine SE.passe ?_
    refine SE.passe ?_
    refine SE.blke ?_
    refine SC.of_SE ?_
    refine SC.sr ?_
    refine SL.mv ?_
    refine SL.nk ?_
    refine SL.fa 2 fd41_1 ?_
    refine SL.ld 0 ts35 ?_
    refine SL.callv (iw (S.L0.length : Int)) rfl rfl co20 rfl rfl rfl (lt_b rfl) (fun w hI => H_only hI (rw_len (hI.1.get (i := 1) rfl) 0)) ?_
    refine SL.as ?_
    refine SL.nl ?_
    refine SC.sr ?_
    refine SL.as ?_
    refine SL.nl ?_
    refine SC.seq ?_
    refine SC.sr ?_
    refine SL.as ?_
    refine SL.nl ?_
    refine SC.block ?_
    refine SC.rows (rRowN (.slice none 0 0) (oRows []) 46 3) (fun b hb => by cases hb) (fun w => rowN_nil w 46 3) ?_
    refine SC.rows (rZ (fun _ => False) (fun _ _ => False)) (fun b hb => hb) (fun w => ⟨fun b hb => hb.elim, fun v f hv => hv.elim⟩) ?_
    have hlN : S.L0.length ≤ l.length := by have := hR.wb.l0.1; omega
    refine SC.loop (γ := List FmV × Option Addr × Nat × (Nat → Prop) × (Value → List UInt8 → Prop)) (fun kn z => [(1, iw k), (2, iw to), (3, iw bit), (8, bo false), (10, pt g 0), (12, iw (S.L0.length : Int)), (13, Value.slice z.2.1 z.1.length z.2.2.1), (14, iw (z.1.length : Int))]) (fun kn z => [rG g d0 d1 wd e0 e1 vd t0 t1 f0 f1 41, rWp wd d0 d1 G1 S, rWq vd e0 e1 G2 S, rRowN (.slice z.2.1 z.1.length z.2.2.1) (oRows z.1) 46 3, rZ z.2.2.2.1 z.2.2.2.2]) (fun kn z => kn + z.1.length = S.L0.length ∧ z.1.map FmV.fr = S.L0.take z.1.length ∧ (∀ x ∈ z.1, z.2.2.2.2 x.v x.fr.f) ∧ (∀ x ∈ z.1, ∃ a c, x.v = .slice a x.fr.f.length c) ∧ ∀ b, (Value.slice z.2.1 z.1.length z.2.2.1).ownBlock = some b → False ∨ w.heap.size ≤ b) S.L0.length ([], none, 0, (fun _ => False), fun _ _ => False) ⟨rfl, rfl, fun _ h => by simp at h, fun _ h => by simp at h, fun b h => by cases h⟩ ⟨rfl, rfl, rfl, rfl, rfl, rfl, rfl, rfl, trivial⟩ rfl ?_
    rintro K ⟨ps, q, c, F, fs⟩ ⟨hK, hps, hfs, hvs, hqb⟩
    dsimp only at hK hps hfs hvs hqb
    rcases K with _ | K
    · skip
      have hpl : ps.length = S.L0.length := by omega
      rw [hpl, List.take_length] at hps
      refine SC.seq ?_
      refine SC.sr ?_
      refine SL.mv ?_
      refine SL.mv ?_
      refine SL.uu (ru_lt (b := (decide (((ps.length : Int) : Int) < (S.L0.length : Int)))) rfl rfl rfl rfl) ?_
      refine SL.nl ?_
      refine SC.no (show some (Value.bool (decide (((ps.length : Int) : Int) < (S.L0.length : Int)))) = some (Value.bool false) from congrArg (fun x => some (Value.bool x)) (decide_eq_false (by omega))) ?_
      refine SC.exit ?_
      refine SE.passe ?_
      refine SE.passe ?_
      refine SE.blke ?_
      refine SC.of_SE ?_
      refine SC.sr ?_
      refine SL.mv ?_
      refine SL.nk ?_
      refine SL.fa 2 fd41_1 ?_
      refine SL.ld 0 ts35 ?_
      refine SL.mv ?_
      refine SL.mv ?_
      have hB2 := hR.wb.moveD 0 k to
      refine SL.call (ζ := Nat → Prop) (fun Gw1 => iw ((moveD S 0 k to).1)) (fun Gw1 => [rG g d0 d1 wd e0 e1 vd t0 t1 f0 f1 41, rWp wd d0 d1 Gw1 ((moveD S 0 k to).2), rWq vd e0 e1 G2 S, rRowN (.slice q ps.length c) (oRows ps) 46 3, rZ F fs]) (fun Gw1 => ∀ b, Gw1 b → False ∨ w.heap.size ≤ b) rfl rfl co22 rfl rfl rfl (lt_b rfl) (fun w5 hI => (rw_move hR.wb (by omega) (hI.1.get (i := 1) rfl) 0 k to).mono fun e w2 ⟨h1, kz⟩ => by obtain ⟨G9, k1, k2⟩ := hI.rto (i := 1) rfl hG1 kz; exact ⟨G9, h1, k1, k2⟩) ?_
      intro Gw1 hGw1
      refine SL.as ?_
      refine SL.nl ?_
      refine SC.seq ?_
      refine SC.sr ?_
      refine SL.mv ?_
      refine SL.uu (ru_eq (b := ((((moveD S 0 k to).1) : Int) == 0)) rfl rfl rfl rfl) ?_
      refine SL.mv ?_
      refine SL.uu (ru_ge (b := (decide ((0 : Int) ≤ k))) rfl rfl rfl rfl) ?_
      refine SL.mv ?_
      refine SL.join 4 [(1, iw k), (2, iw to), (3, iw bit), (8, bo false), (10, pt g 0), (12, iw (S.L0.length : Int)), (13, Value.slice q ps.length c), (17, iw ((moveD S 0 k to).1)), (74, iw ((moveD S 0 k to).1)), (75, bo ((((moveD S 0 k to).1) : Int) == 0)), (76, iw k), (77, bo (decide ((0 : Int) ≤ k))), (78, bo (decide ((0 : Int) ≤ k))), (82, bo ((decide ((0 : Int) ≤ k)) && (decide ((k : Int) < (S.L0.length : Int)))))] [rG g d0 d1 wd e0 e1 vd t0 t1 f0 f1 41, rWp wd d0 d1 Gw1 ((moveD S 0 k to).2), rWq vd e0 e1 G2 S, rRowN (.slice q ps.length c) (oRows ps) 46 3, rZ F fs] ?_ ?_
      rotate_left
      · intro K hK
        rcases tf (decide ((0 : Int) ≤ k)) with h3 | h3
        · skip
          refine SL.norm [(1, iw k), (2, iw to), (3, iw bit), (8, bo false), (10, pt g 0), (12, iw (S.L0.length : Int)), (13, Value.slice q ps.length c), (17, iw ((moveD S 0 k to).1)), (74, iw ((moveD S 0 k to).1)), (75, bo ((((moveD S 0 k to).1) : Int) == 0)), (76, iw k), (77, bo true), (78, bo true)] _ ⟨rfl, rfl, rfl, rfl, rfl, rfl, rfl, rfl, rfl, rfl, rfl, (congrArg (fun x => some (Value.bool x)) h3), (congrArg (fun x => some (Value.bool x)) h3), trivial⟩ rfl ?_
          refine SL.gg (ru_move rfl rfl) ?_
          refine SL.gg (ru_move rfl rfl) ?_
          refine SL.gg (ru_lt (b := (decide ((k : Int) < (S.L0.length : Int)))) rfl rfl rfl rfl) ?_
          refine SL.pk (bo (decide ((k : Int) < (S.L0.length : Int)))) (bo false) ?_
          exact SL.joined hK ⟨rfl, rfl, rfl, rfl, rfl, rfl, rfl, rfl, rfl, rfl, rfl, (congrArg (fun x => some (Value.bool x)) h3.symm), (congrArg (fun x => some (Value.bool x)) h3.symm), (congrArg (fun bx => some (Value.bool (bx && (decide ((k : Int) < (S.L0.length : Int)))))) h3.symm), trivial⟩ rfl
        refine SL.norm [(1, iw k), (2, iw to), (3, iw bit), (8, bo false), (10, pt g 0), (12, iw (S.L0.length : Int)), (13, Value.slice q ps.length c), (17, iw ((moveD S 0 k to).1)), (74, iw ((moveD S 0 k to).1)), (75, bo ((((moveD S 0 k to).1) : Int) == 0)), (76, iw k), (77, bo false), (78, bo false)] _ ⟨rfl, rfl, rfl, rfl, rfl, rfl, rfl, rfl, rfl, rfl, rfl, (congrArg (fun x => some (Value.bool x)) h3), (congrArg (fun x => some (Value.bool x)) h3), trivial⟩ rfl ?_
        refine SL.oo ?_
        refine SL.oo ?_
        refine SL.oo ?_
        refine SL.pk (undef) (bo false) ?_
        exact SL.joined hK ⟨rfl, rfl, rfl, rfl, rfl, rfl, rfl, rfl, rfl, rfl, rfl, (congrArg (fun x => some (Value.bool x)) h3.symm), (congrArg (fun x => some (Value.bool x)) h3.symm), (congrArg (fun bx => some (Value.bool (bx && (decide ((k : Int) < (S.L0.length : Int)))))) h3.symm), trivial⟩ rfl
      skip
      refine SL.mv ?_
      refine SL.join 3 [(1, iw k), (2, iw to), (3, iw bit), (8, bo false), (10, pt g 0), (12, iw (S.L0.length : Int)), (13, Value.slice q ps.length c), (17, iw ((moveD S 0 k to).1)), (74, iw ((moveD S 0 k to).1)), (75, bo ((((moveD S 0 k to).1) : Int) == 0)), (76, iw k), (77, bo (decide ((0 : Int) ≤ k))), (78, bo (decide ((0 : Int) ≤ k))), (82, bo ((decide ((0 : Int) ≤ k)) && (decide ((k : Int) < (S.L0.length : Int))))), (83, bo ((decide ((0 : Int) ≤ k)) && (decide ((k : Int) < (S.L0.length : Int))))), (86, bo (((decide ((0 : Int) ≤ k)) && (decide ((k : Int) < (S.L0.length : Int)))) && (decide ((0 : Int) ≤ to))))] [rG g d0 d1 wd e0 e1 vd t0 t1 f0 f1 41, rWp wd d0 d1 Gw1 ((moveD S 0 k to).2), rWq vd e0 e1 G2 S, rRowN (.slice q ps.length c) (oRows ps) 46 3, rZ F fs] ?_ ?_
      rotate_left
      · intro K hK
        rcases tf ((decide ((0 : Int) ≤ k)) && (decide ((k : Int) < (S.L0.length : Int)))) with h4 | h4
        · skip
          refine SL.norm [(1, iw k), (2, iw to), (3, iw bit), (8, bo false), (10, pt g 0), (12, iw (S.L0.length : Int)), (13, Value.slice q ps.length c), (17, iw ((moveD S 0 k to).1)), (74, iw ((moveD S 0 k to).1)), (75, bo ((((moveD S 0 k to).1) : Int) == 0)), (76, iw k), (77, bo (decide ((0 : Int) ≤ k))), (78, bo (decide ((0 : Int) ≤ k))), (82, bo true), (83, bo true)] _ ⟨rfl, rfl, rfl, rfl, rfl, rfl, rfl, rfl, rfl, rfl, rfl, rfl, rfl, (congrArg (fun x => some (Value.bool x)) h4), (congrArg (fun x => some (Value.bool x)) h4), trivial⟩ rfl ?_
          refine SL.gg (ru_move rfl rfl) ?_
          refine SL.gg (ru_ge (b := (decide ((0 : Int) ≤ to))) rfl rfl rfl rfl) ?_
          refine SL.pk (bo (decide ((0 : Int) ≤ to))) (bo false) ?_
          exact SL.joined hK ⟨rfl, rfl, rfl, rfl, rfl, rfl, rfl, rfl, rfl, rfl, rfl, rfl, rfl, (congrArg (fun x => some (Value.bool x)) h4.symm), (congrArg (fun x => some (Value.bool x)) h4.symm), (congrArg (fun bx => some (Value.bool (bx && (decide ((0 : Int) ≤ to))))) h4.symm), trivial⟩ rfl
        refine SL.norm [(1, iw k), (2, iw to), (3, iw bit), (8, bo false), (10, pt g 0), (12, iw (S.L0.length : Int)), (13, Value.slice q ps.length c), (17, iw ((moveD S 0 k to).1)), (74, iw ((moveD S 0 k to).1)), (75, bo ((((moveD S 0 k to).1) : Int) == 0)), (76, iw k), (77, bo (decide ((0 : Int) ≤ k))), (78, bo (decide ((0 : Int) ≤ k))), (82, bo false), (83, bo false)] _ ⟨rfl, rfl, rfl, rfl, rfl, rfl, rfl, rfl, rfl, rfl, rfl, rfl, rfl, (congrArg (fun x => some (Value.bool x)) h4), (congrArg (fun x => some (Value.bool x)) h4), trivial⟩ rfl ?_
        refine SL.oo ?_
        refine SL.oo ?_
        refine SL.pk (undef) (bo false) ?_
        exact SL.joined hK ⟨rfl, rfl, rfl, rfl, rfl, rfl, rfl, rfl, rfl, rfl, rfl, rfl, rfl, (congrArg (fun x => some (Value.bool x)) h4.symm), (congrArg (fun x => some (Value.bool x)) h4.symm), (congrArg (fun bx => some (Value.bool (bx && (decide ((0 : Int) ≤ to))))) h4.symm), trivial⟩ rfl
      skip
      refine SL.mv ?_
      refine SL.join 4 [(1, iw k), (2, iw to), (3, iw bit), (8, bo false), (10, pt g 0), (12, iw (S.L0.length : Int)), (13, Value.slice q ps.length c), (17, iw ((moveD S 0 k to).1)), (74, iw ((moveD S 0 k to).1)), (75, bo ((((moveD S 0 k to).1) : Int) == 0)), (76, iw k), (77, bo (decide ((0 : Int) ≤ k))), (78, bo (decide ((0 : Int) ≤ k))), (82, bo ((decide ((0 : Int) ≤ k)) && (decide ((k : Int) < (S.L0.length : Int))))), (83, bo ((decide ((0 : Int) ≤ k)) && (decide ((k : Int) < (S.L0.length : Int))))), (86, bo (((decide ((0 : Int) ≤ k)) && (decide ((k : Int) < (S.L0.length : Int)))) && (decide ((0 : Int) ≤ to)))), (87, bo (((decide ((0 : Int) ≤ k)) && (decide ((k : Int) < (S.L0.length : Int)))) && (decide ((0 : Int) ≤ to)))), (91, bo ((((decide ((0 : Int) ≤ k)) && (decide ((k : Int) < (S.L0.length : Int)))) && (decide ((0 : Int) ≤ to))) && (decide ((to : Int) < (S.L0.length : Int)))))] [rG g d0 d1 wd e0 e1 vd t0 t1 f0 f1 41, rWp wd d0 d1 Gw1 ((moveD S 0 k to).2), rWq vd e0 e1 G2 S, rRowN (.slice q ps.length c) (oRows ps) 46 3, rZ F fs] ?_ ?_
      rotate_left
      · intro K hK
        rcases tf (((decide ((0 : Int) ≤ k)) && (decide ((k : Int) < (S.L0.length : Int)))) && (decide ((0 : Int) ≤ to))) with h5 | h5
        · skip
          refine SL.norm [(1, iw k), (2, iw to), (3, iw bit), (8, bo false), (10, pt g 0), (12, iw (S.L0.length : Int)), (13, Value.slice q ps.length c), (17, iw ((moveD S 0 k to).1)), (74, iw ((moveD S 0 k to).1)), (75, bo ((((moveD S 0 k to).1) : Int) == 0)), (76, iw k), (77, bo (decide ((0 : Int) ≤ k))), (78, bo (decide ((0 : Int) ≤ k))), (82, bo ((decide ((0 : Int) ≤ k)) && (decide ((k : Int) < (S.L0.length : Int))))), (83, bo ((decide ((0 : Int) ≤ k)) && (decide ((k : Int) < (S.L0.length : Int))))), (86, bo true), (87, bo true)] _ ⟨rfl, rfl, rfl, rfl, rfl, rfl, rfl, rfl, rfl, rfl, rfl, rfl, rfl, rfl, rfl, (congrArg (fun x => some (Value.bool x)) h5), (congrArg (fun x => some (Value.bool x)) h5), trivial⟩ rfl ?_
          refine SL.gg (ru_move rfl rfl) ?_
          refine SL.gg (ru_move rfl rfl) ?_
          refine SL.gg (ru_lt (b := (decide ((to : Int) < (S.L0.length : Int)))) rfl rfl rfl rfl) ?_
          refine SL.pk (bo (decide ((to : Int) < (S.L0.length : Int)))) (bo false) ?_
          exact SL.joined hK ⟨rfl, rfl, rfl, rfl, rfl, rfl, rfl, rfl, rfl, rfl, rfl, rfl, rfl, rfl, rfl, (congrArg (fun x => some (Value.bool x)) h5.symm), (congrArg (fun x => some (Value.bool x)) h5.symm), (congrArg (fun bx => some (Value.bool (bx && (decide ((to : Int) < (S.L0.length : Int)))))) h5.symm), trivial⟩ rfl
        refine SL.norm [(1, iw k), (2, iw to), (3, iw bit), (8, bo false), (10, pt g 0), (12, iw (S.L0.length : Int)), (13, Value.slice q ps.length c), (17, iw ((moveD S 0 k to).1)), (74, iw ((moveD S 0 k to).1)), (75, bo ((((moveD S 0 k to).1) : Int) == 0)), (76, iw k), (77, bo (decide ((0 : Int) ≤ k))), (78, bo (decide ((0 : Int) ≤ k))), (82, bo ((decide ((0 : Int) ≤ k)) && (decide ((k : Int) < (S.L0.length : Int))))), (83, bo ((decide ((0 : Int) ≤ k)) && (decide ((k : Int) < (S.L0.length : Int))))), (86, bo false), (87, bo false)] _ ⟨rfl, rfl, rfl, rfl, rfl, rfl, rfl, rfl, rfl, rfl, rfl, rfl, rfl, rfl, rfl, (congrArg (fun x => some (Value.bool x)) h5), (congrArg (fun x => some (Value.bool x)) h5), trivial⟩ rfl ?_
        refine SL.oo ?_
        refine SL.oo ?_
        refine SL.oo ?_
        refine SL.pk (undef) (bo false) ?_
        exact SL.joined hK ⟨rfl, rfl, rfl, rfl, rfl, rfl, rfl, rfl, rfl, rfl, rfl, rfl, rfl, rfl, rfl, (congrArg (fun x => some (Value.bool x)) h5.symm), (congrArg (fun x => some (Value.bool x)) h5.symm), (congrArg (fun bx => some (Value.bool (bx && (decide ((to : Int) < (S.L0.length : Int)))))) h5.symm), trivial⟩ rfl
      skip
      refine SL.uu (ru_neb (b := (!(((((moveD S 0 k to).1) : Int) == 0) == ((((decide ((0 : Int) ≤ k)) && (decide ((k : Int) < (S.L0.length : Int)))) && (decide ((0 : Int) ≤ to))) && (decide ((to : Int) < (S.L0.length : Int))))))) Try.underlying4 rfl rfl rfl rfl) ?_
      refine SL.mv ?_
      refine SL.norm [(1, iw k), (2, iw to), (3, iw bit), (8, bo false), (10, pt g 0), (12, iw (S.L0.length : Int)), (13, Value.slice q ps.length c), (17, iw ((moveD S 0 k to).1)), (74, iw ((moveD S 0 k to).1)), (75, bo ((((moveD S 0 k to).1) : Int) == 0)), (76, iw k), (77, bo (decide ((0 : Int) ≤ k))), (78, bo (decide ((0 : Int) ≤ k))), (82, bo ((decide ((0 : Int) ≤ k)) && (decide ((k : Int) < (S.L0.length : Int))))), (83, bo ((decide ((0 : Int) ≤ k)) && (decide ((k : Int) < (S.L0.length : Int))))), (86, bo (((decide ((0 : Int) ≤ k)) && (decide ((k : Int) < (S.L0.length : Int)))) && (decide ((0 : Int) ≤ to)))), (87, bo (((decide ((0 : Int) ≤ k)) && (decide ((k : Int) < (S.L0.length : Int)))) && (decide ((0 : Int) ≤ to)))), (91, bo ((((decide ((0 : Int) ≤ k)) && (decide ((k : Int) < (S.L0.length : Int)))) && (decide ((0 : Int) ≤ to))) && (decide ((to : Int) < (S.L0.length : Int))))), (92, bo false), (93, bo false)] _ ⟨rfl, rfl, rfl, rfl, rfl, rfl, rfl, rfl, rfl, rfl, rfl, rfl, rfl, rfl, rfl, rfl, rfl, rfl, (congrArg (fun bx => some (Value.bool bx)) (show (!(((((moveD S 0 k to).1) : Int) == 0) == ((((decide ((0 : Int) ≤ k)) && (decide ((k : Int) < (S.L0.length : Int)))) && (decide ((0 : Int) ≤ to))) && (decide ((to : Int) < (S.L0.length : Int)))))) = false from (move_tells S k to))), (congrArg (fun bx => some (Value.bool bx)) (show (!(((((moveD S 0 k to).1) : Int) == 0) == ((((decide ((0 : Int) ≤ k)) && (decide ((k : Int) < (S.L0.length : Int)))) && (decide ((0 : Int) ≤ to))) && (decide ((to : Int) < (S.L0.length : Int)))))) = false from (move_tells S k to))), trivial⟩ rfl ?_
      refine SL.gg (ru_move rfl rfl) ?_
      refine SL.gg (ru_nilCheck rfl rfl) ?_
      refine SL.gg (ru_fieldAddr (o2 := 2) fd41_1 rfl rfl rfl) ?_
      refine SL.gg (ru_load (i := 0) ts35 rfl rfl rfl rfl) ?_
      refine SL.callvg (iw (((moveD S 0 k to).2).L0.length : Int)) rfl rfl rfl rfl co20 rfl rfl rfl (lt_b rfl) (fun w hI => H_only hI (rw_len (hI.1.get (i := 1) rfl) 0)) ?_
      refine SL.gg (ru_move rfl rfl) ?_
      refine SL.gg (ru_ne (b := false) rfl rfl rfl ((by rw [move_len]; simp))) ?_
      refine SL.pk (bo true) (bo false) ?_
      refine SL.nl ?_
      refine SC.no rfl ?_
      refine SC.skip ?_
      refine SC.of_SE ?_
      refine SC.seq ?_
      refine SC.sr ?_
      refine SL.mv ?_
      refine SL.uu (ru_ne (b := ((((moveD S 0 k to).1) : Int) != 0)) rfl rfl rfl rfl) ?_
      refine SL.nl ?_
      refine SC.both ((((moveD S 0 k to).1) : Int) != 0) rfl (fun h6 => ?_) (fun h6 => ?_)
      · skip
        refine SC.sr ?_
        refine SL.as ?_
        refine SL.nl ?_
        refine SC.ret ?_
        refine SE.passr ?_
        refine SE.res (.inl rfl) (res1 Try.results5 rfl) fun w1 hI => ⟨rfl, hI.2⟩
      refine SC.skip ?_
      refine SC.of_SE ?_
      refine SC.seq ?_
      obtain ⟨x, hx, hk0, hk1, hto0, hto1, hx2⟩ := move_in (S := S) (k := k) (to := to) (Classical.byContradiction fun hc => ne_f h6 hc)
      have hxl : x.f.length ≤ 274 := (hR.wb.l0.2 x (List.mem_of_getElem? hx)).1
      have es : seeD ((moveD S 0 k to).2) 0 to = (x, 0) := see_in (b := false) hto0 hx2
      obtain ⟨v, hpx⟩ : ∃ v, ps[k.toNat]? = some ⟨v, x⟩ := psx hps hx
      obtain ⟨xa, xc, hxv⟩ := hvs _ (List.mem_of_getElem? hpx)
      have hxf : fs v x.f := hfs _ (List.mem_of_getElem? hpx)
      dsimp only at hxv
      subst hxv
      have hbm : bit ≤ 9223372036854775807 := hbit.2
      obtain ⟨hd2, bb, hx4, hbb⟩ := dam_twice hto0 hx2 bit
      have es4 : seeD ((damageD ((damageD ((moveD S 0 k to).2) 0 to bit).2) 0 to bit).2) 0 to = (⟨x.f, bb, x.tick⟩, 0) := see_in (b := false) hto0 hx4
      refine SC.region ?_
      refine SL.mv ?_
      refine SL.nk ?_
      refine SL.fa 2 fd41_1 ?_
      refine SL.ld 0 ts35 ?_
      refine SL.mv ?_
      refine SL.call (ζ := Option Addr × Nat) (fun z => Value.tuple #[Value.agg #[Value.slice z.1 x.f.length z.2, bo x.bad, iw x.tick], iw 0]) (fun z => [rG g d0 d1 wd e0 e1 vd t0 t1 f0 f1 41, rWp wd d0 d1 Gw1 ((moveD S 0 k to).2), rWq vd e0 e1 G2 S, rRowN (.slice q ps.length c) (oRows ps) 46 3, rZ F fs] ++ [rMine (.slice z.1 x.f.length z.2) x.f 5]) (fun z => ∀ b, (Value.slice z.1 x.f.length z.2).ownBlock = some b → False ∨ w.heap.size ≤ b) rfl rfl co13 rfl rfl rfl (lt_b rfl) (fun w5 hI => (rw_see_at hB2 (hI.1.get (i := 1) rfl) es).mono fun e w2 ⟨q, c, h1, h2, h3, h4⟩ => ⟨(q, c), h1, hI.add (r := rMine (.slice q x.f.length c) x.f 5) h4 h2 h3, fun b hb => .inr (Nat.le_trans hI.2.size (h3 b hb))⟩) ?_
      rintro ⟨q7, c8⟩ hoq7
      dsimp only at hoq7
      refine SL.mv ?_
      refine SL.uu (ru_extract rfl rfl rfl) ?_
      refine SL.uu (ru_extract rfl rfl rfl) ?_
      refine SL.alloca rfl rfl (lt_b rfl) ta46 rfl fun b9 hb9 => ?_
      refine SL.storea (i := 6) (vs := [Value.slice q7 x.f.length c8, bo x.bad, iw x.tick]) (c' := [Value.slice q7 x.f.length c8, bo x.bad, iw x.tick]) rfl rfl ta46 rfl rfl rfl rfl rfl rfl (le_b rfl) (.inr hb9) rfl ?_
      refine SL.as ?_
      refine SL.nl ?_
      refine SC.seq ?_
      refine SC.seq ?_
      refine SC.region_quiet (by kernel_rfl) (by kernel_rfl) ?_
      refine SQ.fa 0 fd46_0 ?_
      refine SQ.ld 6 ts28 ?_
      refine SQ.uu (ru_str (f := x.f) Try.underlying28 Try.underlying5 Try.underlying9 rfl rfl (fun w hI => mine_bytesw hI (j := 5) rfl (by omega))) ?_
      refine SQ.mv ?_
      refine SQ.mv ?_
      refine SQ.uu (ru_index_rowN (ri := 3) si56 rfl rfl rfl rfl (by omega) (by omega)) ?_
      refine SQ.uu (ru_fieldAddr (o2 := k.toNat * 3 + 0) fd46_0 rfl rfl rfl) ?_
      refine SQ.uu (ru_load_rowN (ri := 3) (i := k.toNat) (k := 0) (r := [Value.slice xa x.f.length xc, bo x.bad, iw x.tick]) ts28 rfl rfl rfl (by show (ps.map FmV.row)[_]? = _; rw [List.getElem?_map, hpx]; rfl) (by decide) rfl) ?_
      refine SQ.uu (ru_str (f := x.f) Try.underlying28 Try.underlying5 Try.underlying9 rfl rfl (fun w hI => ((hI.1.get (i := 4) rfl).2 _ _ hxf).1)) ?_
      refine SQ.uu (ru_strne (f := x.f) (h := x.f) (b := false) Try.underlying9 rfl rfl rfl (by simp)) ?_
      refine SQ.mv ?_
      refine SQ.rug rfl rfl rfl rfl (lt_b rfl) (ru_fieldAddr (o2 := 2) fd46_2 rfl rfl rfl) ?_
      refine SQ.rug rfl rfl rfl rfl (lt_b rfl) (ru_load (i := 6) ts3 rfl rfl rfl rfl) ?_
      refine SQ.rug rfl rfl rfl rfl (lt_b rfl) (ru_move rfl rfl) ?_
      refine SQ.rug rfl rfl rfl rfl (lt_b rfl) (ru_move rfl rfl) ?_
      refine SQ.rug rfl rfl rfl rfl (lt_b rfl) (ru_index_rowN (ri := 3) si56 rfl rfl rfl rfl (by omega) (by omega)) ?_
      refine SQ.rug rfl rfl rfl rfl (lt_b rfl) (ru_fieldAddr (o2 := k.toNat * 3 + 2) fd46_2 rfl rfl rfl) ?_
      refine SQ.rug rfl rfl rfl rfl (lt_b rfl) (ru_load_rowN (ri := 3) (i := k.toNat) (k := 2) (r := [Value.slice xa x.f.length xc, bo x.bad, iw x.tick]) ts3 rfl rfl rfl (by show (ps.map FmV.row)[_]? = _; rw [List.getElem?_map, hpx]; rfl) (by decide) rfl) ?_
      refine SQ.rug rfl rfl rfl rfl (lt_b rfl) (ru_ne (b := false) rfl rfl rfl ((by simp))) ?_
      refine SQ.uu (ru_pick (u := bo true) (v := bo false) rfl rfl rfl rfl) ?_
      refine SQ.nilE ?_
      refine SC.of_SE ?_
      refine SC.no rfl ?_
      refine SC.skip ?_
      refine SC.of_SE ?_
      refine SC.sr ?_
      refine SL.mv ?_
      refine SL.nk ?_
      refine SL.fa 2 fd41_1 ?_
      refine SL.ld 0 ts35 ?_
      refine SL.mv ?_
      refine SL.mv ?_
      have hB11 := hB2.damageD 0 to bit
      refine SL.call (ζ := Nat → Prop) (fun Gw10 => iw ((damageD ((moveD S 0 k to).2) 0 to bit).1)) (fun Gw10 => [rG g d0 d1 wd e0 e1 vd t0 t1 f0 f1 41, rWp wd d0 d1 Gw10 ((damageD ((moveD S 0 k to).2) 0 to bit).2), rWq vd e0 e1 G2 S, rRowN (.slice q ps.length c) (oRows ps) 46 3, rZ F fs, rMine (.slice q7 x.f.length c8) x.f 5, rBlk b9 [Value.slice q7 x.f.length c8, bo x.bad, iw x.tick] 46]) (fun Gw10 => ∀ b, Gw10 b → False ∨ w.heap.size ≤ b) rfl rfl co23 rfl rfl rfl (lt_b rfl) (fun w5 hI => (rw_damage hB2 (by omega) (hI.1.get (i := 1) rfl) 0 to bit hbm ).mono fun e w2 ⟨h1, kz⟩ => by obtain ⟨G9, k1, k2⟩ := hI.rto (i := 1) rfl hGw1 kz; exact ⟨G9, h1, k1, k2⟩) ?_
      intro Gw10 hGw10
      refine SL.as ?_
      refine SL.nn [(2, iw to), (3, iw bit), (8, bo false), (10, pt g 0), (18, pt b9 0), (20, iw ((damageD ((moveD S 0 k to).2) 0 to bit).1))] _ ⟨rfl, rfl, rfl, rfl, rfl, rfl, trivial⟩ ?_
      refine SC.sr ?_
      refine SL.mv ?_
      refine SL.nk ?_
      refine SL.fa 2 fd41_1 ?_
      refine SL.ld 0 ts35 ?_
      refine SL.mv ?_
      refine SL.mv ?_
      have hB13 := hB11.damageD 0 to bit
      refine SL.call (ζ := Nat → Prop) (fun Gw12 => iw ((damageD ((damageD ((moveD S 0 k to).2) 0 to bit).2) 0 to bit).1)) (fun Gw12 => [rG g d0 d1 wd e0 e1 vd t0 t1 f0 f1 41, rWp wd d0 d1 Gw12 ((damageD ((damageD ((moveD S 0 k to).2) 0 to bit).2) 0 to bit).2), rWq vd e0 e1 G2 S, rRowN (.slice q ps.length c) (oRows ps) 46 3, rZ F fs, rMine (.slice q7 x.f.length c8) x.f 5, rBlk b9 [Value.slice q7 x.f.length c8, bo x.bad, iw x.tick] 46]) (fun Gw12 => ∀ b, Gw12 b → False ∨ w.heap.size ≤ b) rfl rfl co23 rfl rfl rfl (lt_b rfl) (fun w5 hI => (rw_damage hB11 (by omega) (hI.1.get (i := 1) rfl) 0 to bit hbm ).mono fun e w2 ⟨h1, kz⟩ => by obtain ⟨G9, k1, k2⟩ := hI.rto (i := 1) rfl hGw10 kz; exact ⟨G9, h1, k1, k2⟩) ?_
      intro Gw12 hGw12
      refine SL.as ?_
      refine SL.nl ?_
      refine SC.sr ?_
      refine SL.mv ?_
      refine SL.nk ?_
      refine SL.fa 2 fd41_1 ?_
      refine SL.ld 0 ts35 ?_
      refine SL.mv ?_
      refine SL.call (ζ := Option Addr × Nat) (fun z => Value.tuple #[Value.agg #[Value.slice z.1 x.f.length z.2, bo bb, iw x.tick], iw 0]) (fun z => [rG g d0 d1 wd e0 e1 vd t0 t1 f0 f1 41, rWp wd d0 d1 Gw12 ((damageD ((damageD ((moveD S 0 k to).2) 0 to bit).2) 0 to bit).2), rWq vd e0 e1 G2 S, rRowN (.slice q ps.length c) (oRows ps) 46 3, rZ F fs, rMine (.slice q7 x.f.length c8) x.f 5, rBlk b9 [Value.slice q7 x.f.length c8, bo x.bad, iw x.tick] 46] ++ [rMine (.slice z.1 x.f.length z.2) x.f 5]) (fun z => ∀ b, (Value.slice z.1 x.f.length z.2).ownBlock = some b → False ∨ w.heap.size ≤ b) rfl rfl co13 rfl rfl rfl (lt_b rfl) (fun w5 hI => (rw_see_at hB13 (hI.1.get (i := 1) rfl) es4).mono fun e w2 ⟨q, c, h1, h2, h3, h4⟩ => ⟨(q, c), h1, hI.add (r := rMine (.slice q x.f.length c) x.f 5) h4 h2 h3, fun b hb => .inr (Nat.le_trans hI.2.size (h3 b hb))⟩) ?_
      rintro ⟨q14, c15⟩ hoq14
      dsimp only at hoq14
      refine SL.mv ?_
      refine SL.uu (ru_extract rfl rfl rfl) ?_
      refine SL.uu (ru_extract rfl rfl rfl) ?_
      refine SL.alloca rfl rfl (lt_b rfl) ta46 rfl fun b16 hb16 => ?_
      refine SL.storea (i := 8) (vs := [Value.slice q14 x.f.length c15, bo bb, iw x.tick]) (c' := [Value.slice q14 x.f.length c15, bo bb, iw x.tick]) rfl rfl ta46 rfl rfl rfl rfl rfl rfl (le_b rfl) (.inr hb16) rfl ?_
      refine SL.as ?_
      refine SL.nr [rG g d0 d1 wd e0 e1 vd t0 t1 f0 f1 41, rWp wd d0 d1 Gw12 ((damageD ((damageD ((moveD S 0 k to).2) 0 to bit).2) 0 to bit).2), rWq vd e0 e1 G2 S, rRowN (.slice q ps.length c) (oRows ps) 46 3, rZ F fs, rMine (.slice q7 x.f.length c8) x.f 5, rBlk b9 [Value.slice q7 x.f.length c8, bo x.bad, iw x.tick] 46, rMine (.slice q14 x.f.length c15) x.f 5, rBlk b16 [Value.slice q14 x.f.length c15, bo bb, iw x.tick] 46] ?_
      refine SC.seq ?_
      refine SC.sr ?_
      refine SL.mv ?_
      refine SL.uu (ru_eq (b := ((((damageD ((moveD S 0 k to).2) 0 to bit).1) : Int) == 0)) rfl rfl rfl rfl) ?_
      refine SL.mv ?_
      refine SL.uu (ru_ge (b := (decide ((0 : Int) ≤ bit))) rfl rfl rfl rfl) ?_
      refine SL.mv ?_
      refine SL.join 7 [(3, iw bit), (8, bo false), (18, pt b9 0), (20, iw ((damageD ((moveD S 0 k to).2) 0 to bit).1)), (21, iw ((damageD ((damageD ((moveD S 0 k to).2) 0 to bit).2) 0 to bit).1)), (22, pt b16 0), (156, iw ((damageD ((moveD S 0 k to).2) 0 to bit).1)), (157, bo ((((damageD ((moveD S 0 k to).2) 0 to bit).1) : Int) == 0)), (158, iw bit), (159, bo (decide ((0 : Int) ≤ bit))), (160, bo (decide ((0 : Int) ≤ bit))), (167, bo ((decide ((0 : Int) ≤ bit)) && (decide ((bit : Int) < (8 * (x.f.length : Int))))))] [rG g d0 d1 wd e0 e1 vd t0 t1 f0 f1 41, rWp wd d0 d1 Gw12 ((damageD ((damageD ((moveD S 0 k to).2) 0 to bit).2) 0 to bit).2), rWq vd e0 e1 G2 S, rRowN (.slice q ps.length c) (oRows ps) 46 3, rZ F fs, rMine (.slice q7 x.f.length c8) x.f 5, rBlk b9 [Value.slice q7 x.f.length c8, bo x.bad, iw x.tick] 46, rMine (.slice q14 x.f.length c15) x.f 5, rBlk b16 [Value.slice q14 x.f.length c15, bo bb, iw x.tick] 46] ?_ ?_
      rotate_left
      · intro K hK
        rcases tf (decide ((0 : Int) ≤ bit)) with h17 | h17
        · skip
          refine SL.norm [(3, iw bit), (8, bo false), (18, pt b9 0), (20, iw ((damageD ((moveD S 0 k to).2) 0 to bit).1)), (21, iw ((damageD ((damageD ((moveD S 0 k to).2) 0 to bit).2) 0 to bit).1)), (22, pt b16 0), (156, iw ((damageD ((moveD S 0 k to).2) 0 to bit).1)), (157, bo ((((damageD ((moveD S 0 k to).2) 0 to bit).1) : Int) == 0)), (158, iw bit), (159, bo true), (160, bo true)] _ ⟨rfl, rfl, rfl, rfl, rfl, rfl, rfl, rfl, rfl, (congrArg (fun x => some (Value.bool x)) h17), (congrArg (fun x => some (Value.bool x)) h17), trivial⟩ rfl ?_
          refine SL.gg (ru_move rfl rfl) ?_
          refine SL.gg (ru_fieldAddr (o2 := 0) fd46_0 rfl rfl rfl) ?_
          refine SL.gg (ru_load (i := 6) ts28 rfl rfl rfl rfl) ?_
          refine SL.gg (ru_len Try.underlying28 rfl rfl) ?_
          refine SL.gg (ru_mul (r := (8 * (x.f.length : Int))) rfl rfl rfl ((by rw [IntKind.wrap_i64]; omega))) ?_
          refine SL.gg (ru_lt (b := (decide ((bit : Int) < (8 * (x.f.length : Int))))) rfl rfl rfl rfl) ?_
          refine SL.pk (bo (decide ((bit : Int) < (8 * (x.f.length : Int))))) (bo false) ?_
          exact SL.joined hK ⟨rfl, rfl, rfl, rfl, rfl, rfl, rfl, rfl, rfl, (congrArg (fun x => some (Value.bool x)) h17.symm), (congrArg (fun x => some (Value.bool x)) h17.symm), (congrArg (fun bx => some (Value.bool (bx && (decide ((bit : Int) < (8 * (x.f.length : Int))))))) h17.symm), trivial⟩ rfl
        refine SL.norm [(3, iw bit), (8, bo false), (18, pt b9 0), (20, iw ((damageD ((moveD S 0 k to).2) 0 to bit).1)), (21, iw ((damageD ((damageD ((moveD S 0 k to).2) 0 to bit).2) 0 to bit).1)), (22, pt b16 0), (156, iw ((damageD ((moveD S 0 k to).2) 0 to bit).1)), (157, bo ((((damageD ((moveD S 0 k to).2) 0 to bit).1) : Int) == 0)), (158, iw bit), (159, bo false), (160, bo false)] _ ⟨rfl, rfl, rfl, rfl, rfl, rfl, rfl, rfl, rfl, (congrArg (fun x => some (Value.bool x)) h17), (congrArg (fun x => some (Value.bool x)) h17), trivial⟩ rfl ?_
        refine SL.oo ?_
        refine SL.oo ?_
        refine SL.oo ?_
        refine SL.oo ?_
        refine SL.oo ?_
        refine SL.oo ?_
        refine SL.pk (undef) (bo false) ?_
        exact SL.joined hK ⟨rfl, rfl, rfl, rfl, rfl, rfl, rfl, rfl, rfl, (congrArg (fun x => some (Value.bool x)) h17.symm), (congrArg (fun x => some (Value.bool x)) h17.symm), (congrArg (fun bx => some (Value.bool (bx && (decide ((bit : Int) < (8 * (x.f.length : Int))))))) h17.symm), trivial⟩ rfl
      skip
      refine SL.uu (ru_neb (b := (!(((((damageD ((moveD S 0 k to).2) 0 to bit).1) : Int) == 0) == ((decide ((0 : Int) ≤ bit)) && (decide ((bit : Int) < (8 * (x.f.length : Int)))))))) Try.underlying4 rfl rfl rfl rfl) ?_
      refine SL.mv ?_
      refine SL.norm [(3, iw bit), (8, bo false), (18, pt b9 0), (20, iw ((damageD ((moveD S 0 k to).2) 0 to bit).1)), (21, iw ((damageD ((damageD ((moveD S 0 k to).2) 0 to bit).2) 0 to bit).1)), (22, pt b16 0), (156, iw ((damageD ((moveD S 0 k to).2) 0 to bit).1)), (157, bo ((((damageD ((moveD S 0 k to).2) 0 to bit).1) : Int) == 0)), (158, iw bit), (159, bo (decide ((0 : Int) ≤ bit))), (160, bo (decide ((0 : Int) ≤ bit))), (167, bo ((decide ((0 : Int) ≤ bit)) && (decide ((bit : Int) < (8 * (x.f.length : Int)))))), (168, bo false), (169, bo false)] _ ⟨rfl, rfl, rfl, rfl, rfl, rfl, rfl, rfl, rfl, rfl, rfl, rfl, (congrArg (fun bx => some (Value.bool bx)) (show (!(((((damageD ((moveD S 0 k to).2) 0 to bit).1) : Int) == 0) == ((decide ((0 : Int) ≤ bit)) && (decide ((bit : Int) < (8 * (x.f.length : Int))))))) = false from (dam_tells hto0 hx2 bit))), (congrArg (fun bx => some (Value.bool bx)) (show (!(((((damageD ((moveD S 0 k to).2) 0 to bit).1) : Int) == 0) == ((decide ((0 : Int) ≤ bit)) && (decide ((bit : Int) < (8 * (x.f.length : Int))))))) = false from (dam_tells hto0 hx2 bit))), trivial⟩ rfl ?_
      refine SL.gg (ru_move rfl rfl) ?_
      refine SL.gg (ru_move rfl rfl) ?_
      refine SL.gg (ru_ne (b := false) rfl rfl rfl ((by rw [hd2]; simp))) ?_
      refine SL.pk (bo true) (bo false) ?_
      refine SL.nl ?_
      refine SC.no rfl ?_
      refine SC.skip ?_
      refine SC.of_SE ?_
      refine SC.sr ?_
      refine SL.fa 0 fd46_0 ?_
      refine SL.ld 8 ts28 ?_
      refine SL.uu (ru_str (f := x.f) Try.underlying28 Try.underlying5 Try.underlying9 rfl rfl (fun w hI => mine_bytesw hI (j := 7) rfl (by omega))) ?_
      refine SL.fa 0 fd46_0 ?_
      refine SL.ld 6 ts28 ?_
      refine SL.uu (ru_str (f := x.f) Try.underlying28 Try.underlying5 Try.underlying9 rfl rfl (fun w hI => mine_bytesw hI (j := 5) rfl (by omega))) ?_
      refine SL.uu (ru_streq (f := x.f) (h := x.f) (b := true) Try.underlying9 rfl rfl rfl (by simp)) ?_
      refine SL.mv ?_
      refine SL.gg (ru_fieldAddr (o2 := 1) fd46_1 rfl rfl rfl) ?_
      refine SL.gg (ru_load (i := 8) ts4 rfl rfl rfl rfl) ?_
      refine SL.gg (ru_move rfl rfl) ?_
      refine SL.join 3 [(8, bo false), (18, pt b9 0), (20, iw ((damageD ((moveD S 0 k to).2) 0 to bit).1)), (22, pt b16 0), (174, pt b16 0), (175, Value.slice q14 x.f.length c15), (176, Value.string ⟨x.f.toArray⟩), (177, pt b9 0), (178, Value.slice q7 x.f.length c8), (179, Value.string ⟨x.f.toArray⟩), (180, bo true), (181, bo true), (182, pt b16 1), (183, bo bb), (184, bo bb), (187, bo (bb || ((((damageD ((moveD S 0 k to).2) 0 to bit).1) : Int) != 0)))] [rG g d0 d1 wd e0 e1 vd t0 t1 f0 f1 41, rWp wd d0 d1 Gw12 ((damageD ((damageD ((moveD S 0 k to).2) 0 to bit).2) 0 to bit).2), rWq vd e0 e1 G2 S, rRowN (.slice q ps.length c) (oRows ps) 46 3, rZ F fs, rMine (.slice q7 x.f.length c8) x.f 5, rBlk b9 [Value.slice q7 x.f.length c8, bo x.bad, iw x.tick] 46, rMine (.slice q14 x.f.length c15) x.f 5, rBlk b16 [Value.slice q14 x.f.length c15, bo bb, iw x.tick] 46] ?_ ?_
      rotate_left
      · intro K hK
        rcases tf bb with h18 | h18
        · skip
          refine SL.norm [(8, bo false), (18, pt b9 0), (20, iw ((damageD ((moveD S 0 k to).2) 0 to bit).1)), (22, pt b16 0), (174, pt b16 0), (175, Value.slice q14 x.f.length c15), (176, Value.string ⟨x.f.toArray⟩), (177, pt b9 0), (178, Value.slice q7 x.f.length c8), (179, Value.string ⟨x.f.toArray⟩), (180, bo true), (181, bo true), (182, pt b16 1), (183, bo true), (184, bo true)] _ ⟨rfl, rfl, rfl, rfl, rfl, rfl, rfl, rfl, rfl, rfl, rfl, rfl, rfl, (congrArg (fun x => some (Value.bool x)) h18), (congrArg (fun x => some (Value.bool x)) h18), trivial⟩ rfl ?_
          refine SL.oo ?_
          refine SL.oo ?_
          refine SL.gg (ru_pick (u := bo true) (v := undef) rfl rfl rfl rfl) ?_
          exact SL.joined hK ⟨rfl, rfl, rfl, rfl, rfl, rfl, rfl, rfl, rfl, rfl, rfl, rfl, rfl, (congrArg (fun x => some (Value.bool x)) h18.symm), (congrArg (fun x => some (Value.bool x)) h18.symm), (congrArg (fun bx => some (Value.bool (bx || ((((damageD ((moveD S 0 k to).2) 0 to bit).1) : Int) != 0)))) h18.symm), trivial⟩ rfl
        refine SL.norm [(8, bo false), (18, pt b9 0), (20, iw ((damageD ((moveD S 0 k to).2) 0 to bit).1)), (22, pt b16 0), (174, pt b16 0), (175, Value.slice q14 x.f.length c15), (176, Value.string ⟨x.f.toArray⟩), (177, pt b9 0), (178, Value.slice q7 x.f.length c8), (179, Value.string ⟨x.f.toArray⟩), (180, bo true), (181, bo true), (182, pt b16 1), (183, bo false), (184, bo false)] _ ⟨rfl, rfl, rfl, rfl, rfl, rfl, rfl, rfl, rfl, rfl, rfl, rfl, rfl, (congrArg (fun x => some (Value.bool x)) h18), (congrArg (fun x => some (Value.bool x)) h18), trivial⟩ rfl ?_
        refine SL.gg (ru_move rfl rfl) ?_
        refine SL.gg (ru_ne (b := ((((damageD ((moveD S 0 k to).2) 0 to bit).1) : Int) != 0)) rfl rfl rfl rfl) ?_
        refine SL.gg (ru_pick (u := bo true) (v := bo ((((damageD ((moveD S 0 k to).2) 0 to bit).1) : Int) != 0)) rfl rfl rfl rfl) ?_
        exact SL.joined hK ⟨rfl, rfl, rfl, rfl, rfl, rfl, rfl, rfl, rfl, rfl, rfl, rfl, rfl, (congrArg (fun x => some (Value.bool x)) h18.symm), (congrArg (fun x => some (Value.bool x)) h18.symm), (congrArg (fun bx => some (Value.bool (bx || ((((damageD ((moveD S 0 k to).2) 0 to bit).1) : Int) != 0)))) h18.symm), trivial⟩ rfl
      skip
      refine SL.pk (bo (bb || ((((damageD ((moveD S 0 k to).2) 0 to bit).1) : Int) != 0))) (bo false) ?_
      refine SL.as ?_
      refine SL.nl ?_
      refine SC.ret ?_
      refine SE.res (.inl rfl) (res1 Try.results5 rfl) fun w1 hI => ⟨ret_bo hbb.symm, hI.2⟩
    obtain ⟨x, hx⟩ : ∃ x, S.L0[ps.length]? = some x := ⟨_, List.getElem?_eq_getElem (by omega)⟩
    have hxl : x.f.length ≤ 274 := (hR.wb.l0.2 x (List.mem_of_getElem? hx)).1
    have es : seeD S 0 (ps.length : Int) = (x, 0) := see_in (b := false) (by omega) (by rw [Int.toNat_natCast]; exact hx)
    refine SC.seq ?_
    refine SC.sr ?_
    refine SL.mv ?_
    refine SL.mv ?_
    refine SL.uu (ru_lt (b := (decide (((ps.length : Int) : Int) < (S.L0.length : Int)))) rfl rfl rfl rfl) ?_
    refine SL.nl ?_
    refine SC.yes (show some (Value.bool (decide (((ps.length : Int) : Int) < (S.L0.length : Int)))) = some (Value.bool true) from congrArg (fun x => some (Value.bool x)) (decide_eq_true (by omega))) ?_
    refine SC.skip ?_
    refine SC.of_SE ?_
    refine SC.seq ?_
    refine SC.block ?_
    refine SC.sr ?_
    refine SL.mv ?_
    refine SL.nk ?_
    refine SL.fa 2 fd41_1 ?_
    refine SL.ld 0 ts35 ?_
    refine SL.mv ?_
    refine SL.call (ζ := Option Addr × Nat) (fun z => Value.tuple #[Value.agg #[Value.slice z.1 x.f.length z.2, bo x.bad, iw x.tick], iw 0]) (fun z => [rG g d0 d1 wd e0 e1 vd t0 t1 f0 f1 41, rWp wd d0 d1 G1 S, rWq vd e0 e1 G2 S, rRowN (.slice q ps.length c) (oRows ps) 46 3, rZ F fs] ++ [rMine (.slice z.1 x.f.length z.2) x.f 5]) (fun z => ∀ b, (Value.slice z.1 x.f.length z.2).ownBlock = some b → False ∨ w.heap.size ≤ b) rfl rfl co13 rfl rfl rfl (lt_b rfl) (fun w5 hI => (rw_see_at hR.wb (hI.1.get (i := 1) rfl) es).mono fun e w2 ⟨q, c, h1, h2, h3, h4⟩ => ⟨(q, c), h1, hI.add (r := rMine (.slice q x.f.length c) x.f 5) h4 h2 h3, fun b hb => .inr (Nat.le_trans hI.2.size (h3 b hb))⟩) ?_
    rintro ⟨q19, c20⟩ hoq19
    dsimp only at hoq19
    refine SL.mv ?_
    refine SL.uu (ru_extract rfl rfl rfl) ?_
    refine SL.uu (ru_extract rfl rfl rfl) ?_
    refine SL.alloca rfl rfl (lt_b rfl) ta46 rfl fun b21 hb21 => ?_
    refine SL.storea (i := 6) (vs := [Value.slice q19 x.f.length c20, bo x.bad, iw x.tick]) (c' := [Value.slice q19 x.f.length c20, bo x.bad, iw x.tick]) rfl rfl ta46 rfl rfl rfl rfl rfl rfl (le_b rfl) (.inr hb21) rfl ?_
    refine SL.as ?_
    refine SL.nl ?_
    refine SC.region ?_
    refine SL.mv ?_
    refine SL.uu (ru_loada (i := 6) (vs := [Value.slice q19 x.f.length c20, bo x.bad, iw x.tick]) ta46 rfl rfl rfl rfl (le_b rfl)) ?_
    refine SL.buildSlice (size := 3) (vals := [(0, Value.agg #[Value.slice q19 x.f.length c20, bo x.bad, iw x.tick])]) (z := [Value.slice none 0 0, bo false, iw 0]) (cs := [Value.slice q19 x.f.length c20, bo x.bad, iw x.tick]) rfl rfl (lt_b rfl) rfl Try.underlying56 (by kernel_rfl) rfl rfl (by kernel_rfl) fun b22 hb22 => ?_
    refine SL.append_rowN (ri := 3) (rj := 7) (size := 3) (r := [Value.slice q19 x.f.length c20, bo x.bad, iw x.tick]) (z := Value.agg #[Value.slice none 0 0, bo false, iw 0]) (bytes := 40) rfl rfl (lt_b rfl) rfl (by decide) Try.underlying56 (by kernel_rfl) rfl rfl rfl rfl rfl rfl rfl (by rw [List.length_map]; omega) (by unfold maxLen; rw [List.length_map]; omega) hqb fun q23 c24 hq25 => ?_
    refine SL.as ?_
    refine SL.nil ?_
    refine SE.blkn ?_
    refine SC.of_SE ?_
    refine SC.region ?_
    refine SL.mv ?_
    refine SL.uu (ru_add (r := (IntKind.i64.wrap ((ps.length : Int) + 1))) rfl rfl rfl rfl) ?_
    refine SL.as ?_
    refine SL.nil ?_
    refine SE.keep 6 ?_
    have er : oRows (ps ++ [⟨.slice q19 x.f.length c20, x⟩]) = oRows ps ++ [[Value.slice q19 x.f.length c20, bo x.bad, iw x.tick]] := List.map_append
    have el : (ps ++ [(⟨.slice q19 x.f.length c20, x⟩ : FmV)]).length = ps.length + 1 := by rw [List.length_append]; rfl
    refine SE.imp (l' := [rG g d0 d1 wd e0 e1 vd t0 t1 f0 f1 41, rWp wd d0 d1 G1 S, rWq vd e0 e1 G2 S, rRowN (.slice q23 (ps.length + 1) c24) (oRows ps ++ [[Value.slice q19 x.f.length c20, bo x.bad, iw x.tick]]) 46 3, rZ (fun b => F b ∨ (Value.slice q19 x.f.length c20).ownBlock = some b) (fun v' f' => fs v' f' ∨ v' = Value.slice q19 x.f.length c20 ∧ f' = x.f)]) (fun w9 hI => Inv.frz (l := [rG g d0 d1 wd e0 e1 vd t0 t1 f0 f1 41, rWp wd d0 d1 G1 S, rWq vd e0 e1 G2 S, rRowN (.slice q23 (ps.length + 1) c24) (oRows ps ++ [[Value.slice q19 x.f.length c20, bo x.bad, iw x.tick]]) 46 3]) (v := .slice q19 x.f.length c20) (f := x.f) (U := 5) hI (by omega)) ?_
    refine SE.again K (ps ++ [⟨.slice q19 x.f.length c20, x⟩], q23, c24, (fun b => F b ∨ (Value.slice q19 x.f.length c20).ownBlock = some b), (fun v' f' => fs v' f' ∨ v' = Value.slice q19 x.f.length c20 ∧ f' = x.f)) (by omega) ⟨by simp only [el]; omega, ?_, ?_, ?_, by simp only [el]; exact hq25⟩ ⟨rfl, rfl, rfl, rfl, rfl, rfl, (by simp only [el]; rfl), (by simp only [el]; exact (congrArg (fun x => some (iw x)) (show IntKind.i64.wrap ((ps.length : Int) + 1) = ((ps.length + 1 : Nat) : Int) by rw [IntKind.wrap_i64]; omega))), trivial⟩ (by simp only [er, el])
    · simp only [el, List.map_append, hps]; rw [List.take_add_one, hx]; rfl
    · intro x9 h9; rcases List.mem_append.1 h9 with h9 | h9; exact .inl (hfs x9 h9); (obtain rfl : x9 = ⟨.slice q19 x.f.length c20, x⟩ := by simpa using h9); exact .inr ⟨rfl, rfl⟩
    · intro x9 h9; rcases List.mem_append.1 h9 with h9 | h9; exact hvs x9 h9; (obtain rfl : x9 = ⟨.slice q19 x.f.length c20, x⟩ := by simpa using h9); exact ⟨_, _, rfl⟩
  obtain ⟨ob, oo, ea, hop⟩ := hops i (by omega)
  obtain ⟨⟨ok, od, okk, oto, ov, f⟩, hl⟩ : ∃ op : OpW, op = l[i]'(by omega) := ⟨_, rfl⟩
  rw [← hl] at hop
  obtain ⟨hc, hb0, hs0, hi9⟩ := hop
  simp only at hc hb0 hs0 hi9
  obtain ⟨fa, fc, rfl⟩ := hb0.form
  subst ea
  have hto : oto ≤ 9223372036854775807 := hi9.2
  refine SC.seq ?_
  refine SC.sr ?_
  refine SL.mv ?_
  refine SL.mv ?_
  refine SL.uu (ru_len Try.underlying22 rfl rfl) ?_
  refine SL.uu (ru_lt (b := (decide (((i : Int) : Int) < (l.length : Int)))) rfl rfl rfl rfl) ?_
  refine SL.nl ?_
  refine SC.yes (show some (Value.bool (decide (((i : Int) : Int) < (l.length : Int)))) = some (Value.bool true) from congrArg (fun x => some (Value.bool x)) (decide_eq_true (by omega))) ?_
  refine SC.skip ?_
  refine SC.of_SE ?_
  refine SC.seq ?_
  refine SC.block ?_
  refine SC.region ?_
  refine SL.mv ?_
  refine SL.mv ?_
  refine SL.mv ?_
  refine SL.uu (ru_indexS (o2 := oo + (i : Int).toNat * 5) si22 rfl rfl rfl (by omega) (by omega) rfl) ?_
  refine SL.uu (ru_loada_old (vs := [iw ok, iw od, iw okk, iw oto, Value.slice fa f.length fc]) (fun _ h => h) ta30 rfl rfl rfl (by rw [Int.toNat_natCast]; exact hc)) ?_
  refine SL.call (ζ := Wi × Int × Int × Int × Int × (Nat → Prop) × (Nat → Prop)) (fun z => bo true) (fun z => [rG g d0 d1 wd e0 e1 vd z.2.1 z.2.2.1 z.2.2.2.1 z.2.2.2.2.1 41, rWp wd d0 d1 z.2.2.2.2.2.1 z.1, rWq vd e0 e1 z.2.2.2.2.2.2 z.1]) (fun z => Rn (i + 1) z.1 z.2.1 z.2.2.1 z.2.2.2.1 z.2.2.2.2.1 ∧ (∀ b, z.2.2.2.2.2.1 b → False ∨ w.heap.size ≤ b) ∧ ∀ b, z.2.2.2.2.2.2 b → False ∨ w.heap.size ≤ b) rfl rfl co17 rfl rfl rfl (lt_b rfl) (fun w5 hI => (does_any (by omega) hto hR (hb0.only hI.2 (fun b _ _ _ _ _ h => h)) (fun b o n c e hn => ⟨fun hz => by have h8 := hs0 b o n c e hn; rcases hz with e1 | e1 | e1; (omega); (have := (hG1 b e1).resolve_left id; omega); (have := (hG2 b e1).resolve_left id; omega), Nat.lt_of_lt_of_le (hs0 b o n c e hn) hI.2.size⟩) ((hI.keep 3).1)).mono fun e w2 ⟨h1, S9, t09, t19, f09, f19, kz, hR9, hon9⟩ => by obtain ⟨I1, I2, k1, k2, k3⟩ := Inv.rgto (X := ⟨189, w, fun _ => False⟩) (g := g) (wd := wd) (d0 := d0) (d1 := d1) (vd := vd) (e0 := e0) (e1 := e1) (R := ⟨S, S, t0, t1, f0, f1⟩) (G1 := G1) (G2 := G2) (l := []) hI (fun b hb => hb.elim (fun e => by rw [e]; exact .inr hgn) (fun e => e.elim (hG1 b) (hG2 b))) kz; exact ⟨(S9, t09, t19, f09, f19, I1, I2), h1, k1, hR9, k2, k3⟩) ?_
  rintro ⟨S9, t09, t19, f09, f19, Ga, Gb⟩ ⟨hR9, hGa, hGb⟩
  dsimp only at hR9 hGa hGb
  refine SL.nil ?_
  refine SE.blkn ?_
  refine SC.of_SE ?_
  refine SC.region ?_
  refine SL.mv ?_
  refine SL.uu (ru_add (r := (IntKind.i64.wrap ((i : Int) + 1))) rfl rfl rfl rfl) ?_
  refine SL.as ?_
  refine SL.nil ?_
  refine SE.keep 3 ?_
  refine SE.again N (i + 1, S9, t09, t19, f09, f19, Ga, Gb) (by omega) ⟨by dsimp only; omega, hR9, hGa, hGb⟩ ⟨rfl, rfl, rfl, rfl, rfl, rfl, (congrArg (fun x => some (iw x)) (show IntKind.i64.wrap ((i : Int) + 1) = ((i + 1 : Nat) : Int) by rw [IntKind.wrap_i64]; omega)), trivial⟩ rfl

end Go.Proofs.Ytcilikkljkdceaa

/-
  The arguments of the wire's statements, opened.
-/
namespace Go.Proofs.Ytcilikkljkdceaa
open Go.ChangeShapes Go.WideShapes Go.ChangeAt Go.RowKit Go.Deep
set_option maxRecDepth 100000
variable {H : Type} {enc : TypeId × Value → H} {w : World} {base b0 : Nat} {held : Bool} {r : Reach}
theorem ops_nil (a : Option Addr) (c : Nat) : OpsW w (.slice a 0 c) [] := ⟨a, c, rfl, by simp, fun i hi => by simp at hi⟩
theorem open_ops_arg {v : Value} {d : DataW H} {p : List MemPlace} (hv : Value.okWide Try.prog w r b0 22 v) (h : DataW.Trod enc Try.prog w base (fun _ => true) held 22 v d p) (hw : ∀ n ∈ DataW.weights Try.prog 22 d, n ≤ reachBytes) :
    ∃ l, OpsW w v l := by
  obtain ⟨a0, n0, c0, rfl⟩ := okWide_slice Try.underlying22 hv
  obtain ⟨fuel, hf⟩ := h
  have hB : Try.prog.bytesOf 30 = 56 := by kernel_rfl
  rcases open_slice_fields (x := (d, p)) Try.underlying22 Try.underlying30 (by kernel_rfl) (by kernel_rfl) hf with ⟨hcs, _⟩ | ⟨a, len, cap, m, D, Pl, hcs, _, hl, _, hm, hx, hi⟩
  · simp [Value.cells] at hcs
    obtain ⟨rfl, rfl, rfl⟩ := hcs
    exact ⟨[], ops_nil _ _⟩
  · simp [Value.cells] at hcs
    obtain ⟨rfl, rfl, rfl⟩ := hcs
    simp only [if_true] at hm
    subst hm
    obtain ⟨hx, _⟩ := Prod.mk.inj hx
    subst hx
    by_cases h0 : n0 = 0
    · subst h0; exact ⟨[], ops_nil _ _⟩
    have hlen : n0 * 56 ≤ 140737488351232 := by
      have := hw ((((List.range n0).map D).length + ((List.range (m - n0)).map fun j => D (n0 + j)).length) * 56) (by
        simp only [DataW.weights, Try.underlying22, List.mem_cons, hB]
        left; trivial)
      simp only [List.length_map, List.length_range, reachBytes] at this
      omega
    have each : ∀ i, i < n0 → ∃ o : OpW, a.spot = none ∧ OpWAt w a.block (a.off + i * 5) o := by
      intro i hin
      obtain ⟨z, n, hD0, _, hys0, hf0⟩ := hi 0 (by omega)
      obtain ⟨v, y, hc0, _, _⟩ := hf0 0 _ rfl
      have hs : a.spot = none := plain_of_cell hc0
      obtain ⟨ys, n, hD, _, hys, hf⟩ := hi i (by omega)
      have hDm : D i ∈ (List.range n0).map D := List.mem_map.2 ⟨i, List.mem_range.2 hin, rfl⟩
      have hwi : ∀ n ∈ (DataW.agg (ys.map (·.1))).weights Try.prog 30, n ≤ reachBytes := by
        intro q hq
        refine hw q ?_
        simp only [DataW.weights, Try.underlying22, List.mem_cons, List.mem_append]
        right; left
        rw [← hD] at hq
        exact weights_all hDm hq
      obtain ⟨v0, y0, c0, q0, h0⟩ := hf 0 _ rfl
      obtain ⟨v1, y1, c1, q1, h1⟩ := hf 1 _ rfl
      obtain ⟨v2, y2, c2, q2, h2⟩ := hf 2 _ rfl
      obtain ⟨v3, y3, c3, q3, h3⟩ := hf 3 _ rfl
      obtain ⟨v4, y4, c4, q4, h4⟩ := hf 4 _ rfl
      have w4 := weights_agg Try.underlying30 hys hwi rfl q4
      obtain ⟨z0, hz0, _, _⟩ := DataW.trod_int Try.underlying3 h0
      obtain ⟨z1, hz1, _, _⟩ := DataW.trod_int Try.underlying3 h1
      obtain ⟨z2, hz2, _, _⟩ := DataW.trod_int Try.underlying3 h2
      obtain ⟨z3, hz3, _, u3⟩ := DataW.trod_int Try.underlying3 h3
      obtain ⟨b, nn, cc, l, e, k1, k2⟩ := open_bytes Try.underlying28 Try.underlying5 (by kernel_rfl) (by kernel_rfl) h4 w4
      simp at hz0 hz1 hz2 hz3
      subst hz0 hz1 hz2 hz3 e
      rw [plain_add hs] at c0 c1 c2 c3 c4
      refine ⟨⟨z0, z1, z2, z3, .slice b nn cc, l⟩, hs, fun j u hj => ?_, k1, k2, wf_i64 u3⟩
      match j, hj with
      | 0, hj => simp at hj; subst hj; exact c0
      | 1, hj => simp at hj; subst hj; exact c1
      | 2, hj => simp at hj; subst hj; exact c2
      | 3, hj => simp at hj; subst hj; exact c3
      | 4, hj => simp at hj; subst hj; exact c4
      | j + 5, hj => simp at hj
    obtain ⟨_, hs, hfirst⟩ := each 0 (by omega)
    obtain ⟨g, hg⟩ : ∃ g : Nat → OpW, ∀ i, i < n0 → OpWAt w a.block (a.off + i * 5) (g i) := by
      refine ⟨fun i => if h : i < n0 then Classical.choose (each i h) else ⟨0, 0, 0, 0, .slice none 0 0, []⟩, fun i h => ?_⟩
      simp only [h, dite_true]
      exact (Classical.choose_spec (each i h)).2
    refine ⟨(List.range n0).map g, some a, _, by simp; rfl, by simp; omega, fun i hi => ⟨a.block, a.off, ?_, ?_⟩⟩
    · cases a; simp only at hs; subst hs; rfl
    · simp at hi
      simpa using hg i hi
end Go.Proofs.Ytcilikkljkdceaa
