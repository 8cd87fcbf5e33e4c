/-
  What the proof of WireDoes stands on, part 5: each theorem by itself, under the conditions that it names.
-/
import Derived.Test.YtcilikkljkdceaaWireDoesM4
import Derived.ProofKit
import Derived.OpenShut
import Derived.ShutString
import Derived.ChangeOld
import Derived.SizedLaws
import Derived.ChangeSlices
import Derived.Deep.Slices
import Derived.Deep.Fields
import Derived.ChangeSame
/-
  What eight ticks leave of a wire between two devices that are on: plain.
-/
namespace Go.Proofs.Ytcilikkljkdceaa
open Go.RowKit
structure AgB (nw : Int) (n k : Nat) (T : Wi) : Prop where
  wb : Wb (n + k) T
  now : T.now = nw + k
  on : onW T
  p0 : ∀ j, T.A0.tp j ≤ nw
  p1 : ∀ j, T.A1.tp j ≤ nw
  l0 : ∀ x ∈ T.L0, x.tick ≤ nw
  l1 : ∀ x ∈ T.L1, x.tick ≤ nw
structure Gone (T : Wi) : Prop where
  l0 : T.L0 = []
  l1 : T.L1 = []
  a0 : T.A0.r 4 = T.A0.r 5
  a1 : T.A1.r 4 = T.A1.r 5
  on : onW T
end Go.Proofs.Ytcilikkljkdceaa

/-
  From a row's reading of the arguments to what the walks ask of memory; no statement is named here.
-/
namespace Go.Proofs.Ytcilikkljkdceaa
open Go.ChangeShapes Go.WideShapes Go.ChangeAt Go.RowKit Go.Deep

def I64 (n : Int) : Prop := -9223372036854775808 ≤ n ∧ n ≤ 9223372036854775807
theorem sliceIn_nil {S : Nat → Prop} {n c : Nat} : sliceIn (.slice none n c) S := fun b o n c e _ => by simp at e

section
variable {H : Type} {enc : TypeId × Value → H} {P : Program} {w : World} {base : Nat} {spare : Nat → Bool} {held : Bool}

theorem open_slice_fields {t e : TypeId} {fs : Array Field} {fuel : Nat} {cs : List Value} {x : DataW H × List MemPlace} (ht : P.underlying t = some (.slice e)) (he : P.underlying e = some (.struct fs))
    (hone : oneCellFields P fs = true) (hC : P.cellsOf e = fs.size) (h : DataW.trod enc P w base spare held fuel t cs = some x) :
    (cs = [.slice none 0 0] ∧ x = (.nil, [])) ∨
    ∃ (a : Addr) (len cap m : Nat) (D : Nat → DataW H) (Pl : Nat → List MemPlace), cs = [.slice (some a) len cap] ∧ base ≤ a.block ∧ len ≤ cap ∧ cap ≤ maxLen ∧ m = (if spare a.block then cap else len) ∧
      x = (.slice ((List.range len).map D) ((List.range (m - len)).map fun j => D (len + j)), MemPlace.row a (m * fs.size) ++ (List.range m).flatMap Pl) ∧
      ∀ i, i < m → ∃ (ys : List (DataW H × List MemPlace)) (n : Nat), D i = .agg (ys.map (·.1)) ∧ Pl i = ys.flatMap (·.2) ∧ ys.length = fs.size ∧
        ∀ (j : Nat) (f : Field), fs[j]? = some f → ∃ (v : Value) (y : DataW H × List MemPlace), w.cell? (a.add (i * fs.size + j)) = some v ∧ ys[j]? = some y ∧ DataW.trod enc P w base spare held n f.type [v] = some y := by
  rcases open_slice ht h with h0 | ⟨a, len, cap, m, n, D, Pl, hcs, hb, hl, hm, hmm, hx, hi⟩
  · exact .inl h0
  · refine .inr ⟨a, len, cap, m, D, Pl, hcs, hb, hl, hm, hmm, by rw [hC] at hx; exact hx, fun i him => ?_⟩
    obtain ⟨cs', hc, ht'⟩ := hi i him
    rw [hC] at hc
    obtain ⟨ys, n', hn', hy, hlen, hyl, hf⟩ := DataW.trod_struct he ht'
    obtain ⟨_, hcl, hat⟩ := World.cells?_some hc
    simp only [Prod.mk.injEq] at hy
    refine ⟨ys, n', hy.1, hy.2, hyl, fun j f hj => ?_⟩
    obtain ⟨ho, hk⟩ := hone_of hone j f hj
    have hjl : j < fs.size := (Array.getElem?_eq_some_iff.1 hj).1
    have hcell := hat j hjl
    have hv : cs'[j]? = some (cs'[j]'(by omega)) := List.getElem?_eq_getElem (by omega)
    have h1 := hf j f hj
    rw [ho, hk] at h1
    have hone' : (cs'.drop j).take 1 = [cs'[j]'(by omega)] := by
      rw [List.drop_eq_getElem_cons (by omega)]
      rfl
    rw [hone'] at h1
    have hys : ys[j]? = some (ys[j]'(by omega)) := List.getElem?_eq_getElem (by omega)
    refine ⟨_, _, ?_, hys, h1.trans hys⟩
    rw [← Go.Deep.add_add, hcell, hv]

theorem plain_of_cell {a : Addr} {v : Value} (h : w.cell? (a.add 0) = some v) : a.spot = none := by
  cases hsp : a.spot with
  | none => rfl
  | some s =>
    unfold World.cell? Addr.add at h
    simp only [if_true, hsp, Option.isSome_some] at h
    split at h <;> simp at h
theorem plain_add {a : Addr} (hs : a.spot = none) (i : Nat) : a.add i = ⟨a.block, a.off + i, none⟩ := by
  cases a; simp only at hs; subst hs
  unfold Addr.add; split <;> simp_all

theorem wf_i64 {n : Int} (h : (Lit.int .i64 n).wf = true) : I64 n := by
  simp only [Lit.wf, Bool.and_eq_true, decide_eq_true_eq] at h
  unfold I64
  exact ⟨Int.le_trans (by decide) h.1, Int.le_trans h.2 (by decide)⟩
theorem wf_u8 {n : Int} (h : (Lit.int .u8 n).wf = true) : 0 ≤ n ∧ n < 256 := by
  simp only [Lit.wf, Bool.and_eq_true, decide_eq_true_eq] at h
  exact ⟨Int.le_trans (by decide) h.1, Int.lt_of_le_of_lt h.2 (by decide)⟩

theorem open_bytes {t e : TypeId} {fuel : Nat} {v : Value} {x : DataW H × List MemPlace} (ht : P.underlying t = some (.slice e)) (he : P.underlying e = some (.int .u8)) (hc : P.cellsOf e = 1) (hB : P.bytesOf e = 1)
    (h : DataW.trod enc P w base (fun _ => true) held fuel t [v] = some x) (hw : ∀ n ∈ x.1.weights P t, n ≤ reachBytes) :
    ∃ a n c l, v = .slice a n c ∧ BytesAt w (.slice a n c) l ∧ sliceIn (.slice a n c) (fun b => b < w.heap.size) := by
  rcases open_ints ht he hc h with ⟨hcs, _⟩ | ⟨a, len, cap, zs, hcs, _, hl, hm, hz, hx, hcell, hwf⟩
  · simp at hcs; subst hcs
    exact ⟨none, 0, 0, [], rfl, .nil _, sliceIn_nil⟩
  · simp at hcs; subst hcs
    simp only [if_true] at hz
    have hcap : cap ≤ 140737488351232 := by
      have := hw ((zs.take len).length * 1 + (zs.drop len).length * 1) (by
        rw [hx]
        simp only [DataW.weights, ht, hB, List.mem_cons]
        left
        simp [lits])
      simp only [reachBytes] at this
      have e1 : (zs.take len).length + (zs.drop len).length = zs.length := by rw [List.length_take, List.length_drop]; omega
      omega
    refine ⟨some a, len, cap, (zs.take len).map fun z => UInt8.ofNat z.toNat, rfl, ?_, ?_⟩
    · by_cases h0 : len = 0
      · subst h0
        exact .inl ⟨_, _, rfl, (fun h => by cases h), by simp⟩
      · have hs : a.spot = none := plain_of_cell (hcell 0 (by omega))
        have hll : ((zs.take len).map fun z => UInt8.ofNat z.toNat).length = len := by simp; omega
        refine .inr ⟨a.block, a.off, cap, ?_, by omega, by omega, fun j hj => ?_⟩
        · rw [hll]; cases a; simp only at hs; subst hs; rfl
        · rw [hll] at hj
          have hcj := hcell j (by omega)
          rw [plain_add hs] at hcj
          rw [hcj]
          have hzj : zs.getD j 0 = zs[j] := by simp [List.getElem?_eq_getElem (show j < zs.length by omega)]
          have hr := wf_u8 (hwf zs[j] (List.getElem_mem _))
          have e2 : ((UInt8.ofNat zs[j].toNat).toNat : Int) = zs[j] := by
            rw [UInt8.toNat_ofNat']; omega
          simp only [List.getElem_map, List.getElem_take, hzj, bv, e2]
    · intro b o n c e hn
      simp at e
      obtain ⟨rfl, rfl, rfl⟩ := e
      have := block_lt_of_cell (hcell 0 (by omega))
      exact this

theorem weights_agg {fs : Array Field} {t : TypeId} (hu : P.underlying t = some (.struct fs)) {ys : List (DataW H × List MemPlace)} (hl : ys.length = fs.size) {B : Nat} (hw : ∀ n ∈ (DataW.agg (ys.map (·.1))).weights P t, n ≤ B)
    {j : Nat} {f : Field} {y : DataW H × List MemPlace} (hf : fs[j]? = some f) (hy : ys[j]? = some y) : ∀ n ∈ y.1.weights P f.type, n ≤ B := by
  intro n hn
  refine hw n ?_
  simp only [DataW.weights, hu]
  exact DataW.weights_mem_each (j := j) (t := f.type) (d := y.1) (by simp [hf]) (by simp [hy]) n hn

theorem weights_all {t : TypeId} {l : List (DataW H)} {n : Nat} {d : DataW H} (hd : d ∈ l) (hn : n ∈ d.weights P t) : n ∈ DataW.weightsAll P t l := by
  induction l with
  | nil => cases hd
  | cons x l ih =>
    simp only [DataW.weightsAll, List.mem_append]
    rcases List.mem_cons.1 hd with rfl | h
    · exact .inl hn
    · exact .inr (ih h)
end
end Go.Proofs.Ytcilikkljkdceaa

/-
  The calls that lie in an argument of the laws of the wire.
-/
namespace Go.Proofs.Ytcilikkljkdceaa
open Go.RowKit
structure OpW where
  k : Int
  dir : Int
  kk : Int
  to : Int
  ov : Value
  f : List UInt8
def OpWAt (w : World) (b o : Nat) (r : OpW) : Prop := (∀ j u, [iw r.k, iw r.dir, iw r.kk, iw r.to, r.ov][j]? = some u → w.cell? ⟨b, o + j, none⟩ = some u) ∧ BytesAt w r.ov r.f ∧ sliceIn r.ov (fun b => b < w.heap.size) ∧ I64 r.to
def OpsW (w : World) (v : Value) (l : List OpW) : Prop := ∃ a c, v = .slice a l.length c ∧ l.length * 56 ≤ 140737488351232 ∧ ∀ i (hi : i < l.length), ∃ b o, a = some ⟨b, o, none⟩ ∧ OpWAt w b (o + i * 5) l[i]
end Go.Proofs.Ytcilikkljkdceaa

/-
  Loads of memory that was there at the start, and has not been turned.
-/
namespace Go.Proofs.Ytcilikkljkdceaa
open Go.RowKit
section
variable {X : Cx} {P : Program} {o : Oper} {m : List (Nat × Value)} {l : List Res}
theorem ru_loada_old {t : TypeId} {z : List Value} {x : Operand} {b o' : Nat} {vs : List Value} (hS : ∀ b, ¬ X.S b) (ht : TyAg P t z) (ho : o.op = .load t x) (hx : evM m x = some (.pointer (some ⟨b, o', none⟩))) (hv : vs.length = z.length)
    (hc : ∀ j u, vs[j]? = some u → X.w0.cell? ⟨b, o' + j, none⟩ = some u) : Ru P X o m l (.agg vs.toArray) := fun a w hf hI => by
  obtain ⟨⟨d, hd, hdb⟩, hsz, _⟩ := ht
  obtain ⟨inf, hinf, hz⟩ := map_some hsz
  simp only [Prod.mk.injEq] at hz
  have hcell : ∀ j (hj : j < vs.length), w.cell? ⟨b, o' + j, none⟩ = some vs[j] := fun j hj => by
    have h1 := hc j vs[j] (List.getElem?_eq_getElem hj)
    rw [← h1]
    exact hI.2.cell (a := ⟨b, o' + j, none⟩) (block_lt_of_cell h1) (hS b)
  unfold execOp; rw [ho]
  simp only [hf.ev hx, Instr.loadAt, Instr.sureAddr, Sem.run_bind, Sem.run_pure, Result.andThen_ok]
  have := run_loadVar_at (P := P) w b o' t vs d (fun j hj => by rw [hcell j hj, List.getElem?_eq_getElem hj]) hd (by cases d <;> simp_all [isAggD]) (by rw [hinf]; simp [hz.1, hv])
  rw [this]; rfl
end
end Go.Proofs.Ytcilikkljkdceaa

/-
  awake.
-/
namespace Go.Proofs.Ytcilikkljkdceaa
open Go.RowKit
set_option maxRecDepth 100000
set_option maxHeartbeats 4000000
theorem wb0 : Wb 0 wi0 := by
  have h : Db 0 onA := by
    refine Db.write ⟨newA_ok, rfl, fun i => ⟨Int.le_refl _, Int.le_refl _⟩⟩ (Int.le_refl _) 0 1
  exact ⟨⟨Int.le_refl _, Int.le_refl _⟩, h, h, ⟨Nat.le_refl _, by simp [wi0]⟩, ⟨Nat.le_refl _, by simp [wi0]⟩⟩
theorem seeD_len {n : Nat} {S : Wi} (h : Wb n S) (dir k : Int) : (seeD S dir k).1.f.length ≤ 140737488351232 := by
  have h1 : ∀ b, (seeW S b k).f.length ≤ 274 := fun b => by
    unfold seeW
    split
    · rename_i e; exact ((h.l b).get e).2.1
    · simp [fm0]
  unfold seeD dirF
  split
  · have := h1 false; simp only; omega
  · split
    · have := h1 true; simp only; omega
    · simp [fm0]
def aw0 : Wi := (postF wi0 false 0 [120]).1
def aw1 : Wi := (pullD aw0 0).2
def aw2 : Wi := (doubleD aw1 0 0).2
def aw3 : Wi := (damageD aw2 0 1 0).2
def aw4 : Wi := tickW aw3
def aw5 : Wi := tickW aw4
def aw6 : Wi := tickW aw5
def aw7 : Wi := tickW aw6
def aw8 : Wi := tickW aw7
def aw9 : Wi := tickW aw8
def aw10 : Wi := tickW aw9
def aw11 : Wi := tickW aw10
def aw12 : Wi := (pullD aw11 2).2
theorem awake_any (w : World) : Calls Try.prog 7 #[] w fun e w' => e = .returned (bo true) ∧ Only (fun _ => False) w w' := by
  refine calls_sc (l0 := []) (args := []) (fun _ => False) Try.func7 rfl 99 Try.ntmps7 (le_b rfl) ⟨⟨by simp, List.Pairwise.nil⟩, Only.refl _ _⟩ ?_
  show SC _ _ _ _ [] []
  refine SC.sr ?_
  refine SL.as ?_
  refine SL.nl ?_
  refine SC.sr ?_
  refine SL.call (ζ := Nat × Nat × Nat × Nat × Nat × Nat × Nat × (Nat → Prop) × (Nat → Prop)) (fun z => pt z.1 0) (fun z => RgL z.1 z.2.1 z.2.2.1 z.2.2.2.1 z.2.2.2.2.1 z.2.2.2.2.2.1 z.2.2.2.2.2.2.1 z.2.2.2.2.2.2.2.1 z.2.2.2.2.2.2.2.2 rg0) (fun z => w.heap.size ≤ z.1 ∧ (∀ b, z.2.2.2.2.2.2.2.1 b → w.heap.size ≤ b) ∧ ∀ b, z.2.2.2.2.2.2.2.2 b → w.heap.size ≤ b) rfl rfl co8 rfl rfl rfl (lt_b rfl) (fun w9 hI => (begun_any w9).mono fun e w2 ⟨g, wd, d0, d1, vd, e0, e1, G1, G2, h1, h2, h3, h4, h5, h6⟩ => ⟨(g, wd, d0, d1, vd, e0, e1, G1, G2), h1, ⟨h2, hI.2.trans' h6 (fun b hb => hb.elim)⟩, Nat.le_trans hI.2.size h3, fun b hb => Nat.le_trans hI.2.size (h4 b hb), fun b hb => Nat.le_trans hI.2.size (h5 b hb)⟩) ?_
  rintro ⟨g, wd, d0, d1, vd, e0, e1, G1, G2⟩ ⟨hgn, hn1, hn2⟩
  dsimp only at hgn hn1 hn2
  have hG1 : ∀ b, G1 b → False ∨ w.heap.size ≤ b := fun b hb => .inr (hn1 b hb)
  have hG2 : ∀ b, G2 b → False ∨ w.heap.size ≤ b := fun b hb => .inr (hn2 b hb)
  refine SL.as ?_
  refine SL.nl ?_
  refine SC.seq ?_
  refine SC.sr ?_
  refine SL.mv ?_
  refine SL.uu (ru_eqnil Try.underlying24 rfl rfl rfl rfl) ?_
  refine SL.nl ?_
  refine SC.no rfl ?_
  refine SC.skip ?_
  refine SC.of_SE ?_
  refine SC.sr ?_
  refine SL.mv ?_
  refine SL.buildSlice (size := 1) (vals := [(0, Value.int .u8 120)]) (z := [Value.int .u8 0]) (cs := [Value.int .u8 120]) rfl rfl (lt_b rfl) rfl Try.underlying28 (by kernel_rfl) rfl rfl (by kernel_rfl) fun b1 hb1 => ?_
  refine SL.mark (i := 3) rfl rfl (lt_b rfl) rfl Try.underlying28 Try.underlying5 rfl rfl (.inr hb1) ?_
  have hB4 := wb0.post false 0 [120]
  refine SL.call (ζ := (Nat → Prop) × (Nat → Prop)) (fun z => bo true) (fun z => [rG g d0 d1 wd e0 e1 vd ((postF wi0 false 0 [120]).2) 0 0 0 41, rWp wd d0 d1 z.1 aw0, rWq vd e0 e1 z.2 aw0, rFz b1 [Value.int .u8 120] 5]) (fun z => (∀ b, z.1 b → False ∨ w.heap.size ≤ b) ∧ ∀ b, z.2 b → False ∨ w.heap.size ≤ b) rfl rfl co25 rfl rfl rfl (lt_b rfl) (fun w5 hI => (post0_any (f := [120]) wb0 (by decide) (fz_bytesw (l := [120]) (hI.1.get (i := 3) rfl) (by decide)) (mine_in fun b hb => rg_apart (X := ⟨99, w, fun _ => False⟩) (g := g) (wd := wd) (d0 := d0) (d1 := d1) (vd := vd) (e0 := e0) (e1 := e1) (R := ⟨wi0, wi0, 0, 0, 0, 0⟩) (G1 := G1) (G2 := G2) (l := [rFz b1 [Value.int .u8 120] 5]) (r := rFz b1 [Value.int .u8 120] 5) hI (by simp) (by cases hb; rfl)) ((hI.keep 3).1)).mono fun e w2 ⟨h1, kz⟩ => by obtain ⟨I1, I2, k1, k2, k3⟩ := Inv.rgto (X := ⟨99, w, fun _ => False⟩) (g := g) (wd := wd) (d0 := d0) (d1 := d1) (vd := vd) (e0 := e0) (e1 := e1) (R := ⟨wi0, wi0, 0, 0, 0, 0⟩) (G1 := G1) (G2 := G2) (l := [rFz b1 [Value.int .u8 120] 5]) hI (fun b hb => hb.elim (fun e => by rw [e]; exact .inr hgn) (fun e => e.elim (hG1 b) (hG2 b))) kz; exact ⟨(I1, I2), h1, k1, k2, k3⟩) ?_
  rintro ⟨Gp2, Gq3⟩ ⟨hGp2, hGq3⟩
  refine SL.as ?_
  refine SL.nl ?_
  refine SC.sr ?_
  refine SL.mv ?_
  refine SL.nk ?_
  refine SL.fa 2 fd41_1 ?_
  refine SL.ld 0 ts35 ?_
  have hB6 := hB4.pullD 0
  refine SL.call (ζ := Nat → Prop) (fun Gw5 => iw ((pullD aw0 0).1)) (fun Gw5 => [rG g d0 d1 wd e0 e1 vd ((postF wi0 false 0 [120]).2) 0 0 0 41, rWp wd d0 d1 Gw5 aw1, rWq vd e0 e1 Gq3 aw0, rFz b1 [Value.int .u8 120] 5]) (fun Gw5 => ∀ b, Gw5 b → False ∨ w.heap.size ≤ b) rfl rfl co21 rfl rfl rfl (lt_b rfl) (fun w5 hI => (rw_pull hB4 (by omega) (hI.1.get (i := 1) rfl) 0).mono fun e w2 ⟨h1, kz⟩ => by obtain ⟨G9, k1, k2⟩ := hI.rto (i := 1) rfl hGp2 kz; exact ⟨G9, h1, k1, k2⟩) ?_
  intro Gw5 hGw5
  refine SL.as ?_
  refine SL.nl ?_
  refine SC.sr ?_
  refine SL.mv ?_
  refine SL.nk ?_
  refine SL.fa 2 fd41_1 ?_
  refine SL.ld 0 ts35 ?_
  have hB8 := hB6.doubleD 0 0
  refine SL.call (ζ := Nat → Prop) (fun Gw7 => iw ((doubleD aw1 0 0).1)) (fun Gw7 => [rG g d0 d1 wd e0 e1 vd ((postF wi0 false 0 [120]).2) 0 0 0 41, rWp wd d0 d1 Gw7 aw2, rWq vd e0 e1 Gq3 aw0, rFz b1 [Value.int .u8 120] 5]) (fun Gw7 => ∀ b, Gw7 b → False ∨ w.heap.size ≤ b) rfl rfl co14 rfl rfl rfl (lt_b rfl) (fun w5 hI => (rw_double hB6 (by omega) (hI.1.get (i := 1) rfl) 0 0).mono fun e w2 ⟨h1, kz⟩ => by obtain ⟨G9, k1, k2⟩ := hI.rto (i := 1) rfl hGw5 kz; exact ⟨G9, h1, k1, k2⟩) ?_
  intro Gw7 hGw7
  refine SL.as ?_
  refine SL.nl ?_
  refine SC.sr ?_
  refine SL.mv ?_
  refine SL.nk ?_
  refine SL.fa 2 fd41_1 ?_
  refine SL.ld 0 ts35 ?_
  have hB10 := hB8.damageD 0 1 0
  refine SL.call (ζ := Nat → Prop) (fun Gw9 => iw ((damageD aw2 0 1 0).1)) (fun Gw9 => [rG g d0 d1 wd e0 e1 vd ((postF wi0 false 0 [120]).2) 0 0 0 41, rWp wd d0 d1 Gw9 aw3, rWq vd e0 e1 Gq3 aw0, rFz b1 [Value.int .u8 120] 5]) (fun Gw9 => ∀ b, Gw9 b → False ∨ w.heap.size ≤ b) rfl rfl co23 rfl rfl rfl (lt_b rfl) (fun w5 hI => (rw_damage hB8 (by omega) (hI.1.get (i := 1) rfl) 0 1 0 (by decide) ).mono fun e w2 ⟨h1, kz⟩ => by obtain ⟨G9, k1, k2⟩ := hI.rto (i := 1) rfl hGw7 kz; exact ⟨G9, h1, k1, k2⟩) ?_
  intro Gw9 hGw9
  refine SL.as ?_
  refine SL.nl ?_
  refine SC.sr ?_
  refine SL.mv ?_
  refine SL.nk ?_
  refine SL.fa 2 fd41_1 ?_
  refine SL.ld 0 ts35 ?_
  refine SL.mk (Mk.take ⟨99, w, fun _ => False⟩ ((seeD aw3 0 1).1.f) (seeD aw3 0 1).1.bad (seeD aw3 0 1).1.tick (seeD aw3 0 1).2 5) (w_all rfl) rfl co13 rfl rfl rfl (lt_b rfl) (fun l' w hI => (rw_see hB10 (hI.1.get (i := 1) rfl) 0 1).mono fun e w2 ⟨q, c, h1, h2, h3, h4⟩ => ⟨_, h1, ⟨q, c, fun b hb => Nat.le_trans hI.2.size (h3 b hb), rfl⟩, hI.add (r := rMine (.slice q _ c) _ 5) h4 h2 h3⟩) ?_
  rintro _ ⟨q11, c12, hoq11, rfl⟩
  refine SL.mv ?_
  refine SL.uu (ru_extract rfl rfl rfl) ?_
  refine SL.uu (ru_extract rfl rfl rfl) ?_
  refine SL.alloca rfl rfl (lt_b rfl) ta46 rfl fun b13 hb13 => ?_
  refine SL.storea (i := 5) (vs := [Value.slice q11 (((seeD aw3 0 1).1.f).length) c12, bo ((seeD aw3 0 1).1.bad), iw ((seeD aw3 0 1).1.tick)]) (c' := [Value.slice q11 (((seeD aw3 0 1).1.f).length) c12, bo ((seeD aw3 0 1).1.bad), iw ((seeD aw3 0 1).1.tick)]) rfl rfl ta46 rfl rfl rfl rfl rfl rfl (le_b rfl) (.inr hb13) rfl ?_
  refine SL.as ?_
  refine SL.nr [rG g d0 d1 wd e0 e1 vd ((postF wi0 false 0 [120]).2) 0 0 0 41, rWp wd d0 d1 Gw9 aw3, rWq vd e0 e1 Gq3 aw0, rFz b1 [Value.int .u8 120] 5, rMine (.slice q11 ((seeD aw3 0 1).1.f).length c12) ((seeD aw3 0 1).1.f) 5, rBlk b13 [Value.slice q11 (((seeD aw3 0 1).1.f).length) c12, bo ((seeD aw3 0 1).1.bad), iw ((seeD aw3 0 1).1.tick)] 46] ?_
  refine SC.seq ?_
  refine SC.sr ?_
  refine SL.as ?_
  refine SL.nl ?_
  refine SC.block ?_
  refine SC.rounds 9 ?_
  refine SR.norm [(0, bo false), (1, pt g 0), (2, bo true), (3, iw ((pullD aw0 0).1)), (4, iw ((doubleD aw1 0 0).1)), (5, iw ((damageD aw2 0 1 0).1)), (6, pt b13 0), (7, iw ((seeD aw3 0 1).2)), (8, iw 0)] _ ⟨rfl, rfl, rfl, rfl, rfl, rfl, rfl, rfl, rfl, trivial⟩ rfl ?_
  refine SR.next ?_
  refine SC.seq ?_
  refine SC.sr ?_
  refine SL.mv ?_
  refine SL.uu (ru_lt (b := true) rfl rfl rfl rfl) ?_
  refine SL.nl ?_
  refine SC.yes rfl ?_
  refine SC.skip ?_
  refine SC.of_SE ?_
  refine SC.seq ?_
  refine SC.block ?_
  refine SC.region ?_
  refine SL.mv ?_
  refine SL.nk ?_
  refine SL.fa 2 fd41_1 ?_
  refine SL.ld 0 ts35 ?_
  have hB15 := (hB10.tick (by omega)).1
  refine SL.call (ζ := Nat → Prop) (fun Gw14 => Value.tuple #[]) (fun Gw14 => [rG g d0 d1 wd e0 e1 vd ((postF wi0 false 0 [120]).2) 0 0 0 41, rWp wd d0 d1 Gw14 aw4, rWq vd e0 e1 Gq3 aw0, rFz b1 [Value.int .u8 120] 5, rMine (.slice q11 ((seeD aw3 0 1).1.f).length c12) ((seeD aw3 0 1).1.f) 5, rBlk b13 [Value.slice q11 (((seeD aw3 0 1).1.f).length) c12, bo ((seeD aw3 0 1).1.bad), iw ((seeD aw3 0 1).1.tick)] 46]) (fun Gw14 => ∀ b, Gw14 b → False ∨ w.heap.size ≤ b) rfl rfl co18 rfl rfl rfl (lt_b rfl) (fun w5 hI => (rw_tick hB10 (by omega) (hI.1.get (i := 1) rfl)).mono fun e w2 ⟨h1, kz⟩ => by obtain ⟨G9, k1, k2⟩ := hI.rto (i := 1) rfl hGw9 kz; exact ⟨G9, h1, k1, k2⟩) ?_
  intro Gw14 hGw14
  refine SL.nil ?_
  refine SE.blkn ?_
  refine SC.of_SE ?_
  refine SC.region ?_
  refine SL.mv ?_
  refine SL.uu (ru_add (r := 1) rfl rfl rfl rfl) ?_
  refine SL.as ?_
  refine SL.nil ?_
  refine SE.round ?_
  refine SR.norm [(0, bo false), (1, pt g 0), (2, bo true), (3, iw ((pullD aw0 0).1)), (4, iw ((doubleD aw1 0 0).1)), (5, iw ((damageD aw2 0 1 0).1)), (6, pt b13 0), (7, iw ((seeD aw3 0 1).2)), (8, iw 1)] _ ⟨rfl, rfl, rfl, rfl, rfl, rfl, rfl, rfl, rfl, trivial⟩ rfl ?_
  refine SR.next ?_
  refine SC.seq ?_
  refine SC.sr ?_
  refine SL.mv ?_
  refine SL.uu (ru_lt (b := true) rfl rfl rfl rfl) ?_
  refine SL.nl ?_
  refine SC.yes rfl ?_
  refine SC.skip ?_
  refine SC.of_SE ?_
  refine SC.seq ?_
  refine SC.block ?_
  refine SC.region ?_
  refine SL.mv ?_
  refine SL.nk ?_
  refine SL.fa 2 fd41_1 ?_
  refine SL.ld 0 ts35 ?_
  have hB17 := (hB15.tick (by omega)).1
  refine SL.call (ζ := Nat → Prop) (fun Gw16 => Value.tuple #[]) (fun Gw16 => [rG g d0 d1 wd e0 e1 vd ((postF wi0 false 0 [120]).2) 0 0 0 41, rWp wd d0 d1 Gw16 aw5, rWq vd e0 e1 Gq3 aw0, rFz b1 [Value.int .u8 120] 5, rMine (.slice q11 ((seeD aw3 0 1).1.f).length c12) ((seeD aw3 0 1).1.f) 5, rBlk b13 [Value.slice q11 (((seeD aw3 0 1).1.f).length) c12, bo ((seeD aw3 0 1).1.bad), iw ((seeD aw3 0 1).1.tick)] 46]) (fun Gw16 => ∀ b, Gw16 b → False ∨ w.heap.size ≤ b) rfl rfl co18 rfl rfl rfl (lt_b rfl) (fun w5 hI => (rw_tick hB15 (by omega) (hI.1.get (i := 1) rfl)).mono fun e w2 ⟨h1, kz⟩ => by obtain ⟨G9, k1, k2⟩ := hI.rto (i := 1) rfl hGw14 kz; exact ⟨G9, h1, k1, k2⟩) ?_
  intro Gw16 hGw16
  refine SL.nil ?_
  refine SE.blkn ?_
  refine SC.of_SE ?_
  refine SC.region ?_
  refine SL.mv ?_
  refine SL.uu (ru_add (r := 2) rfl rfl rfl rfl) ?_
  refine SL.as ?_
  refine SL.nil ?_
  refine SE.round ?_
  refine SR.norm [(0, bo false), (1, pt g 0), (2, bo true), (3, iw ((pullD aw0 0).1)), (4, iw ((doubleD aw1 0 0).1)), (5, iw ((damageD aw2 0 1 0).1)), (6, pt b13 0), (7, iw ((seeD aw3 0 1).2)), (8, iw 2)] _ ⟨rfl, rfl, rfl, rfl, rfl, rfl, rfl, rfl, rfl, trivial⟩ rfl ?_
  refine SR.next ?_
  refine SC.seq ?_
  refine SC.sr ?_
  refine SL.mv ?_
  refine SL.uu (ru_lt (b := true) rfl rfl rfl rfl) ?_
  refine SL.nl ?_
  refine SC.yes rfl ?_
  refine SC.skip ?_
  refine SC.of_SE ?_
  refine SC.seq ?_
  refine SC.block ?_
  refine SC.region ?_
  refine SL.mv ?_
  refine SL.nk ?_
  refine SL.fa 2 fd41_1 ?_
  refine SL.ld 0 ts35 ?_
  have hB19 := (hB17.tick (by omega)).1
  refine SL.call (ζ := Nat → Prop) (fun Gw18 => Value.tuple #[]) (fun Gw18 => [rG g d0 d1 wd e0 e1 vd ((postF wi0 false 0 [120]).2) 0 0 0 41, rWp wd d0 d1 Gw18 aw6, rWq vd e0 e1 Gq3 aw0, rFz b1 [Value.int .u8 120] 5, rMine (.slice q11 ((seeD aw3 0 1).1.f).length c12) ((seeD aw3 0 1).1.f) 5, rBlk b13 [Value.slice q11 (((seeD aw3 0 1).1.f).length) c12, bo ((seeD aw3 0 1).1.bad), iw ((seeD aw3 0 1).1.tick)] 46]) (fun Gw18 => ∀ b, Gw18 b → False ∨ w.heap.size ≤ b) rfl rfl co18 rfl rfl rfl (lt_b rfl) (fun w5 hI => (rw_tick hB17 (by omega) (hI.1.get (i := 1) rfl)).mono fun e w2 ⟨h1, kz⟩ => by obtain ⟨G9, k1, k2⟩ := hI.rto (i := 1) rfl hGw16 kz; exact ⟨G9, h1, k1, k2⟩) ?_
  intro Gw18 hGw18
  refine SL.nil ?_
  refine SE.blkn ?_
  refine SC.of_SE ?_
  refine SC.region ?_
  refine SL.mv ?_
  refine SL.uu (ru_add (r := 3) rfl rfl rfl rfl) ?_
  refine SL.as ?_
  refine SL.nil ?_
  refine SE.round ?_
  refine SR.norm [(0, bo false), (1, pt g 0), (2, bo true), (3, iw ((pullD aw0 0).1)), (4, iw ((doubleD aw1 0 0).1)), (5, iw ((damageD aw2 0 1 0).1)), (6, pt b13 0), (7, iw ((seeD aw3 0 1).2)), (8, iw 3)] _ ⟨rfl, rfl, rfl, rfl, rfl, rfl, rfl, rfl, rfl, trivial⟩ rfl ?_
  refine SR.next ?_
  refine SC.seq ?_
  refine SC.sr ?_
  refine SL.mv ?_
  refine SL.uu (ru_lt (b := true) rfl rfl rfl rfl) ?_
  refine SL.nl ?_
  refine SC.yes rfl ?_
  refine SC.skip ?_
  refine SC.of_SE ?_
  refine SC.seq ?_
  refine SC.block ?_
  refine SC.region ?_
  refine SL.mv ?_
  refine SL.nk ?_
  refine SL.fa 2 fd41_1 ?_
  refine SL.ld 0 ts35 ?_
  have hB21 := (hB19.tick (by omega)).1
  refine SL.call (ζ := Nat → Prop) (fun Gw20 => Value.tuple #[]) (fun Gw20 => [rG g d0 d1 wd e0 e1 vd ((postF wi0 false 0 [120]).2) 0 0 0 41, rWp wd d0 d1 Gw20 aw7, rWq vd e0 e1 Gq3 aw0, rFz b1 [Value.int .u8 120] 5, rMine (.slice q11 ((seeD aw3 0 1).1.f).length c12) ((seeD aw3 0 1).1.f) 5, rBlk b13 [Value.slice q11 (((seeD aw3 0 1).1.f).length) c12, bo ((seeD aw3 0 1).1.bad), iw ((seeD aw3 0 1).1.tick)] 46]) (fun Gw20 => ∀ b, Gw20 b → False ∨ w.heap.size ≤ b) rfl rfl co18 rfl rfl rfl (lt_b rfl) (fun w5 hI => (rw_tick hB19 (by omega) (hI.1.get (i := 1) rfl)).mono fun e w2 ⟨h1, kz⟩ => by obtain ⟨G9, k1, k2⟩ := hI.rto (i := 1) rfl hGw18 kz; exact ⟨G9, h1, k1, k2⟩) ?_
  intro Gw20 hGw20
  refine SL.nil ?_
  refine SE.blkn ?_
  refine SC.of_SE ?_
  refine SC.region ?_
  refine SL.mv ?_
  refine SL.uu (ru_add (r := 4) rfl rfl rfl rfl) ?_
  refine SL.as ?_
  refine SL.nil ?_
  refine SE.round ?_
  refine SR.norm [(0, bo false), (1, pt g 0), (2, bo true), (3, iw ((pullD aw0 0).1)), (4, iw ((doubleD aw1 0 0).1)), (5, iw ((damageD aw2 0 1 0).1)), (6, pt b13 0), (7, iw ((seeD aw3 0 1).2)), (8, iw 4)] _ ⟨rfl, rfl, rfl, rfl, rfl, rfl, rfl, rfl, rfl, trivial⟩ rfl ?_
  refine SR.next ?_
  refine SC.seq ?_
  refine SC.sr ?_
  refine SL.mv ?_
  refine SL.uu (ru_lt (b := true) rfl rfl rfl rfl) ?_
  refine SL.nl ?_
  refine SC.yes rfl ?_
  refine SC.skip ?_
  refine SC.of_SE ?_
  refine SC.seq ?_
  refine SC.block ?_
  refine SC.region ?_
  refine SL.mv ?_
  refine SL.nk ?_
  refine SL.fa 2 fd41_1 ?_
  refine SL.ld 0 ts35 ?_
  have hB23 := (hB21.tick (by omega)).1
  refine SL.call (ζ := Nat → Prop) (fun Gw22 => Value.tuple #[]) (fun Gw22 => [rG g d0 d1 wd e0 e1 vd ((postF wi0 false 0 [120]).2) 0 0 0 41, rWp wd d0 d1 Gw22 aw8, rWq vd e0 e1 Gq3 aw0, rFz b1 [Value.int .u8 120] 5, rMine (.slice q11 ((seeD aw3 0 1).1.f).length c12) ((seeD aw3 0 1).1.f) 5, rBlk b13 [Value.slice q11 (((seeD aw3 0 1).1.f).length) c12, bo ((seeD aw3 0 1).1.bad), iw ((seeD aw3 0 1).1.tick)] 46]) (fun Gw22 => ∀ b, Gw22 b → False ∨ w.heap.size ≤ b) rfl rfl co18 rfl rfl rfl (lt_b rfl) (fun w5 hI => (rw_tick hB21 (by omega) (hI.1.get (i := 1) rfl)).mono fun e w2 ⟨h1, kz⟩ => by obtain ⟨G9, k1, k2⟩ := hI.rto (i := 1) rfl hGw20 kz; exact ⟨G9, h1, k1, k2⟩) ?_
  intro Gw22 hGw22
  refine SL.nil ?_
  refine SE.blkn ?_
  refine SC.of_SE ?_
  refine SC.norm [(0, bo false), (1, pt g 0), (2, bo true), (3, iw ((pullD aw0 0).1)), (4, iw ((doubleD aw1 0 0).1)), (5, iw ((damageD aw2 0 1 0).1)), (6, pt b13 0), (7, iw ((seeD aw3 0 1).2)), (8, iw 4)] _ ⟨rfl, rfl, rfl, rfl, rfl, rfl, rfl, rfl, rfl, trivial⟩ rfl ?_
  refine SC.region ?_
  refine SL.mv ?_
  refine SL.uu (ru_add (r := 5) rfl rfl rfl rfl) ?_
  refine SL.as ?_
  refine SL.nil ?_
  refine SE.round ?_
  refine SR.norm [(0, bo false), (1, pt g 0), (2, bo true), (3, iw ((pullD aw0 0).1)), (4, iw ((doubleD aw1 0 0).1)), (5, iw ((damageD aw2 0 1 0).1)), (6, pt b13 0), (7, iw ((seeD aw3 0 1).2)), (8, iw 5)] _ ⟨rfl, rfl, rfl, rfl, rfl, rfl, rfl, rfl, rfl, trivial⟩ rfl ?_
  refine SR.next ?_
  refine SC.seq ?_
  refine SC.sr ?_
  refine SL.mv ?_
  refine SL.uu (ru_lt (b := true) rfl rfl rfl rfl) ?_
  refine SL.nl ?_
  refine SC.yes rfl ?_
  refine SC.skip ?_
  refine SC.of_SE ?_
  refine SC.seq ?_
  refine SC.block ?_
  refine SC.region ?_
  refine SL.mv ?_
  refine SL.nk ?_
  refine SL.fa 2 fd41_1 ?_
  refine SL.ld 0 ts35 ?_
  have hB25 := (hB23.tick (by omega)).1
  refine SL.call (ζ := Nat → Prop) (fun Gw24 => Value.tuple #[]) (fun Gw24 => [rG g d0 d1 wd e0 e1 vd ((postF wi0 false 0 [120]).2) 0 0 0 41, rWp wd d0 d1 Gw24 aw9, rWq vd e0 e1 Gq3 aw0, rFz b1 [Value.int .u8 120] 5, rMine (.slice q11 ((seeD aw3 0 1).1.f).length c12) ((seeD aw3 0 1).1.f) 5, rBlk b13 [Value.slice q11 (((seeD aw3 0 1).1.f).length) c12, bo ((seeD aw3 0 1).1.bad), iw ((seeD aw3 0 1).1.tick)] 46]) (fun Gw24 => ∀ b, Gw24 b → False ∨ w.heap.size ≤ b) rfl rfl co18 rfl rfl rfl (lt_b rfl) (fun w5 hI => (rw_tick hB23 (by omega) (hI.1.get (i := 1) rfl)).mono fun e w2 ⟨h1, kz⟩ => by obtain ⟨G9, k1, k2⟩ := hI.rto (i := 1) rfl hGw22 kz; exact ⟨G9, h1, k1, k2⟩) ?_
  intro Gw24 hGw24
  refine SL.nil ?_
  refine SE.blkn ?_
  refine SC.of_SE ?_
  refine SC.region ?_
  refine SL.mv ?_
  refine SL.uu (ru_add (r := 6) rfl rfl rfl rfl) ?_
  refine SL.as ?_
  refine SL.nil ?_
  refine SE.round ?_
  refine SR.norm [(0, bo false), (1, pt g 0), (2, bo true), (3, iw ((pullD aw0 0).1)), (4, iw ((doubleD aw1 0 0).1)), (5, iw ((damageD aw2 0 1 0).1)), (6, pt b13 0), (7, iw ((seeD aw3 0 1).2)), (8, iw 6)] _ ⟨rfl, rfl, rfl, rfl, rfl, rfl, rfl, rfl, rfl, trivial⟩ rfl ?_
  refine SR.next ?_
  refine SC.seq ?_
  refine SC.sr ?_
  refine SL.mv ?_
  refine SL.uu (ru_lt (b := true) rfl rfl rfl rfl) ?_
  refine SL.nl ?_
  refine SC.yes rfl ?_
  refine SC.skip ?_
  refine SC.of_SE ?_
  refine SC.seq ?_
  refine SC.block ?_
  refine SC.region ?_
  refine SL.mv ?_
  refine SL.nk ?_
  refine SL.fa 2 fd41_1 ?_
  refine SL.ld 0 ts35 ?_
  have hB27 := (hB25.tick (by omega)).1
  refine SL.call (ζ := Nat → Prop) (fun Gw26 => Value.tuple #[]) (fun Gw26 => [rG g d0 d1 wd e0 e1 vd ((postF wi0 false 0 [120]).2) 0 0 0 41, rWp wd d0 d1 Gw26 aw10, rWq vd e0 e1 Gq3 aw0, rFz b1 [Value.int .u8 120] 5, rMine (.slice q11 ((seeD aw3 0 1).1.f).length c12) ((seeD aw3 0 1).1.f) 5, rBlk b13 [Value.slice q11 (((seeD aw3 0 1).1.f).length) c12, bo ((seeD aw3 0 1).1.bad), iw ((seeD aw3 0 1).1.tick)] 46]) (fun Gw26 => ∀ b, Gw26 b → False ∨ w.heap.size ≤ b) rfl rfl co18 rfl rfl rfl (lt_b rfl) (fun w5 hI => (rw_tick hB25 (by omega) (hI.1.get (i := 1) rfl)).mono fun e w2 ⟨h1, kz⟩ => by obtain ⟨G9, k1, k2⟩ := hI.rto (i := 1) rfl hGw24 kz; exact ⟨G9, h1, k1, k2⟩) ?_
  intro Gw26 hGw26
  refine SL.nil ?_
  refine SE.blkn ?_
  refine SC.of_SE ?_
  refine SC.nr [rG g d0 d1 wd e0 e1 vd ((postF wi0 false 0 [120]).2) 0 0 0 41, rWp wd d0 d1 Gw26 aw10, rWq vd e0 e1 Gq3 aw0, rFz b1 [Value.int .u8 120] 5, rMine (.slice q11 ((seeD aw3 0 1).1.f).length c12) ((seeD aw3 0 1).1.f) 5, rBlk b13 [Value.slice q11 (((seeD aw3 0 1).1.f).length) c12, bo ((seeD aw3 0 1).1.bad), iw ((seeD aw3 0 1).1.tick)] 46] ?_
  refine SC.region ?_
  refine SL.mv ?_
  refine SL.uu (ru_add (r := 7) rfl rfl rfl rfl) ?_
  refine SL.as ?_
  refine SL.nil ?_
  refine SE.round ?_
  refine SR.norm [(0, bo false), (1, pt g 0), (2, bo true), (3, iw ((pullD aw0 0).1)), (4, iw ((doubleD aw1 0 0).1)), (5, iw ((damageD aw2 0 1 0).1)), (6, pt b13 0), (7, iw ((seeD aw3 0 1).2)), (8, iw 7)] _ ⟨rfl, rfl, rfl, rfl, rfl, rfl, rfl, rfl, rfl, trivial⟩ rfl ?_
  refine SR.next ?_
  refine SC.seq ?_
  refine SC.sr ?_
  refine SL.mv ?_
  refine SL.uu (ru_lt (b := true) rfl rfl rfl rfl) ?_
  refine SL.nl ?_
  refine SC.yes rfl ?_
  refine SC.skip ?_
  refine SC.of_SE ?_
  refine SC.seq ?_
  refine SC.block ?_
  refine SC.region ?_
  refine SL.mv ?_
  refine SL.nk ?_
  refine SL.fa 2 fd41_1 ?_
  refine SL.ld 0 ts35 ?_
  have hB29 := (hB27.tick (by omega)).1
  refine SL.call (ζ := Nat → Prop) (fun Gw28 => Value.tuple #[]) (fun Gw28 => [rG g d0 d1 wd e0 e1 vd ((postF wi0 false 0 [120]).2) 0 0 0 41, rWp wd d0 d1 Gw28 aw11, rWq vd e0 e1 Gq3 aw0, rFz b1 [Value.int .u8 120] 5, rMine (.slice q11 ((seeD aw3 0 1).1.f).length c12) ((seeD aw3 0 1).1.f) 5, rBlk b13 [Value.slice q11 (((seeD aw3 0 1).1.f).length) c12, bo ((seeD aw3 0 1).1.bad), iw ((seeD aw3 0 1).1.tick)] 46]) (fun Gw28 => ∀ b, Gw28 b → False ∨ w.heap.size ≤ b) rfl rfl co18 rfl rfl rfl (lt_b rfl) (fun w5 hI => (rw_tick hB27 (by omega) (hI.1.get (i := 1) rfl)).mono fun e w2 ⟨h1, kz⟩ => by obtain ⟨G9, k1, k2⟩ := hI.rto (i := 1) rfl hGw26 kz; exact ⟨G9, h1, k1, k2⟩) ?_
  intro Gw28 hGw28
  refine SL.nil ?_
  refine SE.blkn ?_
  refine SC.of_SE ?_
  refine SC.region ?_
  refine SL.mv ?_
  refine SL.uu (ru_add (r := 8) rfl rfl rfl rfl) ?_
  refine SL.as ?_
  refine SL.nil ?_
  refine SE.round ?_
  refine SR.norm [(0, bo false), (1, pt g 0), (2, bo true), (3, iw ((pullD aw0 0).1)), (4, iw ((doubleD aw1 0 0).1)), (5, iw ((damageD aw2 0 1 0).1)), (6, pt b13 0), (7, iw ((seeD aw3 0 1).2)), (8, iw 8)] _ ⟨rfl, rfl, rfl, rfl, rfl, rfl, rfl, rfl, rfl, trivial⟩ rfl ?_
  refine SR.next ?_
  refine SC.seq ?_
  refine SC.sr ?_
  refine SL.mv ?_
  refine SL.uu (ru_lt (b := false) rfl rfl rfl rfl) ?_
  refine SL.nl ?_
  refine SC.no rfl ?_
  refine SC.exit ?_
  refine SE.passe ?_
  refine SE.passe ?_
  refine SE.blke ?_
  refine SC.of_SE ?_
  refine SC.sr ?_
  refine SL.mv ?_
  refine SL.mv ?_
  refine SL.gg (ru_move rfl rfl) ?_
  refine SL.gg (ru_eq (b := true) rfl rfl rfl (by decide +kernel)) ?_
  refine SL.pk (bo true) (bo false) ?_
  refine SL.mv ?_
  refine SL.gg (ru_move rfl rfl) ?_
  refine SL.gg (ru_eq (b := true) rfl rfl rfl (by decide +kernel)) ?_
  refine SL.pk (bo true) (bo false) ?_
  refine SL.mv ?_
  refine SL.gg (ru_move rfl rfl) ?_
  refine SL.gg (ru_eq (b := true) rfl rfl rfl (by decide +kernel)) ?_
  refine SL.pk (bo true) (bo false) ?_
  refine SL.mv ?_
  refine SL.gg (ru_move rfl rfl) ?_
  refine SL.gg (ru_eq (b := true) rfl rfl rfl (by decide +kernel)) ?_
  refine SL.pk (bo true) (bo false) ?_
  refine SL.mv ?_
  refine SL.gg (ru_fieldAddr (o2 := 0) fd46_0 rfl rfl rfl) ?_
  refine SL.gg (ru_load (i := 5) ts28 rfl rfl rfl rfl) ?_
  refine SL.gg (ru_str (f := ((seeD aw3 0 1).1.f)) Try.underlying28 Try.underlying5 Try.underlying9 rfl rfl (fun w hI => mine_bytesw hI (j := 4) rfl (seeD_len hB10 _ _))) ?_
  refine SL.gg (ru_streq (f := (seeD aw3 0 1).1.f) (h := [121]) (b := true) Try.underlying9 rfl rfl rfl (by decide +kernel)) ?_
  refine SL.pk (bo true) (bo false) ?_
  refine SL.mv ?_
  refine SL.gg (ru_fieldAddr (o2 := 1) fd46_1 rfl rfl rfl) ?_
  refine SL.gg (ru_load (i := 5) ts4 rfl rfl rfl rfl) ?_
  refine SL.pk (bo ((seeD aw3 0 1).1.bad)) (bo false) ?_
  refine SL.mv ?_
  refine SL.norm [(0, bo false), (1, pt g 0), (2, bo true), (3, iw ((pullD aw0 0).1)), (4, iw ((doubleD aw1 0 0).1)), (5, iw ((damageD aw2 0 1 0).1)), (6, pt b13 0), (7, iw ((seeD aw3 0 1).2)), (48, bo true), (49, bo true), (50, iw ((pullD aw0 0).1)), (51, bo true), (52, bo true), (53, bo true), (54, iw ((doubleD aw1 0 0).1)), (55, bo true), (56, bo true), (57, bo true), (58, iw ((damageD aw2 0 1 0).1)), (59, bo true), (60, bo true), (61, bo true), (62, iw ((seeD aw3 0 1).2)), (63, bo true), (64, bo true), (65, bo true), (66, pt b13 0), (67, Value.slice q11 (((seeD aw3 0 1).1.f).length) c12), (68, Value.string ⟨((seeD aw3 0 1).1.f).toArray⟩), (69, bo true), (70, bo true), (71, bo true), (72, pt b13 1), (73, bo true), (74, bo true), (75, bo true)] _ ⟨rfl, rfl, rfl, rfl, rfl, rfl, rfl, rfl, rfl, rfl, rfl, rfl, rfl, rfl, rfl, rfl, rfl, rfl, rfl, rfl, rfl, rfl, rfl, rfl, rfl, rfl, rfl, rfl, rfl, rfl, rfl, rfl, rfl, (congrArg (fun bx => some (Value.bool bx)) (show ((seeD aw3 0 1).1.bad) = true from (by decide +kernel))), (congrArg (fun bx => some (Value.bool bx)) (show ((seeD aw3 0 1).1.bad) = true from (by decide +kernel))), (congrArg (fun bx => some (Value.bool bx)) (show ((seeD aw3 0 1).1.bad) = true from (by decide +kernel))), trivial⟩ rfl ?_
  refine SL.gg (ru_move rfl rfl) ?_
  refine SL.gg (ru_nilCheck rfl rfl) ?_
  refine SL.gg (ru_fieldAddr (o2 := 2) fd41_1 rfl rfl rfl) ?_
  refine SL.gg (ru_load (i := 0) ts35 rfl rfl rfl rfl) ?_
  refine SL.callvg (iw (lenD aw11 0)) rfl rfl rfl rfl co20 rfl rfl rfl (lt_b rfl) (fun w hI => H_only hI (rw_len (hI.1.get (i := 1) rfl) 0)) ?_
  refine SL.gg (ru_eq (b := true) rfl rfl rfl (by decide +kernel)) ?_
  refine SL.pk (bo true) (bo false) ?_
  refine SL.mv ?_
  refine SL.gg (ru_move rfl rfl) ?_
  refine SL.gg (ru_nilCheck rfl rfl) ?_
  refine SL.gg (ru_fieldAddr (o2 := 2) fd41_1 rfl rfl rfl) ?_
  refine SL.gg (ru_load (i := 0) ts35 rfl rfl rfl rfl) ?_
  refine SL.callvg (iw aw11.now) rfl rfl rfl rfl co12 rfl rfl rfl (lt_b rfl) (fun w hI => H_only hI (rw_now (hI.1.get (i := 1) rfl))) ?_
  refine SL.gg (ru_eq (b := true) rfl rfl rfl (by decide +kernel)) ?_
  refine SL.pk (bo true) (bo false) ?_
  refine SL.mv ?_
  refine SL.gg (ru_move rfl rfl) ?_
  refine SL.gg (ru_nilCheck rfl rfl) ?_
  refine SL.gg (ru_fieldAddr (o2 := 2) fd41_1 rfl rfl rfl) ?_
  refine SL.gg (ru_load (i := 0) ts35 rfl rfl rfl rfl) ?_
  have hB31 := hB29.pullD 2
  refine SL.callg (ζ := Nat → Prop) (fun Gw30 => iw ((pullD aw11 2).1)) (fun Gw30 => [rG g d0 d1 wd e0 e1 vd ((postF wi0 false 0 [120]).2) 0 0 0 41, rWp wd d0 d1 Gw30 aw12, rWq vd e0 e1 Gq3 aw0, rFz b1 [Value.int .u8 120] 5, rMine (.slice q11 ((seeD aw3 0 1).1.f).length c12) ((seeD aw3 0 1).1.f) 5, rBlk b13 [Value.slice q11 (((seeD aw3 0 1).1.f).length) c12, bo ((seeD aw3 0 1).1.bad), iw ((seeD aw3 0 1).1.tick)] 46]) (fun Gw30 => ∀ b, Gw30 b → False ∨ w.heap.size ≤ b) rfl rfl rfl rfl co21 rfl rfl rfl (lt_b rfl) (fun w5 hI => (rw_pull hB29 (by omega) (hI.1.get (i := 1) rfl) 2).mono fun e w2 ⟨h1, kz⟩ => by obtain ⟨G9, k1, k2⟩ := hI.rto (i := 1) rfl hGw28 kz; exact ⟨G9, h1, k1, k2⟩) ?_
  intro Gw30 hGw30
  refine SL.gg (ru_eq (b := true) rfl rfl rfl (by decide +kernel)) ?_
  refine SL.pk (bo true) (bo false) ?_
  refine SL.as ?_
  refine SL.nl ?_
  refine SC.ret ?_
  refine SE.res (.inl rfl) (res1 Try.results7 rfl) fun w1 hI => ⟨rfl, hI.2⟩

end Go.Proofs.Ytcilikkljkdceaa

/-
  What the laws of the wire begin with.
-/
namespace Go.Proofs.Ytcilikkljkdceaa
open Go.RowKit
set_option maxRecDepth 100000
set_option maxHeartbeats 4000000
theorem rn0 : Rn 0 wi0 0 0 0 0 := ⟨wb0, zero16, zero16, zero16, zero16⟩
end Go.Proofs.Ytcilikkljkdceaa

/-
  alike.
-/
namespace Go.Proofs.Ytcilikkljkdceaa
open Go.RowKit
set_option maxRecDepth 100000
set_option maxHeartbeats 4000000
theorem rx_lenw {A : NicA} (h : NicOk A) (i : Int) : (rxR A i).1.1.length ≤ 140737488351232 := by
  unfold rxR
  split
  · simp
  · split
    · simp
    · have := h.cl i.toNat; simp only; omega
theorem Inv.rxedw {X : Cx} {l : List Res} {U : TypeId} {w w' : World} {v : Value} {f : List UInt8} (h : Inv X w l) (hl : f.length ≤ 140737488351232) (h3 : Only (fun _ => False) w w') (h4 : Out U w w' v f) : ∃ qa qc, v = .slice qa f.length qc ∧ Inv X w' (l ++ [rMine (.slice qa f.length qc) f U]) := by
  have k : OwnBytes w' 0 U v f ∧ ∀ b, v.ownBlock = some b → w.heap.size ≤ b := by
    rcases h4 with ⟨rfl, rfl⟩ | ⟨g, h1, rfl, h2⟩
    · exact ⟨ownb_nil w' U, fun b hb => by simp [Value.ownBlock] at hb⟩
    · exact ⟨ownb_new h2 hl, fun b hb => by simp [Value.ownBlock] at hb; omega⟩
  obtain ⟨qa, qc, rfl, _⟩ := k.1.form
  exact ⟨qa, qc, rfl, h.add h3 k.1 k.2⟩
theorem Lent.back {G : Nat → Prop} {w w' : World} {v : Value} {f : List UInt8} (h : Lent G w' v f) (hw : ∀ b, G b → w'.heap[b]? = w.heap[b]?) : ∃ qa qc, v = .slice qa f.length qc ∧ BytesAt w (.slice qa f.length qc) f := by
  obtain ⟨qa, qc, rfl⟩ := h.1.form
  exact ⟨qa, qc, rfl, h.1.agree h.2 (fun b hb => (hw b hb).symm)⟩
theorem alike_any {n : Nat} {w : World} {g wd d0 d1 vd e0 e1 : Nat} {G1 G2 : Nat → Prop} {S : Wi} {t0 t1 f0 f1 : Int} (hn : n < 2900000000000) (hR : Rn n S t0 t1 f0 f1) (h : Sep w (RgL g wd d0 d1 vd e0 e1 G1 G2 ⟨S, S, t0, t1, f0, f1⟩)) : Calls Try.prog 24 #[pt g 0] w fun e w' => e = .returned (bo true) ∧ Only (fun _ => False) w w' := by
  obtain ⟨M, hM, ho⟩ := rg_open h
  dsimp only at hM ho
  have hl0 : M.ps0.length = S.L0.length := hM.n0
  have hl1 : M.ps1.length = S.L1.length := hM.n1
  have hb0 := hR.wb.l0.1
  have hb1 := hR.wb.l1.1
  have h2lt : ∀ b, G2 b → b < w.heap.size := fun b hb => (rWq vd e0 e1 G2 S).lt w (h.get (i := 2) rfl) b hb
  refine calls_sc (l0 := (RgO g wd d0 d1 vd e0 e1 G1 M ⟨S, S, t0, t1, f0, f1⟩)) (args := [pt g 0]) (fun _ => False) Try.func24 rfl 126 Try.ntmps24 (le_b rfl) ⟨ho, Only.refl _ _⟩ ?_
  show SC _ _ _ _ [(0, pt g 0)] (RgO g wd d0 d1 vd e0 e1 G1 M ⟨S, S, t0, t1, f0, f1⟩)
  refine SC.sr ?_
  refine SL.as ?_
  refine SL.nl ?_
  refine SC.seq ?_
  refine SC.seq ?_
  refine SC.region_mk_tail 12 [(4, Mk.val (iw S.now))] [] rfl rfl (by kernel_rfl) (by kernel_rfl) (by kernel_rfl) ?_
  refine SM.uu (ru_move rfl rfl) ?_
  refine SM.uu (ru_nilCheck rfl rfl) ?_
  refine SM.uu (ru_fieldAddr (o2 := 2) fd41_1 rfl rfl rfl) ?_
  refine SM.uu (ru_load (i := 0) ts35 rfl rfl rfl rfl) ?_
  refine SM.call rfl rfl rfl rfl (w_all rfl) rfl (lt_b rfl) (iw S.now) rfl rfl co12 rfl rfl (fun l' w hI => H_only hI (rw_now (hI.1.get (i := 1) rfl))) ?_
  refine SM.uu (ru_move rfl rfl) ?_
  refine SM.uu (ru_nilCheck rfl rfl) ?_
  refine SM.uu (ru_fieldAddr (o2 := 5) fd41_3 rfl rfl rfl) ?_
  refine SM.uu (ru_load (i := 0) ts38 rfl rfl rfl rfl) ?_
  refine SM.uu (ru_nilCheck rfl rfl) ?_
  refine SM.uu (ru_fieldAddr (o2 := 4) fd92_2 rfl rfl rfl) ?_
  refine SM.uu (ru_load (i := 2) ts3 rfl rfl rfl rfl) ?_
  refine SM.nilL (l' := [rG g d0 d1 wd e0 e1 vd t0 t1 f0 f1 41, rWp wd d0 d1 G1 S, rB vd e0 e1 M S.now 92, rDv 100 e0 M.fs S.A0, rDv 100 e1 M.fs S.A1, rR0 M 46, rR1 M 46, rZ M.F M.fs]) rfl ?_
  refine SL.uu (ru_ne (b := false) rfl rfl rfl ((by simp))) ?_
  refine SL.mv ?_
  refine SL.gg (ru_move rfl rfl) ?_
  refine SL.gg (ru_nilCheck rfl rfl) ?_
  refine SL.gg (ru_fieldAddr (o2 := 2) fd41_1 rfl rfl rfl) ?_
  refine SL.gg (ru_load (i := 0) ts35 rfl rfl rfl rfl) ?_
  refine SL.callvg (iw 0) rfl rfl rfl rfl co20 rfl rfl rfl (lt_b rfl) (fun w hI => H_only hI ((rw_len (hI.1.get (i := 1) rfl) 2).mono fun e w2 ⟨h1, h2⟩ => ⟨h1, h2⟩)) ?_
  refine SL.gg (ru_ne (b := false) rfl rfl rfl rfl) ?_
  refine SL.pk (bo true) (bo false) ?_
  refine SL.mv ?_
  refine SL.gg (ru_move rfl rfl) ?_
  refine SL.gg (ru_nilCheck rfl rfl) ?_
  refine SL.gg (ru_fieldAddr (o2 := 2) fd41_1 rfl rfl rfl) ?_
  refine SL.gg (ru_load (i := 0) ts35 rfl rfl rfl rfl) ?_
  refine SL.callvg (iw 0) rfl rfl rfl rfl co20 rfl rfl rfl (lt_b rfl) (fun w hI => H_only hI ((rw_len (hI.1.get (i := 1) rfl) (-1)).mono fun e w2 ⟨h1, h2⟩ => ⟨h1, h2⟩)) ?_
  refine SL.gg (ru_ne (b := false) rfl rfl rfl rfl) ?_
  refine SL.pk (bo true) (bo false) ?_
  refine SL.nl ?_
  refine SC.no rfl ?_
  refine SC.skip ?_
  refine SC.of_SE ?_
  refine SC.seq ?_
  refine SC.sr ?_
  refine SL.as ?_
  refine SL.nl ?_
  refine SC.block ?_
  refine SC.rounds 3 ?_
  refine SR.norm [(0, pt g 0), (2, bo false), (3, iw 0)] _ ⟨rfl, rfl, rfl, trivial⟩ rfl ?_
  refine SR.next ?_
  refine SC.seq ?_
  refine SC.sr ?_
  refine SL.mv ?_
  refine SL.uu (ru_lt (b := true) rfl rfl rfl rfl) ?_
  refine SL.nl ?_
  refine SC.yes rfl ?_
  refine SC.skip ?_
  refine SC.of_SE ?_
  refine SC.seq ?_
  refine SC.block ?_
  refine SC.seq ?_
  refine SC.seq ?_
  refine SC.region_mk_tail 16 [(5, Mk.val (iw (S.L0.length : Int)))] [] rfl rfl (by kernel_rfl) (by kernel_rfl) (by kernel_rfl) ?_
  refine SM.uu (ru_move rfl rfl) ?_
  refine SM.uu (ru_nilCheck rfl rfl) ?_
  refine SM.uu (ru_fieldAddr (o2 := 2) fd41_1 rfl rfl rfl) ?_
  refine SM.uu (ru_load (i := 0) ts35 rfl rfl rfl rfl) ?_
  refine SM.uu (ru_move rfl rfl) ?_
  refine SM.call rfl rfl rfl rfl (w_all rfl) rfl (lt_b rfl) (iw (S.L0.length : Int)) rfl rfl co20 rfl rfl (fun l' w hI => H_only hI ((rw_len (hI.1.get (i := 1) rfl) 0).mono fun e w2 ⟨h1, h2⟩ => ⟨h1, h2⟩)) ?_
  refine SM.uu (ru_move rfl rfl) ?_
  refine SM.uu (ru_nilCheck rfl rfl) ?_
  refine SM.uu (ru_fieldAddr (o2 := 5) fd41_3 rfl rfl rfl) ?_
  refine SM.uu (ru_load (i := 0) ts38 rfl rfl rfl rfl) ?_
  refine SM.uu (ru_move rfl rfl) ?_
  refine SM.uu (ru_nilCheck rfl rfl) ?_
  refine SM.uu (ru_fieldAddr (o2 := 2) fd92_1 rfl rfl rfl) ?_
  refine SM.uu (ru_indexA (o2 := 2) ar75 rfl rfl rfl (by decide) (by decide) rfl) ?_
  refine SM.uu (ru_load (i := 2) ts56 rfl rfl rfl rfl) ?_
  refine SM.uu (ru_len Try.underlying56 rfl rfl) ?_
  refine SM.nilL (l' := [rG g d0 d1 wd e0 e1 vd t0 t1 f0 f1 41, rWp wd d0 d1 G1 S, rB vd e0 e1 M S.now 92, rDv 100 e0 M.fs S.A0, rDv 100 e1 M.fs S.A1, rR0 M 46, rR1 M 46, rZ M.F M.fs]) rfl ?_
  refine SL.uu (ru_ne (b := false) rfl rfl rfl ((by rw [hl0]; simp))) ?_
  refine SL.nl ?_
  refine SC.no rfl ?_
  refine SC.skip ?_
  refine SC.of_SE ?_
  refine SC.seq ?_
  refine SC.sr ?_
  refine SL.as ?_
  refine SL.nl ?_
  refine SC.block ?_
  refine SC.loop (γ := Nat) (fun kn z => [(0, pt g 0), (2, bo false), (3, iw 0), (4, iw (z : Int))]) (fun kn z => [rG g d0 d1 wd e0 e1 vd t0 t1 f0 f1 41, rWp wd d0 d1 G1 S, rB vd e0 e1 M S.now 92, rDv 100 e0 M.fs S.A0, rDv 100 e1 M.fs S.A1, rR0 M 46, rR1 M 46, rZ M.F M.fs]) (fun kn z => kn + z = S.L0.length) (S.L0.length) 0 rfl ⟨rfl, rfl, rfl, rfl, trivial⟩ rfl ?_
  rintro K i4 hK
  rcases K with _ | K
  · skip
    refine SC.seq ?_
    refine SC.sr ?_
    refine SL.mv ?_
    refine SL.mv ?_
    refine SL.nk ?_
    refine SL.fa 5 fd41_3 ?_
    refine SL.ld 0 ts38 ?_
    refine SL.mv ?_
    refine SL.nk ?_
    refine SL.fa 2 fd92_1 ?_
    refine SL.ia 2 ar75 ?_
    refine SL.ld 2 ts56 ?_
    refine SL.uu (ru_len Try.underlying56 rfl rfl) ?_
    refine SL.uu (ru_lt (b := (decide (((i4 : Int) : Int) < (M.ps0.length : Int)))) rfl rfl rfl rfl) ?_
    refine SL.nl ?_
    refine SC.no (show some (Value.bool (decide (((i4 : Int) : Int) < (M.ps0.length : Int)))) = some (Value.bool false) from congrArg (fun x => some (Value.bool x)) (decide_eq_false (by omega))) ?_
    refine SC.exit ?_
    refine SE.passe ?_
    refine SE.passe ?_
    refine SE.blke ?_
    refine SC.of_SE ?_
    refine SC.sr ?_
    refine SL.as ?_
    refine SL.nl ?_
    refine SC.block ?_
    refine SC.loop (γ := Nat) (fun kn z => [(0, pt g 0), (2, bo false), (3, iw 0), (6, iw (z : Int))]) (fun kn z => [rG g d0 d1 wd e0 e1 vd t0 t1 f0 f1 41, rWp wd d0 d1 G1 S, rB vd e0 e1 M S.now 92, rDv 100 e0 M.fs S.A0, rDv 100 e1 M.fs S.A1, rR0 M 46, rR1 M 46, rZ M.F M.fs]) (fun kn z => kn + z = 16) (16) 0 rfl ⟨rfl, rfl, rfl, rfl, trivial⟩ rfl ?_
    rintro K i6 hK
    rcases K with _ | K
    · skip
      refine SC.seq ?_
      refine SC.sr ?_
      refine SL.mv ?_
      refine SL.uu (ru_lt (b := (decide (((i6 : Int) : Int) < 16))) rfl rfl rfl rfl) ?_
      refine SL.nl ?_
      refine SC.no (show some (Value.bool (decide (((i6 : Int) : Int) < 16))) = some (Value.bool false) from congrArg (fun x => some (Value.bool x)) (decide_eq_false (by omega))) ?_
      refine SC.exit ?_
      refine SE.passe ?_
      refine SE.passe ?_
      refine SE.blke ?_
      refine SE.blkn ?_
      refine SC.of_SE ?_
      refine SC.region ?_
      refine SL.mv ?_
      refine SL.uu (ru_add (r := 1) rfl rfl rfl rfl) ?_
      refine SL.as ?_
      refine SL.nil ?_
      refine SE.round ?_
      refine SR.norm [(0, pt g 0), (2, bo false), (3, iw 1)] _ ⟨rfl, rfl, rfl, trivial⟩ rfl ?_
      refine SR.next ?_
      refine SC.seq ?_
      refine SC.sr ?_
      refine SL.mv ?_
      refine SL.uu (ru_lt (b := true) rfl rfl rfl rfl) ?_
      refine SL.nl ?_
      refine SC.yes rfl ?_
      refine SC.skip ?_
      refine SC.of_SE ?_
      refine SC.seq ?_
      refine SC.block ?_
      refine SC.seq ?_
      refine SC.seq ?_
      refine SC.region_mk_tail 16 [(5, Mk.val (iw (S.L1.length : Int)))] [] rfl rfl (by kernel_rfl) (by kernel_rfl) (by kernel_rfl) ?_
      refine SM.uu (ru_move rfl rfl) ?_
      refine SM.uu (ru_nilCheck rfl rfl) ?_
      refine SM.uu (ru_fieldAddr (o2 := 2) fd41_1 rfl rfl rfl) ?_
      refine SM.uu (ru_load (i := 0) ts35 rfl rfl rfl rfl) ?_
      refine SM.uu (ru_move rfl rfl) ?_
      refine SM.call rfl rfl rfl rfl (w_all rfl) rfl (lt_b rfl) (iw (S.L1.length : Int)) rfl rfl co20 rfl rfl (fun l' w hI => H_only hI ((rw_len (hI.1.get (i := 1) rfl) 1).mono fun e w2 ⟨h1, h2⟩ => ⟨h1, h2⟩)) ?_
      refine SM.uu (ru_move rfl rfl) ?_
      refine SM.uu (ru_nilCheck rfl rfl) ?_
      refine SM.uu (ru_fieldAddr (o2 := 5) fd41_3 rfl rfl rfl) ?_
      refine SM.uu (ru_load (i := 0) ts38 rfl rfl rfl rfl) ?_
      refine SM.uu (ru_move rfl rfl) ?_
      refine SM.uu (ru_nilCheck rfl rfl) ?_
      refine SM.uu (ru_fieldAddr (o2 := 2) fd92_1 rfl rfl rfl) ?_
      refine SM.uu (ru_indexA (o2 := 3) ar75 rfl rfl rfl (by decide) (by decide) rfl) ?_
      refine SM.uu (ru_load (i := 2) ts56 rfl rfl rfl rfl) ?_
      refine SM.uu (ru_len Try.underlying56 rfl rfl) ?_
      refine SM.nilL (l' := [rG g d0 d1 wd e0 e1 vd t0 t1 f0 f1 41, rWp wd d0 d1 G1 S, rB vd e0 e1 M S.now 92, rDv 100 e0 M.fs S.A0, rDv 100 e1 M.fs S.A1, rR0 M 46, rR1 M 46, rZ M.F M.fs]) rfl ?_
      refine SL.uu (ru_ne (b := false) rfl rfl rfl ((by rw [hl1]; simp))) ?_
      refine SL.nl ?_
      refine SC.no rfl ?_
      refine SC.skip ?_
      refine SC.of_SE ?_
      refine SC.seq ?_
      refine SC.sr ?_
      refine SL.as ?_
      refine SL.nl ?_
      refine SC.block ?_
      refine SC.loop (γ := Nat) (fun kn z => [(0, pt g 0), (2, bo false), (3, iw 1), (4, iw (z : Int))]) (fun kn z => [rG g d0 d1 wd e0 e1 vd t0 t1 f0 f1 41, rWp wd d0 d1 G1 S, rB vd e0 e1 M S.now 92, rDv 100 e0 M.fs S.A0, rDv 100 e1 M.fs S.A1, rR0 M 46, rR1 M 46, rZ M.F M.fs]) (fun kn z => kn + z = S.L1.length) (S.L1.length) 0 rfl ⟨rfl, rfl, rfl, rfl, trivial⟩ rfl ?_
      rintro K i4 hK
      rcases K with _ | K
      · skip
        refine SC.seq ?_
        refine SC.sr ?_
        refine SL.mv ?_
        refine SL.mv ?_
        refine SL.nk ?_
        refine SL.fa 5 fd41_3 ?_
        refine SL.ld 0 ts38 ?_
        refine SL.mv ?_
        refine SL.nk ?_
        refine SL.fa 2 fd92_1 ?_
        refine SL.ia 3 ar75 ?_
        refine SL.ld 2 ts56 ?_
        refine SL.uu (ru_len Try.underlying56 rfl rfl) ?_
        refine SL.uu (ru_lt (b := (decide (((i4 : Int) : Int) < (M.ps1.length : Int)))) rfl rfl rfl rfl) ?_
        refine SL.nl ?_
        refine SC.no (show some (Value.bool (decide (((i4 : Int) : Int) < (M.ps1.length : Int)))) = some (Value.bool false) from congrArg (fun x => some (Value.bool x)) (decide_eq_false (by omega))) ?_
        refine SC.exit ?_
        refine SE.passe ?_
        refine SE.passe ?_
        refine SE.blke ?_
        refine SC.of_SE ?_
        refine SC.sr ?_
        refine SL.as ?_
        refine SL.nl ?_
        refine SC.block ?_
        refine SC.loop (γ := Nat) (fun kn z => [(0, pt g 0), (2, bo false), (3, iw 1), (6, iw (z : Int))]) (fun kn z => [rG g d0 d1 wd e0 e1 vd t0 t1 f0 f1 41, rWp wd d0 d1 G1 S, rB vd e0 e1 M S.now 92, rDv 100 e0 M.fs S.A0, rDv 100 e1 M.fs S.A1, rR0 M 46, rR1 M 46, rZ M.F M.fs]) (fun kn z => kn + z = 16) (16) 0 rfl ⟨rfl, rfl, rfl, rfl, trivial⟩ rfl ?_
        rintro K i6 hK
        rcases K with _ | K
        · skip
          refine SC.seq ?_
          refine SC.sr ?_
          refine SL.mv ?_
          refine SL.uu (ru_lt (b := (decide (((i6 : Int) : Int) < 16))) rfl rfl rfl rfl) ?_
          refine SL.nl ?_
          refine SC.no (show some (Value.bool (decide (((i6 : Int) : Int) < 16))) = some (Value.bool false) from congrArg (fun x => some (Value.bool x)) (decide_eq_false (by omega))) ?_
          refine SC.exit ?_
          refine SE.passe ?_
          refine SE.passe ?_
          refine SE.blke ?_
          refine SE.blkn ?_
          refine SC.of_SE ?_
          refine SC.region ?_
          refine SL.mv ?_
          refine SL.uu (ru_add (r := 2) rfl rfl rfl rfl) ?_
          refine SL.as ?_
          refine SL.nil ?_
          refine SE.round ?_
          refine SR.norm [(0, pt g 0), (2, bo false), (3, iw 2)] _ ⟨rfl, rfl, rfl, trivial⟩ rfl ?_
          refine SR.next ?_
          refine SC.seq ?_
          refine SC.sr ?_
          refine SL.mv ?_
          refine SL.uu (ru_lt (b := false) rfl rfl rfl rfl) ?_
          refine SL.nl ?_
          refine SC.no rfl ?_
          refine SC.exit ?_
          refine SE.passe ?_
          refine SE.passe ?_
          refine SE.blke ?_
          refine SC.of_SE ?_
          refine SC.sr ?_
          refine SL.as ?_
          refine SL.nl ?_
          refine SC.ret ?_
          refine SE.res (.inl rfl) (res1 Try.results24 rfl) fun w1 hI => ⟨rfl, hI.2⟩
        refine SC.seq ?_
        refine SC.sr ?_
        refine SL.mv ?_
        refine SL.uu (ru_lt (b := (decide (((i6 : Int) : Int) < 16))) rfl rfl rfl rfl) ?_
        refine SL.nl ?_
        refine SC.yes (show some (Value.bool (decide (((i6 : Int) : Int) < 16))) = some (Value.bool true) from congrArg (fun x => some (Value.bool x)) (decide_eq_true (by omega))) ?_
        refine SC.skip ?_
        refine SC.of_SE ?_
        refine SC.seq ?_
        refine SC.block ?_
        refine SC.sr ?_
        refine SL.mv ?_
        refine SL.mv ?_
        refine SL.nk ?_
        refine SL.fa 0 fd41_0 ?_
        refine SL.ia 1 ar34 ?_
        refine SL.ld 0 ts33 ?_
        refine SL.mv ?_
        refine SL.call (ζ := Option Addr × Nat) (fun z => Value.tuple #[Value.slice z.1 ((rxR S.A1 (i6 : Int)).1.1.length) z.2, bo ((rxR S.A1 (i6 : Int)).1.2), iw ((rxR S.A1 (i6 : Int)).2)]) (fun z => [rG g d0 d1 wd e0 e1 vd t0 t1 f0 f1 41, rWp wd d0 d1 G1 S, rB vd e0 e1 M S.now 92, rDv 100 e0 M.fs S.A0, rDv 100 e1 M.fs S.A1, rR0 M 46, rR1 M 46, rZ M.F M.fs] ++ [rMine (.slice z.1 (rxR S.A1 (i6 : Int)).1.1.length z.2) (rxR S.A1 (i6 : Int)).1.1 5]) (fun z => True) rfl rfl co38 rfl rfl rfl (lt_b rfl) (fun w5 hI => (rw_rx1 (hI.1.get (i := 1) rfl) hR.wb.d1.ok (i6 : Int)).mono fun e w2 ⟨v, h1, h2, h3⟩ => by obtain ⟨qa, qc, rfl, k2⟩ := Inv.rxedw hI (rx_lenw hR.wb.d1.ok _) h2 h3; exact ⟨(qa, qc), h1, k2, trivial⟩) ?_
        rintro ⟨q1, c2⟩ _
        refine SL.mv ?_
        refine SL.uu (ru_extract rfl rfl rfl) ?_
        refine SL.uu (ru_extract rfl rfl rfl) ?_
        refine SL.uu (ru_extract rfl rfl rfl) ?_
        refine SL.as ?_
        refine SL.as ?_
        refine SL.as ?_
        refine SL.nl ?_
        refine SC.sr ?_
        refine SL.mv ?_
        refine SL.mv ?_
        refine SL.nk ?_
        refine SL.fa 3 fd41_2 ?_
        refine SL.ia 4 ar37 ?_
        refine SL.ld 0 ts36 ?_
        refine SL.mv ?_
        refine SL.call (ζ := Option Addr × Nat) (fun z => Value.tuple #[Value.slice z.1 ((rxR S.A1 (i6 : Int)).1.1.length) z.2, bo ((rxR S.A1 (i6 : Int)).1.2), iw ((rxR S.A1 (i6 : Int)).2)]) (fun z => [rG g d0 d1 wd e0 e1 vd t0 t1 f0 f1 41, rWp wd d0 d1 G1 S, rB vd e0 e1 M S.now 92, rDv 100 e0 M.fs S.A0, rDv 100 e1 M.fs S.A1, rR0 M 46, rR1 M 46, rZ M.F M.fs, rMine (.slice q1 (rxR S.A1 (i6 : Int)).1.1.length c2) (rxR S.A1 (i6 : Int)).1.1 5]) (fun z => BytesAt w (.slice z.1 (rxR S.A1 (i6 : Int)).1.1.length z.2) (rxR S.A1 (i6 : Int)).1.1) rfl rfl co56 rfl rfl rfl (lt_b rfl) (fun w5 hI => (rv_rx1 ((h.same (fun b hb => hI.2.block b hb id)).get (i := 2) rfl) hR.wb.d1.ok (i6 : Int)).mono fun e w2 ⟨v, h1, h2, h3⟩ => by obtain ⟨qa, qc, rfl, k2⟩ := Lent.back h3 (fun b hb => (hI.2.trans h2).block b (h2lt b hb) id); exact ⟨(qa, qc), h1, hI.only h2, k2⟩) ?_
        rintro ⟨q3, c4⟩ hxq3
        dsimp only at hxq3
        refine SL.mv ?_
        refine SL.uu (ru_extract rfl rfl rfl) ?_
        refine SL.uu (ru_extract rfl rfl rfl) ?_
        refine SL.uu (ru_extract rfl rfl rfl) ?_
        refine SL.as ?_
        refine SL.as ?_
        refine SL.as ?_
        refine SL.nl ?_
        refine SC.sr ?_
        refine SL.mv ?_
        refine SL.uu (ru_str (f := ((rxR S.A1 (i6 : Int)).1.1)) Try.underlying28 Try.underlying5 Try.underlying9 rfl rfl (fun w hI => mine_bytesw hI (j := 8) rfl (rx_lenw hR.wb.d1.ok _))) ?_
        refine SL.mv ?_
        refine SL.uu (ru_str (f := ((rxR S.A1 (i6 : Int)).1.1)) Try.underlying28 Try.underlying5 Try.underlying9 rfl rfl (fun w hI => hxq3.only hI.2 (fun b _ _ _ _ _ h => h))) ?_
        refine SL.uu (ru_strne (f := (rxR S.A1 (i6 : Int)).1.1) (h := (rxR S.A1 (i6 : Int)).1.1) (b := false) Try.underlying9 rfl rfl rfl (by simp)) ?_
        refine SL.mv ?_
        refine SL.gg (ru_move rfl rfl) ?_
        refine SL.gg (ru_move rfl rfl) ?_
        refine SL.gg (ru_neb (b := false) Try.underlying4 rfl rfl rfl (by simp)) ?_
        refine SL.pk (bo true) (bo false) ?_
        refine SL.mv ?_
        refine SL.gg (ru_move rfl rfl) ?_
        refine SL.gg (ru_move rfl rfl) ?_
        refine SL.gg (ru_ne (b := false) rfl rfl rfl ((by simp))) ?_
        refine SL.pk (bo true) (bo false) ?_
        refine SL.nn [(0, pt g 0), (2, bo false), (3, iw 1), (6, iw (i6 : Int)), (125, bo false)] _ ⟨rfl, rfl, rfl, rfl, rfl, trivial⟩ ?_
        refine SC.no rfl ?_
        refine SC.skip ?_
        refine SE.blkn ?_
        refine SC.of_SE ?_
        refine SC.region ?_
        refine SL.mv ?_
        refine SL.uu (ru_add (r := (IntKind.i64.wrap ((i6 : Int) + 1))) rfl rfl rfl rfl) ?_
        refine SL.as ?_
        refine SL.nil ?_
        refine SE.keep 8 ?_
        refine SE.again K (i6 + 1) (by omega) (by omega) ⟨rfl, rfl, rfl, (congrArg (fun x => some (iw x)) (show IntKind.i64.wrap ((i6 : Int) + 1) = ((i6 + 1 : Nat) : Int) by rw [IntKind.wrap_i64]; omega)), trivial⟩ rfl
      refine SC.seq ?_
      refine SC.sr ?_
      refine SL.mv ?_
      refine SL.mv ?_
      refine SL.nk ?_
      refine SL.fa 5 fd41_3 ?_
      refine SL.ld 0 ts38 ?_
      refine SL.mv ?_
      refine SL.nk ?_
      refine SL.fa 2 fd92_1 ?_
      refine SL.ia 3 ar75 ?_
      refine SL.ld 2 ts56 ?_
      refine SL.uu (ru_len Try.underlying56 rfl rfl) ?_
      refine SL.uu (ru_lt (b := (decide (((i4 : Int) : Int) < (M.ps1.length : Int)))) rfl rfl rfl rfl) ?_
      refine SL.nl ?_
      refine SC.yes (show some (Value.bool (decide (((i4 : Int) : Int) < (M.ps1.length : Int)))) = some (Value.bool true) from congrArg (fun x => some (Value.bool x)) (decide_eq_true (by omega))) ?_
      refine SC.skip ?_
      refine SC.of_SE ?_
      refine SC.seq ?_
      refine SC.block ?_
      refine SC.sr ?_
      refine SL.mv ?_
      refine SL.mv ?_
      refine SL.mv ?_
      refine SL.callv (bo true) rfl rfl co41 rfl rfl rfl (lt_b rfl) (fun w hI => H_only hI (sees_any (n := n) (S := S) hR.wb (h.same (fun b hb => hI.2.block b hb id)) 1 (i4 : Int))) ?_
      refine SL.as ?_
      refine SL.nl ?_
      refine SC.sr ?_
      refine SL.mv ?_
      refine SL.uu (ru_not (c := false) rfl rfl rfl) ?_
      refine SL.nl ?_
      refine SC.no rfl ?_
      refine SC.skip ?_
      refine SE.blkn ?_
      refine SC.of_SE ?_
      refine SC.region ?_
      refine SL.mv ?_
      refine SL.uu (ru_add (r := (IntKind.i64.wrap ((i4 : Int) + 1))) rfl rfl rfl rfl) ?_
      refine SL.as ?_
      refine SL.nil ?_
      refine SE.keep 8 ?_
      refine SE.again K (i4 + 1) (by omega) (by omega) ⟨rfl, rfl, rfl, (congrArg (fun x => some (iw x)) (show IntKind.i64.wrap ((i4 : Int) + 1) = ((i4 + 1 : Nat) : Int) by rw [IntKind.wrap_i64]; omega)), trivial⟩ rfl
    refine SC.seq ?_
    refine SC.sr ?_
    refine SL.mv ?_
    refine SL.uu (ru_lt (b := (decide (((i6 : Int) : Int) < 16))) rfl rfl rfl rfl) ?_
    refine SL.nl ?_
    refine SC.yes (show some (Value.bool (decide (((i6 : Int) : Int) < 16))) = some (Value.bool true) from congrArg (fun x => some (Value.bool x)) (decide_eq_true (by omega))) ?_
    refine SC.skip ?_
    refine SC.of_SE ?_
    refine SC.seq ?_
    refine SC.block ?_
    refine SC.sr ?_
    refine SL.mv ?_
    refine SL.mv ?_
    refine SL.nk ?_
    refine SL.fa 0 fd41_0 ?_
    refine SL.ia 0 ar34 ?_
    refine SL.ld 0 ts33 ?_
    refine SL.mv ?_
    refine SL.call (ζ := Option Addr × Nat) (fun z => Value.tuple #[Value.slice z.1 ((rxR S.A0 (i6 : Int)).1.1.length) z.2, bo ((rxR S.A0 (i6 : Int)).1.2), iw ((rxR S.A0 (i6 : Int)).2)]) (fun z => [rG g d0 d1 wd e0 e1 vd t0 t1 f0 f1 41, rWp wd d0 d1 G1 S, rB vd e0 e1 M S.now 92, rDv 100 e0 M.fs S.A0, rDv 100 e1 M.fs S.A1, rR0 M 46, rR1 M 46, rZ M.F M.fs] ++ [rMine (.slice z.1 (rxR S.A0 (i6 : Int)).1.1.length z.2) (rxR S.A0 (i6 : Int)).1.1 5]) (fun z => True) rfl rfl co38 rfl rfl rfl (lt_b rfl) (fun w5 hI => (rw_rx0 (hI.1.get (i := 1) rfl) hR.wb.d0.ok (i6 : Int)).mono fun e w2 ⟨v, h1, h2, h3⟩ => by obtain ⟨qa, qc, rfl, k2⟩ := Inv.rxedw hI (rx_lenw hR.wb.d0.ok _) h2 h3; exact ⟨(qa, qc), h1, k2, trivial⟩) ?_
    rintro ⟨q5, c6⟩ _
    refine SL.mv ?_
    refine SL.uu (ru_extract rfl rfl rfl) ?_
    refine SL.uu (ru_extract rfl rfl rfl) ?_
    refine SL.uu (ru_extract rfl rfl rfl) ?_
    refine SL.as ?_
    refine SL.as ?_
    refine SL.as ?_
    refine SL.nl ?_
    refine SC.sr ?_
    refine SL.mv ?_
    refine SL.mv ?_
    refine SL.nk ?_
    refine SL.fa 3 fd41_2 ?_
    refine SL.ia 3 ar37 ?_
    refine SL.ld 0 ts36 ?_
    refine SL.mv ?_
    refine SL.call (ζ := Option Addr × Nat) (fun z => Value.tuple #[Value.slice z.1 ((rxR S.A0 (i6 : Int)).1.1.length) z.2, bo ((rxR S.A0 (i6 : Int)).1.2), iw ((rxR S.A0 (i6 : Int)).2)]) (fun z => [rG g d0 d1 wd e0 e1 vd t0 t1 f0 f1 41, rWp wd d0 d1 G1 S, rB vd e0 e1 M S.now 92, rDv 100 e0 M.fs S.A0, rDv 100 e1 M.fs S.A1, rR0 M 46, rR1 M 46, rZ M.F M.fs, rMine (.slice q5 (rxR S.A0 (i6 : Int)).1.1.length c6) (rxR S.A0 (i6 : Int)).1.1 5]) (fun z => BytesAt w (.slice z.1 (rxR S.A0 (i6 : Int)).1.1.length z.2) (rxR S.A0 (i6 : Int)).1.1) rfl rfl co56 rfl rfl rfl (lt_b rfl) (fun w5 hI => (rv_rx0 ((h.same (fun b hb => hI.2.block b hb id)).get (i := 2) rfl) hR.wb.d0.ok (i6 : Int)).mono fun e w2 ⟨v, h1, h2, h3⟩ => by obtain ⟨qa, qc, rfl, k2⟩ := Lent.back h3 (fun b hb => (hI.2.trans h2).block b (h2lt b hb) id); exact ⟨(qa, qc), h1, hI.only h2, k2⟩) ?_
    rintro ⟨q7, c8⟩ hxq7
    dsimp only at hxq7
    refine SL.mv ?_
    refine SL.uu (ru_extract rfl rfl rfl) ?_
    refine SL.uu (ru_extract rfl rfl rfl) ?_
    refine SL.uu (ru_extract rfl rfl rfl) ?_
    refine SL.as ?_
    refine SL.as ?_
    refine SL.as ?_
    refine SL.nn [(0, pt g 0), (2, bo false), (3, iw 0), (6, iw (i6 : Int)), (7, Value.slice q5 ((rxR S.A0 (i6 : Int)).1.1.length) c6), (8, bo ((rxR S.A0 (i6 : Int)).1.2)), (9, iw ((rxR S.A0 (i6 : Int)).2)), (10, Value.slice q7 ((rxR S.A0 (i6 : Int)).1.1.length) c8), (11, bo ((rxR S.A0 (i6 : Int)).1.2)), (12, iw ((rxR S.A0 (i6 : Int)).2))] _ ⟨rfl, rfl, rfl, rfl, rfl, rfl, rfl, rfl, rfl, rfl, trivial⟩ ?_
    refine SC.sr ?_
    refine SL.mv ?_
    refine SL.uu (ru_str (f := ((rxR S.A0 (i6 : Int)).1.1)) Try.underlying28 Try.underlying5 Try.underlying9 rfl rfl (fun w hI => mine_bytesw hI (j := 8) rfl (rx_lenw hR.wb.d0.ok _))) ?_
    refine SL.mv ?_
    refine SL.uu (ru_str (f := ((rxR S.A0 (i6 : Int)).1.1)) Try.underlying28 Try.underlying5 Try.underlying9 rfl rfl (fun w hI => hxq7.only hI.2 (fun b _ _ _ _ _ h => h))) ?_
    refine SL.uu (ru_strne (f := (rxR S.A0 (i6 : Int)).1.1) (h := (rxR S.A0 (i6 : Int)).1.1) (b := false) Try.underlying9 rfl rfl rfl (by simp)) ?_
    refine SL.mv ?_
    refine SL.gg (ru_move rfl rfl) ?_
    refine SL.gg (ru_move rfl rfl) ?_
    refine SL.gg (ru_neb (b := false) Try.underlying4 rfl rfl rfl (by simp)) ?_
    refine SL.pk (bo true) (bo false) ?_
    refine SL.mv ?_
    refine SL.gg (ru_move rfl rfl) ?_
    refine SL.gg (ru_move rfl rfl) ?_
    refine SL.gg (ru_ne (b := false) rfl rfl rfl ((by simp))) ?_
    refine SL.pk (bo true) (bo false) ?_
    refine SL.nl ?_
    refine SC.no rfl ?_
    refine SC.skip ?_
    refine SE.blkn ?_
    refine SC.of_SE ?_
    refine SC.region ?_
    refine SL.mv ?_
    refine SL.uu (ru_add (r := (IntKind.i64.wrap ((i6 : Int) + 1))) rfl rfl rfl rfl) ?_
    refine SL.as ?_
    refine SL.nil ?_
    refine SE.keep 8 ?_
    refine SE.again K (i6 + 1) (by omega) (by omega) ⟨rfl, rfl, rfl, (congrArg (fun x => some (iw x)) (show IntKind.i64.wrap ((i6 : Int) + 1) = ((i6 + 1 : Nat) : Int) by rw [IntKind.wrap_i64]; omega)), trivial⟩ rfl
  refine SC.seq ?_
  refine SC.sr ?_
  refine SL.mv ?_
  refine SL.mv ?_
  refine SL.nk ?_
  refine SL.fa 5 fd41_3 ?_
  refine SL.ld 0 ts38 ?_
  refine SL.mv ?_
  refine SL.nk ?_
  refine SL.fa 2 fd92_1 ?_
  refine SL.ia 2 ar75 ?_
  refine SL.ld 2 ts56 ?_
  refine SL.uu (ru_len Try.underlying56 rfl rfl) ?_
  refine SL.uu (ru_lt (b := (decide (((i4 : Int) : Int) < (M.ps0.length : Int)))) rfl rfl rfl rfl) ?_
  refine SL.nl ?_
  refine SC.yes (show some (Value.bool (decide (((i4 : Int) : Int) < (M.ps0.length : Int)))) = some (Value.bool true) from congrArg (fun x => some (Value.bool x)) (decide_eq_true (by omega))) ?_
  refine SC.skip ?_
  refine SC.of_SE ?_
  refine SC.seq ?_
  refine SC.block ?_
  refine SC.sr ?_
  refine SL.mv ?_
  refine SL.mv ?_
  refine SL.mv ?_
  refine SL.callv (bo true) rfl rfl co41 rfl rfl rfl (lt_b rfl) (fun w hI => H_only hI (sees_any (n := n) (S := S) hR.wb (h.same (fun b hb => hI.2.block b hb id)) 0 (i4 : Int))) ?_
  refine SL.as ?_
  refine SL.nl ?_
  refine SC.sr ?_
  refine SL.mv ?_
  refine SL.uu (ru_not (c := false) rfl rfl rfl) ?_
  refine SL.nl ?_
  refine SC.no rfl ?_
  refine SC.skip ?_
  refine SE.blkn ?_
  refine SC.of_SE ?_
  refine SC.region ?_
  refine SL.mv ?_
  refine SL.uu (ru_add (r := (IntKind.i64.wrap ((i4 : Int) + 1))) rfl rfl rfl rfl) ?_
  refine SL.as ?_
  refine SL.nil ?_
  refine SE.keep 8 ?_
  refine SE.again K (i4 + 1) (by omega) (by omega) ⟨rfl, rfl, rfl, (congrArg (fun x => some (iw x)) (show IntKind.i64.wrap ((i4 : Int) + 1) = ((i4 + 1 : Nat) : Int) by rw [IntKind.wrap_i64]; omega)), trivial⟩ rfl

end Go.Proofs.Ytcilikkljkdceaa

/-
  WireDoes, walked.
-/
namespace Go.Proofs.Ytcilikkljkdceaa
open Go.RowKit
set_option maxRecDepth 100000
set_option maxHeartbeats 4000000
theorem does_walk (w : World) {v : Value} {l : List OpW} (ho : OpsW w v l) : Calls Try.prog 6 #[v] w fun e w' => e = .returned (bo true) ∧ Only (fun _ => False) w w' := by
  obtain ⟨oa, oc, rfl, hlen, hops⟩ := ho
  refine calls_sc (l0 := []) (args := [Value.slice oa l.length oc]) (fun _ => False) Try.func6 rfl 36 Try.ntmps6 (le_b rfl) ⟨⟨by simp, List.Pairwise.nil⟩, Only.refl _ _⟩ ?_
  show SC _ _ _ _ [(0, Value.slice oa l.length oc)] []
  refine SC.sr ?_
  refine SL.as ?_
  refine SL.nl ?_
  refine SC.sr ?_
  refine SL.callv (bo true) rfl rfl co7 rfl rfl rfl (lt_b rfl) (fun w hI => H_only hI (awake_any _)) ?_
  refine SL.as ?_
  refine SL.nl ?_
  refine SC.sr ?_
  refine SL.call (ζ := Nat × Nat × Nat × Nat × Nat × Nat × Nat × (Nat → Prop) × (Nat → Prop)) (fun z => pt z.1 0) (fun z => RgL z.1 z.2.1 z.2.2.1 z.2.2.2.1 z.2.2.2.2.1 z.2.2.2.2.2.1 z.2.2.2.2.2.2.1 z.2.2.2.2.2.2.2.1 z.2.2.2.2.2.2.2.2 rg0) (fun z => w.heap.size ≤ z.1 ∧ (∀ b, z.2.2.2.2.2.2.2.1 b → w.heap.size ≤ b) ∧ ∀ b, z.2.2.2.2.2.2.2.2 b → w.heap.size ≤ b) rfl rfl co8 rfl rfl rfl (lt_b rfl) (fun w9 hI => (begun_any w9).mono fun e w2 ⟨g, wd, d0, d1, vd, e0, e1, G1, G2, h1, h2, h3, h4, h5, h6⟩ => ⟨(g, wd, d0, d1, vd, e0, e1, G1, G2), h1, ⟨h2, hI.2.trans' h6 (fun b hb => hb.elim)⟩, Nat.le_trans hI.2.size h3, fun b hb => Nat.le_trans hI.2.size (h4 b hb), fun b hb => Nat.le_trans hI.2.size (h5 b hb)⟩) ?_
  rintro ⟨g, wd, d0, d1, vd, e0, e1, G1, G2⟩ ⟨hgn, hn1, hn2⟩
  dsimp only at hgn hn1 hn2
  have hG1 : ∀ b, G1 b → False ∨ w.heap.size ≤ b := fun b hb => .inr (hn1 b hb)
  have hG2 : ∀ b, G2 b → False ∨ w.heap.size ≤ b := fun b hb => .inr (hn2 b hb)
  refine SL.as ?_
  refine SL.nl ?_
  refine SC.seq ?_
  refine SC.sr ?_
  refine SL.mv ?_
  refine SL.uu (ru_not (c := false) rfl rfl rfl) ?_
  refine SL.mv ?_
  refine SL.gg (ru_move rfl rfl) ?_
  refine SL.gg (ru_eqnil Try.underlying24 rfl rfl rfl rfl) ?_
  refine SL.pk (bo true) (bo false) ?_
  refine SL.nl ?_
  refine SC.no rfl ?_
  refine SC.skip ?_
  refine SC.of_SE ?_
  refine SC.seq ?_
  refine SC.sr ?_
  refine SL.as ?_
  refine SL.nl ?_
  refine SC.block ?_
  clear hn1 hn2
  refine SC.loop (γ := Nat × Wi × Int × Int × Int × Int × (Nat → Prop) × (Nat → Prop)) (fun kn z => [(0, Value.slice oa l.length oc), (2, bo false), (4, pt g 0), (5, iw (z.1 : Int))]) (fun kn z => [rG g d0 d1 wd e0 e1 vd z.2.2.1 z.2.2.2.1 z.2.2.2.2.1 z.2.2.2.2.2.1 41, rWp wd d0 d1 z.2.2.2.2.2.2.1 z.2.1, rWq vd e0 e1 z.2.2.2.2.2.2.2 z.2.1]) (fun kn z => kn + z.1 = l.length ∧ Rn z.1 z.2.1 z.2.2.1 z.2.2.2.1 z.2.2.2.2.1 z.2.2.2.2.2.1 ∧ (∀ b, z.2.2.2.2.2.2.1 b → False ∨ w.heap.size ≤ b) ∧ ∀ b, z.2.2.2.2.2.2.2 b → False ∨ w.heap.size ≤ b) l.length (0, wi0, 0, 0, 0, 0, G1, G2) ⟨rfl, rn0, hG1, hG2⟩ ⟨rfl, rfl, rfl, rfl, trivial⟩ rfl ?_
  clear hG1 hG2
  clear G1 G2
  rintro N ⟨i, S, t0, t1, f0, f1, G1, G2⟩ ⟨hn, hR, hG1, hG2⟩
  dsimp only at hn hR hG1 hG2
  rcases N with _ | N
  · skip
    refine SC.seq ?_
    refine SC.sr ?_
    refine SL.mv ?_
    refine SL.mv ?_
    refine SL.uu (ru_len Try.underlying22 rfl rfl) ?_
    refine SL.uu (ru_lt (b := (decide (((i : Int) : Int) < (l.length : Int)))) rfl rfl rfl rfl) ?_
    refine SL.nl ?_
    refine SC.no (show some (Value.bool (decide (((i : Int) : Int) < (l.length : Int)))) = some (Value.bool false) from congrArg (fun x => some (Value.bool x)) (decide_eq_false (by omega))) ?_
    refine SC.exit ?_
    refine SE.passe ?_
    refine SE.passe ?_
    refine SE.blke ?_
    refine SC.of_SE ?_
    refine SC.sr ?_
    refine SL.as ?_
    refine SL.nl ?_
    refine SC.ret ?_
    refine SE.res (.inl rfl) (res1 Try.results6 rfl) fun w1 hI => ⟨rfl, hI.2⟩
  obtain ⟨ob, oo, ea, hop⟩ := hops i (by omega)
  obtain ⟨⟨ok, od, okk, oto, ov, f⟩, hl⟩ : ∃ op : OpW, op = l[i]'(by omega) := ⟨_, rfl⟩
  rw [← hl] at hop
  obtain ⟨hc, hb0, hs0, hi9⟩ := hop
  simp only at hc hb0 hs0 hi9
  obtain ⟨fa, fc, rfl⟩ := hb0.form
  subst ea
  have hto : oto ≤ 9223372036854775807 := hi9.2
  refine SC.seq ?_
  refine SC.sr ?_
  refine SL.mv ?_
  refine SL.mv ?_
  refine SL.uu (ru_len Try.underlying22 rfl rfl) ?_
  refine SL.uu (ru_lt (b := (decide (((i : Int) : Int) < (l.length : Int)))) rfl rfl rfl rfl) ?_
  refine SL.nl ?_
  refine SC.yes (show some (Value.bool (decide (((i : Int) : Int) < (l.length : Int)))) = some (Value.bool true) from congrArg (fun x => some (Value.bool x)) (decide_eq_true (by omega))) ?_
  refine SC.skip ?_
  refine SC.of_SE ?_
  refine SC.seq ?_
  refine SC.block ?_
  refine SC.sr ?_
  refine SL.mv ?_
  refine SL.mv ?_
  refine SL.mv ?_
  refine SL.uu (ru_indexS (o2 := oo + (i : Int).toNat * 5) si22 rfl rfl rfl (by omega) (by omega) rfl) ?_
  refine SL.uu (ru_loada_old (vs := [iw ok, iw od, iw okk, iw oto, Value.slice fa f.length fc]) (fun _ h => h) ta30 rfl rfl rfl (by rw [Int.toNat_natCast]; exact hc)) ?_
  refine SL.call (ζ := Wi × Int × Int × Int × Int × (Nat → Prop) × (Nat → Prop)) (fun z => bo true) (fun z => [rG g d0 d1 wd e0 e1 vd z.2.1 z.2.2.1 z.2.2.2.1 z.2.2.2.2.1 41, rWp wd d0 d1 z.2.2.2.2.2.1 z.1, rWq vd e0 e1 z.2.2.2.2.2.2 z.1]) (fun z => Rn (i + 1) z.1 z.2.1 z.2.2.1 z.2.2.2.1 z.2.2.2.2.1 ∧ (∀ b, z.2.2.2.2.2.1 b → False ∨ w.heap.size ≤ b) ∧ ∀ b, z.2.2.2.2.2.2 b → False ∨ w.heap.size ≤ b) rfl rfl co17 rfl rfl rfl (lt_b rfl) (fun w5 hI => (does_any (by omega) hto hR (hb0.only hI.2 (fun b _ _ _ _ _ h => h)) (fun b o n c e hn => ⟨fun hz => by have h8 := hs0 b o n c e hn; rcases hz with e1 | e1 | e1; (omega); (have := (hG1 b e1).resolve_left id; omega); (have := (hG2 b e1).resolve_left id; omega), Nat.lt_of_lt_of_le (hs0 b o n c e hn) hI.2.size⟩) ((hI.keep 3).1)).mono fun e w2 ⟨h1, S9, t09, t19, f09, f19, kz, hR9, hon9⟩ => by obtain ⟨I1, I2, k1, k2, k3⟩ := Inv.rgto (X := ⟨36, w, fun _ => False⟩) (g := g) (wd := wd) (d0 := d0) (d1 := d1) (vd := vd) (e0 := e0) (e1 := e1) (R := ⟨S, S, t0, t1, f0, f1⟩) (G1 := G1) (G2 := G2) (l := []) hI (fun b hb => hb.elim (fun e => by rw [e]; exact .inr hgn) (fun e => e.elim (hG1 b) (hG2 b))) kz; exact ⟨(S9, t09, t19, f09, f19, I1, I2), h1, k1, hR9, k2, k3⟩) ?_
  rintro ⟨S9, t09, t19, f09, f19, Ga, Gb⟩ ⟨hR9, hGa, hGb⟩
  dsimp only at hR9 hGa hGb
  refine SL.as ?_
  refine SL.nl ?_
  refine SC.sr ?_
  refine SL.mv ?_
  refine SL.callv (bo true) rfl rfl co24 rfl rfl rfl (lt_b rfl) (fun w hI => H_only hI (alike_any (by omega) hR9 ((hI.keep 3).1))) ?_
  refine SL.as ?_
  refine SL.nl ?_
  refine SC.sr ?_
  refine SL.mv ?_
  refine SL.uu (ru_not (c := false) rfl rfl rfl) ?_
  refine SL.mv ?_
  refine SL.gg (ru_move rfl rfl) ?_
  refine SL.gg (ru_not (c := false) rfl rfl rfl) ?_
  refine SL.pk (bo true) (bo false) ?_
  refine SL.nl ?_
  refine SC.no rfl ?_
  refine SC.skip ?_
  refine SE.blkn ?_
  refine SC.of_SE ?_
  refine SC.region ?_
  refine SL.mv ?_
  refine SL.uu (ru_add (r := (IntKind.i64.wrap ((i : Int) + 1))) rfl rfl rfl rfl) ?_
  refine SL.as ?_
  refine SL.nil ?_
  refine SE.keep 3 ?_
  refine SE.again N (i + 1, S9, t09, t19, f09, f19, Ga, Gb) (by omega) ⟨by dsimp only; omega, hR9, hGa, hGb⟩ ⟨rfl, rfl, rfl, (congrArg (fun x => some (iw x)) (show IntKind.i64.wrap ((i : Int) + 1) = ((i + 1 : Nat) : Int) by rw [IntKind.wrap_i64]; omega)), trivial⟩ rfl

end Go.Proofs.Ytcilikkljkdceaa

/-
  The arguments of the wire's statements, opened.
-/
namespace Go.Proofs.Ytcilikkljkdceaa
open Go.ChangeShapes Go.WideShapes Go.ChangeAt Go.RowKit Go.Deep
set_option maxRecDepth 100000
variable {H : Type} {enc : TypeId × Value → H} {w : World} {base b0 : Nat} {held : Bool} {r : Reach}
theorem ops_nil (a : Option Addr) (c : Nat) : OpsW w (.slice a 0 c) [] := ⟨a, c, rfl, by simp, fun i hi => by simp at hi⟩
theorem open_ops_arg {v : Value} {d : DataW H} {p : List MemPlace} (hv : Value.okWide Try.prog w r b0 22 v) (h : DataW.Trod enc Try.prog w base (fun _ => true) held 22 v d p) (hw : ∀ n ∈ DataW.weights Try.prog 22 d, n ≤ reachBytes) :
    ∃ l, OpsW w v l := by
  obtain ⟨a0, n0, c0, rfl⟩ := okWide_slice Try.underlying22 hv
  obtain ⟨fuel, hf⟩ := h
  have hB : Try.prog.bytesOf 30 = 56 := by kernel_rfl
  rcases open_slice_fields (x := (d, p)) Try.underlying22 Try.underlying30 (by kernel_rfl) (by kernel_rfl) hf with ⟨hcs, _⟩ | ⟨a, len, cap, m, D, Pl, hcs, _, hl, _, hm, hx, hi⟩
  · simp [Value.cells] at hcs
    obtain ⟨rfl, rfl, rfl⟩ := hcs
    exact ⟨[], ops_nil _ _⟩
  · simp [Value.cells] at hcs
    obtain ⟨rfl, rfl, rfl⟩ := hcs
    simp only [if_true] at hm
    subst hm
    obtain ⟨hx, _⟩ := Prod.mk.inj hx
    subst hx
    by_cases h0 : n0 = 0
    · subst h0; exact ⟨[], ops_nil _ _⟩
    have hlen : n0 * 56 ≤ 140737488351232 := by
      have := hw ((((List.range n0).map D).length + ((List.range (m - n0)).map fun j => D (n0 + j)).length) * 56) (by
        simp only [DataW.weights, Try.underlying22, List.mem_cons, hB]
        left; trivial)
      simp only [List.length_map, List.length_range, reachBytes] at this
      omega
    have each : ∀ i, i < n0 → ∃ o : OpW, a.spot = none ∧ OpWAt w a.block (a.off + i * 5) o := by
      intro i hin
      obtain ⟨z, n, hD0, _, hys0, hf0⟩ := hi 0 (by omega)
      obtain ⟨v, y, hc0, _, _⟩ := hf0 0 _ rfl
      have hs : a.spot = none := plain_of_cell hc0
      obtain ⟨ys, n, hD, _, hys, hf⟩ := hi i (by omega)
      have hDm : D i ∈ (List.range n0).map D := List.mem_map.2 ⟨i, List.mem_range.2 hin, rfl⟩
      have hwi : ∀ n ∈ (DataW.agg (ys.map (·.1))).weights Try.prog 30, n ≤ reachBytes := by
        intro q hq
        refine hw q ?_
        simp only [DataW.weights, Try.underlying22, List.mem_cons, List.mem_append]
        right; left
        rw [← hD] at hq
        exact weights_all hDm hq
      obtain ⟨v0, y0, c0, q0, h0⟩ := hf 0 _ rfl
      obtain ⟨v1, y1, c1, q1, h1⟩ := hf 1 _ rfl
      obtain ⟨v2, y2, c2, q2, h2⟩ := hf 2 _ rfl
      obtain ⟨v3, y3, c3, q3, h3⟩ := hf 3 _ rfl
      obtain ⟨v4, y4, c4, q4, h4⟩ := hf 4 _ rfl
      have w4 := weights_agg Try.underlying30 hys hwi rfl q4
      obtain ⟨z0, hz0, _, _⟩ := DataW.trod_int Try.underlying3 h0
      obtain ⟨z1, hz1, _, _⟩ := DataW.trod_int Try.underlying3 h1
      obtain ⟨z2, hz2, _, _⟩ := DataW.trod_int Try.underlying3 h2
      obtain ⟨z3, hz3, _, u3⟩ := DataW.trod_int Try.underlying3 h3
      obtain ⟨b, nn, cc, l, e, k1, k2⟩ := open_bytes Try.underlying28 Try.underlying5 (by kernel_rfl) (by kernel_rfl) h4 w4
      simp at hz0 hz1 hz2 hz3
      subst hz0 hz1 hz2 hz3 e
      rw [plain_add hs] at c0 c1 c2 c3 c4
      refine ⟨⟨z0, z1, z2, z3, .slice b nn cc, l⟩, hs, fun j u hj => ?_, k1, k2, wf_i64 u3⟩
      match j, hj with
      | 0, hj => simp at hj; subst hj; exact c0
      | 1, hj => simp at hj; subst hj; exact c1
      | 2, hj => simp at hj; subst hj; exact c2
      | 3, hj => simp at hj; subst hj; exact c3
      | 4, hj => simp at hj; subst hj; exact c4
      | j + 5, hj => simp at hj
    obtain ⟨_, hs, hfirst⟩ := each 0 (by omega)
    obtain ⟨g, hg⟩ : ∃ g : Nat → OpW, ∀ i, i < n0 → OpWAt w a.block (a.off + i * 5) (g i) := by
      refine ⟨fun i => if h : i < n0 then Classical.choose (each i h) else ⟨0, 0, 0, 0, .slice none 0 0, []⟩, fun i h => ?_⟩
      simp only [h, dite_true]
      exact (Classical.choose_spec (each i h)).2
    refine ⟨(List.range n0).map g, some a, _, by simp; rfl, by simp; omega, fun i hi => ⟨a.block, a.off, ?_, ?_⟩⟩
    · cases a; simp only at hs; subst hs; rfl
    · simp at hi
      simpa using hg i hi
end Go.Proofs.Ytcilikkljkdceaa
