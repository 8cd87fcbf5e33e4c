/-
  What the proof of WireBrings stands on, part 4: each theorem by itself, under the conditions that it names.
-/
import Derived.Test.YtcilikkljkdceaaWireBringsM3
/-
  WireBrings, walked.
-/
namespace Go.Proofs.Ytcilikkljkdceaa
open Go.RowKit
set_option maxRecDepth 100000
set_option maxHeartbeats 4000000
theorem brings_walk (w : World) {v : Value} {l : List OpW} (ho : OpsW w v l) : Calls Try.prog 3 #[v] w fun e w' => e = .returned (bo true) ∧ Only (fun _ => False) w w' := by
  obtain ⟨oa, oc, rfl, hlen, hops⟩ := ho
  refine calls_sc (l0 := []) (args := [Value.slice oa l.length oc]) (fun _ => False) Try.func3 rfl 189 Try.ntmps3 (le_b rfl) ⟨⟨by simp, List.Pairwise.nil⟩, Only.refl _ _⟩ ?_
  show SC _ _ _ _ [(0, Value.slice oa l.length oc)] []
  refine SC.sr ?_
  refine SL.as ?_
  refine SL.nn [(0, Value.slice oa l.length oc), (2, bo false)] [] ⟨rfl, rfl, trivial⟩ ?_
  refine SC.sr ?_
  refine SL.callv (bo true) rfl rfl co7 rfl rfl rfl (lt_b rfl) (fun w hI => H_only hI (awake_any _)) ?_
  refine SL.as ?_
  refine SL.nn [(0, Value.slice oa l.length oc), (2, bo false), (3, bo true)] _ ⟨rfl, rfl, rfl, trivial⟩ ?_
  refine SC.sr ?_
  refine SL.call (ζ := Nat × Nat × Nat × Nat × Nat × Nat × Nat × (Nat → Prop) × (Nat → Prop)) (fun z => pt z.1 0) (fun z => RgL z.1 z.2.1 z.2.2.1 z.2.2.2.1 z.2.2.2.2.1 z.2.2.2.2.2.1 z.2.2.2.2.2.2.1 z.2.2.2.2.2.2.2.1 z.2.2.2.2.2.2.2.2 rg0) (fun z => w.heap.size ≤ z.1 ∧ (∀ b, z.2.2.2.2.2.2.2.1 b → w.heap.size ≤ b) ∧ ∀ b, z.2.2.2.2.2.2.2.2 b → w.heap.size ≤ b) rfl rfl co8 rfl rfl rfl (lt_b rfl) (fun w9 hI => (begun_any w9).mono fun e w2 ⟨g, wd, d0, d1, vd, e0, e1, G1, G2, h1, h2, h3, h4, h5, h6⟩ => ⟨(g, wd, d0, d1, vd, e0, e1, G1, G2), h1, ⟨h2, hI.2.trans' h6 (fun b hb => hb.elim)⟩, Nat.le_trans hI.2.size h3, fun b hb => Nat.le_trans hI.2.size (h4 b hb), fun b hb => Nat.le_trans hI.2.size (h5 b hb)⟩) ?_
  rintro ⟨g, wd, d0, d1, vd, e0, e1, G1, G2⟩ ⟨hgn, hn1, hn2⟩
  dsimp only at hgn hn1 hn2
  have hG1 : ∀ b, G1 b → False ∨ w.heap.size ≤ b := fun b hb => .inr (hn1 b hb)
  have hG2 : ∀ b, G2 b → False ∨ w.heap.size ≤ b := fun b hb => .inr (hn2 b hb)
  refine SL.as ?_
  refine SL.nn [(0, Value.slice oa l.length oc), (2, bo false), (3, bo true), (4, pt g 0)] [rG g d0 d1 wd e0 e1 vd 0 0 0 0 41, rWp wd d0 d1 G1 wi0, rWq vd e0 e1 G2 wi0] ⟨rfl, rfl, rfl, rfl, trivial⟩ ?_
  refine SC.seq ?_
  refine SC.sr ?_
  refine SL.mv ?_
  refine SL.uu (ru_not (c := false) rfl rfl rfl) ?_
  refine SL.mv ?_
  refine SL.gg (ru_move rfl rfl) ?_
  refine SL.gg (ru_eqnil Try.underlying24 rfl rfl rfl rfl) ?_
  refine SL.pk (bo true) (bo false) ?_
  refine SL.nn [(0, Value.slice oa l.length oc), (2, bo false), (4, pt g 0), (23, bo false)] _ ⟨rfl, rfl, rfl, rfl, trivial⟩ ?_
  refine SC.no rfl ?_
  refine SC.skip ?_
  refine SC.of_SE ?_
  refine SC.norm [(0, Value.slice oa l.length oc), (2, bo false), (4, pt g 0)] _ ⟨rfl, rfl, rfl, trivial⟩ rfl ?_
  refine SC.sr ?_
  refine SL.as ?_
  refine SL.nn [(0, Value.slice oa l.length oc), (2, bo false), (4, pt g 0), (5, Value.slice none 0 0)] _ ⟨rfl, rfl, rfl, rfl, trivial⟩ ?_
  refine SC.sr ?_
  refine SL.as ?_
  refine SL.nn [(0, Value.slice oa l.length oc), (2, bo false), (4, pt g 0), (5, Value.slice none 0 0), (6, Value.slice none 0 0)] _ ⟨rfl, rfl, rfl, rfl, rfl, trivial⟩ ?_
  refine SC.sr ?_
  refine SL.as ?_
  refine SL.nn [(0, Value.slice oa l.length oc), (2, bo false), (4, pt g 0), (5, Value.slice none 0 0), (6, Value.slice none 0 0), (7, Value.slice none 0 0)] _ ⟨rfl, rfl, rfl, rfl, rfl, rfl, trivial⟩ ?_
  refine SC.seq ?_
  refine SC.sr ?_
  refine SL.as ?_
  refine SL.nn [(0, Value.slice oa l.length oc), (2, bo false), (4, pt g 0), (5, Value.slice none 0 0), (6, Value.slice none 0 0), (7, Value.slice none 0 0), (8, iw 0)] _ ⟨rfl, rfl, rfl, rfl, rfl, rfl, rfl, trivial⟩ ?_
  refine SC.block ?_
  refine SC.rows (rRowN (.slice none 0 0) (iRw []) 3 1) (fun b hb => by cases hb) (fun w => rowN_nil w 3 1) ?_
  refine SC.rows (rRowN (.slice none 0 0) (vRw []) 28 1) (fun b hb => by cases hb) (fun w => rowN_nil w 28 1) ?_
  refine SC.rows (rRowN (.slice none 0 0) (iRw []) 3 1) (fun b hb => by cases hb) (fun w => rowN_nil w 3 1) ?_
  refine SC.rows (rZ (fun _ => False) (fun _ _ => False)) (fun b hb => hb) (fun w => ⟨fun b hb => hb.elim, fun v f hv => hv.elim⟩) ?_
  refine SC.loop (γ := Nat × BrM × (Nat → Prop) × (Nat → Prop)) (fun kn z => [(0, Value.slice oa l.length oc), (2, bo false), (4, pt g 0), (5, Value.slice z.2.1.qp z.2.1.po.length z.2.1.cp), (6, Value.slice z.2.1.qb z.2.1.ps.length z.2.1.cb), (7, Value.slice z.2.1.ql z.2.1.le.length z.2.1.cl), (8, iw (z.1 : Int))]) (fun kn z => [rG g d0 d1 wd e0 e1 vd z.2.1.t0 z.2.1.t1 z.2.1.f0 z.2.1.f1 41, rWp wd d0 d1 z.2.2.1 z.2.1.S, rWq vd e0 e1 z.2.2.2 wi0, rRowN (.slice z.2.1.qp z.2.1.po.length z.2.1.cp) (iRw z.2.1.po) 3 1, rRowN (.slice z.2.1.qb z.2.1.ps.length z.2.1.cb) (vRw z.2.1.ps) 28 1, rRowN (.slice z.2.1.ql z.2.1.le.length z.2.1.cl) (iRw z.2.1.le) 3 1, rZ z.2.1.F z.2.1.fs]) (fun kn z => kn + z.1 = l.length ∧ BI z.1 (BrM.br z.2.1) ∧ (∀ p ∈ z.2.1.ps, z.2.1.fs p.1 p.2) ∧ (∀ b, z.2.2.1 b → False ∨ w.heap.size ≤ b) ∧ (∀ b, z.2.2.2 b → False ∨ w.heap.size ≤ b) ∧ (∀ b, (Value.slice z.2.1.qp z.2.1.po.length z.2.1.cp).ownBlock = some b → False ∨ w.heap.size ≤ b) ∧ (∀ b, (Value.slice z.2.1.qb z.2.1.ps.length z.2.1.cb).ownBlock = some b → False ∨ w.heap.size ≤ b) ∧ ∀ b, (Value.slice z.2.1.ql z.2.1.le.length z.2.1.cl).ownBlock = some b → False ∨ w.heap.size ≤ b) l.length (0, ⟨wi0, 0, 0, 0, 0, [], none, 0, [], none, 0, [], none, 0, fun _ => False, fun _ _ => False⟩, G1, G2) ⟨rfl, mb0, fun _ h => (by simp at h), hG1, hG2, fun b h => (by cases h), fun b h => (by cases h), fun b h => (by cases h)⟩ ⟨rfl, rfl, rfl, rfl, rfl, rfl, rfl, trivial⟩ rfl ?_
  clear hn1 hn2
  clear hG1 hG2
  clear G1 G2
  rintro N ⟨i, ⟨S, t0, t1, f0, f1, po, qp, cp, ps, qb, cb, le, ql, cl, F, fs⟩, G1, G2⟩ ⟨hn, hB, hps, hG1, hG2, hqp, hqb, hql⟩
  dsimp only at hn hps hG1 hG2 hqp hqb hql
  have hB : BI i ⟨S, t0, t1, f0, f1, po, ps.map (·.2), le⟩ := hB
  have hbp : po.length = ps.length := by have h8 := hB.pl; simp only [List.length_map] at h8; exact h8
  have hbl : le.length = ps.length := by have h8 := hB.ll; simp only [List.length_map] at h8; exact h8
  have hbm : ps.length ≤ 60000 := by have h8 := hB.lm; simp only [List.length_map] at h8; exact h8
  rcases N with _ | N
  · skip
    refine SC.seq ?_
    refine SC.sr ?_
    refine SL.mv ?_
    refine SL.mv ?_
    refine SL.uu (ru_len Try.underlying22 rfl rfl) ?_
    refine SL.uu (ru_lt (b := (decide (((i : Int) : Int) < (l.length : Int)))) rfl rfl rfl rfl) ?_
    refine SL.nn [(0, Value.slice oa l.length oc), (2, bo false), (4, pt g 0), (5, Value.slice qp po.length cp), (6, Value.slice qb ps.length cb), (7, Value.slice ql le.length cl), (8, iw (i : Int)), (27, bo (decide (((i : Int) : Int) < (l.length : Int))))] [rG g d0 d1 wd e0 e1 vd t0 t1 f0 f1 41, rWp wd d0 d1 G1 S, rWq vd e0 e1 G2 wi0, rRowN (.slice qp po.length cp) (iRw po) 3 1, rRowN (.slice qb ps.length cb) (vRw ps) 28 1, rRowN (.slice ql le.length cl) (iRw le) 3 1, rZ F fs] ⟨rfl, rfl, rfl, rfl, rfl, rfl, rfl, rfl, trivial⟩ ?_
    refine SC.no (show some (Value.bool (decide (((i : Int) : Int) < (l.length : Int)))) = some (Value.bool false) from congrArg (fun x => some (Value.bool x)) (decide_eq_false (by omega))) ?_
    refine SC.exit ?_
    refine SE.passe ?_
    refine SE.passe ?_
    refine SE.blke ?_
    refine SC.of_SE ?_
    refine SC.norm [(2, bo false)] _ ⟨rfl, trivial⟩ rfl ?_
    refine SC.sr ?_
    refine SL.as ?_
    refine SL.nn [(2, bo true)] _ ⟨rfl, trivial⟩ ?_
    refine SC.ret ?_
    refine SE.res (.inl rfl) (res1 Try.results3 rfl) fun w1 hI => ⟨rfl, hI.2⟩
  obtain ⟨ob, oo, ea, hop⟩ := hops i (by omega)
  obtain ⟨⟨ok, od, okk, oto, ov, f⟩, hl⟩ : ∃ op : OpW, op = l[i]'(by omega) := ⟨_, rfl⟩
  rw [← hl] at hop
  obtain ⟨hc, hb0, hs0, hi9⟩ := hop
  simp only at hc hb0 hs0 hi9
  obtain ⟨fa, fc, rfl⟩ := hb0.form
  subst ea
  have hto : oto ≤ 9223372036854775807 := hi9.2
  refine SC.seq ?_
  refine SC.sr ?_
  refine SL.mv ?_
  refine SL.mv ?_
  refine SL.uu (ru_len Try.underlying22 rfl rfl) ?_
  refine SL.uu (ru_lt (b := (decide (((i : Int) : Int) < (l.length : Int)))) rfl rfl rfl rfl) ?_
  refine SL.nn [(0, sl ob oo l.length oc), (2, bo false), (4, pt g 0), (5, Value.slice qp po.length cp), (6, Value.slice qb ps.length cb), (7, Value.slice ql le.length cl), (8, iw (i : Int)), (27, bo (decide (((i : Int) : Int) < (l.length : Int))))] [rG g d0 d1 wd e0 e1 vd t0 t1 f0 f1 41, rWp wd d0 d1 G1 S, rWq vd e0 e1 G2 wi0, rRowN (.slice qp po.length cp) (iRw po) 3 1, rRowN (.slice qb ps.length cb) (vRw ps) 28 1, rRowN (.slice ql le.length cl) (iRw le) 3 1, rZ F fs] ⟨rfl, rfl, rfl, rfl, rfl, rfl, rfl, rfl, trivial⟩ ?_
  refine SC.yes (show some (Value.bool (decide (((i : Int) : Int) < (l.length : Int)))) = some (Value.bool true) from congrArg (fun x => some (Value.bool x)) (decide_eq_true (by omega))) ?_
  refine SC.skip ?_
  refine SC.of_SE ?_
  refine SC.norm [(0, sl ob oo l.length oc), (2, bo false), (4, pt g 0), (5, Value.slice qp po.length cp), (6, Value.slice qb ps.length cb), (7, Value.slice ql le.length cl), (8, iw (i : Int))] _ ⟨rfl, rfl, rfl, rfl, rfl, rfl, rfl, trivial⟩ rfl ?_
  refine SC.seq ?_
  refine SC.block ?_
  refine SC.sr ?_
  refine SL.mv ?_
  refine SL.mv ?_
  refine SL.uu (ru_indexS (o2 := oo + (i : Int).toNat * 5) si22 rfl rfl rfl (by omega) (by omega) rfl) ?_
  refine SL.uu (ru_loada_old (vs := [iw ok, iw od, iw okk, iw oto, Value.slice fa f.length fc]) (fun _ h => h) ta30 rfl rfl rfl (by rw [Int.toNat_natCast]; exact hc)) ?_
  refine SL.alloca rfl rfl (lt_b rfl) ta30 rfl fun b1 hb1 => ?_
  refine SL.storea (i := 7) (vs := [iw ok, iw od, iw okk, iw oto, Value.slice fa f.length fc]) (c' := [iw ok, iw od, iw okk, iw oto, Value.slice fa f.length fc]) rfl rfl ta30 rfl rfl rfl rfl rfl rfl (le_b rfl) (.inr hb1) rfl ?_
  refine SL.nn [(0, sl ob oo l.length oc), (2, bo false), (4, pt g 0), (5, Value.slice qp po.length cp), (6, Value.slice qb ps.length cb), (7, Value.slice ql le.length cl), (8, iw (i : Int)), (9, pt b1 0)] [rG g d0 d1 wd e0 e1 vd t0 t1 f0 f1 41, rWp wd d0 d1 G1 S, rWq vd e0 e1 G2 wi0, rRowN (.slice qp po.length cp) (iRw po) 3 1, rRowN (.slice qb ps.length cb) (vRw ps) 28 1, rRowN (.slice ql le.length cl) (iRw le) 3 1, rZ F fs, rBlk b1 [iw ok, iw od, iw okk, iw oto, Value.slice fa f.length fc] 30] ⟨rfl, rfl, rfl, rfl, rfl, rfl, rfl, rfl, trivial⟩ ?_
  refine SC.sr ?_
  refine SL.fa 0 fd30_0 ?_
  refine SL.ld 7 ts3 ?_
  refine SL.nn [(0, sl ob oo l.length oc), (2, bo false), (4, pt g 0), (5, Value.slice qp po.length cp), (6, Value.slice qb ps.length cb), (7, Value.slice ql le.length cl), (8, iw (i : Int)), (9, pt b1 0), (35, iw ok)] _ ⟨rfl, rfl, rfl, rfl, rfl, rfl, rfl, rfl, rfl, trivial⟩ ?_
  refine SC.block ?_
  refine SC.sr ?_
  refine SL.uu (ru_eq (b := ((ok : Int) == 0)) rfl rfl rfl rfl) ?_
  refine SL.as ?_
  refine SL.nn [(0, sl ob oo l.length oc), (2, bo false), (4, pt g 0), (5, Value.slice qp po.length cp), (6, Value.slice qb ps.length cb), (7, Value.slice ql le.length cl), (8, iw (i : Int)), (9, pt b1 0), (35, iw ok), (39, bo ((ok : Int) == 0))] _ ⟨rfl, rfl, rfl, rfl, rfl, rfl, rfl, rfl, rfl, rfl, trivial⟩ ?_
  refine SC.both ((ok : Int) == 0) rfl (fun h2 => ?_) (fun h2 => ?_)
  · skip
    refine SC.seq ?_
    refine SC.sr ?_
    refine SL.mv ?_
    refine SL.uu (ru_len Try.underlying26 rfl rfl) ?_
    refine SL.uu (ru_ge (b := (decide ((60000 : Int) ≤ (po.length : Int)))) rfl rfl rfl rfl) ?_
    refine SL.nn [(0, sl ob oo l.length oc), (2, bo false), (4, pt g 0), (5, Value.slice qp po.length cp), (6, Value.slice qb ps.length cb), (7, Value.slice ql le.length cl), (8, iw (i : Int)), (9, pt b1 0), (43, bo (decide ((60000 : Int) ≤ (po.length : Int))))] _ ⟨rfl, rfl, rfl, rfl, rfl, rfl, rfl, rfl, rfl, trivial⟩ ?_
    refine SC.both (decide ((60000 : Int) ≤ (po.length : Int))) rfl (fun h3 => ?_) (fun h3 => ?_)
    · skip
      refine SC.sr ?_
      refine SL.as ?_
      refine SL.nn [(0, sl ob oo l.length oc), (2, bo true), (4, pt g 0), (5, Value.slice qp po.length cp), (6, Value.slice qb ps.length cb), (7, Value.slice ql le.length cl), (8, iw (i : Int)), (9, pt b1 0)] _ ⟨rfl, rfl, rfl, rfl, rfl, rfl, rfl, rfl, trivial⟩ ?_
      refine SC.ret ?_
      refine SE.passr ?_
      refine SE.blkr ?_
      refine SE.blkr ?_
      refine SE.passr ?_
      refine SE.passr ?_
      refine SE.blkr ?_
      refine SE.passr ?_
      refine SE.res (.inl rfl) (res1 Try.results3 rfl) fun w1 hI => ⟨rfl, hI.2⟩
    refine SC.skip ?_
    refine SC.of_SE ?_
    refine SC.norm [(0, sl ob oo l.length oc), (2, bo false), (4, pt g 0), (5, Value.slice qp po.length cp), (6, Value.slice qb ps.length cb), (7, Value.slice ql le.length cl), (8, iw (i : Int)), (9, pt b1 0)] _ ⟨rfl, rfl, rfl, rfl, rfl, rfl, rfl, rfl, trivial⟩ rfl ?_
    refine SC.seq ?_
    have hl60 : po.length < 60000 := by have h8 := of_decide_eq_false h3; omega
    have hfl := hb0.len
    rcases (show od % 2 = 0 ∨ od % 2 = 1 by omega) with hsd | hsd
    · skip
      obtain ⟨fx, hfx⟩ : ∃ fx : List UInt8, [UInt8.ofNat (po.length / 256), UInt8.ofNat po.length, sd8 false] ++ f = fx := ⟨_, rfl⟩
      have hfn : numF fx = po.length := by rw [← hfx]; exact num_new (by omega) _ _
      have hf3 : fx.length = 3 + f.length := by rw [← hfx, List.length_append]; rfl
      have hsd2 : fx[2]? = some (sd8 false) := by rw [← hfx]; rfl
      have htb : 0 ≤ t0 ∧ t0 < 16 := by have h1 : t0 = _ := hB.t false; rw [h1]; exact (hB.wb.d false).ok.h5
      refine SC.region_mk_tail 14 [(9, Mk.val (iw 0)), (11, Mk.row ⟨189, w, fun _ => False⟩ 3 3 [] (fun _ => [Value.int .u8 ((UInt8.ofNat (po.length / 256)).toNat : Int), Value.int .u8 ((UInt8.ofNat po.length).toNat : Int), Value.int .u8 0]) 5)] [(10, [9]), (11, [9])] rfl rfl (by kernel_rfl) (by kernel_rfl) (by kernel_rfl) ?_
      refine SM.uu (ru_move rfl rfl) ?_
      refine SM.uu (ru_len Try.underlying26 rfl rfl) ?_
      refine SM.uu (ru_quo (r := ((po.length : Int) / 256)) rfl rfl rfl (by decide) ((by rw [Int.tdiv_eq_ediv_of_nonneg (by omega), IntKind.wrap_i64]; omega))) ?_
      refine SM.uu (ru_conv (r := ((UInt8.ofNat (po.length / 256)).toNat : Int)) ⟨_, Try.underlying3⟩ Try.underlying5 rfl rfl (by rw [show (po.length : Int) / 256 = ((po.length / 256 : Nat) : Int) by omega]; exact u8_of _)) ?_
      refine SM.uu (ru_move rfl rfl) ?_
      refine SM.uu (ru_len Try.underlying26 rfl rfl) ?_
      refine SM.uu (ru_conv (r := ((UInt8.ofNat po.length).toNat : Int)) ⟨_, Try.underlying3⟩ Try.underlying5 rfl rfl (u8_of _)) ?_
      refine SM.uu (ru_fieldAddr (o2 := 1) fd30_1 rfl rfl rfl) ?_
      refine SM.uu (ru_load (i := 7) ts3 rfl rfl rfl rfl) ?_
      refine SM.call rfl rfl rfl rfl (w_all rfl) rfl (lt_b rfl) (iw 0) rfl rfl co9 rfl rfl (fun l' w hI => H_only hI ((side_any od).mono fun e w2 ⟨h1, h2⟩ => ⟨h1.trans (by rw [hsd]), h2⟩)) ?_
      refine SM.uu (ru_conv (r := 0) ⟨_, Try.underlying3⟩ Try.underlying5 rfl rfl rfl) ?_
      refine SM.buildSlice (size := 1) (vals := [(0, Value.int .u8 ((UInt8.ofNat (po.length / 256)).toNat : Int)), (1, Value.int .u8 ((UInt8.ofNat po.length).toNat : Int)), (2, Value.int .u8 0)]) (z := [Value.int .u8 0]) (cs := [Value.int .u8 ((UInt8.ofNat (po.length / 256)).toNat : Int), Value.int .u8 ((UInt8.ofNat po.length).toNat : Int), Value.int .u8 0]) (dp := []) (csf := fun _ => [Value.int .u8 ((UInt8.ofNat (po.length / 256)).toNat : Int), Value.int .u8 ((UInt8.ofNat po.length).toNat : Int), Value.int .u8 0]) rfl rfl rfl rfl (w_all rfl) rfl (lt_b rfl) rfl rfl rfl rfl Try.underlying28 (by kernel_rfl) rfl rfl (by kernel_rfl) fun b4 hb4 => ?_
      refine SM.uu (ru_fieldAddr (o2 := 4) fd30_4 rfl rfl rfl) ?_
      refine SM.uu (ru_load (i := 7) ts28 rfl rfl rfl rfl) ?_
      refine SM.nilL (l' := [rG g d0 d1 wd e0 e1 vd t0 t1 f0 f1 41, rWp wd d0 d1 G1 S, rWq vd e0 e1 G2 wi0, rRowN (.slice qp po.length cp) (iRw po) 3 1, rRowN (.slice qb ps.length cb) (vRw ps) 28 1, rRowN (.slice ql le.length cl) (iRw le) 3 1, rZ F fs, rBlk b1 [iw ok, iw od, iw okk, iw oto, Value.slice fa f.length fc] 30, rBlk b4 [Value.int .u8 ((UInt8.ofNat (po.length / 256)).toNat : Int), Value.int .u8 ((UInt8.ofNat po.length).toNat : Int), Value.int .u8 0] 5]) rfl ?_
      refine SL.weak (i := 8) (rMine (sl b4 0 3 3) [UInt8.ofNat (po.length / 256), UInt8.ofNat po.length, sd8 false] 5) rfl (fun w h => ownb_new (f := [UInt8.ofNat (po.length / 256), UInt8.ofNat po.length, sd8 false]) h (by simp)) (fun b hb => by cases hb; rfl) ?_
      refine SL.append_mineL (ri := 8) (f := [UInt8.ofNat (po.length / 256), UInt8.ofNat po.length, sd8 false]) (h := f) rfl rfl (lt_b rfl) rfl Try.underlying28 (by kernel_rfl) rfl rfl rfl (fun w hI => hb0.only hI.2 (fun b _ _ _ _ _ h => h)) (by simp only [List.length_cons, List.length_nil]; omega) (fun b hb => .inr (by cases hb; exact hb4)) fun q5 c6 hq7 => ?_
      refine SL.as ?_
      refine SL.nn [(0, sl ob oo l.length oc), (2, bo false), (4, pt g 0), (5, Value.slice qp po.length cp), (6, Value.slice qb ps.length cb), (7, Value.slice ql le.length cl), (8, iw (i : Int)), (9, pt b1 0), (10, Value.slice q5 (([UInt8.ofNat (po.length / 256), UInt8.ofNat po.length, sd8 false] ++ f).length) c6)] [rG g d0 d1 wd e0 e1 vd t0 t1 f0 f1 41, rWp wd d0 d1 G1 S, rWq vd e0 e1 G2 wi0, rRowN (.slice qp po.length cp) (iRw po) 3 1, rRowN (.slice qb ps.length cb) (vRw ps) 28 1, rRowN (.slice ql le.length cl) (iRw le) 3 1, rZ F fs, rBlk b1 [iw ok, iw od, iw okk, iw oto, Value.slice fa f.length fc] 30, rMine (.slice q5 ([UInt8.ofNat (po.length / 256), UInt8.ofNat po.length, sd8 false] ++ f).length c6) ([UInt8.ofNat (po.length / 256), UInt8.ofNat po.length, sd8 false] ++ f) 5] ⟨rfl, rfl, rfl, rfl, rfl, rfl, rfl, rfl, rfl, trivial⟩ ?_
      refine SC.seq ?_
      rw [hfx]
      rcases Nat.lt_or_ge 274 fx.length with hbig | hbig
      · skip
        refine SC.region_tail 17 (by kernel_rfl) (by kernel_rfl) ?_
        refine SQ.mv ?_
        refine SQ.fa 1 fd30_1 ?_
        refine SQ.ld 7 ts3 ?_
        refine SQ.call (iw 0) rfl rfl co9 rfl rfl rfl (lt_b rfl) (fun w hI => H_only hI ((side_any od).mono fun e w2 ⟨h1, h2⟩ => ⟨h1.trans (by rw [hsd]), h2⟩)) ?_
        refine SQ.nk ?_
        refine SQ.fa 0 fd41_0 ?_
        refine SQ.ia 0 ar34 ?_
        refine SQ.ld 0 ts33 ?_
        refine SQ.mv ?_
        refine SQ.fa 1 fd30_1 ?_
        refine SQ.ld 7 ts3 ?_
        refine SQ.call (iw 0) rfl rfl co9 rfl rfl rfl (lt_b rfl) (fun w hI => H_only hI ((side_any od).mono fun e w2 ⟨h1, h2⟩ => ⟨h1.trans (by rw [hsd]), h2⟩)) ?_
        refine SQ.nk ?_
        refine SQ.fa 6 fd41_4 ?_
        refine SQ.ia 6 ar39 ?_
        refine SQ.ld 0 ts3 ?_
        refine SQ.mv ?_
        refine SQ.nilL ?_
        refine SL.callv (iw (bigE S.A0 t0)) rfl rfl co10 rfl rfl rfl (lt_b rfl) (fun w hI => H_only hI (rw_settxb0 (hI.1.get (i := 1) rfl) hB.wb.d0.ok hbig t0)) ?_
        refine SL.as ?_
        refine SL.nn [(0, sl ob oo l.length oc), (2, bo false), (4, pt g 0), (5, Value.slice qp po.length cp), (6, Value.slice qb ps.length cb), (7, Value.slice ql le.length cl), (8, iw (i : Int)), (9, pt b1 0), (10, Value.slice q5 fx.length c6), (11, iw (bigE S.A0 t0))] [rG g d0 d1 wd e0 e1 vd t0 t1 f0 f1 41, rWp wd d0 d1 G1 S, rWq vd e0 e1 G2 wi0, rRowN (.slice qp po.length cp) (iRw po) 3 1, rRowN (.slice qb ps.length cb) (vRw ps) 28 1, rRowN (.slice ql le.length cl) (iRw le) 3 1, rZ F fs, rBlk b1 [iw ok, iw od, iw okk, iw oto, Value.slice fa f.length fc] 30, rMine (.slice q5 fx.length c6) fx 5] ⟨rfl, rfl, rfl, rfl, rfl, rfl, rfl, rfl, rfl, rfl, trivial⟩ ?_
        refine SC.seq ?_
        refine SC.sr ?_
        refine SL.mv ?_
        refine SL.uu (ru_ne (b := true) rfl rfl rfl ((by simp [bigE_ne]))) ?_
        refine SL.nn [(0, sl ob oo l.length oc), (2, bo false), (4, pt g 0), (5, Value.slice qp po.length cp), (6, Value.slice qb ps.length cb), (7, Value.slice ql le.length cl), (8, iw (i : Int)), (9, pt b1 0), (10, Value.slice q5 fx.length c6), (78, bo true)] _ ⟨rfl, rfl, rfl, rfl, rfl, rfl, rfl, rfl, rfl, rfl, trivial⟩ ?_
        refine SC.yes rfl ?_
        refine SC.exit ?_
        refine SE.passe ?_
        refine SE.blko (by decide) ?_
        refine SE.blke ?_
        refine SC.of_SE ?_
        refine SC.norm [(0, sl ob oo l.length oc), (2, bo false), (4, pt g 0), (5, Value.slice qp po.length cp), (6, Value.slice qb ps.length cb), (7, Value.slice ql le.length cl), (8, iw (i : Int))] _ ⟨rfl, rfl, rfl, rfl, rfl, rfl, rfl, trivial⟩ rfl ?_
        refine SC.region ?_
        refine SL.mv ?_
        refine SL.uu (ru_add (r := (IntKind.i64.wrap ((i : Int) + 1))) rfl rfl rfl rfl) ?_
        refine SL.as ?_
        refine SL.nil ?_
        refine SE.keep 7 ?_
        refine SE.again N (i + 1, ⟨S, t0, t1, f0, f1, po, qp, cp, ps, qb, cb, le, ql, cl, F, fs⟩, G1, G2) (by omega) ⟨by dsimp only; omega, hB.le' (Nat.le_succ i), hps, hG1, hG2, hqp, hqb, hql⟩ ⟨rfl, rfl, rfl, rfl, rfl, rfl, (congrArg (fun x => some (iw x)) (show IntKind.i64.wrap ((i : Int) + 1) = ((i + 1 : Nat) : Int) by rw [IntKind.wrap_i64]; omega)), trivial⟩ rfl
      refine SC.region_tail 17 (by kernel_rfl) (by kernel_rfl) ?_
      refine SQ.mv ?_
      refine SQ.fa 1 fd30_1 ?_
      refine SQ.ld 7 ts3 ?_
      refine SQ.call (iw 0) rfl rfl co9 rfl rfl rfl (lt_b rfl) (fun w hI => H_only hI ((side_any od).mono fun e w2 ⟨h1, h2⟩ => ⟨h1.trans (by rw [hsd]), h2⟩)) ?_
      refine SQ.nk ?_
      refine SQ.fa 0 fd41_0 ?_
      refine SQ.ia 0 ar34 ?_
      refine SQ.ld 0 ts33 ?_
      refine SQ.mv ?_
      refine SQ.fa 1 fd30_1 ?_
      refine SQ.ld 7 ts3 ?_
      refine SQ.call (iw 0) rfl rfl co9 rfl rfl rfl (lt_b rfl) (fun w hI => H_only hI ((side_any od).mono fun e w2 ⟨h1, h2⟩ => ⟨h1.trans (by rw [hsd]), h2⟩)) ?_
      refine SQ.nk ?_
      refine SQ.fa 6 fd41_4 ?_
      refine SQ.ia 6 ar39 ?_
      refine SQ.ld 0 ts3 ?_
      refine SQ.mv ?_
      refine SQ.nilL ?_
      have hB9 := hB.wb.setA false ((hB.wb.d0).setTx t0 fx)
      refine SL.call (ζ := Nat → Prop) (fun Gw8 => iw ((setTxF S.A0 t0 fx).1)) (fun Gw8 => [rG g d0 d1 wd e0 e1 vd t0 t1 f0 f1 41, rWp wd d0 d1 Gw8 (S.setA false (setTxF S.A0 t0 fx).2), rWq vd e0 e1 G2 wi0, rRowN (.slice qp po.length cp) (iRw po) 3 1, rRowN (.slice qb ps.length cb) (vRw ps) 28 1, rRowN (.slice ql le.length cl) (iRw le) 3 1, rZ F fs, rBlk b1 [iw ok, iw od, iw okk, iw oto, Value.slice fa f.length fc] 30, rMine (.slice q5 fx.length c6) fx 5]) (fun Gw8 => ∀ b, Gw8 b → False ∨ w.heap.size ≤ b) rfl rfl co10 rfl rfl rfl (lt_b rfl) (fun w5 hI => (rw_settx0 (hI.1.get (i := 1) rfl) hB.wb.d0.ok (mine_bytesw hI (j := 8) rfl (by omega)) ((mine_away hI (i := 1) (j := 8) rfl rfl (by decide))) t0).mono fun e w2 ⟨h1, kz⟩ => by obtain ⟨G9, k1, k2⟩ := hI.rto (i := 1) rfl hG1 kz; exact ⟨G9, h1, k1, k2⟩) ?_
      intro Gw8 hGw8
      refine SL.as ?_
      refine SL.nn [(0, sl ob oo l.length oc), (2, bo false), (4, pt g 0), (5, Value.slice qp po.length cp), (6, Value.slice qb ps.length cb), (7, Value.slice ql le.length cl), (8, iw (i : Int)), (9, pt b1 0), (10, Value.slice q5 fx.length c6), (11, iw ((setTxF S.A0 t0 fx).1))] [rG g d0 d1 wd e0 e1 vd t0 t1 f0 f1 41, rWp wd d0 d1 Gw8 (S.setA false (setTxF S.A0 t0 fx).2), rWq vd e0 e1 G2 wi0, rRowN (.slice qp po.length cp) (iRw po) 3 1, rRowN (.slice qb ps.length cb) (vRw ps) 28 1, rRowN (.slice ql le.length cl) (iRw le) 3 1, rZ F fs, rBlk b1 [iw ok, iw od, iw okk, iw oto, Value.slice fa f.length fc] 30, rMine (.slice q5 fx.length c6) fx 5] ⟨rfl, rfl, rfl, rfl, rfl, rfl, rfl, rfl, rfl, rfl, trivial⟩ ?_
      refine SC.seq ?_
      refine SC.sr ?_
      refine SL.mv ?_
      refine SL.uu (ru_ne (b := ((((setTxF S.A0 t0 fx).1) : Int) != 0)) rfl rfl rfl rfl) ?_
      refine SL.nn [(0, sl ob oo l.length oc), (2, bo false), (4, pt g 0), (5, Value.slice qp po.length cp), (6, Value.slice qb ps.length cb), (7, Value.slice ql le.length cl), (8, iw (i : Int)), (9, pt b1 0), (10, Value.slice q5 fx.length c6), (78, bo ((((setTxF S.A0 t0 fx).1) : Int) != 0))] _ ⟨rfl, rfl, rfl, rfl, rfl, rfl, rfl, rfl, rfl, rfl, trivial⟩ ?_
      refine SC.both ((((setTxF S.A0 t0 fx).1) : Int) != 0) rfl (fun h10 => ?_) (fun h10 => ?_)
      · skip
        refine SC.exit ?_
        refine SE.passe ?_
        refine SE.blko (by decide) ?_
        refine SE.blke ?_
        refine SC.of_SE ?_
        refine SC.norm [(0, sl ob oo l.length oc), (2, bo false), (4, pt g 0), (5, Value.slice qp po.length cp), (6, Value.slice qb ps.length cb), (7, Value.slice ql le.length cl), (8, iw (i : Int))] _ ⟨rfl, rfl, rfl, rfl, rfl, rfl, rfl, trivial⟩ rfl ?_
        refine SC.region ?_
        refine SL.mv ?_
        refine SL.uu (ru_add (r := (IntKind.i64.wrap ((i : Int) + 1))) rfl rfl rfl rfl) ?_
        refine SL.as ?_
        refine SL.nil ?_
        refine SE.keep 7 ?_
        refine SE.again N (i + 1, ⟨S.setA false (setTxF S.A0 t0 fx).2, t0, t1, f0, f1, po, qp, cp, ps, qb, cb, le, ql, cl, F, fs⟩, Gw8, G2) (by omega) ⟨by dsimp only; omega, post_err (Z := (⟨S, t0, t1, f0, f1, po, ps.map (·.2), le⟩ : Br)) (b := false) hB (ne_t h10), hps, hGw8, hG2, hqp, hqb, hql⟩ ⟨rfl, rfl, rfl, rfl, rfl, rfl, (congrArg (fun x => some (iw x)) (show IntKind.i64.wrap ((i : Int) + 1) = ((i + 1 : Nat) : Int) by rw [IntKind.wrap_i64]; omega)), trivial⟩ rfl
      refine SC.skip ?_
      refine SC.of_SE ?_
      refine SC.norm [(0, sl ob oo l.length oc), (2, bo false), (4, pt g 0), (5, Value.slice qp po.length cp), (6, Value.slice qb ps.length cb), (7, Value.slice ql le.length cl), (8, iw (i : Int)), (9, pt b1 0), (10, Value.slice q5 fx.length c6)] _ ⟨rfl, rfl, rfl, rfl, rfl, rfl, rfl, rfl, rfl, trivial⟩ rfl ?_
      refine SC.seq ?_
      refine SC.region_tail 17 (by kernel_rfl) (by kernel_rfl) ?_
      refine SQ.mv ?_
      refine SQ.fa 1 fd30_1 ?_
      refine SQ.ld 7 ts3 ?_
      refine SQ.call (iw 0) rfl rfl co9 rfl rfl rfl (lt_b rfl) (fun w hI => H_only hI ((side_any od).mono fun e w2 ⟨h1, h2⟩ => ⟨h1.trans (by rw [hsd]), h2⟩)) ?_
      refine SQ.mv ?_
      refine SQ.fa 1 fd30_1 ?_
      refine SQ.ld 7 ts3 ?_
      refine SQ.call (iw 0) rfl rfl co9 rfl rfl rfl (lt_b rfl) (fun w hI => H_only hI ((side_any od).mono fun e w2 ⟨h1, h2⟩ => ⟨h1.trans (by rw [hsd]), h2⟩)) ?_
      refine SQ.nk ?_
      refine SQ.fa 6 fd41_4 ?_
      refine SQ.ia 6 ar39 ?_
      refine SQ.ld 0 ts3 ?_
      refine SQ.uu (ru_add (r := (t0 + 1)) rfl rfl rfl ((by rw [IntKind.wrap_i64]; omega))) ?_
      refine SQ.uu (ru_rem (r := (nx t0)) rfl rfl rfl (by decide) ((by rw [Int.tmod_eq_emod_of_nonneg (by omega)]; rfl))) ?_
      refine SQ.nk ?_
      refine SQ.fa 6 fd41_4 ?_
      refine SQ.ia 6 ar39 ?_
      refine SQ.nilL ?_
      refine SL.store (i := 0) (c' := [pt d0 0, pt d1 0, pt wd 0, pt e0 0, pt e1 0, pt vd 0, iw (nx t0), iw t1, iw f0, iw f1]) rfl rfl ts3 rfl rfl rfl rfl rfl (lt_b rfl) (.inr hgn) rfl ?_
      refine SL.nn [(0, sl ob oo l.length oc), (2, bo false), (4, pt g 0), (5, Value.slice qp po.length cp), (6, Value.slice qb ps.length cb), (7, Value.slice ql le.length cl), (8, iw (i : Int)), (9, pt b1 0), (10, Value.slice q5 fx.length c6)] [rG g d0 d1 wd e0 e1 vd (nx t0) t1 f0 f1 41, rWp wd d0 d1 Gw8 (S.setA false (setTxF S.A0 t0 fx).2), rWq vd e0 e1 G2 wi0, rRowN (.slice qp po.length cp) (iRw po) 3 1, rRowN (.slice qb ps.length cb) (vRw ps) 28 1, rRowN (.slice ql le.length cl) (iRw le) 3 1, rZ F fs, rBlk b1 [iw ok, iw od, iw okk, iw oto, Value.slice fa f.length fc] 30, rMine (.slice q5 fx.length c6) fx 5] ⟨rfl, rfl, rfl, rfl, rfl, rfl, rfl, rfl, rfl, trivial⟩ ?_
      refine SC.seq ?_
      refine SC.region_tail 16 (by kernel_rfl) (by kernel_rfl) ?_
      refine SQ.mv ?_
      refine SQ.fa 1 fd30_1 ?_
      refine SQ.ld 7 ts3 ?_
      refine SQ.call (iw 0) rfl rfl co9 rfl rfl rfl (lt_b rfl) (fun w hI => H_only hI ((side_any od).mono fun e w2 ⟨h1, h2⟩ => ⟨h1.trans (by rw [hsd]), h2⟩)) ?_
      refine SQ.nk ?_
      refine SQ.fa 0 fd41_0 ?_
      refine SQ.ia 0 ar34 ?_
      refine SQ.ld 0 ts33 ?_
      refine SQ.mv ?_
      refine SQ.fa 1 fd30_1 ?_
      refine SQ.ld 7 ts3 ?_
      refine SQ.call (iw 0) rfl rfl co9 rfl rfl rfl (lt_b rfl) (fun w hI => H_only hI ((side_any od).mono fun e w2 ⟨h1, h2⟩ => ⟨h1.trans (by rw [hsd]), h2⟩)) ?_
      refine SQ.nk ?_
      refine SQ.fa 6 fd41_4 ?_
      refine SQ.ia 6 ar39 ?_
      refine SQ.ld 0 ts3 ?_
      refine SQ.nilL ?_
      have hB12 := hB9.setA false ((hB9.d0).write hB9.now.1 5 (nx t0))
      refine SL.call (ζ := Nat → Prop) (fun Gw11 => iw ((writeF (S.setA false (setTxF S.A0 t0 fx).2).A0 5 (nx t0)).1)) (fun Gw11 => [rG g d0 d1 wd e0 e1 vd (nx t0) t1 f0 f1 41, rWp wd d0 d1 Gw11 ((S.setA false (setTxF S.A0 t0 fx).2).setA false (writeF (S.setA false (setTxF S.A0 t0 fx).2).A0 5 (nx t0)).2), rWq vd e0 e1 G2 wi0, rRowN (.slice qp po.length cp) (iRw po) 3 1, rRowN (.slice qb ps.length cb) (vRw ps) 28 1, rRowN (.slice ql le.length cl) (iRw le) 3 1, rZ F fs, rBlk b1 [iw ok, iw od, iw okk, iw oto, Value.slice fa f.length fc] 30, rMine (.slice q5 fx.length c6) fx 5]) (fun Gw11 => ∀ b, Gw11 b → False ∨ w.heap.size ≤ b) rfl rfl co11 rfl rfl rfl (lt_b rfl) (fun w5 hI => (rw_write0 (hI.1.get (i := 1) rfl) hB9.d0.ok 5 (nx t0)).mono fun e w2 ⟨h1, kz⟩ => by obtain ⟨G9, k1, k2⟩ := hI.rto (i := 1) rfl hGw8 kz; exact ⟨G9, h1, k1, k2⟩) ?_
      intro Gw11 hGw11
      refine SL.nn [(0, sl ob oo l.length oc), (2, bo false), (4, pt g 0), (5, Value.slice qp po.length cp), (6, Value.slice qb ps.length cb), (7, Value.slice ql le.length cl), (8, iw (i : Int)), (10, Value.slice q5 fx.length c6)] [rG g d0 d1 wd e0 e1 vd (nx t0) t1 f0 f1 41, rWp wd d0 d1 Gw11 ((S.setA false (setTxF S.A0 t0 fx).2).setA false (writeF (S.setA false (setTxF S.A0 t0 fx).2).A0 5 (nx t0)).2), rWq vd e0 e1 G2 wi0, rRowN (.slice qp po.length cp) (iRw po) 3 1, rRowN (.slice qb ps.length cb) (vRw ps) 28 1, rRowN (.slice ql le.length cl) (iRw le) 3 1, rZ F fs, rBlk b1 [iw ok, iw od, iw okk, iw oto, Value.slice fa f.length fc] 30, rMine (.slice q5 fx.length c6) fx 5] ⟨rfl, rfl, rfl, rfl, rfl, rfl, rfl, rfl, trivial⟩ ?_
      refine SC.sr ?_
      refine SL.mv ?_
      refine SL.mv ?_
      refine SL.nk ?_
      refine SL.fa 2 fd41_1 ?_
      refine SL.ld 0 ts35 ?_
      refine SL.callv (iw S.now) rfl rfl co12 rfl rfl rfl (lt_b rfl) (fun w hI => H_only hI (rw_now (S := (S.setA false (setTxF S.A0 t0 fx).2).setA false (writeF (S.setA false (setTxF S.A0 t0 fx).2).A0 5 (nx t0)).2) (hI.1.get (i := 1) rfl))) ?_
      refine SL.buildSlice (size := 1) (vals := [(0, iw S.now)]) (z := [iw 0]) (cs := [iw S.now]) rfl rfl (lt_b rfl) rfl Try.underlying26 (by kernel_rfl) rfl rfl (by kernel_rfl) fun b13 hb13 => ?_
      refine SL.append_rowN (ri := 3) (rj := 9) (size := 1) (r := [iw S.now]) (z := iw 0) (bytes := 8) rfl rfl (lt_b rfl) rfl (by decide) Try.underlying26 (by kernel_rfl) rfl rfl rfl rfl rfl rfl rfl (by rw [List.length_map]; omega) (by unfold maxLen; rw [List.length_map]; omega) hqp fun q14 c15 hq16 => ?_
      refine SL.as ?_
      refine SL.nn [(0, sl ob oo l.length oc), (2, bo false), (4, pt g 0), (5, Value.slice q14 (po.length + 1) c15), (6, Value.slice qb ps.length cb), (7, Value.slice ql le.length cl), (8, iw (i : Int)), (10, Value.slice q5 fx.length c6)] [rG g d0 d1 wd e0 e1 vd (nx t0) t1 f0 f1 41, rWp wd d0 d1 Gw11 ((S.setA false (setTxF S.A0 t0 fx).2).setA false (writeF (S.setA false (setTxF S.A0 t0 fx).2).A0 5 (nx t0)).2), rWq vd e0 e1 G2 wi0, rRowN (.slice q14 (po.length + 1) c15) (iRw po ++ [[iw S.now]]) 3 1, rRowN (.slice qb ps.length cb) (vRw ps) 28 1, rRowN (.slice ql le.length cl) (iRw le) 3 1, rZ F fs, rBlk b1 [iw ok, iw od, iw okk, iw oto, Value.slice fa f.length fc] 30, rMine (.slice q5 fx.length c6) fx 5, rBlk b13 [iw S.now] 3] ⟨rfl, rfl, rfl, rfl, rfl, rfl, rfl, rfl, trivial⟩ ?_
      refine SC.sr ?_
      refine SL.mv ?_
      refine SL.mv ?_
      refine SL.buildSlice (size := 1) (vals := [(0, Value.slice q5 fx.length c6)]) (z := [Value.slice none 0 0]) (cs := [Value.slice q5 fx.length c6]) rfl rfl (lt_b rfl) rfl Try.underlying27 (by kernel_rfl) rfl rfl (by kernel_rfl) fun b17 hb17 => ?_
      refine SL.append_rowN (ri := 4) (rj := 10) (size := 1) (r := [Value.slice q5 fx.length c6]) (z := Value.slice none 0 0) (bytes := 24) rfl rfl (lt_b rfl) rfl (by decide) Try.underlying27 (by kernel_rfl) rfl rfl rfl rfl rfl rfl rfl (by rw [List.length_map]; omega) (by unfold maxLen; rw [List.length_map]; omega) hqb fun q18 c19 hq20 => ?_
      refine SL.as ?_
      refine SL.nn [(0, sl ob oo l.length oc), (2, bo false), (4, pt g 0), (5, Value.slice q14 (po.length + 1) c15), (6, Value.slice q18 (ps.length + 1) c19), (7, Value.slice ql le.length cl), (8, iw (i : Int))] [rG g d0 d1 wd e0 e1 vd (nx t0) t1 f0 f1 41, rWp wd d0 d1 Gw11 ((S.setA false (setTxF S.A0 t0 fx).2).setA false (writeF (S.setA false (setTxF S.A0 t0 fx).2).A0 5 (nx t0)).2), rWq vd e0 e1 G2 wi0, rRowN (.slice q14 (po.length + 1) c15) (iRw po ++ [[iw S.now]]) 3 1, rRowN (.slice q18 (ps.length + 1) c19) (vRw ps ++ [[Value.slice q5 fx.length c6]]) 28 1, rRowN (.slice ql le.length cl) (iRw le) 3 1, rZ F fs, rBlk b1 [iw ok, iw od, iw okk, iw oto, Value.slice fa f.length fc] 30, rMine (.slice q5 fx.length c6) fx 5, rBlk b13 [iw S.now] 3, rBlk b17 [Value.slice q5 fx.length c6] 28] ⟨rfl, rfl, rfl, rfl, rfl, rfl, rfl, trivial⟩ ?_
      refine SC.region ?_
      refine SL.mv ?_
      refine SL.buildSlice (size := 1) (vals := [(0, iw 1)]) (z := [iw 0]) (cs := [iw 1]) rfl rfl (lt_b rfl) rfl Try.underlying26 (by kernel_rfl) rfl rfl (by kernel_rfl) fun b21 hb21 => ?_
      refine SL.append_rowN (ri := 5) (rj := 11) (size := 1) (r := [iw 1]) (z := iw 0) (bytes := 8) rfl rfl (lt_b rfl) rfl (by decide) Try.underlying26 (by kernel_rfl) rfl rfl rfl rfl rfl rfl rfl (by rw [List.length_map]; omega) (by unfold maxLen; rw [List.length_map]; omega) hql fun q22 c23 hq24 => ?_
      refine SL.as ?_
      refine SL.nil ?_
      refine SE.blkn ?_
      refine SE.blkn ?_
      refine SC.of_SE ?_
      refine SC.norm [(0, sl ob oo l.length oc), (2, bo false), (4, pt g 0), (5, Value.slice q14 (po.length + 1) c15), (6, Value.slice q18 (ps.length + 1) c19), (7, Value.slice q22 (le.length + 1) c23), (8, iw (i : Int))] [rG g d0 d1 wd e0 e1 vd (nx t0) t1 f0 f1 41, rWp wd d0 d1 Gw11 ((S.setA false (setTxF S.A0 t0 fx).2).setA false (writeF (S.setA false (setTxF S.A0 t0 fx).2).A0 5 (nx t0)).2), rWq vd e0 e1 G2 wi0, rRowN (.slice q14 (po.length + 1) c15) (iRw po ++ [[iw S.now]]) 3 1, rRowN (.slice q18 (ps.length + 1) c19) (vRw ps ++ [[Value.slice q5 fx.length c6]]) 28 1, rRowN (.slice q22 (le.length + 1) c23) (iRw le ++ [[iw 1]]) 3 1, rZ F fs, rBlk b1 [iw ok, iw od, iw okk, iw oto, Value.slice fa f.length fc] 30, rMine (.slice q5 fx.length c6) fx 5, rBlk b13 [iw S.now] 3, rBlk b17 [Value.slice q5 fx.length c6] 28, rBlk b21 [iw 1] 3] ⟨rfl, rfl, rfl, rfl, rfl, rfl, rfl, trivial⟩ rfl ?_
      refine SC.region ?_
      refine SL.mv ?_
      refine SL.uu (ru_add (r := (IntKind.i64.wrap ((i : Int) + 1))) rfl rfl rfl rfl) ?_
      refine SL.as ?_
      refine SL.nil ?_
      have hBn := post_ok (Z := (⟨S, t0, t1, f0, f1, po, ps.map (·.2), le⟩ : Br)) (b := false) (f := fx) hB (by simp only [List.length_map]; omega) (Classical.byContradiction fun hc => ne_f h10 hc) (by simp only [List.length_map]; omega) (by omega) hsd2
      refine SE.reo [0, 1, 2, 3, 4, 5, 6, 8] [rG g d0 d1 wd e0 e1 vd (nx t0) t1 f0 f1 41, rWp wd d0 d1 Gw11 ((S.setA false (setTxF S.A0 t0 fx).2).setA false (writeF (S.setA false (setTxF S.A0 t0 fx).2).A0 5 (nx t0)).2), rWq vd e0 e1 G2 wi0, rRowN (.slice q14 (po.length + 1) c15) (iRw po ++ [[iw S.now]]) 3 1, rRowN (.slice q18 (ps.length + 1) c19) (vRw ps ++ [[Value.slice q5 fx.length c6]]) 28 1, rRowN (.slice q22 (le.length + 1) c23) (iRw le ++ [[iw 1]]) 3 1, rZ F fs, rMine (.slice q5 fx.length c6) fx 5] (by decide) rfl ?_
      refine SE.imp (l' := [rG g d0 d1 wd e0 e1 vd (nx t0) t1 f0 f1 41, rWp wd d0 d1 Gw11 ((S.setA false (setTxF S.A0 t0 fx).2).setA false (writeF (S.setA false (setTxF S.A0 t0 fx).2).A0 5 (nx t0)).2), rWq vd e0 e1 G2 wi0, rRowN (.slice q14 (po.length + 1) c15) (iRw po ++ [[iw S.now]]) 3 1, rRowN (.slice q18 (ps.length + 1) c19) (vRw ps ++ [[Value.slice q5 fx.length c6]]) 28 1, rRowN (.slice q22 (le.length + 1) c23) (iRw le ++ [[iw 1]]) 3 1, rZ (fun b => F b ∨ (Value.slice q5 fx.length c6).ownBlock = some b) (fun v' f' => fs v' f' ∨ v' = Value.slice q5 fx.length c6 ∧ f' = fx)]) (fun w9 hI => Inv.frz (l := [rG g d0 d1 wd e0 e1 vd (nx t0) t1 f0 f1 41, rWp wd d0 d1 Gw11 ((S.setA false (setTxF S.A0 t0 fx).2).setA false (writeF (S.setA false (setTxF S.A0 t0 fx).2).A0 5 (nx t0)).2), rWq vd e0 e1 G2 wi0, rRowN (.slice q14 (po.length + 1) c15) (iRw po ++ [[iw S.now]]) 3 1, rRowN (.slice q18 (ps.length + 1) c19) (vRw ps ++ [[Value.slice q5 fx.length c6]]) 28 1, rRowN (.slice q22 (le.length + 1) c23) (iRw le ++ [[iw 1]]) 3 1]) (v := .slice q5 fx.length c6) (f := fx) (U := 5) hI (by omega)) ?_
      have hBm : BI (i + 1) ⟨(S.setA false (setTxF S.A0 t0 fx).2).setA false (writeF (S.setA false (setTxF S.A0 t0 fx).2).A0 5 (nx t0)).2, nx t0, t1, f0, f1, po ++ [S.now], (ps ++ [(Value.slice q5 fx.length c6, fx)]).map (·.2), le ++ [1]⟩ := by rw [show (ps ++ [(Value.slice q5 fx.length c6, fx)]).map (·.2) = ps.map (·.2) ++ [fx] from List.map_append]; exact hBn
      refine SE.again N (i + 1, ⟨(S.setA false (setTxF S.A0 t0 fx).2).setA false (writeF (S.setA false (setTxF S.A0 t0 fx).2).A0 5 (nx t0)).2, nx t0, t1, f0, f1, (po ++ [S.now]), q14, c15, (ps ++ [(Value.slice q5 fx.length c6, fx)]), q18, c19, (le ++ [1]), q22, c23, (fun b => F b ∨ (Value.slice q5 fx.length c6).ownBlock = some b), (fun v' f' => fs v' f' ∨ v' = Value.slice q5 fx.length c6 ∧ f' = fx)⟩, Gw11, G2) (by omega) ⟨by dsimp only; omega, hBm, (fun p9 h9 => by rcases List.mem_append.1 h9 with h9 | h9; exact .inl (hps p9 h9); (obtain rfl := List.mem_singleton.1 h9); exact .inr ⟨rfl, rfl⟩), hGw11, hG2, (by simp only [List.length_append, List.length_cons, List.length_nil]; exact hq16), (by simp only [List.length_append, List.length_cons, List.length_nil]; exact hq20), (by simp only [List.length_append, List.length_cons, List.length_nil]; exact hq24)⟩ ⟨rfl, rfl, rfl, (by simp only [List.length_append, List.length_cons, List.length_nil]; rfl), (by simp only [List.length_append, List.length_cons, List.length_nil]; rfl), (by simp only [List.length_append, List.length_cons, List.length_nil]; rfl), (congrArg (fun x => some (iw x)) (show IntKind.i64.wrap ((i : Int) + 1) = ((i + 1 : Nat) : Int) by rw [IntKind.wrap_i64]; omega)), trivial⟩ (by simp only [iRw, vRw, List.map_append, List.map_cons, List.map_nil, List.length_append, List.length_cons, List.length_nil])
    obtain ⟨fx, hfx⟩ : ∃ fx : List UInt8, [UInt8.ofNat (po.length / 256), UInt8.ofNat po.length, sd8 true] ++ f = fx := ⟨_, rfl⟩
    have hfn : numF fx = po.length := by rw [← hfx]; exact num_new (by omega) _ _
    have hf3 : fx.length = 3 + f.length := by rw [← hfx, List.length_append]; rfl
    have hsd2 : fx[2]? = some (sd8 true) := by rw [← hfx]; rfl
    have htb : 0 ≤ t1 ∧ t1 < 16 := by have h1 : t1 = _ := hB.t true; rw [h1]; exact (hB.wb.d true).ok.h5
    refine SC.region_mk_tail 14 [(9, Mk.val (iw 1)), (11, Mk.row ⟨189, w, fun _ => False⟩ 3 3 [] (fun _ => [Value.int .u8 ((UInt8.ofNat (po.length / 256)).toNat : Int), Value.int .u8 ((UInt8.ofNat po.length).toNat : Int), Value.int .u8 1]) 5)] [(10, [9]), (11, [9])] rfl rfl (by kernel_rfl) (by kernel_rfl) (by kernel_rfl) ?_
    refine SM.uu (ru_move rfl rfl) ?_
    refine SM.uu (ru_len Try.underlying26 rfl rfl) ?_
    refine SM.uu (ru_quo (r := ((po.length : Int) / 256)) rfl rfl rfl (by decide) ((by rw [Int.tdiv_eq_ediv_of_nonneg (by omega), IntKind.wrap_i64]; omega))) ?_
    refine SM.uu (ru_conv (r := ((UInt8.ofNat (po.length / 256)).toNat : Int)) ⟨_, Try.underlying3⟩ Try.underlying5 rfl rfl (by rw [show (po.length : Int) / 256 = ((po.length / 256 : Nat) : Int) by omega]; exact u8_of _)) ?_
    refine SM.uu (ru_move rfl rfl) ?_
    refine SM.uu (ru_len Try.underlying26 rfl rfl) ?_
    refine SM.uu (ru_conv (r := ((UInt8.ofNat po.length).toNat : Int)) ⟨_, Try.underlying3⟩ Try.underlying5 rfl rfl (u8_of _)) ?_
    refine SM.uu (ru_fieldAddr (o2 := 1) fd30_1 rfl rfl rfl) ?_
    refine SM.uu (ru_load (i := 7) ts3 rfl rfl rfl rfl) ?_
    refine SM.call rfl rfl rfl rfl (w_all rfl) rfl (lt_b rfl) (iw 1) rfl rfl co9 rfl rfl (fun l' w hI => H_only hI ((side_any od).mono fun e w2 ⟨h1, h2⟩ => ⟨h1.trans (by rw [hsd]), h2⟩)) ?_
    refine SM.uu (ru_conv (r := 1) ⟨_, Try.underlying3⟩ Try.underlying5 rfl rfl rfl) ?_
    refine SM.buildSlice (size := 1) (vals := [(0, Value.int .u8 ((UInt8.ofNat (po.length / 256)).toNat : Int)), (1, Value.int .u8 ((UInt8.ofNat po.length).toNat : Int)), (2, Value.int .u8 1)]) (z := [Value.int .u8 0]) (cs := [Value.int .u8 ((UInt8.ofNat (po.length / 256)).toNat : Int), Value.int .u8 ((UInt8.ofNat po.length).toNat : Int), Value.int .u8 1]) (dp := []) (csf := fun _ => [Value.int .u8 ((UInt8.ofNat (po.length / 256)).toNat : Int), Value.int .u8 ((UInt8.ofNat po.length).toNat : Int), Value.int .u8 1]) rfl rfl rfl rfl (w_all rfl) rfl (lt_b rfl) rfl rfl rfl rfl Try.underlying28 (by kernel_rfl) rfl rfl (by kernel_rfl) fun b25 hb25 => ?_
    refine SM.uu (ru_fieldAddr (o2 := 4) fd30_4 rfl rfl rfl) ?_
    refine SM.uu (ru_load (i := 7) ts28 rfl rfl rfl rfl) ?_
    refine SM.nilL (l' := [rG g d0 d1 wd e0 e1 vd t0 t1 f0 f1 41, rWp wd d0 d1 G1 S, rWq vd e0 e1 G2 wi0, rRowN (.slice qp po.length cp) (iRw po) 3 1, rRowN (.slice qb ps.length cb) (vRw ps) 28 1, rRowN (.slice ql le.length cl) (iRw le) 3 1, rZ F fs, rBlk b1 [iw ok, iw od, iw okk, iw oto, Value.slice fa f.length fc] 30, rBlk b25 [Value.int .u8 ((UInt8.ofNat (po.length / 256)).toNat : Int), Value.int .u8 ((UInt8.ofNat po.length).toNat : Int), Value.int .u8 1] 5]) rfl ?_
    refine SL.weak (i := 8) (rMine (sl b25 0 3 3) [UInt8.ofNat (po.length / 256), UInt8.ofNat po.length, sd8 true] 5) rfl (fun w h => ownb_new (f := [UInt8.ofNat (po.length / 256), UInt8.ofNat po.length, sd8 true]) h (by simp)) (fun b hb => by cases hb; rfl) ?_
    refine SL.append_mineL (ri := 8) (f := [UInt8.ofNat (po.length / 256), UInt8.ofNat po.length, sd8 true]) (h := f) rfl rfl (lt_b rfl) rfl Try.underlying28 (by kernel_rfl) rfl rfl rfl (fun w hI => hb0.only hI.2 (fun b _ _ _ _ _ h => h)) (by simp only [List.length_cons, List.length_nil]; omega) (fun b hb => .inr (by cases hb; exact hb25)) fun q26 c27 hq28 => ?_
    refine SL.as ?_
    refine SL.nn [(0, sl ob oo l.length oc), (2, bo false), (4, pt g 0), (5, Value.slice qp po.length cp), (6, Value.slice qb ps.length cb), (7, Value.slice ql le.length cl), (8, iw (i : Int)), (9, pt b1 0), (10, Value.slice q26 (([UInt8.ofNat (po.length / 256), UInt8.ofNat po.length, sd8 true] ++ f).length) c27)] [rG g d0 d1 wd e0 e1 vd t0 t1 f0 f1 41, rWp wd d0 d1 G1 S, rWq vd e0 e1 G2 wi0, rRowN (.slice qp po.length cp) (iRw po) 3 1, rRowN (.slice qb ps.length cb) (vRw ps) 28 1, rRowN (.slice ql le.length cl) (iRw le) 3 1, rZ F fs, rBlk b1 [iw ok, iw od, iw okk, iw oto, Value.slice fa f.length fc] 30, rMine (.slice q26 ([UInt8.ofNat (po.length / 256), UInt8.ofNat po.length, sd8 true] ++ f).length c27) ([UInt8.ofNat (po.length / 256), UInt8.ofNat po.length, sd8 true] ++ f) 5] ⟨rfl, rfl, rfl, rfl, rfl, rfl, rfl, rfl, rfl, trivial⟩ ?_
    refine SC.seq ?_
    rw [hfx]
    rcases Nat.lt_or_ge 274 fx.length with hbig | hbig
    · skip
      refine SC.region_tail 17 (by kernel_rfl) (by kernel_rfl) ?_
      refine SQ.mv ?_
      refine SQ.fa 1 fd30_1 ?_
      refine SQ.ld 7 ts3 ?_
      refine SQ.call (iw 1) rfl rfl co9 rfl rfl rfl (lt_b rfl) (fun w hI => H_only hI ((side_any od).mono fun e w2 ⟨h1, h2⟩ => ⟨h1.trans (by rw [hsd]), h2⟩)) ?_
      refine SQ.nk ?_
      refine SQ.fa 0 fd41_0 ?_
      refine SQ.ia 1 ar34 ?_
      refine SQ.ld 0 ts33 ?_
      refine SQ.mv ?_
      refine SQ.fa 1 fd30_1 ?_
      refine SQ.ld 7 ts3 ?_
      refine SQ.call (iw 1) rfl rfl co9 rfl rfl rfl (lt_b rfl) (fun w hI => H_only hI ((side_any od).mono fun e w2 ⟨h1, h2⟩ => ⟨h1.trans (by rw [hsd]), h2⟩)) ?_
      refine SQ.nk ?_
      refine SQ.fa 6 fd41_4 ?_
      refine SQ.ia 7 ar39 ?_
      refine SQ.ld 0 ts3 ?_
      refine SQ.mv ?_
      refine SQ.nilL ?_
      refine SL.callv (iw (bigE S.A1 t1)) rfl rfl co10 rfl rfl rfl (lt_b rfl) (fun w hI => H_only hI (rw_settxb1 (hI.1.get (i := 1) rfl) hB.wb.d1.ok hbig t1)) ?_
      refine SL.as ?_
      refine SL.nn [(0, sl ob oo l.length oc), (2, bo false), (4, pt g 0), (5, Value.slice qp po.length cp), (6, Value.slice qb ps.length cb), (7, Value.slice ql le.length cl), (8, iw (i : Int)), (9, pt b1 0), (10, Value.slice q26 fx.length c27), (11, iw (bigE S.A1 t1))] [rG g d0 d1 wd e0 e1 vd t0 t1 f0 f1 41, rWp wd d0 d1 G1 S, rWq vd e0 e1 G2 wi0, rRowN (.slice qp po.length cp) (iRw po) 3 1, rRowN (.slice qb ps.length cb) (vRw ps) 28 1, rRowN (.slice ql le.length cl) (iRw le) 3 1, rZ F fs, rBlk b1 [iw ok, iw od, iw okk, iw oto, Value.slice fa f.length fc] 30, rMine (.slice q26 fx.length c27) fx 5] ⟨rfl, rfl, rfl, rfl, rfl, rfl, rfl, rfl, rfl, rfl, trivial⟩ ?_
      refine SC.seq ?_
      refine SC.sr ?_
      refine SL.mv ?_
      refine SL.uu (ru_ne (b := true) rfl rfl rfl ((by simp [bigE_ne]))) ?_
      refine SL.nn [(0, sl ob oo l.length oc), (2, bo false), (4, pt g 0), (5, Value.slice qp po.length cp), (6, Value.slice qb ps.length cb), (7, Value.slice ql le.length cl), (8, iw (i : Int)), (9, pt b1 0), (10, Value.slice q26 fx.length c27), (78, bo true)] _ ⟨rfl, rfl, rfl, rfl, rfl, rfl, rfl, rfl, rfl, rfl, trivial⟩ ?_
      refine SC.yes rfl ?_
      refine SC.exit ?_
      refine SE.passe ?_
      refine SE.blko (by decide) ?_
      refine SE.blke ?_
      refine SC.of_SE ?_
      refine SC.norm [(0, sl ob oo l.length oc), (2, bo false), (4, pt g 0), (5, Value.slice qp po.length cp), (6, Value.slice qb ps.length cb), (7, Value.slice ql le.length cl), (8, iw (i : Int))] _ ⟨rfl, rfl, rfl, rfl, rfl, rfl, rfl, trivial⟩ rfl ?_
      refine SC.region ?_
      refine SL.mv ?_
      refine SL.uu (ru_add (r := (IntKind.i64.wrap ((i : Int) + 1))) rfl rfl rfl rfl) ?_
      refine SL.as ?_
      refine SL.nil ?_
      refine SE.keep 7 ?_
      refine SE.again N (i + 1, ⟨S, t0, t1, f0, f1, po, qp, cp, ps, qb, cb, le, ql, cl, F, fs⟩, G1, G2) (by omega) ⟨by dsimp only; omega, hB.le' (Nat.le_succ i), hps, hG1, hG2, hqp, hqb, hql⟩ ⟨rfl, rfl, rfl, rfl, rfl, rfl, (congrArg (fun x => some (iw x)) (show IntKind.i64.wrap ((i : Int) + 1) = ((i + 1 : Nat) : Int) by rw [IntKind.wrap_i64]; omega)), trivial⟩ rfl
    refine SC.region_tail 17 (by kernel_rfl) (by kernel_rfl) ?_
    refine SQ.mv ?_
    refine SQ.fa 1 fd30_1 ?_
    refine SQ.ld 7 ts3 ?_
    refine SQ.call (iw 1) rfl rfl co9 rfl rfl rfl (lt_b rfl) (fun w hI => H_only hI ((side_any od).mono fun e w2 ⟨h1, h2⟩ => ⟨h1.trans (by rw [hsd]), h2⟩)) ?_
    refine SQ.nk ?_
    refine SQ.fa 0 fd41_0 ?_
    refine SQ.ia 1 ar34 ?_
    refine SQ.ld 0 ts33 ?_
    refine SQ.mv ?_
    refine SQ.fa 1 fd30_1 ?_
    refine SQ.ld 7 ts3 ?_
    refine SQ.call (iw 1) rfl rfl co9 rfl rfl rfl (lt_b rfl) (fun w hI => H_only hI ((side_any od).mono fun e w2 ⟨h1, h2⟩ => ⟨h1.trans (by rw [hsd]), h2⟩)) ?_
    refine SQ.nk ?_
    refine SQ.fa 6 fd41_4 ?_
    refine SQ.ia 7 ar39 ?_
    refine SQ.ld 0 ts3 ?_
    refine SQ.mv ?_
    refine SQ.nilL ?_
    have hB30 := hB.wb.setA true ((hB.wb.d1).setTx t1 fx)
    refine SL.call (ζ := Nat → Prop) (fun Gw29 => iw ((setTxF S.A1 t1 fx).1)) (fun Gw29 => [rG g d0 d1 wd e0 e1 vd t0 t1 f0 f1 41, rWp wd d0 d1 Gw29 (S.setA true (setTxF S.A1 t1 fx).2), rWq vd e0 e1 G2 wi0, rRowN (.slice qp po.length cp) (iRw po) 3 1, rRowN (.slice qb ps.length cb) (vRw ps) 28 1, rRowN (.slice ql le.length cl) (iRw le) 3 1, rZ F fs, rBlk b1 [iw ok, iw od, iw okk, iw oto, Value.slice fa f.length fc] 30, rMine (.slice q26 fx.length c27) fx 5]) (fun Gw29 => ∀ b, Gw29 b → False ∨ w.heap.size ≤ b) rfl rfl co10 rfl rfl rfl (lt_b rfl) (fun w5 hI => (rw_settx1 (hI.1.get (i := 1) rfl) hB.wb.d1.ok (mine_bytesw hI (j := 8) rfl (by omega)) ((mine_away hI (i := 1) (j := 8) rfl rfl (by decide))) t1).mono fun e w2 ⟨h1, kz⟩ => by obtain ⟨G9, k1, k2⟩ := hI.rto (i := 1) rfl hG1 kz; exact ⟨G9, h1, k1, k2⟩) ?_
    intro Gw29 hGw29
    refine SL.as ?_
    refine SL.nn [(0, sl ob oo l.length oc), (2, bo false), (4, pt g 0), (5, Value.slice qp po.length cp), (6, Value.slice qb ps.length cb), (7, Value.slice ql le.length cl), (8, iw (i : Int)), (9, pt b1 0), (10, Value.slice q26 fx.length c27), (11, iw ((setTxF S.A1 t1 fx).1))] [rG g d0 d1 wd e0 e1 vd t0 t1 f0 f1 41, rWp wd d0 d1 Gw29 (S.setA true (setTxF S.A1 t1 fx).2), rWq vd e0 e1 G2 wi0, rRowN (.slice qp po.length cp) (iRw po) 3 1, rRowN (.slice qb ps.length cb) (vRw ps) 28 1, rRowN (.slice ql le.length cl) (iRw le) 3 1, rZ F fs, rBlk b1 [iw ok, iw od, iw okk, iw oto, Value.slice fa f.length fc] 30, rMine (.slice q26 fx.length c27) fx 5] ⟨rfl, rfl, rfl, rfl, rfl, rfl, rfl, rfl, rfl, rfl, trivial⟩ ?_
    refine SC.seq ?_
    refine SC.sr ?_
    refine SL.mv ?_
    refine SL.uu (ru_ne (b := ((((setTxF S.A1 t1 fx).1) : Int) != 0)) rfl rfl rfl rfl) ?_
    refine SL.nn [(0, sl ob oo l.length oc), (2, bo false), (4, pt g 0), (5, Value.slice qp po.length cp), (6, Value.slice qb ps.length cb), (7, Value.slice ql le.length cl), (8, iw (i : Int)), (9, pt b1 0), (10, Value.slice q26 fx.length c27), (78, bo ((((setTxF S.A1 t1 fx).1) : Int) != 0))] _ ⟨rfl, rfl, rfl, rfl, rfl, rfl, rfl, rfl, rfl, rfl, trivial⟩ ?_
    refine SC.both ((((setTxF S.A1 t1 fx).1) : Int) != 0) rfl (fun h31 => ?_) (fun h31 => ?_)
    · skip
      refine SC.exit ?_
      refine SE.passe ?_
      refine SE.blko (by decide) ?_
      refine SE.blke ?_
      refine SC.of_SE ?_
      refine SC.norm [(0, sl ob oo l.length oc), (2, bo false), (4, pt g 0), (5, Value.slice qp po.length cp), (6, Value.slice qb ps.length cb), (7, Value.slice ql le.length cl), (8, iw (i : Int))] _ ⟨rfl, rfl, rfl, rfl, rfl, rfl, rfl, trivial⟩ rfl ?_
      refine SC.region ?_
      refine SL.mv ?_
      refine SL.uu (ru_add (r := (IntKind.i64.wrap ((i : Int) + 1))) rfl rfl rfl rfl) ?_
      refine SL.as ?_
      refine SL.nil ?_
      refine SE.keep 7 ?_
      refine SE.again N (i + 1, ⟨S.setA true (setTxF S.A1 t1 fx).2, t0, t1, f0, f1, po, qp, cp, ps, qb, cb, le, ql, cl, F, fs⟩, Gw29, G2) (by omega) ⟨by dsimp only; omega, post_err (Z := (⟨S, t0, t1, f0, f1, po, ps.map (·.2), le⟩ : Br)) (b := true) hB (ne_t h31), hps, hGw29, hG2, hqp, hqb, hql⟩ ⟨rfl, rfl, rfl, rfl, rfl, rfl, (congrArg (fun x => some (iw x)) (show IntKind.i64.wrap ((i : Int) + 1) = ((i + 1 : Nat) : Int) by rw [IntKind.wrap_i64]; omega)), trivial⟩ rfl
    refine SC.skip ?_
    refine SC.of_SE ?_
    refine SC.norm [(0, sl ob oo l.length oc), (2, bo false), (4, pt g 0), (5, Value.slice qp po.length cp), (6, Value.slice qb ps.length cb), (7, Value.slice ql le.length cl), (8, iw (i : Int)), (9, pt b1 0), (10, Value.slice q26 fx.length c27)] _ ⟨rfl, rfl, rfl, rfl, rfl, rfl, rfl, rfl, rfl, trivial⟩ rfl ?_
    refine SC.seq ?_
    refine SC.region_tail 17 (by kernel_rfl) (by kernel_rfl) ?_
    refine SQ.mv ?_
    refine SQ.fa 1 fd30_1 ?_
    refine SQ.ld 7 ts3 ?_
    refine SQ.call (iw 1) rfl rfl co9 rfl rfl rfl (lt_b rfl) (fun w hI => H_only hI ((side_any od).mono fun e w2 ⟨h1, h2⟩ => ⟨h1.trans (by rw [hsd]), h2⟩)) ?_
    refine SQ.mv ?_
    refine SQ.fa 1 fd30_1 ?_
    refine SQ.ld 7 ts3 ?_
    refine SQ.call (iw 1) rfl rfl co9 rfl rfl rfl (lt_b rfl) (fun w hI => H_only hI ((side_any od).mono fun e w2 ⟨h1, h2⟩ => ⟨h1.trans (by rw [hsd]), h2⟩)) ?_
    refine SQ.nk ?_
    refine SQ.fa 6 fd41_4 ?_
    refine SQ.ia 7 ar39 ?_
    refine SQ.ld 0 ts3 ?_
    refine SQ.uu (ru_add (r := (t1 + 1)) rfl rfl rfl ((by rw [IntKind.wrap_i64]; omega))) ?_
    refine SQ.uu (ru_rem (r := (nx t1)) rfl rfl rfl (by decide) ((by rw [Int.tmod_eq_emod_of_nonneg (by omega)]; rfl))) ?_
    refine SQ.nk ?_
    refine SQ.fa 6 fd41_4 ?_
    refine SQ.ia 7 ar39 ?_
    refine SQ.nilL ?_
    refine SL.store (i := 0) (c' := [pt d0 0, pt d1 0, pt wd 0, pt e0 0, pt e1 0, pt vd 0, iw t0, iw (nx t1), iw f0, iw f1]) rfl rfl ts3 rfl rfl rfl rfl rfl (lt_b rfl) (.inr hgn) rfl ?_
    refine SL.nn [(0, sl ob oo l.length oc), (2, bo false), (4, pt g 0), (5, Value.slice qp po.length cp), (6, Value.slice qb ps.length cb), (7, Value.slice ql le.length cl), (8, iw (i : Int)), (9, pt b1 0), (10, Value.slice q26 fx.length c27)] [rG g d0 d1 wd e0 e1 vd t0 (nx t1) f0 f1 41, rWp wd d0 d1 Gw29 (S.setA true (setTxF S.A1 t1 fx).2), rWq vd e0 e1 G2 wi0, rRowN (.slice qp po.length cp) (iRw po) 3 1, rRowN (.slice qb ps.length cb) (vRw ps) 28 1, rRowN (.slice ql le.length cl) (iRw le) 3 1, rZ F fs, rBlk b1 [iw ok, iw od, iw okk, iw oto, Value.slice fa f.length fc] 30, rMine (.slice q26 fx.length c27) fx 5] ⟨rfl, rfl, rfl, rfl, rfl, rfl, rfl, rfl, rfl, trivial⟩ ?_
    refine SC.seq ?_
    refine SC.region_tail 16 (by kernel_rfl) (by kernel_rfl) ?_
    refine SQ.mv ?_
    refine SQ.fa 1 fd30_1 ?_
    refine SQ.ld 7 ts3 ?_
    refine SQ.call (iw 1) rfl rfl co9 rfl rfl rfl (lt_b rfl) (fun w hI => H_only hI ((side_any od).mono fun e w2 ⟨h1, h2⟩ => ⟨h1.trans (by rw [hsd]), h2⟩)) ?_
    refine SQ.nk ?_
    refine SQ.fa 0 fd41_0 ?_
    refine SQ.ia 1 ar34 ?_
    refine SQ.ld 0 ts33 ?_
    refine SQ.mv ?_
    refine SQ.fa 1 fd30_1 ?_
    refine SQ.ld 7 ts3 ?_
    refine SQ.call (iw 1) rfl rfl co9 rfl rfl rfl (lt_b rfl) (fun w hI => H_only hI ((side_any od).mono fun e w2 ⟨h1, h2⟩ => ⟨h1.trans (by rw [hsd]), h2⟩)) ?_
    refine SQ.nk ?_
    refine SQ.fa 6 fd41_4 ?_
    refine SQ.ia 7 ar39 ?_
    refine SQ.ld 0 ts3 ?_
    refine SQ.nilL ?_
    have hB33 := hB30.setA true ((hB30.d1).write hB30.now.1 5 (nx t1))
    refine SL.call (ζ := Nat → Prop) (fun Gw32 => iw ((writeF (S.setA true (setTxF S.A1 t1 fx).2).A1 5 (nx t1)).1)) (fun Gw32 => [rG g d0 d1 wd e0 e1 vd t0 (nx t1) f0 f1 41, rWp wd d0 d1 Gw32 ((S.setA true (setTxF S.A1 t1 fx).2).setA true (writeF (S.setA true (setTxF S.A1 t1 fx).2).A1 5 (nx t1)).2), rWq vd e0 e1 G2 wi0, rRowN (.slice qp po.length cp) (iRw po) 3 1, rRowN (.slice qb ps.length cb) (vRw ps) 28 1, rRowN (.slice ql le.length cl) (iRw le) 3 1, rZ F fs, rBlk b1 [iw ok, iw od, iw okk, iw oto, Value.slice fa f.length fc] 30, rMine (.slice q26 fx.length c27) fx 5]) (fun Gw32 => ∀ b, Gw32 b → False ∨ w.heap.size ≤ b) rfl rfl co11 rfl rfl rfl (lt_b rfl) (fun w5 hI => (rw_write1 (hI.1.get (i := 1) rfl) hB30.d1.ok 5 (nx t1)).mono fun e w2 ⟨h1, kz⟩ => by obtain ⟨G9, k1, k2⟩ := hI.rto (i := 1) rfl hGw29 kz; exact ⟨G9, h1, k1, k2⟩) ?_
    intro Gw32 hGw32
    refine SL.nn [(0, sl ob oo l.length oc), (2, bo false), (4, pt g 0), (5, Value.slice qp po.length cp), (6, Value.slice qb ps.length cb), (7, Value.slice ql le.length cl), (8, iw (i : Int)), (10, Value.slice q26 fx.length c27)] [rG g d0 d1 wd e0 e1 vd t0 (nx t1) f0 f1 41, rWp wd d0 d1 Gw32 ((S.setA true (setTxF S.A1 t1 fx).2).setA true (writeF (S.setA true (setTxF S.A1 t1 fx).2).A1 5 (nx t1)).2), rWq vd e0 e1 G2 wi0, rRowN (.slice qp po.length cp) (iRw po) 3 1, rRowN (.slice qb ps.length cb) (vRw ps) 28 1, rRowN (.slice ql le.length cl) (iRw le) 3 1, rZ F fs, rBlk b1 [iw ok, iw od, iw okk, iw oto, Value.slice fa f.length fc] 30, rMine (.slice q26 fx.length c27) fx 5] ⟨rfl, rfl, rfl, rfl, rfl, rfl, rfl, rfl, trivial⟩ ?_
    refine SC.sr ?_
    refine SL.mv ?_
    refine SL.mv ?_
    refine SL.nk ?_
    refine SL.fa 2 fd41_1 ?_
    refine SL.ld 0 ts35 ?_
    refine SL.callv (iw S.now) rfl rfl co12 rfl rfl rfl (lt_b rfl) (fun w hI => H_only hI (rw_now (S := (S.setA true (setTxF S.A1 t1 fx).2).setA true (writeF (S.setA true (setTxF S.A1 t1 fx).2).A1 5 (nx t1)).2) (hI.1.get (i := 1) rfl))) ?_
    refine SL.buildSlice (size := 1) (vals := [(0, iw S.now)]) (z := [iw 0]) (cs := [iw S.now]) rfl rfl (lt_b rfl) rfl Try.underlying26 (by kernel_rfl) rfl rfl (by kernel_rfl) fun b34 hb34 => ?_
    refine SL.append_rowN (ri := 3) (rj := 9) (size := 1) (r := [iw S.now]) (z := iw 0) (bytes := 8) rfl rfl (lt_b rfl) rfl (by decide) Try.underlying26 (by kernel_rfl) rfl rfl rfl rfl rfl rfl rfl (by rw [List.length_map]; omega) (by unfold maxLen; rw [List.length_map]; omega) hqp fun q35 c36 hq37 => ?_
    refine SL.as ?_
    refine SL.nn [(0, sl ob oo l.length oc), (2, bo false), (4, pt g 0), (5, Value.slice q35 (po.length + 1) c36), (6, Value.slice qb ps.length cb), (7, Value.slice ql le.length cl), (8, iw (i : Int)), (10, Value.slice q26 fx.length c27)] [rG g d0 d1 wd e0 e1 vd t0 (nx t1) f0 f1 41, rWp wd d0 d1 Gw32 ((S.setA true (setTxF S.A1 t1 fx).2).setA true (writeF (S.setA true (setTxF S.A1 t1 fx).2).A1 5 (nx t1)).2), rWq vd e0 e1 G2 wi0, rRowN (.slice q35 (po.length + 1) c36) (iRw po ++ [[iw S.now]]) 3 1, rRowN (.slice qb ps.length cb) (vRw ps) 28 1, rRowN (.slice ql le.length cl) (iRw le) 3 1, rZ F fs, rBlk b1 [iw ok, iw od, iw okk, iw oto, Value.slice fa f.length fc] 30, rMine (.slice q26 fx.length c27) fx 5, rBlk b34 [iw S.now] 3] ⟨rfl, rfl, rfl, rfl, rfl, rfl, rfl, rfl, trivial⟩ ?_
    refine SC.sr ?_
    refine SL.mv ?_
    refine SL.mv ?_
    refine SL.buildSlice (size := 1) (vals := [(0, Value.slice q26 fx.length c27)]) (z := [Value.slice none 0 0]) (cs := [Value.slice q26 fx.length c27]) rfl rfl (lt_b rfl) rfl Try.underlying27 (by kernel_rfl) rfl rfl (by kernel_rfl) fun b38 hb38 => ?_
    refine SL.append_rowN (ri := 4) (rj := 10) (size := 1) (r := [Value.slice q26 fx.length c27]) (z := Value.slice none 0 0) (bytes := 24) rfl rfl (lt_b rfl) rfl (by decide) Try.underlying27 (by kernel_rfl) rfl rfl rfl rfl rfl rfl rfl (by rw [List.length_map]; omega) (by unfold maxLen; rw [List.length_map]; omega) hqb fun q39 c40 hq41 => ?_
    refine SL.as ?_
    refine SL.nn [(0, sl ob oo l.length oc), (2, bo false), (4, pt g 0), (5, Value.slice q35 (po.length + 1) c36), (6, Value.slice q39 (ps.length + 1) c40), (7, Value.slice ql le.length cl), (8, iw (i : Int))] [rG g d0 d1 wd e0 e1 vd t0 (nx t1) f0 f1 41, rWp wd d0 d1 Gw32 ((S.setA true (setTxF S.A1 t1 fx).2).setA true (writeF (S.setA true (setTxF S.A1 t1 fx).2).A1 5 (nx t1)).2), rWq vd e0 e1 G2 wi0, rRowN (.slice q35 (po.length + 1) c36) (iRw po ++ [[iw S.now]]) 3 1, rRowN (.slice q39 (ps.length + 1) c40) (vRw ps ++ [[Value.slice q26 fx.length c27]]) 28 1, rRowN (.slice ql le.length cl) (iRw le) 3 1, rZ F fs, rBlk b1 [iw ok, iw od, iw okk, iw oto, Value.slice fa f.length fc] 30, rMine (.slice q26 fx.length c27) fx 5, rBlk b34 [iw S.now] 3, rBlk b38 [Value.slice q26 fx.length c27] 28] ⟨rfl, rfl, rfl, rfl, rfl, rfl, rfl, trivial⟩ ?_
    refine SC.region ?_
    refine SL.mv ?_
    refine SL.buildSlice (size := 1) (vals := [(0, iw 1)]) (z := [iw 0]) (cs := [iw 1]) rfl rfl (lt_b rfl) rfl Try.underlying26 (by kernel_rfl) rfl rfl (by kernel_rfl) fun b42 hb42 => ?_
    refine SL.append_rowN (ri := 5) (rj := 11) (size := 1) (r := [iw 1]) (z := iw 0) (bytes := 8) rfl rfl (lt_b rfl) rfl (by decide) Try.underlying26 (by kernel_rfl) rfl rfl rfl rfl rfl rfl rfl (by rw [List.length_map]; omega) (by unfold maxLen; rw [List.length_map]; omega) hql fun q43 c44 hq45 => ?_
    refine SL.as ?_
    refine SL.nil ?_
    refine SE.blkn ?_
    refine SE.blkn ?_
    refine SC.of_SE ?_
    refine SC.norm [(0, sl ob oo l.length oc), (2, bo false), (4, pt g 0), (5, Value.slice q35 (po.length + 1) c36), (6, Value.slice q39 (ps.length + 1) c40), (7, Value.slice q43 (le.length + 1) c44), (8, iw (i : Int))] [rG g d0 d1 wd e0 e1 vd t0 (nx t1) f0 f1 41, rWp wd d0 d1 Gw32 ((S.setA true (setTxF S.A1 t1 fx).2).setA true (writeF (S.setA true (setTxF S.A1 t1 fx).2).A1 5 (nx t1)).2), rWq vd e0 e1 G2 wi0, rRowN (.slice q35 (po.length + 1) c36) (iRw po ++ [[iw S.now]]) 3 1, rRowN (.slice q39 (ps.length + 1) c40) (vRw ps ++ [[Value.slice q26 fx.length c27]]) 28 1, rRowN (.slice q43 (le.length + 1) c44) (iRw le ++ [[iw 1]]) 3 1, rZ F fs, rBlk b1 [iw ok, iw od, iw okk, iw oto, Value.slice fa f.length fc] 30, rMine (.slice q26 fx.length c27) fx 5, rBlk b34 [iw S.now] 3, rBlk b38 [Value.slice q26 fx.length c27] 28, rBlk b42 [iw 1] 3] ⟨rfl, rfl, rfl, rfl, rfl, rfl, rfl, trivial⟩ rfl ?_
    refine SC.region ?_
    refine SL.mv ?_
    refine SL.uu (ru_add (r := (IntKind.i64.wrap ((i : Int) + 1))) rfl rfl rfl rfl) ?_
    refine SL.as ?_
    refine SL.nil ?_
    have hBn := post_ok (Z := (⟨S, t0, t1, f0, f1, po, ps.map (·.2), le⟩ : Br)) (b := true) (f := fx) hB (by simp only [List.length_map]; omega) (Classical.byContradiction fun hc => ne_f h31 hc) (by simp only [List.length_map]; omega) (by omega) hsd2
    refine SE.reo [0, 1, 2, 3, 4, 5, 6, 8] [rG g d0 d1 wd e0 e1 vd t0 (nx t1) f0 f1 41, rWp wd d0 d1 Gw32 ((S.setA true (setTxF S.A1 t1 fx).2).setA true (writeF (S.setA true (setTxF S.A1 t1 fx).2).A1 5 (nx t1)).2), rWq vd e0 e1 G2 wi0, rRowN (.slice q35 (po.length + 1) c36) (iRw po ++ [[iw S.now]]) 3 1, rRowN (.slice q39 (ps.length + 1) c40) (vRw ps ++ [[Value.slice q26 fx.length c27]]) 28 1, rRowN (.slice q43 (le.length + 1) c44) (iRw le ++ [[iw 1]]) 3 1, rZ F fs, rMine (.slice q26 fx.length c27) fx 5] (by decide) rfl ?_
    refine SE.imp (l' := [rG g d0 d1 wd e0 e1 vd t0 (nx t1) f0 f1 41, rWp wd d0 d1 Gw32 ((S.setA true (setTxF S.A1 t1 fx).2).setA true (writeF (S.setA true (setTxF S.A1 t1 fx).2).A1 5 (nx t1)).2), rWq vd e0 e1 G2 wi0, rRowN (.slice q35 (po.length + 1) c36) (iRw po ++ [[iw S.now]]) 3 1, rRowN (.slice q39 (ps.length + 1) c40) (vRw ps ++ [[Value.slice q26 fx.length c27]]) 28 1, rRowN (.slice q43 (le.length + 1) c44) (iRw le ++ [[iw 1]]) 3 1, rZ (fun b => F b ∨ (Value.slice q26 fx.length c27).ownBlock = some b) (fun v' f' => fs v' f' ∨ v' = Value.slice q26 fx.length c27 ∧ f' = fx)]) (fun w9 hI => Inv.frz (l := [rG g d0 d1 wd e0 e1 vd t0 (nx t1) f0 f1 41, rWp wd d0 d1 Gw32 ((S.setA true (setTxF S.A1 t1 fx).2).setA true (writeF (S.setA true (setTxF S.A1 t1 fx).2).A1 5 (nx t1)).2), rWq vd e0 e1 G2 wi0, rRowN (.slice q35 (po.length + 1) c36) (iRw po ++ [[iw S.now]]) 3 1, rRowN (.slice q39 (ps.length + 1) c40) (vRw ps ++ [[Value.slice q26 fx.length c27]]) 28 1, rRowN (.slice q43 (le.length + 1) c44) (iRw le ++ [[iw 1]]) 3 1]) (v := .slice q26 fx.length c27) (f := fx) (U := 5) hI (by omega)) ?_
    have hBm : BI (i + 1) ⟨(S.setA true (setTxF S.A1 t1 fx).2).setA true (writeF (S.setA true (setTxF S.A1 t1 fx).2).A1 5 (nx t1)).2, t0, nx t1, f0, f1, po ++ [S.now], (ps ++ [(Value.slice q26 fx.length c27, fx)]).map (·.2), le ++ [1]⟩ := by rw [show (ps ++ [(Value.slice q26 fx.length c27, fx)]).map (·.2) = ps.map (·.2) ++ [fx] from List.map_append]; exact hBn
    refine SE.again N (i + 1, ⟨(S.setA true (setTxF S.A1 t1 fx).2).setA true (writeF (S.setA true (setTxF S.A1 t1 fx).2).A1 5 (nx t1)).2, t0, nx t1, f0, f1, (po ++ [S.now]), q35, c36, (ps ++ [(Value.slice q26 fx.length c27, fx)]), q39, c40, (le ++ [1]), q43, c44, (fun b => F b ∨ (Value.slice q26 fx.length c27).ownBlock = some b), (fun v' f' => fs v' f' ∨ v' = Value.slice q26 fx.length c27 ∧ f' = fx)⟩, Gw32, G2) (by omega) ⟨by dsimp only; omega, hBm, (fun p9 h9 => by rcases List.mem_append.1 h9 with h9 | h9; exact .inl (hps p9 h9); (obtain rfl := List.mem_singleton.1 h9); exact .inr ⟨rfl, rfl⟩), hGw32, hG2, (by simp only [List.length_append, List.length_cons, List.length_nil]; exact hq37), (by simp only [List.length_append, List.length_cons, List.length_nil]; exact hq41), (by simp only [List.length_append, List.length_cons, List.length_nil]; exact hq45)⟩ ⟨rfl, rfl, rfl, (by simp only [List.length_append, List.length_cons, List.length_nil]; rfl), (by simp only [List.length_append, List.length_cons, List.length_nil]; rfl), (by simp only [List.length_append, List.length_cons, List.length_nil]; rfl), (congrArg (fun x => some (iw x)) (show IntKind.i64.wrap ((i : Int) + 1) = ((i + 1 : Nat) : Int) by rw [IntKind.wrap_i64]; omega)), trivial⟩ (by simp only [iRw, vRw, List.map_append, List.map_cons, List.map_nil, List.length_append, List.length_cons, List.length_nil])
  refine SC.sr ?_
  refine SL.uu (ru_eq (b := ((ok : Int) == 4)) rfl rfl rfl rfl) ?_
  refine SL.as ?_
  refine SL.nn [(0, sl ob oo l.length oc), (2, bo false), (4, pt g 0), (5, Value.slice qp po.length cp), (6, Value.slice qb ps.length cb), (7, Value.slice ql le.length cl), (8, iw (i : Int)), (9, pt b1 0), (35, iw ok), (128, bo ((ok : Int) == 4))] _ ⟨rfl, rfl, rfl, rfl, rfl, rfl, rfl, rfl, rfl, rfl, trivial⟩ ?_
  refine SC.both ((ok : Int) == 4) rfl (fun h46 => ?_) (fun h46 => ?_)
  · skip
    refine SC.seq ?_
    refine SC.region_mk_tailE [(13, 11)] 13 [(8, Mk.take ⟨189, w, fun _ => False⟩ ((seeD S od okk).1.f) (seeD S od okk).1.bad (seeD S od okk).1.tick (seeD S od okk).2 5), (12, Mk.blk ⟨189, w, fun _ => False⟩ [Value.slice none 0 0, bo false, iw 0] 46)] [(9, [8]), (10, [8]), (11, [8])] rfl rfl (by kernel_rfl) (by kernel_rfl) (by kernel_rfl) (by kernel_rfl) ?_
    refine SM.uu (ru_move rfl rfl) ?_
    refine SM.uu (ru_nilCheck rfl rfl) ?_
    refine SM.uu (ru_fieldAddr (o2 := 2) fd41_1 rfl rfl rfl) ?_
    refine SM.uu (ru_load (i := 0) ts35 rfl rfl rfl rfl) ?_
    refine SM.uu (ru_fieldAddr (o2 := 1) fd30_1 rfl rfl rfl) ?_
    refine SM.uu (ru_load (i := 7) ts3 rfl rfl rfl rfl) ?_
    refine SM.uu (ru_fieldAddr (o2 := 2) fd30_2 rfl rfl rfl) ?_
    refine SM.uu (ru_load (i := 7) ts3 rfl rfl rfl rfl) ?_
    refine SM.mkcall (s := Mk.take ⟨189, w, fun _ => False⟩ ((seeD S od okk).1.f) (seeD S od okk).1.bad (seeD S od okk).1.tick (seeD S od okk).2 5) rfl rfl rfl rfl (w_all rfl) rfl (lt_b rfl) rfl rfl rfl co13 rfl rfl (fun l' w hI => (rw_see hB.wb (hI.1.get (i := 1) rfl) od okk).mono fun e w2 ⟨q, c, h1, h2, h3, h4⟩ => ⟨_, h1, ⟨q, c, fun b hb => Nat.le_trans hI.2.size (h3 b hb), rfl⟩, hI.add (r := rMine (.slice q _ c) _ 5) h4 h2 h3⟩) ?_
    rintro _ ⟨q47, c48, hoq47, rfl⟩
    refine SM.uu (ru_move rfl rfl) ?_
    refine SM.uu (ru_extract rfl rfl rfl) ?_
    refine SM.uu (ru_extract rfl rfl rfl) ?_
    refine SM.alloca rfl rfl rfl rfl (w_all rfl) rfl (lt_b rfl) rfl ta46 rfl fun b49 hb49 => ?_
    refine SM.nilL (l' := [rG g d0 d1 wd e0 e1 vd t0 t1 f0 f1 41, rWp wd d0 d1 G1 S, rWq vd e0 e1 G2 wi0, rRowN (.slice qp po.length cp) (iRw po) 3 1, rRowN (.slice qb ps.length cb) (vRw ps) 28 1, rRowN (.slice ql le.length cl) (iRw le) 3 1, rZ F fs, rBlk b1 [iw ok, iw od, iw okk, iw oto, Value.slice fa f.length fc] 30, rMine (.slice q47 ((seeD S od okk).1.f).length c48) ((seeD S od okk).1.f) 5, rBlk b49 [Value.slice none 0 0, bo false, iw 0] 46]) rfl ?_
    refine SL.storea (i := 9) (vs := [Value.slice q47 (((seeD S od okk).1.f).length) c48, bo ((seeD S od okk).1.bad), iw ((seeD S od okk).1.tick)]) (c' := [Value.slice q47 (((seeD S od okk).1.f).length) c48, bo ((seeD S od okk).1.bad), iw ((seeD S od okk).1.tick)]) rfl rfl ta46 rfl rfl rfl rfl rfl rfl (le_b rfl) (.inr hb49) rfl ?_
    refine SL.as ?_
    refine SL.nil ?_
    refine SE.onlyN ?_
    refine SC.of_SE ?_
    refine SC.norm [(0, sl ob oo l.length oc), (2, bo false), (4, pt g 0), (5, Value.slice qp po.length cp), (6, Value.slice qb ps.length cb), (7, Value.slice ql le.length cl), (8, iw (i : Int)), (9, pt b1 0), (12, pt b49 0), (13, iw ((seeD S od okk).2))] [rG g d0 d1 wd e0 e1 vd t0 t1 f0 f1 41, rWp wd d0 d1 G1 S, rWq vd e0 e1 G2 wi0, rRowN (.slice qp po.length cp) (iRw po) 3 1, rRowN (.slice qb ps.length cb) (vRw ps) 28 1, rRowN (.slice ql le.length cl) (iRw le) 3 1, rZ F fs, rBlk b1 [iw ok, iw od, iw okk, iw oto, Value.slice fa f.length fc] 30, rMine (.slice q47 ((seeD S od okk).1.f).length c48) ((seeD S od okk).1.f) 5, rBlk b49 [Value.slice q47 (((seeD S od okk).1.f).length) c48, bo ((seeD S od okk).1.bad), iw ((seeD S od okk).1.tick)] 46] ⟨rfl, rfl, rfl, rfl, rfl, rfl, rfl, rfl, rfl, rfl, trivial⟩ rfl ?_
    refine SC.seq ?_
    refine SC.region_tail 8 (by kernel_rfl) (by kernel_rfl) ?_
    refine SQ.mv ?_
    refine SQ.nk ?_
    refine SQ.fa 2 fd41_1 ?_
    refine SQ.ld 0 ts35 ?_
    refine SQ.fa 1 fd30_1 ?_
    refine SQ.ld 7 ts3 ?_
    refine SQ.fa 2 fd30_2 ?_
    refine SQ.ld 7 ts3 ?_
    refine SQ.nilL ?_
    have hB51 := hB.wb.doubleD od okk
    refine SL.call (ζ := Nat → Prop) (fun Gw50 => iw ((doubleD S od okk).1)) (fun Gw50 => [rG g d0 d1 wd e0 e1 vd t0 t1 f0 f1 41, rWp wd d0 d1 Gw50 ((doubleD S od okk).2), rWq vd e0 e1 G2 wi0, rRowN (.slice qp po.length cp) (iRw po) 3 1, rRowN (.slice qb ps.length cb) (vRw ps) 28 1, rRowN (.slice ql le.length cl) (iRw le) 3 1, rZ F fs, rBlk b1 [iw ok, iw od, iw okk, iw oto, Value.slice fa f.length fc] 30, rMine (.slice q47 ((seeD S od okk).1.f).length c48) ((seeD S od okk).1.f) 5, rBlk b49 [Value.slice q47 (((seeD S od okk).1.f).length) c48, bo ((seeD S od okk).1.bad), iw ((seeD S od okk).1.tick)] 46]) (fun Gw50 => ∀ b, Gw50 b → False ∨ w.heap.size ≤ b) rfl rfl co14 rfl rfl rfl (lt_b rfl) (fun w5 hI => (rw_double hB.wb (by omega) (hI.1.get (i := 1) rfl) od okk).mono fun e w2 ⟨h1, kz⟩ => by obtain ⟨G9, k1, k2⟩ := hI.rto (i := 1) rfl hG1 kz; exact ⟨G9, h1, k1, k2⟩) ?_
    intro Gw50 hGw50
    refine SL.as ?_
    refine SL.nn [(0, sl ob oo l.length oc), (2, bo false), (4, pt g 0), (5, Value.slice qp po.length cp), (6, Value.slice qb ps.length cb), (7, Value.slice ql le.length cl), (8, iw (i : Int)), (12, pt b49 0), (13, iw ((seeD S od okk).2)), (14, iw ((doubleD S od okk).1))] [rG g d0 d1 wd e0 e1 vd t0 t1 f0 f1 41, rWp wd d0 d1 Gw50 ((doubleD S od okk).2), rWq vd e0 e1 G2 wi0, rRowN (.slice qp po.length cp) (iRw po) 3 1, rRowN (.slice qb ps.length cb) (vRw ps) 28 1, rRowN (.slice ql le.length cl) (iRw le) 3 1, rZ F fs, rBlk b1 [iw ok, iw od, iw okk, iw oto, Value.slice fa f.length fc] 30, rMine (.slice q47 ((seeD S od okk).1.f).length c48) ((seeD S od okk).1.f) 5, rBlk b49 [Value.slice q47 (((seeD S od okk).1.f).length) c48, bo ((seeD S od okk).1.bad), iw ((seeD S od okk).1.tick)] 46] ⟨rfl, rfl, rfl, rfl, rfl, rfl, rfl, rfl, rfl, rfl, trivial⟩ ?_
    refine SC.sr ?_
    refine SL.mv ?_
    refine SL.uu (ru_eq (b := ((((seeD S od okk).2) : Int) == 0)) rfl rfl rfl rfl) ?_
    refine SL.mv ?_
    refine SL.join 3 [(0, sl ob oo l.length oc), (2, bo false), (4, pt g 0), (5, Value.slice qp po.length cp), (6, Value.slice qb ps.length cb), (7, Value.slice ql le.length cl), (8, iw (i : Int)), (12, pt b49 0), (13, iw ((seeD S od okk).2)), (14, iw ((doubleD S od okk).1)), (151, iw ((seeD S od okk).2)), (152, bo ((((seeD S od okk).2) : Int) == 0)), (153, bo ((((seeD S od okk).2) : Int) == 0)), (156, bo (((((seeD S od okk).2) : Int) == 0) && ((((doubleD S od okk).1) : Int) == 0)))] [rG g d0 d1 wd e0 e1 vd t0 t1 f0 f1 41, rWp wd d0 d1 Gw50 ((doubleD S od okk).2), rWq vd e0 e1 G2 wi0, rRowN (.slice qp po.length cp) (iRw po) 3 1, rRowN (.slice qb ps.length cb) (vRw ps) 28 1, rRowN (.slice ql le.length cl) (iRw le) 3 1, rZ F fs, rBlk b1 [iw ok, iw od, iw okk, iw oto, Value.slice fa f.length fc] 30, rMine (.slice q47 ((seeD S od okk).1.f).length c48) ((seeD S od okk).1.f) 5, rBlk b49 [Value.slice q47 (((seeD S od okk).1.f).length) c48, bo ((seeD S od okk).1.bad), iw ((seeD S od okk).1.tick)] 46] ?_ ?_
    rotate_left
    · intro K hK
      rcases tf ((((seeD S od okk).2) : Int) == 0) with h52 | h52
      · skip
        refine SL.norm [(0, sl ob oo l.length oc), (2, bo false), (4, pt g 0), (5, Value.slice qp po.length cp), (6, Value.slice qb ps.length cb), (7, Value.slice ql le.length cl), (8, iw (i : Int)), (12, pt b49 0), (13, iw ((seeD S od okk).2)), (14, iw ((doubleD S od okk).1)), (151, iw ((seeD S od okk).2)), (152, bo true), (153, bo true)] _ ⟨rfl, rfl, rfl, rfl, rfl, rfl, rfl, rfl, rfl, rfl, rfl, (congrArg (fun x => some (Value.bool x)) h52), (congrArg (fun x => some (Value.bool x)) h52), trivial⟩ rfl ?_
        refine SL.gg (ru_move rfl rfl) ?_
        refine SL.gg (ru_eq (b := ((((doubleD S od okk).1) : Int) == 0)) rfl rfl rfl rfl) ?_
        refine SL.pk (bo ((((doubleD S od okk).1) : Int) == 0)) (bo false) ?_
        exact SL.joined hK ⟨rfl, rfl, rfl, rfl, rfl, rfl, rfl, rfl, rfl, rfl, rfl, (congrArg (fun x => some (Value.bool x)) h52.symm), (congrArg (fun x => some (Value.bool x)) h52.symm), (congrArg (fun bx => some (Value.bool (bx && ((((doubleD S od okk).1) : Int) == 0)))) h52.symm), trivial⟩ rfl
      refine SL.norm [(0, sl ob oo l.length oc), (2, bo false), (4, pt g 0), (5, Value.slice qp po.length cp), (6, Value.slice qb ps.length cb), (7, Value.slice ql le.length cl), (8, iw (i : Int)), (12, pt b49 0), (13, iw ((seeD S od okk).2)), (14, iw ((doubleD S od okk).1)), (151, iw ((seeD S od okk).2)), (152, bo false), (153, bo false)] _ ⟨rfl, rfl, rfl, rfl, rfl, rfl, rfl, rfl, rfl, rfl, rfl, (congrArg (fun x => some (Value.bool x)) h52), (congrArg (fun x => some (Value.bool x)) h52), trivial⟩ rfl ?_
      refine SL.oo ?_
      refine SL.oo ?_
      refine SL.pk (undef) (bo false) ?_
      exact SL.joined hK ⟨rfl, rfl, rfl, rfl, rfl, rfl, rfl, rfl, rfl, rfl, rfl, (congrArg (fun x => some (Value.bool x)) h52.symm), (congrArg (fun x => some (Value.bool x)) h52.symm), (congrArg (fun bx => some (Value.bool (bx && ((((doubleD S od okk).1) : Int) == 0)))) h52.symm), trivial⟩ rfl
    skip
    refine SL.mv ?_
    refine SL.join 4 [(0, sl ob oo l.length oc), (2, bo false), (4, pt g 0), (5, Value.slice qp po.length cp), (6, Value.slice qb ps.length cb), (7, Value.slice ql le.length cl), (8, iw (i : Int)), (12, pt b49 0), (13, iw ((seeD S od okk).2)), (14, iw ((doubleD S od okk).1)), (151, iw ((seeD S od okk).2)), (152, bo ((((seeD S od okk).2) : Int) == 0)), (153, bo ((((seeD S od okk).2) : Int) == 0)), (156, bo (((((seeD S od okk).2) : Int) == 0) && ((((doubleD S od okk).1) : Int) == 0))), (157, bo (((((seeD S od okk).2) : Int) == 0) && ((((doubleD S od okk).1) : Int) == 0))), (161, bo ((((((seeD S od okk).2) : Int) == 0) && ((((doubleD S od okk).1) : Int) == 0)) && (!((seeD S od okk).1.bad))))] [rG g d0 d1 wd e0 e1 vd t0 t1 f0 f1 41, rWp wd d0 d1 Gw50 ((doubleD S od okk).2), rWq vd e0 e1 G2 wi0, rRowN (.slice qp po.length cp) (iRw po) 3 1, rRowN (.slice qb ps.length cb) (vRw ps) 28 1, rRowN (.slice ql le.length cl) (iRw le) 3 1, rZ F fs, rBlk b1 [iw ok, iw od, iw okk, iw oto, Value.slice fa f.length fc] 30, rMine (.slice q47 ((seeD S od okk).1.f).length c48) ((seeD S od okk).1.f) 5, rBlk b49 [Value.slice q47 (((seeD S od okk).1.f).length) c48, bo ((seeD S od okk).1.bad), iw ((seeD S od okk).1.tick)] 46] ?_ ?_
    rotate_left
    · intro K hK
      rcases tf (((((seeD S od okk).2) : Int) == 0) && ((((doubleD S od okk).1) : Int) == 0)) with h53 | h53
      · skip
        refine SL.norm [(0, sl ob oo l.length oc), (2, bo false), (4, pt g 0), (5, Value.slice qp po.length cp), (6, Value.slice qb ps.length cb), (7, Value.slice ql le.length cl), (8, iw (i : Int)), (12, pt b49 0), (13, iw ((seeD S od okk).2)), (14, iw ((doubleD S od okk).1)), (151, iw ((seeD S od okk).2)), (152, bo ((((seeD S od okk).2) : Int) == 0)), (153, bo ((((seeD S od okk).2) : Int) == 0)), (156, bo true), (157, bo true)] _ ⟨rfl, rfl, rfl, rfl, rfl, rfl, rfl, rfl, rfl, rfl, rfl, rfl, rfl, (congrArg (fun x => some (Value.bool x)) h53), (congrArg (fun x => some (Value.bool x)) h53), trivial⟩ rfl ?_
        refine SL.gg (ru_fieldAddr (o2 := 1) fd46_1 rfl rfl rfl) ?_
        refine SL.gg (ru_load (i := 9) ts4 rfl rfl rfl rfl) ?_
        refine SL.gg (ru_not (c := (!((seeD S od okk).1.bad))) rfl rfl rfl) ?_
        refine SL.pk (bo (!((seeD S od okk).1.bad))) (bo false) ?_
        exact SL.joined hK ⟨rfl, rfl, rfl, rfl, rfl, rfl, rfl, rfl, rfl, rfl, rfl, rfl, rfl, (congrArg (fun x => some (Value.bool x)) h53.symm), (congrArg (fun x => some (Value.bool x)) h53.symm), (congrArg (fun bx => some (Value.bool (bx && (!((seeD S od okk).1.bad))))) h53.symm), trivial⟩ rfl
      refine SL.norm [(0, sl ob oo l.length oc), (2, bo false), (4, pt g 0), (5, Value.slice qp po.length cp), (6, Value.slice qb ps.length cb), (7, Value.slice ql le.length cl), (8, iw (i : Int)), (12, pt b49 0), (13, iw ((seeD S od okk).2)), (14, iw ((doubleD S od okk).1)), (151, iw ((seeD S od okk).2)), (152, bo ((((seeD S od okk).2) : Int) == 0)), (153, bo ((((seeD S od okk).2) : Int) == 0)), (156, bo false), (157, bo false)] _ ⟨rfl, rfl, rfl, rfl, rfl, rfl, rfl, rfl, rfl, rfl, rfl, rfl, rfl, (congrArg (fun x => some (Value.bool x)) h53), (congrArg (fun x => some (Value.bool x)) h53), trivial⟩ rfl ?_
      refine SL.oo ?_
      refine SL.oo ?_
      refine SL.oo ?_
      refine SL.pk (undef) (bo false) ?_
      exact SL.joined hK ⟨rfl, rfl, rfl, rfl, rfl, rfl, rfl, rfl, rfl, rfl, rfl, rfl, rfl, (congrArg (fun x => some (Value.bool x)) h53.symm), (congrArg (fun x => some (Value.bool x)) h53.symm), (congrArg (fun bx => some (Value.bool (bx && (!((seeD S od okk).1.bad))))) h53.symm), trivial⟩ rfl
    skip
    refine SL.nn [(0, sl ob oo l.length oc), (2, bo false), (4, pt g 0), (5, Value.slice qp po.length cp), (6, Value.slice qb ps.length cb), (7, Value.slice ql le.length cl), (8, iw (i : Int)), (12, pt b49 0), (161, bo ((((((seeD S od okk).2) : Int) == 0) && ((((doubleD S od okk).1) : Int) == 0)) && (!((seeD S od okk).1.bad))))] _ ⟨rfl, rfl, rfl, rfl, rfl, rfl, rfl, rfl, rfl, trivial⟩ ?_
    refine SC.both ((((((seeD S od okk).2) : Int) == 0) && ((((doubleD S od okk).1) : Int) == 0)) && (!((seeD S od okk).1.bad))) rfl (fun h54 => ?_) (fun h54 => ?_)
    · skip
      have hc9 : (seeD S od okk).2 = 0 ∧ (doubleD S od okk).1 = 0 ∧ (seeD S od okk).1.bad = false := by simpa [and_assoc] using h54
      obtain ⟨v, hle, hx3, hv1, hvn, hBn⟩ := dbl_yes (Z := (⟨S, t0, t1, f0, f1, po, ps.map (·.2), le⟩ : Br)) (dir := od) (k := okk) hB hc9.1 hc9.2.2
      simp only at hle hx3 hv1 hvn
      obtain ⟨y0, y1, y2, hy0, hy1, hy2, hnum⟩ := three hx3
      have hb90 := y0.toNat_lt
      have hb91 := y1.toNat_lt
      have hnll : numF (seeD S od okk).1.f < le.length := get_lt hle
      refine SC.weakN 8 (rRowN (.slice q47 ((seeD S od okk).1.f).length c48) (bRows ((seeD S od okk).1.f)) 5 1) rfl (fun w h => mine_rows.1 h) (fun b hb => hb) ?_
      refine SC.region_tail 17 (by kernel_rfl) (by kernel_rfl) ?_
      refine SQ.mv ?_
      refine SQ.fa 0 fd46_0 ?_
      refine SQ.ld 9 ts28 ?_
      refine SQ.uu (ru_index_rowN (ri := 8) si28 rfl rfl rfl rfl (by omega) (by omega)) ?_
      refine SQ.uu (ru_load_rowN (size := 1) (ri := 8) (i := (0 : Int).toNat) (k := 0) (r := [Value.int .u8 (y0.toNat : Int)]) ts5 rfl rfl rfl (by unfold bRows; rw [List.getElem?_map, show (seeD S od okk).1.f[(0 : Int).toNat]? = some y0 from hy0]; rfl) (by decide) rfl) ?_
      refine SQ.uu (ru_conv (r := (y0.toNat : Int)) ⟨_, Try.underlying5⟩ Try.underlying3 rfl rfl (by rw [IntKind.wrap_i64]; omega)) ?_
      refine SQ.uu (ru_mul (r := (256 * (y0.toNat : Int))) rfl rfl rfl ((by rw [IntKind.wrap_i64]; omega))) ?_
      refine SQ.fa 0 fd46_0 ?_
      refine SQ.ld 9 ts28 ?_
      refine SQ.uu (ru_index_rowN (ri := 8) si28 rfl rfl rfl rfl (by omega) (by omega)) ?_
      refine SQ.uu (ru_load_rowN (size := 1) (ri := 8) (i := (1 : Int).toNat) (k := 0) (r := [Value.int .u8 (y1.toNat : Int)]) ts5 rfl rfl rfl (by unfold bRows; rw [List.getElem?_map, show (seeD S od okk).1.f[(1 : Int).toNat]? = some y1 from hy1]; rfl) (by decide) rfl) ?_
      refine SQ.uu (ru_conv (r := (y1.toNat : Int)) ⟨_, Try.underlying5⟩ Try.underlying3 rfl rfl (by rw [IntKind.wrap_i64]; omega)) ?_
      refine SQ.uu (ru_add (r := (numF (seeD S od okk).1.f : Int)) rfl rfl rfl ((by rw [IntKind.wrap_i64]; omega))) ?_
      refine SQ.uu (ru_index_rowN (ri := 5) si26 rfl rfl rfl rfl (by omega) (by omega)) ?_
      refine SQ.uu (ru_load_rowN (size := 1) (ri := 5) (i := (numF (seeD S od okk).1.f : Int).toNat) (k := 0) (r := [iw v]) ts3 rfl rfl rfl (by rw [Int.toNat_natCast]; show (List.map _ le)[_]? = _; rw [List.getElem?_map, hle]; rfl) (by decide) rfl) ?_
      refine SQ.uu (ru_add (r := (v + 1)) rfl rfl rfl ((by rw [IntKind.wrap_i64]; omega))) ?_
      refine SQ.uu (ru_index_rowN (ri := 5) si26 rfl rfl rfl rfl (by omega) (by omega)) ?_
      refine SQ.nilL ?_
      refine SL.store_rowN (ri := 5) (i := (numF (seeD S od okk).1.f : Int).toNat) (k := 0) (r := [iw v]) rfl rfl ts3 rfl rfl rfl rfl rfl (by rw [Int.toNat_natCast]; show (List.map _ le)[_]? = _; rw [List.getElem?_map, hle]; rfl) (by decide) hql ?_
      refine SL.nil ?_
      refine SE.blkn ?_
      refine SE.blkn ?_
      refine SC.of_SE ?_
      refine SC.norm [(0, sl ob oo l.length oc), (2, bo false), (4, pt g 0), (5, Value.slice qp po.length cp), (6, Value.slice qb ps.length cb), (7, Value.slice ql le.length cl), (8, iw (i : Int))] [rG g d0 d1 wd e0 e1 vd t0 t1 f0 f1 41, rWp wd d0 d1 Gw50 ((doubleD S od okk).2), rWq vd e0 e1 G2 wi0, rRowN (.slice qp po.length cp) (iRw po) 3 1, rRowN (.slice qb ps.length cb) (vRw ps) 28 1, rRowN (.slice ql le.length cl) ((iRw le).set ((numF (seeD S od okk).1.f : Int).toNat) ([iw v].set 0 (iw (v + 1)))) 3 1, rZ F fs, rBlk b1 [iw ok, iw od, iw okk, iw oto, Value.slice fa f.length fc] 30, rRowN (.slice q47 ((seeD S od okk).1.f).length c48) (bRows ((seeD S od okk).1.f)) 5 1, rBlk b49 [Value.slice q47 (((seeD S od okk).1.f).length) c48, bo ((seeD S od okk).1.bad), iw ((seeD S od okk).1.tick)] 46] ⟨rfl, rfl, rfl, rfl, rfl, rfl, rfl, trivial⟩ rfl ?_
      refine SC.region ?_
      refine SL.mv ?_
      refine SL.uu (ru_add (r := (IntKind.i64.wrap ((i : Int) + 1))) rfl rfl rfl rfl) ?_
      refine SL.as ?_
      refine SL.nil ?_
      have er : (iRw le).set ((numF (seeD S od okk).1.f : Int).toNat) ([iw v].set 0 (iw (v + 1))) = iRw (le.set (numF (seeD S od okk).1.f) (v + 1)) := by rw [Int.toNat_natCast]; exact iRw_set _ _ _
      have el : (le.set (numF (seeD S od okk).1.f) (v + 1)).length = le.length := List.length_set
      refine SE.keep 7 ?_
      refine SE.again N (i + 1, ⟨(doubleD S od okk).2, t0, t1, f0, f1, po, qp, cp, ps, qb, cb, (le.set (numF (seeD S od okk).1.f) (v + 1)), ql, cl, F, fs⟩, Gw50, G2) (by omega) ⟨by dsimp only; omega, hBn, hps, hGw50, hG2, hqp, hqb, (by rw [el]; exact hql)⟩ ⟨rfl, rfl, rfl, rfl, rfl, (by rw [el]; rfl), (congrArg (fun x => some (iw x)) (show IntKind.i64.wrap ((i : Int) + 1) = ((i + 1 : Nat) : Int) by rw [IntKind.wrap_i64]; omega)), trivial⟩ (by simp only [el, er]; rfl)
    refine SC.skip ?_
    refine SE.blkn ?_
    refine SE.blkn ?_
    refine SC.of_SE ?_
    refine SC.norm [(0, sl ob oo l.length oc), (2, bo false), (4, pt g 0), (5, Value.slice qp po.length cp), (6, Value.slice qb ps.length cb), (7, Value.slice ql le.length cl), (8, iw (i : Int))] _ ⟨rfl, rfl, rfl, rfl, rfl, rfl, rfl, trivial⟩ rfl ?_
    refine SC.region ?_
    refine SL.mv ?_
    refine SL.uu (ru_add (r := (IntKind.i64.wrap ((i : Int) + 1))) rfl rfl rfl rfl) ?_
    refine SL.as ?_
    refine SL.nil ?_
    refine SE.keep 7 ?_
    refine SE.again N (i + 1, ⟨(doubleD S od okk).2, t0, t1, f0, f1, po, qp, cp, ps, qb, cb, le, ql, cl, F, fs⟩, Gw50, G2) (by omega) ⟨by dsimp only; omega, dbl_no hB (by intro hc; have h8 := h54; have hc1 : (seeD S od okk).2 = 0 := hc.1; have hc2 : (doubleD S od okk).1 = 0 := hc.2.1; have hc3 : (seeD S od okk).1.bad = false := hc.2.2; simp [hc1, hc2, hc3] at h8), hps, hGw50, hG2, hqp, hqb, hql⟩ ⟨rfl, rfl, rfl, rfl, rfl, rfl, (congrArg (fun x => some (iw x)) (show IntKind.i64.wrap ((i : Int) + 1) = ((i + 1 : Nat) : Int) by rw [IntKind.wrap_i64]; omega)), trivial⟩ rfl
  refine SC.sr ?_
  refine SL.uu (ru_eq (b := ((ok : Int) == 7)) rfl rfl rfl rfl) ?_
  refine SL.as ?_
  refine SL.nn [(0, sl ob oo l.length oc), (2, bo false), (4, pt g 0), (5, Value.slice qp po.length cp), (6, Value.slice qb ps.length cb), (7, Value.slice ql le.length cl), (8, iw (i : Int)), (9, pt b1 0), (179, bo ((ok : Int) == 7))] _ ⟨rfl, rfl, rfl, rfl, rfl, rfl, rfl, rfl, rfl, trivial⟩ ?_
  refine SC.both ((ok : Int) == 7) rfl (fun h55 => ?_) (fun h55 => ?_)
  · skip
    refine SC.sr ?_
    refine SL.mv ?_
    refine SL.uu (ru_loada (i := 7) (vs := [iw ok, iw od, iw okk, iw oto, Value.slice fa f.length fc]) ta30 rfl rfl rfl rfl (le_b rfl)) ?_
    refine SL.mv ?_
    refine SL.mv ?_
    refine SL.mv ?_
    refine SL.call (ζ := Wi × Int × Int × List Int × (Nat → Prop) × (Nat → Prop)) (fun z => bo true) (fun z => [rG g d0 d1 wd e0 e1 vd t0 t1 z.2.1 z.2.2.1 41, rWp wd d0 d1 z.2.2.2.2.1 z.1, rWq vd e0 e1 z.2.2.2.2.2 wi0, rRowN (.slice qp po.length cp) (iRw po) 3 1, rRowN (.slice qb ps.length cb) (vRw ps) 28 1, rRowN (.slice ql z.2.2.2.1.length cl) (iRw z.2.2.2.1) 3 1, rZ F fs, rBlk b1 [iw ok, iw od, iw okk, iw oto, Value.slice fa f.length fc] 30]) (fun z => BI i ⟨z.1, t0, t1, z.2.1, z.2.2.1, po, ps.map (·.2), z.2.2.2.1⟩ ∧ z.2.2.2.1.length = le.length ∧ (∀ b, z.2.2.2.2.1 b → False ∨ w.heap.size ≤ b) ∧ ∀ b, z.2.2.2.2.2 b → False ∨ w.heap.size ≤ b) rfl rfl co15 rfl rfl rfl (lt_b rfl) (fun w5 hI => (dlv_any (by omega) hB hps ((hI.keep 7).1)).mono fun e w2 ⟨h1, kz⟩ => by obtain ⟨S9, f09, f19, le9, I1, I2, k1, k2, k3, k4, k5⟩ := Inv.dlto (X := ⟨189, w, fun _ => False⟩) (g := g) (wd := wd) (d0 := d0) (d1 := d1) (vd := vd) (e0 := e0) (e1 := e1) (G1 := G1) (G2 := G2) (V := wi0) (B := ⟨S, t0, t1, f0, f1, po, qp, cp, ps, qb, cb, le, ql, cl, F, fs⟩) (l := [rBlk b1 [iw ok, iw od, iw okk, iw oto, Value.slice fa f.length fc] 30]) hI (fun b hb => hb.elim (fun hb => hb.elim (fun e => by rw [e]; exact .inr hgn) (fun e => e.elim (hG1 b) (hG2 b))) (hql b)) kz; exact ⟨(S9, f09, f19, le9, I1, I2), h1, k3, k1, k2, k4, k5⟩) ?_
    rintro ⟨S9, f09, f19, le9, Ga, Gb⟩ ⟨hB9, hle9, hGa, hGb⟩
    dsimp only at hB9 hle9 hGa hGb
    refine SL.as ?_
    refine SL.nn [(0, sl ob oo l.length oc), (2, bo false), (4, pt g 0), (5, Value.slice qp po.length cp), (6, Value.slice qb ps.length cb), (7, Value.slice ql le.length cl), (8, iw (i : Int)), (15, bo true)] [rG g d0 d1 wd e0 e1 vd t0 t1 f09 f19 41, rWp wd d0 d1 Ga S9, rWq vd e0 e1 Gb wi0, rRowN (.slice qp po.length cp) (iRw po) 3 1, rRowN (.slice qb ps.length cb) (vRw ps) 28 1, rRowN (.slice ql le9.length cl) (iRw le9) 3 1, rZ F fs, rBlk b1 [iw ok, iw od, iw okk, iw oto, Value.slice fa f.length fc] 30] ⟨rfl, rfl, rfl, rfl, rfl, rfl, rfl, rfl, trivial⟩ ?_
    refine SC.sr ?_
    refine SL.mv ?_
    refine SL.uu (ru_not (c := false) rfl rfl rfl) ?_
    refine SL.nn [(0, sl ob oo l.length oc), (2, bo false), (4, pt g 0), (5, Value.slice qp po.length cp), (6, Value.slice qb ps.length cb), (7, Value.slice ql le.length cl), (8, iw (i : Int)), (188, bo false)] _ ⟨rfl, rfl, rfl, rfl, rfl, rfl, rfl, rfl, trivial⟩ ?_
    refine SC.no rfl ?_
    refine SC.skip ?_
    refine SE.blkn ?_
    refine SE.blkn ?_
    refine SC.of_SE ?_
    refine SC.norm [(0, sl ob oo l.length oc), (2, bo false), (4, pt g 0), (5, Value.slice qp po.length cp), (6, Value.slice qb ps.length cb), (7, Value.slice ql le.length cl), (8, iw (i : Int))] _ ⟨rfl, rfl, rfl, rfl, rfl, rfl, rfl, trivial⟩ rfl ?_
    refine SC.region ?_
    refine SL.mv ?_
    refine SL.uu (ru_add (r := (IntKind.i64.wrap ((i : Int) + 1))) rfl rfl rfl rfl) ?_
    refine SL.as ?_
    refine SL.nil ?_
    refine SE.keep 7 ?_
    refine SE.again N (i + 1, ⟨S9, t0, t1, f09, f19, po, qp, cp, ps, qb, cb, le9, ql, cl, F, fs⟩, Ga, Gb) (by omega) ⟨by dsimp only; omega, hB9.le' (Nat.le_succ i), hps, hGa, hGb, hqp, hqb, (by rw [hle9]; exact hql)⟩ ⟨rfl, rfl, rfl, rfl, rfl, (congrArg (fun n9 => some (Value.slice ql n9 cl)) hle9.symm), (congrArg (fun x => some (iw x)) (show IntKind.i64.wrap ((i : Int) + 1) = ((i + 1 : Nat) : Int) by rw [IntKind.wrap_i64]; omega)), trivial⟩ rfl
  refine SC.region ?_
  refine SL.mv ?_
  refine SL.uu (ru_loada (i := 7) (vs := [iw ok, iw od, iw okk, iw oto, Value.slice fa f.length fc]) ta30 rfl rfl rfl rfl (le_b rfl)) ?_
  refine SL.call (ζ := Wi × (Nat → Prop) × (Nat → Prop)) (fun z => Value.tuple #[]) (fun z => [rG g d0 d1 wd e0 e1 vd t0 t1 f0 f1 41, rWp wd d0 d1 z.2.1 z.1, rWq vd e0 e1 z.2.2 wi0, rRowN (.slice qp po.length cp) (iRw po) 3 1, rRowN (.slice qb ps.length cb) (vRw ps) 28 1, rRowN (.slice ql le.length cl) (iRw le) 3 1, rZ F fs, rBlk b1 [iw ok, iw od, iw okk, iw oto, Value.slice fa f.length fc] 30]) (fun z => Wb (i + 1) z.1 ∧ Shr S z.1 ∧ (onW S → onW z.1) ∧ (∀ b, z.2.1 b → False ∨ w.heap.size ≤ b) ∧ ∀ b, z.2.2 b → False ∨ w.heap.size ≤ b) rfl rfl co16 rfl rfl rfl (lt_b rfl) (fun w5 hI => (other_any (by omega) hto hB.wb ((hI.keep 3).1)).mono fun e w2 ⟨h1, S9, kz, k1, k2, k3⟩ => by obtain ⟨I1, I2, q1, q2, q3⟩ := Inv.rgto (X := ⟨189, w, fun _ => False⟩) (g := g) (wd := wd) (d0 := d0) (d1 := d1) (vd := vd) (e0 := e0) (e1 := e1) (R := ⟨S, wi0, t0, t1, f0, f1⟩) (G1 := G1) (G2 := G2) (l := [rRowN (.slice qp po.length cp) (iRw po) 3 1, rRowN (.slice qb ps.length cb) (vRw ps) 28 1, rRowN (.slice ql le.length cl) (iRw le) 3 1, rZ F fs, rBlk b1 [iw ok, iw od, iw okk, iw oto, Value.slice fa f.length fc] 30]) hI (fun b hb => hb.elim (fun e => by rw [e]; exact .inr hgn) (fun e => e.elim (hG1 b) (hG2 b))) kz; exact ⟨(S9, I1, I2), h1, q1, k1, k2, k3, q2, q3⟩) ?_
  rintro ⟨S9, Ga, Gb⟩ ⟨hW9, hS9, hO9, hGa, hGb⟩
  dsimp only at hW9 hS9 hO9 hGa hGb
  refine SL.nil ?_
  refine SE.blkn ?_
  refine SE.blkn ?_
  refine SC.of_SE ?_
  refine SC.norm [(0, sl ob oo l.length oc), (2, bo false), (4, pt g 0), (5, Value.slice qp po.length cp), (6, Value.slice qb ps.length cb), (7, Value.slice ql le.length cl), (8, iw (i : Int))] [rG g d0 d1 wd e0 e1 vd t0 t1 f0 f1 41, rWp wd d0 d1 Ga S9, rWq vd e0 e1 Gb wi0, rRowN (.slice qp po.length cp) (iRw po) 3 1, rRowN (.slice qb ps.length cb) (vRw ps) 28 1, rRowN (.slice ql le.length cl) (iRw le) 3 1, rZ F fs, rBlk b1 [iw ok, iw od, iw okk, iw oto, Value.slice fa f.length fc] 30] ⟨rfl, rfl, rfl, rfl, rfl, rfl, rfl, trivial⟩ rfl ?_
  refine SC.region ?_
  refine SL.mv ?_
  refine SL.uu (ru_add (r := (IntKind.i64.wrap ((i : Int) + 1))) rfl rfl rfl rfl) ?_
  refine SL.as ?_
  refine SL.nil ?_
  refine SE.keep 7 ?_
  refine SE.again N (i + 1, ⟨S9, t0, t1, f0, f1, po, qp, cp, ps, qb, cb, le, ql, cl, F, fs⟩, Ga, Gb) (by omega) ⟨by dsimp only; omega, hB.shr hS9 hW9 (hO9 hB.on) (Nat.le_succ i), hps, hGa, hGb, hqp, hqb, hql⟩ ⟨rfl, rfl, rfl, rfl, rfl, rfl, (congrArg (fun x => some (iw x)) (show IntKind.i64.wrap ((i : Int) + 1) = ((i + 1 : Nat) : Int) by rw [IntKind.wrap_i64]; omega)), trivial⟩ rfl

end Go.Proofs.Ytcilikkljkdceaa

/-
  The arguments of the wire's statements, opened.
-/
namespace Go.Proofs.Ytcilikkljkdceaa
open Go.ChangeShapes Go.WideShapes Go.ChangeAt Go.RowKit Go.Deep
set_option maxRecDepth 100000
variable {H : Type} {enc : TypeId × Value → H} {w : World} {base b0 : Nat} {held : Bool} {r : Reach}
theorem ops_nil (a : Option Addr) (c : Nat) : OpsW w (.slice a 0 c) [] := ⟨a, c, rfl, by simp, fun i hi => by simp at hi⟩
theorem open_ops_arg {v : Value} {d : DataW H} {p : List MemPlace} (hv : Value.okWide Try.prog w r b0 22 v) (h : DataW.Trod enc Try.prog w base (fun _ => true) held 22 v d p) (hw : ∀ n ∈ DataW.weights Try.prog 22 d, n ≤ reachBytes) :
    ∃ l, OpsW w v l := by
  obtain ⟨a0, n0, c0, rfl⟩ := okWide_slice Try.underlying22 hv
  obtain ⟨fuel, hf⟩ := h
  have hB : Try.prog.bytesOf 30 = 56 := by kernel_rfl
  rcases open_slice_fields (x := (d, p)) Try.underlying22 Try.underlying30 (by kernel_rfl) (by kernel_rfl) hf with ⟨hcs, _⟩ | ⟨a, len, cap, m, D, Pl, hcs, _, hl, _, hm, hx, hi⟩
  · simp [Value.cells] at hcs
    obtain ⟨rfl, rfl, rfl⟩ := hcs
    exact ⟨[], ops_nil _ _⟩
  · simp [Value.cells] at hcs
    obtain ⟨rfl, rfl, rfl⟩ := hcs
    simp only [if_true] at hm
    subst hm
    obtain ⟨hx, _⟩ := Prod.mk.inj hx
    subst hx
    by_cases h0 : n0 = 0
    · subst h0; exact ⟨[], ops_nil _ _⟩
    have hlen : n0 * 56 ≤ 140737488351232 := by
      have := hw ((((List.range n0).map D).length + ((List.range (m - n0)).map fun j => D (n0 + j)).length) * 56) (by
        simp only [DataW.weights, Try.underlying22, List.mem_cons, hB]
        left; trivial)
      simp only [List.length_map, List.length_range, reachBytes] at this
      omega
    have each : ∀ i, i < n0 → ∃ o : OpW, a.spot = none ∧ OpWAt w a.block (a.off + i * 5) o := by
      intro i hin
      obtain ⟨z, n, hD0, _, hys0, hf0⟩ := hi 0 (by omega)
      obtain ⟨v, y, hc0, _, _⟩ := hf0 0 _ rfl
      have hs : a.spot = none := plain_of_cell hc0
      obtain ⟨ys, n, hD, _, hys, hf⟩ := hi i (by omega)
      have hDm : D i ∈ (List.range n0).map D := List.mem_map.2 ⟨i, List.mem_range.2 hin, rfl⟩
      have hwi : ∀ n ∈ (DataW.agg (ys.map (·.1))).weights Try.prog 30, n ≤ reachBytes := by
        intro q hq
        refine hw q ?_
        simp only [DataW.weights, Try.underlying22, List.mem_cons, List.mem_append]
        right; left
        rw [← hD] at hq
        exact weights_all hDm hq
      obtain ⟨v0, y0, c0, q0, h0⟩ := hf 0 _ rfl
      obtain ⟨v1, y1, c1, q1, h1⟩ := hf 1 _ rfl
      obtain ⟨v2, y2, c2, q2, h2⟩ := hf 2 _ rfl
      obtain ⟨v3, y3, c3, q3, h3⟩ := hf 3 _ rfl
      obtain ⟨v4, y4, c4, q4, h4⟩ := hf 4 _ rfl
      have w4 := weights_agg Try.underlying30 hys hwi rfl q4
      obtain ⟨z0, hz0, _, _⟩ := DataW.trod_int Try.underlying3 h0
      obtain ⟨z1, hz1, _, _⟩ := DataW.trod_int Try.underlying3 h1
      obtain ⟨z2, hz2, _, _⟩ := DataW.trod_int Try.underlying3 h2
      obtain ⟨z3, hz3, _, u3⟩ := DataW.trod_int Try.underlying3 h3
      obtain ⟨b, nn, cc, l, e, k1, k2⟩ := open_bytes Try.underlying28 Try.underlying5 (by kernel_rfl) (by kernel_rfl) h4 w4
      simp at hz0 hz1 hz2 hz3
      subst hz0 hz1 hz2 hz3 e
      rw [plain_add hs] at c0 c1 c2 c3 c4
      refine ⟨⟨z0, z1, z2, z3, .slice b nn cc, l⟩, hs, fun j u hj => ?_, k1, k2, wf_i64 u3⟩
      match j, hj with
      | 0, hj => simp at hj; subst hj; exact c0
      | 1, hj => simp at hj; subst hj; exact c1
      | 2, hj => simp at hj; subst hj; exact c2
      | 3, hj => simp at hj; subst hj; exact c3
      | 4, hj => simp at hj; subst hj; exact c4
      | j + 5, hj => simp at hj
    obtain ⟨_, hs, hfirst⟩ := each 0 (by omega)
    obtain ⟨g, hg⟩ : ∃ g : Nat → OpW, ∀ i, i < n0 → OpWAt w a.block (a.off + i * 5) (g i) := by
      refine ⟨fun i => if h : i < n0 then Classical.choose (each i h) else ⟨0, 0, 0, 0, .slice none 0 0, []⟩, fun i h => ?_⟩
      simp only [h, dite_true]
      exact (Classical.choose_spec (each i h)).2
    refine ⟨(List.range n0).map g, some a, _, by simp; rfl, by simp; omega, fun i hi => ⟨a.block, a.off, ?_, ?_⟩⟩
    · cases a; simp only at hs; subst hs; rfl
    · simp at hi
      simpa using hg i hi
end Go.Proofs.Ytcilikkljkdceaa
