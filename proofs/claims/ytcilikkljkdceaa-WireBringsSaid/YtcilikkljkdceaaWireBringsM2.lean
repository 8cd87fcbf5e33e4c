/-
  What the proof of WireBrings stands on, part 2: each theorem by itself, under the conditions that it names.
-/
import Derived.Test.YtcilikkljkdceaaWireBringsM1
import Derived.Laws.IdiomCopy
import Derived.Laws.Externs
import Derived.Lib.Overlaps
/-
  Damaging a frame.
-/
namespace Go.Proofs.Ytcilikkljkdceaa
open Go.RowKit
set_option maxRecDepth 100000
set_option maxHeartbeats 4000000
theorem dam_byte (b : UInt8) {n : Nat} (h : n < 8) : bits .xor .u8 (b.toNat : Int) (IntKind.u8.wrap (1 * 2 ^ min n 8)) = ((b ^^^ UInt8.ofNat (2 ^ n)).toNat : Int) := by
  have h1 : ∀ (n : Fin 8) (b : Fin 256), bits .xor .u8 ((UInt8.ofNat b.val).toNat : Int) (IntKind.u8.wrap (1 * 2 ^ min n.val 8)) = ((UInt8.ofNat b.val ^^^ UInt8.ofNat (2 ^ n.val)).toNat : Int) := by decide +kernel
  have h2 := h1 ⟨n, h⟩ ⟨b.toNat, b.toNat_lt⟩
  simpa using h2
theorem damage0_any {w : World} {wd d0 d1 : Nat} {M : WM} {S : Wi} {k bit : Int} (hM : M.Ok S) (hn : M.ps0.length ≤ 3000000000000) (hbit : bit ≤ 9223372036854775807) (hfr : ∀ x ∈ S.L0, x.f.length ≤ 274) (h : Sep w (WLm 74 77 46 wd d0 d1 M S.A0 S.A1 S.now)) : Calls Try.prog 23 #[pt wd 0, iw 0, iw k, iw bit] w fun e w' => e = .returned (iw (damageF S false k bit).1) ∧ ∃ M', WTo 74 77 46 w wd d0 d1 M M' (damageF S false k bit).2 w' := by
  refine calls_sc (l0 := (WLm 74 77 46 wd d0 d1 M S.A0 S.A1 S.now)) (args := [pt wd 0, iw 0, iw k, iw bit]) (M.G wd d0 d1) Try.func23 rfl 59 Try.ntmps23 (le_b rfl) ⟨h, Only.refl _ _⟩ ?_
  show SC _ _ _ _ [(0, pt wd 0), (1, iw 0), (2, iw k), (3, iw bit)] (WLm 74 77 46 wd d0 d1 M S.A0 S.A1 S.now)
  refine SC.sr ?_
  refine SL.as ?_
  refine SL.nr [rBlk wd [pt d0 0, pt d1 0, Value.slice M.q0 M.ps0.length M.c0, Value.slice M.q1 M.ps1.length M.c1, iw S.now] 77, rDv 74 d0 M.fs S.A0, rDv 74 d1 M.fs S.A1, rRowN (.slice M.q0 M.ps0.length M.c0) (oRows M.ps0) 46 3, rRowN (.slice M.q1 M.ps1.length M.c1) (oRows M.ps1) 46 3, rZ M.F M.fs] ?_
  refine SC.sr ?_
  refine SL.mv ?_
  refine SL.mv ?_
  refine SL.mv ?_
  refine SL.callv (Value.tuple #[thereP M.q0 M.ps0 k, iw (thereF M.ps0 k)]) rfl rfl co34 rfl rfl rfl (lt_b rfl) (fun w hI => H_only hI (there0_any ((hI.keep 6).1))) ?_
  refine SL.mv ?_
  refine SL.uu (ru_extract rfl rfl rfl) ?_
  refine SL.uu (ru_extract rfl rfl rfl) ?_
  refine SL.as ?_
  refine SL.as ?_
  refine SL.nl ?_
  refine SC.seq ?_
  refine SC.block ?_
  refine SC.sr ?_
  refine SL.mv ?_
  refine SL.uu (ru_ne (b := (((thereF M.ps0 k) : Int) != 0)) rfl rfl rfl rfl) ?_
  refine SL.as ?_
  refine SL.nl ?_
  refine SC.both (((thereF M.ps0 k) : Int) != 0) rfl (fun h1 => ?_) (fun h1 => ?_)
  · skip
    refine SC.sr ?_
    refine SL.mv ?_
    refine SL.as ?_
    refine SL.nl ?_
    refine SC.ret ?_
    refine SE.blkr ?_
    refine SE.passr ?_
    refine SE.res (.inl rfl) (res1 Try.results23 rfl) fun w1 hI => ?_
    have eT : thereF (S.L false) k = thereF M.ps0 k := by show thereF S.L0 k = _; rw [← hM.l0, there_map]
    have ew : damageF S false k bit = (thereF M.ps0 k, S) := by unfold damageF; simp only [eT]; rw [if_pos h1]
    rw [ew]
    exact ⟨rfl, M, WTo.same (hI.keep 6).1 hM hI.2⟩
  have hth : thereF M.ps0 k = 0 := Classical.byContradiction (fun hc => ne_f h1 hc)
  obtain ⟨hk0, hk1, ⟨⟨vx, x⟩, hx⟩⟩ := there_get hth
  have hk : 0 ≤ k ∧ k < (M.ps0.length : Int) := ⟨hk0, hk1⟩
  obtain ⟨hxb, hxF, xa, xc, hxv⟩ := hM.form0 h _ (List.mem_of_getElem? hx)
  have hxf : M.fs vx x.f := hM.f0 _ (List.mem_of_getElem? hx)
  dsimp only at hxv hxb hxF
  subst hxv
  have ex : (S.L false).getD k.toNat fm0 = x := by show S.L0.getD k.toNat fm0 = x; rw [← hM.l0, List.getD_eq_getElem?_getD, List.getElem?_map, hx]; rfl
  refine SC.norm [(3, iw bit), (8, iw 0), (9, Value.pointer (some ⟨rowB M.q0, k.toNat * 3, none⟩)), (10, iw (thereF M.ps0 k)), (18, bo (((thereF M.ps0 k) : Int) != 0))] _ ⟨rfl, rfl, (congrArg some (show thereP M.q0 M.ps0 k = _ from if_pos hth)), rfl, rfl, trivial⟩ rfl ?_
  have hxl : x.f.length ≤ 1000000 := by have := hfr x (by rw [← hM.l0]; exact List.mem_map.2 ⟨_, List.mem_of_getElem? hx, rfl⟩); omega
  refine SC.sr ?_
  refine SL.mv ?_
  refine SL.uu (ru_lt (b := (decide ((bit : Int) < 0))) rfl rfl rfl rfl) ?_
  refine SL.mv ?_
  refine SL.join 9 [(3, iw bit), (8, iw 0), (9, Value.pointer (some ⟨rowB M.q0, k.toNat * 3, none⟩)), (10, iw (thereF M.ps0 k)), (18, bo (((thereF M.ps0 k) : Int) != 0)), (23, iw bit), (24, bo (decide ((bit : Int) < 0))), (25, bo (decide ((bit : Int) < 0))), (34, bo ((decide ((bit : Int) < 0)) || (decide (((x.f.length : Int) : Int) ≤ (bit / 8)))))] [rBlk wd [pt d0 0, pt d1 0, Value.slice M.q0 M.ps0.length M.c0, Value.slice M.q1 M.ps1.length M.c1, iw S.now] 77, rDv 74 d0 M.fs S.A0, rDv 74 d1 M.fs S.A1, rRowN (.slice M.q0 M.ps0.length M.c0) (oRows M.ps0) 46 3, rRowN (.slice M.q1 M.ps1.length M.c1) (oRows M.ps1) 46 3, rZ M.F M.fs] ?_ ?_
  rotate_left
  · intro K hK
    rcases tf (decide ((bit : Int) < 0)) with h2 | h2
    · skip
      refine SL.norm [(3, iw bit), (8, iw 0), (9, Value.pointer (some ⟨rowB M.q0, k.toNat * 3, none⟩)), (10, iw (thereF M.ps0 k)), (18, bo (((thereF M.ps0 k) : Int) != 0)), (23, iw bit), (24, bo true), (25, bo true)] _ ⟨rfl, rfl, rfl, rfl, rfl, rfl, (congrArg (fun x => some (Value.bool x)) h2), (congrArg (fun x => some (Value.bool x)) h2), trivial⟩ rfl ?_
      refine SL.oo ?_
      refine SL.oo ?_
      refine SL.oo ?_
      refine SL.oo ?_
      refine SL.oo ?_
      refine SL.oo ?_
      refine SL.oo ?_
      refine SL.oo ?_
      refine SL.pk (bo true) (undef) ?_
      exact SL.joined hK ⟨rfl, rfl, rfl, rfl, rfl, rfl, (congrArg (fun x => some (Value.bool x)) h2.symm), (congrArg (fun x => some (Value.bool x)) h2.symm), (congrArg (fun bx => some (Value.bool (bx || (decide (((x.f.length : Int) : Int) ≤ (bit / 8)))))) h2.symm), trivial⟩ rfl
    have hbt0 : 0 ≤ bit := by have := of_decide_eq_false h2; omega
    refine SL.norm [(3, iw bit), (8, iw 0), (9, Value.pointer (some ⟨rowB M.q0, k.toNat * 3, none⟩)), (10, iw (thereF M.ps0 k)), (18, bo (((thereF M.ps0 k) : Int) != 0)), (23, iw bit), (24, bo false), (25, bo false)] _ ⟨rfl, rfl, rfl, rfl, rfl, rfl, (congrArg (fun x => some (Value.bool x)) h2), (congrArg (fun x => some (Value.bool x)) h2), trivial⟩ rfl ?_
    refine SL.gg (ru_move rfl rfl) ?_
    refine SL.gg (ru_quo (r := (bit / 8)) rfl rfl rfl (by decide) ((show IntKind.i64.wrap (Int.tdiv bit 8) = bit / 8 by rw [Int.tdiv_eq_ediv_of_nonneg (by omega), IntKind.wrap_i64]; omega))) ?_
    refine SL.gg (ru_move rfl rfl) ?_
    refine SL.gg (ru_nilCheck rfl rfl) ?_
    refine SL.gg (ru_fieldAddr (o2 := k.toNat * 3 + 0) fd46_0 rfl rfl rfl) ?_
    refine SL.gg (ru_load_rowN (ri := 3) (i := k.toNat) (k := 0) (r := [Value.slice xa x.f.length xc, bo x.bad, iw x.tick]) ts28 rfl rfl rfl (by show (M.ps0.map FmV.row)[_]? = _; rw [List.getElem?_map, hx]; rfl) (by decide) rfl) ?_
    refine SL.gg (ru_len Try.underlying28 rfl rfl) ?_
    refine SL.gg (ru_ge (b := (decide (((x.f.length : Int) : Int) ≤ (bit / 8)))) rfl rfl rfl rfl) ?_
    refine SL.pk (bo true) (bo (decide (((x.f.length : Int) : Int) ≤ (bit / 8)))) ?_
    exact SL.joined hK ⟨rfl, rfl, rfl, rfl, rfl, rfl, (congrArg (fun x => some (Value.bool x)) h2.symm), (congrArg (fun x => some (Value.bool x)) h2.symm), (congrArg (fun bx => some (Value.bool (bx || (decide (((x.f.length : Int) : Int) ≤ (bit / 8)))))) h2.symm), trivial⟩ rfl
  skip
  refine SL.as ?_
  refine SL.nl ?_
  refine SC.both ((decide ((bit : Int) < 0)) || (decide (((x.f.length : Int) : Int) ≤ (bit / 8)))) rfl (fun h3 => ?_) (fun h3 => ?_)
  · skip
    refine SC.sr ?_
    refine SL.as ?_
    refine SL.nl ?_
    refine SC.ret ?_
    refine SE.blkr ?_
    refine SE.passr ?_
    refine SE.res (.inl rfl) (res1 Try.results23 rfl) fun w1 hI => ?_
    have eT : thereF (S.L false) k = thereF M.ps0 k := by show thereF S.L0 k = _; rw [← hM.l0, there_map]
    have ew : damageF S false k bit = (1, S) := by unfold damageF; simp only [eT, ex]; rw [if_neg (not_t h1), if_pos h3]
    rw [ew]
    exact ⟨rfl, M, WTo.same (hI.keep 6).1 hM hI.2⟩
  have hbt : 0 ≤ bit ∧ bit / 8 < (x.f.length : Int) := by simp only [Bool.or_eq_false_iff, decide_eq_false_iff_not] at h3; omega
  obtain ⟨y, hy⟩ : ∃ y, x.f[(bit / 8).toNat]? = some y := ⟨_, List.getElem?_eq_getElem (by omega)⟩
  refine SC.skip ?_
  refine SE.blkn ?_
  refine SC.of_SE ?_
  refine SC.sr ?_
  refine SL.mv ?_
  refine SL.mv ?_
  refine SL.nk ?_
  refine SL.uu (ru_fieldAddr (o2 := k.toNat * 3 + 0) fd46_0 rfl rfl rfl) ?_
  refine SL.uu (ru_load_rowN (ri := 3) (i := k.toNat) (k := 0) (r := [Value.slice xa x.f.length xc, bo x.bad, iw x.tick]) ts28 rfl rfl rfl (by show (M.ps0.map FmV.row)[_]? = _; rw [List.getElem?_map, hx]; rfl) (by decide) rfl) ?_
  refine SL.call (ζ := Option Addr × Nat) (fun z => Value.slice z.1 x.f.length z.2) (fun z => [rBlk wd [pt d0 0, pt d1 0, Value.slice M.q0 M.ps0.length M.c0, Value.slice M.q1 M.ps1.length M.c1, iw S.now] 77, rDv 74 d0 M.fs S.A0, rDv 74 d1 M.fs S.A1, rRowN (.slice M.q0 M.ps0.length M.c0) (oRows M.ps0) 46 3, rRowN (.slice M.q1 M.ps1.length M.c1) (oRows M.ps1) 46 3, rZ M.F M.fs] ++ [rRowN (.slice z.1 x.f.length z.2) (bRows x.f) 5 1]) (fun z => ∀ b, (Value.slice z.1 x.f.length z.2).ownBlock = some b → w.heap.size ≤ b) rfl rfl co35 rfl rfl rfl (lt_b rfl) (fun w5 hI => (clone_any ((hI.1.get (i := 5) rfl).2 _ _ hxf).1 hxl).mono fun e w2 ⟨q, c, h1, h2, h3, h4⟩ => ⟨(q, c), h1, hI.add (r := rRowN (.slice q x.f.length c) (bRows x.f) 5 1) h4 (mine_rows.1 h2) h3, fun b hb => Nat.le_trans hI.2.size (h3 b hb)⟩) ?_
  rintro ⟨q4, c5⟩ hq4
  dsimp only at hq4
  refine SL.nk ?_
  refine SL.uu (ru_fieldAddr (o2 := k.toNat * 3 + 0) fd46_0 rfl rfl rfl) ?_
  refine SL.store_rowN (ri := 3) (i := k.toNat) (k := 0) (r := [Value.slice xa x.f.length xc, bo x.bad, iw x.tick]) rfl rfl ts28 rfl rfl rfl rfl rfl (by show (M.ps0.map FmV.row)[_]? = _; rw [List.getElem?_map, hx]; rfl) (by decide) (fun b hb => .inl (.inr (.inr (.inr (.inl hb))))) ?_
  refine SL.nr [rBlk wd [pt d0 0, pt d1 0, Value.slice M.q0 M.ps0.length M.c0, Value.slice M.q1 M.ps1.length M.c1, iw S.now] 77, rDv 74 d0 M.fs S.A0, rDv 74 d1 M.fs S.A1, rRowN (.slice M.q0 M.ps0.length M.c0) ((oRows M.ps0).set k.toNat ([Value.slice xa x.f.length xc, bo x.bad, iw x.tick].set 0 (Value.slice q4 x.f.length c5))) 46 3, rRowN (.slice M.q1 M.ps1.length M.c1) (oRows M.ps1) 46 3, rZ M.F M.fs, rRowN (.slice q4 x.f.length c5) (bRows x.f) 5 1] ?_
  refine SC.seq ?_
  refine SC.region_tail 13 (by kernel_rfl) (by kernel_rfl) ?_
  refine SQ.mv ?_
  refine SQ.nk ?_
  refine SQ.uu (ru_fieldAddr (o2 := k.toNat * 3 + 0) fd46_0 rfl rfl rfl) ?_
  refine SQ.uu (ru_load_rowN (ri := 3) (i := k.toNat) (k := 0) (r := [Value.slice q4 x.f.length c5, bo x.bad, iw x.tick]) ts28 rfl rfl rfl (List.getElem?_set_self (by simp; omega)) (by decide) rfl) ?_
  refine SQ.mv ?_
  refine SQ.uu (ru_quo (r := (bit / 8)) rfl rfl rfl (by decide) ((show IntKind.i64.wrap (Int.tdiv bit 8) = bit / 8 by rw [Int.tdiv_eq_ediv_of_nonneg (by omega), IntKind.wrap_i64]; omega))) ?_
  refine SQ.uu (ru_index_rowN (ri := 6) si28 rfl rfl rfl rfl (by omega) (by omega)) ?_
  refine SQ.uu (ru_load_rowN (ri := 6) (i := (bit / 8).toNat) (k := 0) (r := [bv y]) ts5 rfl rfl rfl (by show (List.map _ x.f)[_]? = _; rw [List.getElem?_map, hy]; rfl) (by decide) rfl) ?_
  refine SQ.mv ?_
  refine SQ.uu (ru_rem (r := (bit % 8)) rfl rfl rfl (by decide) ((Int.tmod_eq_emod_of_nonneg (by omega)))) ?_
  refine SQ.uu (ru_shl (r := IntKind.u8.wrap (1 * 2 ^ min (bit % 8).toNat 8)) (by omega) rfl rfl rfl rfl) ?_
  refine SQ.uu (ru_xor (p := (y.toNat : Int)) (r := ((y ^^^ UInt8.ofNat (2 ^ (bit % 8).toNat)).toNat : Int)) rfl rfl rfl (dam_byte y (by omega))) ?_
  refine SQ.uu (ru_index_rowN (ri := 6) si28 rfl rfl rfl rfl (by omega) (by omega)) ?_
  refine SQ.nilL ?_
  refine SL.store_rowN (ri := 6) (i := (bit / 8).toNat) (k := 0) (r := [bv y]) rfl rfl ts5 rfl rfl rfl rfl rfl (by show (List.map _ x.f)[_]? = _; rw [List.getElem?_map, hy]; rfl) (by decide) (fun b hb => .inr (hq4 b hb)) ?_
  refine SL.nr [rBlk wd [pt d0 0, pt d1 0, Value.slice M.q0 M.ps0.length M.c0, Value.slice M.q1 M.ps1.length M.c1, iw S.now] 77, rDv 74 d0 M.fs S.A0, rDv 74 d1 M.fs S.A1, rRowN (.slice M.q0 M.ps0.length M.c0) ((oRows M.ps0).set k.toNat ([Value.slice xa x.f.length xc, bo x.bad, iw x.tick].set 0 (Value.slice q4 x.f.length c5))) 46 3, rRowN (.slice M.q1 M.ps1.length M.c1) (oRows M.ps1) 46 3, rZ M.F M.fs, rRowN (.slice q4 x.f.length c5) ((bRows x.f).set ((bit / 8).toNat) ([bv y].set 0 (bv (y ^^^ UInt8.ofNat (2 ^ (bit % 8).toNat))))) 5 1] ?_
  refine SC.sr ?_
  refine SL.mv ?_
  refine SL.nk ?_
  refine SL.uu (ru_fieldAddr (o2 := k.toNat * 3 + 1) fd46_1 rfl rfl rfl) ?_
  refine SL.store_rowN (ri := 3) (i := k.toNat) (k := 1) (r := [Value.slice q4 x.f.length c5, bo x.bad, iw x.tick]) rfl rfl ts4 rfl rfl rfl rfl rfl (List.getElem?_set_self (by simp; omega)) (by decide) (fun b hb => .inl (.inr (.inr (.inr (.inl hb))))) ?_
  refine SL.nr [rBlk wd [pt d0 0, pt d1 0, Value.slice M.q0 M.ps0.length M.c0, Value.slice M.q1 M.ps1.length M.c1, iw S.now] 77, rDv 74 d0 M.fs S.A0, rDv 74 d1 M.fs S.A1, rRowN (.slice M.q0 M.ps0.length M.c0) (((oRows M.ps0).set k.toNat ([Value.slice xa x.f.length xc, bo x.bad, iw x.tick].set 0 (Value.slice q4 x.f.length c5))).set k.toNat ([Value.slice q4 x.f.length c5, bo x.bad, iw x.tick].set 1 (bo true))) 46 3, rRowN (.slice M.q1 M.ps1.length M.c1) (oRows M.ps1) 46 3, rZ M.F M.fs, rRowN (.slice q4 x.f.length c5) ((bRows x.f).set ((bit / 8).toNat) ([bv y].set 0 (bv (y ^^^ UInt8.ofNat (2 ^ (bit % 8).toNat))))) 5 1] ?_
  refine SC.sr ?_
  refine SL.as ?_
  refine SL.nl ?_
  refine SC.ret ?_
  refine SE.res (.inl rfl) (res1 Try.results23 rfl) fun w1 hI => ?_
  have eT : thereF (S.L false) k = thereF M.ps0 k := by show thereF S.L0 k = _; rw [← hM.l0, there_map]
  have ew : damageF S false k bit = (0, S.setL false (S.L0.set k.toNat ⟨damF x.f bit, true, x.tick⟩)) := by unfold damageF; simp only [eT, ex]; rw [if_neg (not_t h1), if_neg (not_t h3)]; rfl
  have er : ((oRows M.ps0).set k.toNat ([Value.slice xa x.f.length xc, bo x.bad, iw x.tick].set 0 (Value.slice q4 x.f.length c5))).set k.toNat ([Value.slice q4 x.f.length c5, bo x.bad, iw x.tick].set 1 (bo true)) = oRows (M.ps0.set k.toNat ⟨.slice q4 x.f.length c5, ⟨damF x.f bit, true, x.tick⟩⟩) := by rw [List.set_set]; exact (List.map_set (f := FmV.row) (a := (⟨.slice q4 x.f.length c5, ⟨damF x.f bit, true, x.tick⟩⟩ : FmV))).symm
  have eb : (bRows x.f).set ((bit / 8).toNat) ([bv y].set 0 (bv (y ^^^ UInt8.ofNat (2 ^ (bit % 8).toNat)))) = bRows (damF x.f bit) := by unfold damF; rw [show bit.toNat / 8 = (bit / 8).toNat by omega, show bit.toNat % 8 = (bit % 8).toNat by omega, List.getD_eq_getElem?_getD, hy]; exact bRows_set _ _ _
  have el : (M.ps0.set k.toNat (⟨.slice q4 x.f.length c5, ⟨damF x.f bit, true, x.tick⟩⟩ : FmV)).length = M.ps0.length := List.length_set
  have ed : (damF x.f bit).length = x.f.length := List.length_set
  rw [er, eb, ← el] at hI
  have hZ := Inv.freeze (l := []) (Inv.weak (i := 6) (r' := rMine (.slice q4 x.f.length c5) (damF x.f bit) 5) (hI.keep 7) rfl (fun h => mine_rows.2 h) (fun b hb => hb)) (by omega)
  rw [ew]
  exact ⟨rfl, { M with F := fun b => M.F b ∨ (Value.slice q4 x.f.length c5).ownBlock = some b, fs := fun v f => M.fs v f ∨ v = .slice q4 x.f.length c5 ∧ f = damF x.f bit, ps0 := M.ps0.set k.toNat ⟨.slice q4 x.f.length c5, ⟨damF x.f bit, true, x.tick⟩⟩ }, ⟨(hZ.keep 6).1, hM.set0 (y := ⟨.slice q4 x.f.length c5, ⟨damF x.f bit, true, x.tick⟩⟩) (fun v f h => .inl h) (.inr ⟨rfl, rfl⟩) k, fun v f h => .inl h, fun b hb => WM.K.frz (M' := { M with ps0 := M.ps0.set k.toNat ⟨.slice q4 x.f.length c5, ⟨damF x.f bit, true, x.tick⟩⟩ }) hb (fun b hb => WM.K.same0 hb) (fun b hb => hb.imp id (hq4 b)), hZ.2⟩⟩
theorem damage1_any {w : World} {wd d0 d1 : Nat} {M : WM} {S : Wi} {k bit : Int} (hM : M.Ok S) (hn : M.ps1.length ≤ 3000000000000) (hbit : bit ≤ 9223372036854775807) (hfr : ∀ x ∈ S.L1, x.f.length ≤ 274) (h : Sep w (WLm 74 77 46 wd d0 d1 M S.A0 S.A1 S.now)) : Calls Try.prog 23 #[pt wd 0, iw 1, iw k, iw bit] w fun e w' => e = .returned (iw (damageF S true k bit).1) ∧ ∃ M', WTo 74 77 46 w wd d0 d1 M M' (damageF S true k bit).2 w' := by
  refine calls_sc (l0 := (WLm 74 77 46 wd d0 d1 M S.A0 S.A1 S.now)) (args := [pt wd 0, iw 1, iw k, iw bit]) (M.G wd d0 d1) Try.func23 rfl 59 Try.ntmps23 (le_b rfl) ⟨h, Only.refl _ _⟩ ?_
  show SC _ _ _ _ [(0, pt wd 0), (1, iw 1), (2, iw k), (3, iw bit)] (WLm 74 77 46 wd d0 d1 M S.A0 S.A1 S.now)
  refine SC.sr ?_
  refine SL.as ?_
  refine SL.nr [rBlk wd [pt d0 0, pt d1 0, Value.slice M.q0 M.ps0.length M.c0, Value.slice M.q1 M.ps1.length M.c1, iw S.now] 77, rDv 74 d0 M.fs S.A0, rDv 74 d1 M.fs S.A1, rRowN (.slice M.q0 M.ps0.length M.c0) (oRows M.ps0) 46 3, rRowN (.slice M.q1 M.ps1.length M.c1) (oRows M.ps1) 46 3, rZ M.F M.fs] ?_
  refine SC.sr ?_
  refine SL.mv ?_
  refine SL.mv ?_
  refine SL.mv ?_
  refine SL.callv (Value.tuple #[thereP M.q1 M.ps1 k, iw (thereF M.ps1 k)]) rfl rfl co34 rfl rfl rfl (lt_b rfl) (fun w hI => H_only hI (there1_any ((hI.keep 6).1))) ?_
  refine SL.mv ?_
  refine SL.uu (ru_extract rfl rfl rfl) ?_
  refine SL.uu (ru_extract rfl rfl rfl) ?_
  refine SL.as ?_
  refine SL.as ?_
  refine SL.nl ?_
  refine SC.seq ?_
  refine SC.block ?_
  refine SC.sr ?_
  refine SL.mv ?_
  refine SL.uu (ru_ne (b := (((thereF M.ps1 k) : Int) != 0)) rfl rfl rfl rfl) ?_
  refine SL.as ?_
  refine SL.nl ?_
  refine SC.both (((thereF M.ps1 k) : Int) != 0) rfl (fun h1 => ?_) (fun h1 => ?_)
  · skip
    refine SC.sr ?_
    refine SL.mv ?_
    refine SL.as ?_
    refine SL.nl ?_
    refine SC.ret ?_
    refine SE.blkr ?_
    refine SE.passr ?_
    refine SE.res (.inl rfl) (res1 Try.results23 rfl) fun w1 hI => ?_
    have eT : thereF (S.L true) k = thereF M.ps1 k := by show thereF S.L1 k = _; rw [← hM.l1, there_map]
    have ew : damageF S true k bit = (thereF M.ps1 k, S) := by unfold damageF; simp only [eT]; rw [if_pos h1]
    rw [ew]
    exact ⟨rfl, M, WTo.same (hI.keep 6).1 hM hI.2⟩
  have hth : thereF M.ps1 k = 0 := Classical.byContradiction (fun hc => ne_f h1 hc)
  obtain ⟨hk0, hk1, ⟨⟨vx, x⟩, hx⟩⟩ := there_get hth
  have hk : 0 ≤ k ∧ k < (M.ps1.length : Int) := ⟨hk0, hk1⟩
  obtain ⟨hxb, hxF, xa, xc, hxv⟩ := hM.form1 h _ (List.mem_of_getElem? hx)
  have hxf : M.fs vx x.f := hM.f1 _ (List.mem_of_getElem? hx)
  dsimp only at hxv hxb hxF
  subst hxv
  have ex : (S.L true).getD k.toNat fm0 = x := by show S.L1.getD k.toNat fm0 = x; rw [← hM.l1, List.getD_eq_getElem?_getD, List.getElem?_map, hx]; rfl
  refine SC.norm [(3, iw bit), (8, iw 0), (9, Value.pointer (some ⟨rowB M.q1, k.toNat * 3, none⟩)), (10, iw (thereF M.ps1 k)), (18, bo (((thereF M.ps1 k) : Int) != 0))] _ ⟨rfl, rfl, (congrArg some (show thereP M.q1 M.ps1 k = _ from if_pos hth)), rfl, rfl, trivial⟩ rfl ?_
  have hxl : x.f.length ≤ 1000000 := by have := hfr x (by rw [← hM.l1]; exact List.mem_map.2 ⟨_, List.mem_of_getElem? hx, rfl⟩); omega
  refine SC.sr ?_
  refine SL.mv ?_
  refine SL.uu (ru_lt (b := (decide ((bit : Int) < 0))) rfl rfl rfl rfl) ?_
  refine SL.mv ?_
  refine SL.join 9 [(3, iw bit), (8, iw 0), (9, Value.pointer (some ⟨rowB M.q1, k.toNat * 3, none⟩)), (10, iw (thereF M.ps1 k)), (18, bo (((thereF M.ps1 k) : Int) != 0)), (23, iw bit), (24, bo (decide ((bit : Int) < 0))), (25, bo (decide ((bit : Int) < 0))), (34, bo ((decide ((bit : Int) < 0)) || (decide (((x.f.length : Int) : Int) ≤ (bit / 8)))))] [rBlk wd [pt d0 0, pt d1 0, Value.slice M.q0 M.ps0.length M.c0, Value.slice M.q1 M.ps1.length M.c1, iw S.now] 77, rDv 74 d0 M.fs S.A0, rDv 74 d1 M.fs S.A1, rRowN (.slice M.q0 M.ps0.length M.c0) (oRows M.ps0) 46 3, rRowN (.slice M.q1 M.ps1.length M.c1) (oRows M.ps1) 46 3, rZ M.F M.fs] ?_ ?_
  rotate_left
  · intro K hK
    rcases tf (decide ((bit : Int) < 0)) with h2 | h2
    · skip
      refine SL.norm [(3, iw bit), (8, iw 0), (9, Value.pointer (some ⟨rowB M.q1, k.toNat * 3, none⟩)), (10, iw (thereF M.ps1 k)), (18, bo (((thereF M.ps1 k) : Int) != 0)), (23, iw bit), (24, bo true), (25, bo true)] _ ⟨rfl, rfl, rfl, rfl, rfl, rfl, (congrArg (fun x => some (Value.bool x)) h2), (congrArg (fun x => some (Value.bool x)) h2), trivial⟩ rfl ?_
      refine SL.oo ?_
      refine SL.oo ?_
      refine SL.oo ?_
      refine SL.oo ?_
      refine SL.oo ?_
      refine SL.oo ?_
      refine SL.oo ?_
      refine SL.oo ?_
      refine SL.pk (bo true) (undef) ?_
      exact SL.joined hK ⟨rfl, rfl, rfl, rfl, rfl, rfl, (congrArg (fun x => some (Value.bool x)) h2.symm), (congrArg (fun x => some (Value.bool x)) h2.symm), (congrArg (fun bx => some (Value.bool (bx || (decide (((x.f.length : Int) : Int) ≤ (bit / 8)))))) h2.symm), trivial⟩ rfl
    have hbt0 : 0 ≤ bit := by have := of_decide_eq_false h2; omega
    refine SL.norm [(3, iw bit), (8, iw 0), (9, Value.pointer (some ⟨rowB M.q1, k.toNat * 3, none⟩)), (10, iw (thereF M.ps1 k)), (18, bo (((thereF M.ps1 k) : Int) != 0)), (23, iw bit), (24, bo false), (25, bo false)] _ ⟨rfl, rfl, rfl, rfl, rfl, rfl, (congrArg (fun x => some (Value.bool x)) h2), (congrArg (fun x => some (Value.bool x)) h2), trivial⟩ rfl ?_
    refine SL.gg (ru_move rfl rfl) ?_
    refine SL.gg (ru_quo (r := (bit / 8)) rfl rfl rfl (by decide) ((show IntKind.i64.wrap (Int.tdiv bit 8) = bit / 8 by rw [Int.tdiv_eq_ediv_of_nonneg (by omega), IntKind.wrap_i64]; omega))) ?_
    refine SL.gg (ru_move rfl rfl) ?_
    refine SL.gg (ru_nilCheck rfl rfl) ?_
    refine SL.gg (ru_fieldAddr (o2 := k.toNat * 3 + 0) fd46_0 rfl rfl rfl) ?_
    refine SL.gg (ru_load_rowN (ri := 4) (i := k.toNat) (k := 0) (r := [Value.slice xa x.f.length xc, bo x.bad, iw x.tick]) ts28 rfl rfl rfl (by show (M.ps1.map FmV.row)[_]? = _; rw [List.getElem?_map, hx]; rfl) (by decide) rfl) ?_
    refine SL.gg (ru_len Try.underlying28 rfl rfl) ?_
    refine SL.gg (ru_ge (b := (decide (((x.f.length : Int) : Int) ≤ (bit / 8)))) rfl rfl rfl rfl) ?_
    refine SL.pk (bo true) (bo (decide (((x.f.length : Int) : Int) ≤ (bit / 8)))) ?_
    exact SL.joined hK ⟨rfl, rfl, rfl, rfl, rfl, rfl, (congrArg (fun x => some (Value.bool x)) h2.symm), (congrArg (fun x => some (Value.bool x)) h2.symm), (congrArg (fun bx => some (Value.bool (bx || (decide (((x.f.length : Int) : Int) ≤ (bit / 8)))))) h2.symm), trivial⟩ rfl
  skip
  refine SL.as ?_
  refine SL.nl ?_
  refine SC.both ((decide ((bit : Int) < 0)) || (decide (((x.f.length : Int) : Int) ≤ (bit / 8)))) rfl (fun h3 => ?_) (fun h3 => ?_)
  · skip
    refine SC.sr ?_
    refine SL.as ?_
    refine SL.nl ?_
    refine SC.ret ?_
    refine SE.blkr ?_
    refine SE.passr ?_
    refine SE.res (.inl rfl) (res1 Try.results23 rfl) fun w1 hI => ?_
    have eT : thereF (S.L true) k = thereF M.ps1 k := by show thereF S.L1 k = _; rw [← hM.l1, there_map]
    have ew : damageF S true k bit = (1, S) := by unfold damageF; simp only [eT, ex]; rw [if_neg (not_t h1), if_pos h3]
    rw [ew]
    exact ⟨rfl, M, WTo.same (hI.keep 6).1 hM hI.2⟩
  have hbt : 0 ≤ bit ∧ bit / 8 < (x.f.length : Int) := by simp only [Bool.or_eq_false_iff, decide_eq_false_iff_not] at h3; omega
  obtain ⟨y, hy⟩ : ∃ y, x.f[(bit / 8).toNat]? = some y := ⟨_, List.getElem?_eq_getElem (by omega)⟩
  refine SC.skip ?_
  refine SE.blkn ?_
  refine SC.of_SE ?_
  refine SC.sr ?_
  refine SL.mv ?_
  refine SL.mv ?_
  refine SL.nk ?_
  refine SL.uu (ru_fieldAddr (o2 := k.toNat * 3 + 0) fd46_0 rfl rfl rfl) ?_
  refine SL.uu (ru_load_rowN (ri := 4) (i := k.toNat) (k := 0) (r := [Value.slice xa x.f.length xc, bo x.bad, iw x.tick]) ts28 rfl rfl rfl (by show (M.ps1.map FmV.row)[_]? = _; rw [List.getElem?_map, hx]; rfl) (by decide) rfl) ?_
  refine SL.call (ζ := Option Addr × Nat) (fun z => Value.slice z.1 x.f.length z.2) (fun z => [rBlk wd [pt d0 0, pt d1 0, Value.slice M.q0 M.ps0.length M.c0, Value.slice M.q1 M.ps1.length M.c1, iw S.now] 77, rDv 74 d0 M.fs S.A0, rDv 74 d1 M.fs S.A1, rRowN (.slice M.q0 M.ps0.length M.c0) (oRows M.ps0) 46 3, rRowN (.slice M.q1 M.ps1.length M.c1) (oRows M.ps1) 46 3, rZ M.F M.fs] ++ [rRowN (.slice z.1 x.f.length z.2) (bRows x.f) 5 1]) (fun z => ∀ b, (Value.slice z.1 x.f.length z.2).ownBlock = some b → w.heap.size ≤ b) rfl rfl co35 rfl rfl rfl (lt_b rfl) (fun w5 hI => (clone_any ((hI.1.get (i := 5) rfl).2 _ _ hxf).1 hxl).mono fun e w2 ⟨q, c, h1, h2, h3, h4⟩ => ⟨(q, c), h1, hI.add (r := rRowN (.slice q x.f.length c) (bRows x.f) 5 1) h4 (mine_rows.1 h2) h3, fun b hb => Nat.le_trans hI.2.size (h3 b hb)⟩) ?_
  rintro ⟨q4, c5⟩ hq4
  dsimp only at hq4
  refine SL.nk ?_
  refine SL.uu (ru_fieldAddr (o2 := k.toNat * 3 + 0) fd46_0 rfl rfl rfl) ?_
  refine SL.store_rowN (ri := 4) (i := k.toNat) (k := 0) (r := [Value.slice xa x.f.length xc, bo x.bad, iw x.tick]) rfl rfl ts28 rfl rfl rfl rfl rfl (by show (M.ps1.map FmV.row)[_]? = _; rw [List.getElem?_map, hx]; rfl) (by decide) (fun b hb => .inl (.inr (.inr (.inr (.inr hb))))) ?_
  refine SL.nr [rBlk wd [pt d0 0, pt d1 0, Value.slice M.q0 M.ps0.length M.c0, Value.slice M.q1 M.ps1.length M.c1, iw S.now] 77, rDv 74 d0 M.fs S.A0, rDv 74 d1 M.fs S.A1, rRowN (.slice M.q0 M.ps0.length M.c0) (oRows M.ps0) 46 3, rRowN (.slice M.q1 M.ps1.length M.c1) ((oRows M.ps1).set k.toNat ([Value.slice xa x.f.length xc, bo x.bad, iw x.tick].set 0 (Value.slice q4 x.f.length c5))) 46 3, rZ M.F M.fs, rRowN (.slice q4 x.f.length c5) (bRows x.f) 5 1] ?_
  refine SC.seq ?_
  refine SC.region_tail 13 (by kernel_rfl) (by kernel_rfl) ?_
  refine SQ.mv ?_
  refine SQ.nk ?_
  refine SQ.uu (ru_fieldAddr (o2 := k.toNat * 3 + 0) fd46_0 rfl rfl rfl) ?_
  refine SQ.uu (ru_load_rowN (ri := 4) (i := k.toNat) (k := 0) (r := [Value.slice q4 x.f.length c5, bo x.bad, iw x.tick]) ts28 rfl rfl rfl (List.getElem?_set_self (by simp; omega)) (by decide) rfl) ?_
  refine SQ.mv ?_
  refine SQ.uu (ru_quo (r := (bit / 8)) rfl rfl rfl (by decide) ((show IntKind.i64.wrap (Int.tdiv bit 8) = bit / 8 by rw [Int.tdiv_eq_ediv_of_nonneg (by omega), IntKind.wrap_i64]; omega))) ?_
  refine SQ.uu (ru_index_rowN (ri := 6) si28 rfl rfl rfl rfl (by omega) (by omega)) ?_
  refine SQ.uu (ru_load_rowN (ri := 6) (i := (bit / 8).toNat) (k := 0) (r := [bv y]) ts5 rfl rfl rfl (by show (List.map _ x.f)[_]? = _; rw [List.getElem?_map, hy]; rfl) (by decide) rfl) ?_
  refine SQ.mv ?_
  refine SQ.uu (ru_rem (r := (bit % 8)) rfl rfl rfl (by decide) ((Int.tmod_eq_emod_of_nonneg (by omega)))) ?_
  refine SQ.uu (ru_shl (r := IntKind.u8.wrap (1 * 2 ^ min (bit % 8).toNat 8)) (by omega) rfl rfl rfl rfl) ?_
  refine SQ.uu (ru_xor (p := (y.toNat : Int)) (r := ((y ^^^ UInt8.ofNat (2 ^ (bit % 8).toNat)).toNat : Int)) rfl rfl rfl (dam_byte y (by omega))) ?_
  refine SQ.uu (ru_index_rowN (ri := 6) si28 rfl rfl rfl rfl (by omega) (by omega)) ?_
  refine SQ.nilL ?_
  refine SL.store_rowN (ri := 6) (i := (bit / 8).toNat) (k := 0) (r := [bv y]) rfl rfl ts5 rfl rfl rfl rfl rfl (by show (List.map _ x.f)[_]? = _; rw [List.getElem?_map, hy]; rfl) (by decide) (fun b hb => .inr (hq4 b hb)) ?_
  refine SL.nr [rBlk wd [pt d0 0, pt d1 0, Value.slice M.q0 M.ps0.length M.c0, Value.slice M.q1 M.ps1.length M.c1, iw S.now] 77, rDv 74 d0 M.fs S.A0, rDv 74 d1 M.fs S.A1, rRowN (.slice M.q0 M.ps0.length M.c0) (oRows M.ps0) 46 3, rRowN (.slice M.q1 M.ps1.length M.c1) ((oRows M.ps1).set k.toNat ([Value.slice xa x.f.length xc, bo x.bad, iw x.tick].set 0 (Value.slice q4 x.f.length c5))) 46 3, rZ M.F M.fs, rRowN (.slice q4 x.f.length c5) ((bRows x.f).set ((bit / 8).toNat) ([bv y].set 0 (bv (y ^^^ UInt8.ofNat (2 ^ (bit % 8).toNat))))) 5 1] ?_
  refine SC.sr ?_
  refine SL.mv ?_
  refine SL.nk ?_
  refine SL.uu (ru_fieldAddr (o2 := k.toNat * 3 + 1) fd46_1 rfl rfl rfl) ?_
  refine SL.store_rowN (ri := 4) (i := k.toNat) (k := 1) (r := [Value.slice q4 x.f.length c5, bo x.bad, iw x.tick]) rfl rfl ts4 rfl rfl rfl rfl rfl (List.getElem?_set_self (by simp; omega)) (by decide) (fun b hb => .inl (.inr (.inr (.inr (.inr hb))))) ?_
  refine SL.nr [rBlk wd [pt d0 0, pt d1 0, Value.slice M.q0 M.ps0.length M.c0, Value.slice M.q1 M.ps1.length M.c1, iw S.now] 77, rDv 74 d0 M.fs S.A0, rDv 74 d1 M.fs S.A1, rRowN (.slice M.q0 M.ps0.length M.c0) (oRows M.ps0) 46 3, rRowN (.slice M.q1 M.ps1.length M.c1) (((oRows M.ps1).set k.toNat ([Value.slice xa x.f.length xc, bo x.bad, iw x.tick].set 0 (Value.slice q4 x.f.length c5))).set k.toNat ([Value.slice q4 x.f.length c5, bo x.bad, iw x.tick].set 1 (bo true))) 46 3, rZ M.F M.fs, rRowN (.slice q4 x.f.length c5) ((bRows x.f).set ((bit / 8).toNat) ([bv y].set 0 (bv (y ^^^ UInt8.ofNat (2 ^ (bit % 8).toNat))))) 5 1] ?_
  refine SC.sr ?_
  refine SL.as ?_
  refine SL.nl ?_
  refine SC.ret ?_
  refine SE.res (.inl rfl) (res1 Try.results23 rfl) fun w1 hI => ?_
  have eT : thereF (S.L true) k = thereF M.ps1 k := by show thereF S.L1 k = _; rw [← hM.l1, there_map]
  have ew : damageF S true k bit = (0, S.setL true (S.L1.set k.toNat ⟨damF x.f bit, true, x.tick⟩)) := by unfold damageF; simp only [eT, ex]; rw [if_neg (not_t h1), if_neg (not_t h3)]; rfl
  have er : ((oRows M.ps1).set k.toNat ([Value.slice xa x.f.length xc, bo x.bad, iw x.tick].set 0 (Value.slice q4 x.f.length c5))).set k.toNat ([Value.slice q4 x.f.length c5, bo x.bad, iw x.tick].set 1 (bo true)) = oRows (M.ps1.set k.toNat ⟨.slice q4 x.f.length c5, ⟨damF x.f bit, true, x.tick⟩⟩) := by rw [List.set_set]; exact (List.map_set (f := FmV.row) (a := (⟨.slice q4 x.f.length c5, ⟨damF x.f bit, true, x.tick⟩⟩ : FmV))).symm
  have eb : (bRows x.f).set ((bit / 8).toNat) ([bv y].set 0 (bv (y ^^^ UInt8.ofNat (2 ^ (bit % 8).toNat)))) = bRows (damF x.f bit) := by unfold damF; rw [show bit.toNat / 8 = (bit / 8).toNat by omega, show bit.toNat % 8 = (bit % 8).toNat by omega, List.getD_eq_getElem?_getD, hy]; exact bRows_set _ _ _
  have el : (M.ps1.set k.toNat (⟨.slice q4 x.f.length c5, ⟨damF x.f bit, true, x.tick⟩⟩ : FmV)).length = M.ps1.length := List.length_set
  have ed : (damF x.f bit).length = x.f.length := List.length_set
  rw [er, eb, ← el] at hI
  have hZ := Inv.freeze (l := []) (Inv.weak (i := 6) (r' := rMine (.slice q4 x.f.length c5) (damF x.f bit) 5) (hI.keep 7) rfl (fun h => mine_rows.2 h) (fun b hb => hb)) (by omega)
  rw [ew]
  exact ⟨rfl, { M with F := fun b => M.F b ∨ (Value.slice q4 x.f.length c5).ownBlock = some b, fs := fun v f => M.fs v f ∨ v = .slice q4 x.f.length c5 ∧ f = damF x.f bit, ps1 := M.ps1.set k.toNat ⟨.slice q4 x.f.length c5, ⟨damF x.f bit, true, x.tick⟩⟩ }, ⟨(hZ.keep 6).1, hM.set1 (y := ⟨.slice q4 x.f.length c5, ⟨damF x.f bit, true, x.tick⟩⟩) (fun v f h => .inl h) (.inr ⟨rfl, rfl⟩) k, fun v f h => .inl h, fun b hb => WM.K.frz (M' := { M with ps1 := M.ps1.set k.toNat ⟨.slice q4 x.f.length c5, ⟨damF x.f bit, true, x.tick⟩⟩ }) hb (fun b hb => WM.K.same1 hb) (fun b hb => hb.imp id (hq4 b)), hZ.2⟩⟩
theorem damageX_any {w : World} {wd : Nat} {dir : Int} {k bit : Int} (hd : isD dir = false) : Calls Try.prog 23 #[pt wd 0, iw dir, iw k, iw bit] w fun e w' => e = .returned (iw 1) ∧ Only (fun _ => False) w w' := by
  refine calls_sc (l0 := []) (args := [pt wd 0, iw dir, iw k, iw bit]) (fun _ => False) Try.func23 rfl 59 Try.ntmps23 (le_b rfl) ⟨⟨by simp, List.Pairwise.nil⟩, Only.refl _ _⟩ ?_
  show SC _ _ _ _ [(0, pt wd 0), (1, iw dir), (2, iw k), (3, iw bit)] []
  refine SC.sr ?_
  refine SL.as ?_
  refine SL.nr [] ?_
  refine SC.sr ?_
  refine SL.mv ?_
  refine SL.mv ?_
  refine SL.mv ?_
  refine SL.callv (Value.tuple #[Value.pointer none, iw 1]) rfl rfl co34 rfl rfl rfl (lt_b rfl) (fun w hI => H_only hI (thereX_any hd)) ?_
  refine SL.mv ?_
  refine SL.uu (ru_extract rfl rfl rfl) ?_
  refine SL.uu (ru_extract rfl rfl rfl) ?_
  refine SL.as ?_
  refine SL.as ?_
  refine SL.nl ?_
  refine SC.seq ?_
  refine SC.block ?_
  refine SC.sr ?_
  refine SL.mv ?_
  refine SL.uu (ru_ne (b := true) rfl rfl rfl rfl) ?_
  refine SL.as ?_
  refine SL.nl ?_
  refine SC.yes rfl ?_
  refine SC.sr ?_
  refine SL.mv ?_
  refine SL.as ?_
  refine SL.nl ?_
  refine SC.ret ?_
  refine SE.blkr ?_
  refine SE.passr ?_
  refine SE.res (.inl rfl) (res1 Try.results23 rfl) fun w1 hI => ⟨rfl, hI.2⟩

end Go.Proofs.Ytcilikkljkdceaa

/-
  The light machine: what slices.Delete does within a row. No program is named here.
-/
namespace Go.Proofs.Ytcilikkljkdceaa
open Go.RowKit
section
variable {P : Program} {X : Cx} {ops : Array Oper} {Q : Exit → Act → World → Prop} {rest : List Oper} {o : Oper} {m : List (Nat × Value)} {l : List Res} {d : Nat} {t t' : TypeId}
theorem SL.appendB {e ri size i c m2 c2 g o2 : Nat} {a1 a2 : Operand} {g2 : Nat} {cs news : List Value} (hg : o.guard = none) (hd : o.dst = some d) (hn : d < X.n) (ho : o.op = .call { callee := .builtin .append, args := #[a1, a2], argTypes := #[t, t] })
    (ht : P.underlying t = some (.slice e)) (hz : (P.info? e).map (·.size) = some size) (h1 : evM m a1 = some (sl g 0 i c)) (h2 : evM m a2 = some (.slice (some ⟨g2, o2, none⟩) m2 c2)) (hi : l[ri]? = some (rBlk g cs e)) (hl : news.length = m2 * size)
    (hnews : ∀ w, Inv X w l → ∀ j u, news[j]? = some u → w.cell? ⟨g2, o2 + j, none⟩ = some u) (hone : ∀ u ∈ news, u.oneCell' = true) (hroom : i + m2 ≤ c) (hfit : i * size + news.length ≤ cs.length) (hS : X.S g ∨ X.w0.heap.size ≤ g)
    (k : SL P X ops Q rest ((d, sl g 0 (i + m2) c) :: m) (l.set ri (rBlk g (cs.take (i * size) ++ news ++ cs.drop (i * size + news.length)) e))) : SL P X ops Q (o :: rest) m l := fun a w hf hI =>
  wpList_plain hg fun K' hK => by
    have hb : Blk w g cs e := hI.1.get hi
    obtain ⟨inf, hinf, hsz⟩ := map_some hz
    have hr := run_append_room (P := P) w t o.type e inf ht hinf g i c cs.toArray hb ⟨g2, o2, none⟩ m2 c2 news (by rw [hsz]; exact hl) (fun j u hj => by rw [add_at]; exact hnews w hI j u hj) hone hroom (by rw [hsz]; simpa using hfit)
    unfold Oper.wp
    rw [run_call_app ho (hf.ev h1) (hf.ev h2) hr]
    simp only [Oper.upon_value, hd, hsz]
    refine hK _ _ (k _ _ (hf.put hn _) (hI.upd hi ⟨rfl, rfl, rfl, by simp [World.setRow], fun k' _ hk' => setRow_other w g k' _ hk'⟩ (fun b' hb' => by cases hb'; exact hS) ?_ (fun b' hb' => .inl hb')))
    have := setRow_heap w g cs.toArray ((cs.take (i * size) ++ news ++ cs.drop (i * size + news.length))).toArray e (0, 0) hb
    show Blk _ g _ e
    unfold Blk
    simpa using this
theorem SL.clearB {e ri size n1 c1 g o1 : Nat} {a1 : Operand} {z : Value} {cs : List Value} (hg : o.guard = none) (hd : o.dst = none) (ho : o.op = .call { callee := .builtin .clear, args := #[a1], argTypes := #[t] })
    (ht : P.underlying t = some (.slice e)) (hz : (P.info? e).map (·.zero) = some (some z)) (hzs : z.cells.size = size) (hz1 : ∀ u ∈ z.cells.toList, u.oneCell' = true) (h1 : evM m a1 = some (.slice (some ⟨g, o1, none⟩) n1 c1)) (hn1 : 0 < n1) (hi : l[ri]? = some (rBlk g cs e)) (hfit : o1 + n1 * size ≤ cs.length) (hS : X.S g ∨ X.w0.heap.size ≤ g)
    (k : SL P X ops Q rest m (l.set ri (rBlk g (cs.take o1 ++ (Builtin.zeroCells z.cells n1).toList ++ cs.drop (o1 + n1 * size)) e))) : SL P X ops Q (o :: rest) m l := fun a w hf hI =>
  wpList_plain hg fun K' hK => by
    have hb : Blk w g cs e := hI.1.get hi
    obtain ⟨inf, hinf, hsz⟩ := map_some hz
    have hzl : (Builtin.zeroCells z.cells n1).toList.length = n1 * size := by rw [Array.length_toList, size_zeroCells, hzs]
    have hst := run_storeCells_at P g o1 e (Builtin.zeroCells z.cells n1).toList 0 cs.toArray w hb (by rw [hzl]; simpa using hfit) (fun u hu => by
      unfold Builtin.zeroCells at hu
      simp at hu
      obtain ⟨q, hq, h⟩ := hu
      have hpos : 0 < z.cells.size := by
        rcases Nat.eq_zero_or_pos z.cells.size with h0 | h0
        · rw [h0, Nat.mul_zero] at hq; omega
        · exact h0
      have hlt : q % z.cells.size < z.cells.size := Nat.mod_lt _ hpos
      rw [getElem!_pos z.cells (q % z.cells.size) hlt] at h
      subst h
      exact hz1 _ (by simp))
    have hcl : (Builtin.clear_ #[t] o.type #[.slice (some ⟨g, o1, none⟩) n1 c1]).run P w = .ok (.tuple #[]) (w.setRow g (cs.take o1 ++ (Builtin.zeroCells z.cells n1).toList ++ cs.drop (o1 + n1 * size)).toArray) := by
      obtain ⟨n2, rfl⟩ : ∃ n2, n1 = n2 + 1 := ⟨n1 - 1, by omega⟩
      rw [Nat.add_zero, hzl] at hst
      simp [Builtin.clear_, run_underlying ht, zeroValue, typeInfo, hinf, hsz, hst]
    unfold Oper.wp execOp
    rw [ho]
    have he : #[a1].map a.eval = #[.slice (some ⟨g, o1, none⟩) n1 c1] := by simp [hf.ev h1]
    simp only [resolve, he, Sem.run_bind, Sem.run_pure, Result.andThen_ok, invoke, builtin, hcl, Oper.upon_value, hd, Act.put]
    refine hK _ _ (k _ _ hf (hI.upd hi ⟨rfl, rfl, rfl, by simp [World.setRow], fun k' _ hk' => setRow_other w g k' _ hk'⟩ (fun b' hb' => by cases hb'; exact hS) ?_ (fun b' hb' => .inl hb')))
    have := setRow_heap w g cs.toArray ((cs.take o1 ++ (Builtin.zeroCells z.cells n1).toList ++ cs.drop (o1 + n1 * size))).toArray e (0, 0) hb
    show Blk _ g _ e
    unfold Blk
    simpa using this
end
end Go.Proofs.Ytcilikkljkdceaa

/-
  slices.Delete within a row.
-/
namespace Go.Proofs.Ytcilikkljkdceaa
open Go.RowKit
set_option maxRecDepth 100000
set_option maxHeartbeats 4000000
def delA (cs : List Value) (i j n s : Nat) : List Value := cs.take (i * s) ++ (cs.drop (j * s)).take ((n - j) * s) ++ cs.drop (i * s + ((cs.drop (j * s)).take ((n - j) * s)).length)
def delB (cs : List Value) (i j n s : Nat) (z : Array Value) : List Value := (delA cs i j n s).take ((i + (n - j)) * s) ++ (Builtin.zeroCells z (n - (i + (n - j)))).toList ++ (delA cs i j n s).drop ((i + (n - j)) * s + (n - (i + (n - j))) * s)
theorem del_news {w : World} {g c j n s q : Nat} {cs : List Value} {e : TypeId} {u : Value} (hb : Blk w g cs e) (hjn : j ≤ n) (hnc : n ≤ c) (hq : ((cs.drop (j * s)).take ((n - j) * s))[q]? = some u) : w.cell? ⟨g, (if c = j then 0 else j * s) + q, none⟩ = some u := by
  by_cases e : c = j
  · have h0 : n - j = 0 := by omega
    rw [h0, Nat.zero_mul] at hq; simp at hq
  · rw [if_neg e, hb.cell]
    rw [List.getElem?_take] at hq
    split at hq
    · rw [List.getElem?_drop] at hq; exact hq
    · cases hq
theorem del_blk {w : World} {g i j n c : Nat} {cs : List Value} (hb : Blk w g cs 46) (hij : i < j) (hjn : j ≤ n) (hnc : n ≤ c) (hcl : cs.length = c * 3) (hone : ∀ u ∈ (cs.drop (j * 3)).take ((n - j) * 3), u.oneCell' = true) :
    Calls Try.prog 69 #[sl g 0 n c, iw (i : Int), iw (j : Int)] w fun e w' => e = .returned (sl g 0 (i + (n - j)) c) ∧ Blk w' g (delB cs i j n 3 (Value.agg #[Value.slice none 0 0, bo false, iw 0]).cells) 46 ∧ Only (fun b => b = g) w w' := by
  refine calls_sc (l0 := [rBlk g cs 46]) (args := [sl g 0 n c, iw (i : Int), iw (j : Int)]) (fun b => b = g) Try.func69 rfl 33 Try.ntmps69 (le_b rfl) ⟨⟨fun q hq => by simp at hq; subst hq; exact hb, List.pairwise_singleton _ _⟩, Only.refl _ _⟩ ?_
  show SC _ _ _ _ [(0, sl g 0 n c), (1, iw (i : Int)), (2, iw (j : Int))] [rBlk g cs 46]
  refine SC.sr ?_
  refine SL.as ?_
  refine SL.nr [rBlk g cs 46] ?_
  refine SC.sr ?_
  refine SL.mv ?_
  refine SL.mv ?_
  refine SL.mv ?_
  refine SL.mv ?_
  refine SL.uu (ru_len Try.underlying56 rfl rfl) ?_
  refine SL.uu (ru_sliceV (l0 := i) (h0 := j) (m0 := n) (v := Value.slice (if n = i then some (⟨g, 0, none⟩ : Addr) else (some (⟨g, 0, none⟩ : Addr)).map (·.add (i * 3))) (j - i) (n - i)) rfl si56 rfl rfl rfl rfl rfl (by simp) (by omega) (by omega) (by omega)) ?_
  refine SL.nl ?_
  refine SC.seq ?_
  refine SC.sr ?_
  refine SL.mv ?_
  refine SL.mv ?_
  refine SL.uu (ru_eq (b := (((i : Int) : Int) == (j : Int))) rfl rfl rfl rfl) ?_
  refine SL.nl ?_
  refine SC.no (show some (Value.bool (((i : Int) : Int) == (j : Int))) = some (Value.bool false) from congrArg (fun x => some (Value.bool x)) (beq_eq_false_iff_ne.2 (by omega))) ?_
  refine SC.skip ?_
  refine SC.of_SE ?_
  refine SC.sr ?_
  refine SL.mv ?_
  refine SL.uu (ru_len Try.underlying56 rfl rfl) ?_
  refine SL.as ?_
  refine SL.nl ?_
  refine SC.seq ?_
  refine SC.region_tail 6 (by kernel_rfl) (by kernel_rfl) ?_
  refine SQ.mv ?_
  refine SQ.mv ?_
  refine SQ.uu (ru_sliceV (l0 := 0) (h0 := i) (m0 := c) (v := sl g 0 i c) (by rw [if_neg (by omega)]; rfl) si56 rfl rfl rfl rfl rfl (by simp) (by omega) (by omega) (by omega)) ?_
  refine SQ.mv ?_
  refine SQ.mv ?_
  refine SQ.uu (ru_sliceV (l0 := j) (h0 := n) (m0 := c) (v := Value.slice (some ⟨g, (if c = j then 0 else j * 3), none⟩) (n - j) (c - j)) (by split; rfl; rw [Option.map_some, add_at, Nat.zero_add]) si56 rfl rfl rfl rfl rfl (by simp) (by omega) (by omega) (by omega)) ?_
  refine SQ.nilL ?_
  refine SL.appendB (ri := 0) (size := 3) (news := (cs.drop (j * 3)).take ((n - j) * 3)) rfl rfl (lt_b rfl) rfl Try.underlying56 (by kernel_rfl) rfl rfl rfl (by simp; omega) (fun w hI q u hq => del_news (hI.1.get (i := 0) rfl) hjn hnc hq) hone (by omega) (by simp; omega) (.inl rfl) ?_
  refine SL.as ?_
  refine SL.nr [rBlk g (delA cs i j n 3) 46] ?_
  refine SC.sr ?_
  refine SL.mv ?_
  refine SL.mv ?_
  refine SL.uu (ru_len Try.underlying56 rfl rfl) ?_
  refine SL.mv ?_
  refine SL.uu (ru_sliceV (l0 := i + (n - j)) (h0 := n) (m0 := c) (v := Value.slice (some ⟨g, (i + (n - j)) * 3, none⟩) (n - (i + (n - j))) (c - (i + (n - j)))) (by rw [if_neg (by omega), Option.map_some, add_at, Nat.zero_add]) si56 rfl rfl rfl rfl rfl (by simp) (by omega) (by omega) (by omega)) ?_
  refine SL.clearB (ri := 0) (size := 3) (z := Value.agg #[Value.slice none 0 0, bo false, iw 0]) rfl rfl rfl Try.underlying56 (by kernel_rfl) rfl (by decide) rfl (by omega) rfl (by unfold delA; simp; omega) (.inl rfl) ?_
  refine SL.nr [rBlk g (delB cs i j n 3 (Value.agg #[Value.slice none 0 0, bo false, iw 0]).cells) 46] ?_
  refine SC.sr ?_
  refine SL.mv ?_
  refine SL.as ?_
  refine SL.nl ?_
  refine SC.ret ?_
  refine SE.res (.inl rfl) (res1 Try.results69 rfl) fun w1 hI => ⟨rfl, hI.1.get (i := 0) rfl, hI.2⟩
theorem del_any {w : World} {q : Option Addr} {i j n c : Nat} {rs : List (List Value)} (h : RowsN w (.slice q n c) rs 46 3) (hone : ∀ r ∈ rs, ∀ u ∈ r, u.oneCell' = true) (hij : i < j) (hjn : j ≤ n) :
    Calls Try.prog 69 #[.slice q n c, iw (i : Int), iw (j : Int)] w fun e w' => e = .returned (.slice q (i + (n - j)) c) ∧ RowsN w' (.slice q (i + (n - j)) c) (rs.take i ++ rs.drop j) 46 3 ∧ Only (fun b => (Value.slice q n c).ownBlock = some b) w w' := by
  obtain ⟨rfl, h2⟩ := rowN_form h
  obtain ⟨g, cur, rfl, h3, h4, h5, h6, h7⟩ := h2 (by omega)
  have hb : Blk w g cur.toList 46 := by unfold Blk; simpa using h3
  have hfl := flat_len h.1
  have hcl : cur.toList.length = c * 3 := by rw [Array.length_toList]; exact h6
  have etd : ∀ a b : Nat, b ≤ rs.length → (cur.toList.drop (a * 3)).take ((b - a) * 3) = (rs.flatten.drop (a * 3)).take ((b - a) * 3) := by
    intro a b hab
    rw [← h7, List.drop_take, List.take_take]
    congr 1
    omega
  have hflat : ∀ (rs : List (List Value)), (∀ r ∈ rs, r.length = 3) → ∀ k, rs.flatten.take (k * 3) = (rs.take k).flatten ∧ rs.flatten.drop (k * 3) = (rs.drop k).flatten := by
    intro rs hr
    induction rs with
    | nil => intro k; simp
    | cons r rs ih =>
      intro k
      have hr0 := hr r (by simp)
      cases k with
      | zero => simp
      | succ k =>
        have := ih (fun r h => hr r (by simp [h])) k
        rw [List.flatten_cons, List.take_append, List.drop_append, List.take_succ_cons, List.drop_succ_cons, List.flatten_cons, show (k + 1) * 3 - r.length = k * 3 by omega, this.1, this.2, List.take_of_length_le (by omega), List.drop_eq_nil_of_le (by omega)]
        exact ⟨rfl, by simp⟩
  refine (del_blk hb hij hjn h4 hcl (fun u hu => ?_)).mono ?_
  · rw [etd j rs.length (Nat.le_refl _)] at hu
    have hu' := List.mem_of_mem_drop (List.mem_of_mem_take hu)
    obtain ⟨r, hr, hur⟩ := List.mem_flatten.1 hu'
    exact hone r hr u hur
  · rintro e w' ⟨rfl, k1, k2⟩
    have hlen : (rs.take i ++ rs.drop j).length = i + (rs.length - j) := by simp; omega
    refine ⟨rfl, ⟨fun r hr => ?_, ?_, .inr ⟨g, c, (delB cur.toList i j rs.length 3 _).toArray, by rw [hlen], Nat.zero_le _, k1, by omega, h5, ?_, ?_⟩⟩, k2.mono (fun b hb => .inl (by rw [hb]; rfl))⟩
    · rcases List.mem_append.1 hr with hr | hr
      · exact h.1 r (List.mem_of_mem_take hr)
      · exact h.1 r (List.mem_of_mem_drop hr)
    · exact flat_len (fun r hr => by
        rcases List.mem_append.1 hr with hr | hr
        · exact h.1 r (List.mem_of_mem_take hr)
        · exact h.1 r (List.mem_of_mem_drop hr))
    · unfold delB delA
      simp [size_zeroCells, Value.cells]
      omega
    · rw [hlen, List.flatten_append, ← (hflat rs h.1 i).1, ← (hflat rs h.1 j).2]
      have hM : (cur.toList.drop (j * 3)).take ((rs.length - j) * 3) = rs.flatten.drop (j * 3) := by
        rw [etd j rs.length (Nat.le_refl _)]; exact List.take_of_length_le (by rw [List.length_drop, hfl]; omega)
      have hT : cur.toList.take (i * 3) = rs.flatten.take (i * 3) := by
        rw [← h7, List.take_take]; congr 1; omega
      have hl1 : (rs.flatten.take (i * 3) ++ rs.flatten.drop (j * 3)).length = (i + (rs.length - j)) * 3 := by
        rw [List.length_append, List.length_take, List.length_drop, hfl]; omega
      have hA : (delA cur.toList i j rs.length 3).take ((i + (rs.length - j)) * 3) = rs.flatten.take (i * 3) ++ rs.flatten.drop (j * 3) := by
        unfold delA
        rw [hM, hT]
        exact List.take_left' hl1
      unfold delB
      rw [hA, List.append_assoc]
      exact List.take_left' hl1

end Go.Proofs.Ytcilikkljkdceaa

/-
  The light machine: a drawn region with one call in its head that turns what is known. No program is named here.
-/
namespace Go.Proofs.Ytcilikkljkdceaa
open Go.RowKit
section
variable {P : Program} {X : Cx} {ops : Array Oper} {Q : Exit → Act → World → Prop} {rest : List Oper} {o : Oper} {m : List (Nat × Value)} {l : List Res} {d : Nat} {t : TypeId}
def CU {ζ : Type} (X : Cx) (l : List Res) (l2 : ζ → List Res) (p : ζ → Prop) (k : Nat) : (Nat → Bool) → World → Prop := fun D w => if D k then ∃ z, Inv X w (l2 z) ∧ p z else Inv X w l
theorem CU.base {ζ : Type} {l2 : ζ → List Res} {p : ζ → Prop} {k : Nat} {lb : List Res} (h0 : ∀ w, Inv X w l → Inv X w lb) (h1 : ∀ z w, Inv X w (l2 z) → Inv X w lb) : ∀ D w, CU X l l2 p k D w → Inv X w lb := fun D w h => by
  unfold CU at h
  split at h
  · obtain ⟨z, h, _⟩ := h; exact h1 z w h
  · exact h0 w h
theorem SC.region_turn {ζ : Type} {id : Nat} {L : List Oper} (n k : Nat) (l2 : ζ → List Res) (p : ζ → Prop) (hm : P.follows .mixedOrders = true) (hB : Region.lexTailB .any L.toArray n = true)
    (hg : ([k].all fun i => decide (i < n) && ((L[i]?).map (fun o => o.guard.isNone)).getD false) = true)
    (h : SS P X L.toArray [k] (CU X l l2 p k) (fun a' => ∀ D w', (∀ i ∈ [k], D i = true) → CU X l l2 p k D w' → wpList P L.toArray Q (L.drop n) a' w') 0 (L.take n) m) : SC P X (.region id L.toArray true) Q m l :=
  fun a w hf hi => wp_region_spread_tail n [k] (CU X l l2 p k) hm hB hg (by unfold CU; exact hi.draw1) (h a hf)
theorem SS.nilU {ζ : Type} {sp : List Nat} {C : (Nat → Bool) → World → Prop} {l2 : ζ → List Res} {p : ζ → Prop} {k : Nat} {L : List Oper} {j : Nat} (h : ∀ z, p z → SL P X ops Q L m (l2 z)) : SS P X ops sp C (fun a' => ∀ D w', (∀ i ∈ [k], D i = true) → CU X l l2 p k D w' → wpList P ops Q L a' w') j [] m := fun a hf => by
  unfold wpSpread
  intro D w' hD hC
  unfold CU at hC
  rw [if_pos (hD k (by simp))] at hC
  obtain ⟨z, h1, h2⟩ := hC
  exact h z h2 a w' hf h1
theorem SS.turnc {ζ : Type} {K : Act → Prop} {k : Nat} {f : FuncId} {fs cs vals : List Value} {c : Operand} {args : List Operand} {aT : Array TypeId} {l2 : ζ → List Res} {p : ζ → Prop} (v : Value) (hg : o.guard = none)
    (ho : o.op = .call { callee := .value c, args := args.toArray, argTypes := aT }) (hok : CallOk P f) (hc : evM m c = some (.func (.func f) fs.toArray cs.toArray)) (ha : evL m args = some vals) (hd : o.dst = some d) (hn : d < X.n)
    (H : ∀ w, Inv X w l → Calls P f (fs ++ vals ++ cs).toArray w fun e w' => ∃ z, e = .returned v ∧ Inv X w' (l2 z) ∧ p z)
    (h : SS P X ops [k] (CU X l l2 p k) K (k + 1) rest ((d, v) :: m)) : SS P X ops [k] (CU X l l2 p k) K k (o :: rest) m :=
  SS.turn v (by simp) hg ho hok hc ha hd hn (fun D w hC hk => by
    unfold CU at hC
    rw [if_neg (by simp [hk])] at hC
    refine (H w hC).mono ?_
    rintro e w' ⟨z, h1, h2⟩
    refine ⟨h1, ?_⟩
    unfold CU
    simp only [if_true]
    exact ⟨z, h2⟩) h
end
end Go.Proofs.Ytcilikkljkdceaa

/-
  Taking a frame off the wire.
-/
namespace Go.Proofs.Ytcilikkljkdceaa
open Go.RowKit
set_option maxRecDepth 100000
set_option maxHeartbeats 4000000
theorem del1_ow {w : World} {q : Option Addr} {n c : Nat} {k : Int} {ps : List FmV} (h : RowsN w (.slice q n c) (oRows ps) 46 3) (hv : ∀ x ∈ ps, ∃ a n c, x.v = Value.slice a n c) (h0 : 0 ≤ k) (h1 : k < (n : Int)) :
    Calls Try.prog 69 #[.slice q n c, iw k, iw (k + 1)] w fun e w' => e = .returned (.slice q (n - 1) c) ∧ RowsN w' (.slice q (n - 1) c) (oRows (outF ps k)) 46 3 ∧ Only (fun b => (Value.slice q n c).ownBlock = some b) w w' := by
  have := del_any (i := k.toNat) (j := k.toNat + 1) h (ow_one hv) (by omega) (by omega)
  rw [show ((k.toNat + 1 : Nat) : Int) = k + 1 by omega, Int.toNat_of_nonneg h0, show k.toNat + (n - (k.toNat + 1)) = n - 1 by omega] at this
  refine this.mono ?_
  rintro e w' ⟨rfl, h1, h2⟩
  refine ⟨rfl, ?_, h2⟩
  rw [← List.map_take, ← List.map_drop, ← List.map_append] at h1
  exact h1
theorem take0_any {w : World} {wd d0 d1 : Nat} {M : WM} {S : Wi} {k : Int} {x : Fm} {xa : Option Addr} {xc : Nat} (hM : M.Ok S) (hn : M.ps0.length ≤ 3000000000000) (hx : M.ps0[k.toNat]? = some ⟨.slice xa x.f.length xc, x⟩) (hk : 0 ≤ k ∧ k < (M.ps0.length : Int)) (h : Sep w (WLm 74 77 46 wd d0 d1 M S.A0 S.A1 S.now)) : Calls Try.prog 54 #[pt wd 0, iw 0, iw k] w fun e w' => e = .returned (.agg #[.slice xa x.f.length xc, bo x.bad, iw x.tick]) ∧ WTo 74 77 46 w wd d0 d1 M { M with ps0 := outF M.ps0 k } (S.setL false (outF S.L0 k)) w' := by
  have hv := hM.sl0 h
  refine calls_sc (l0 := (WLm 74 77 46 wd d0 d1 M S.A0 S.A1 S.now)) (args := [pt wd 0, iw 0, iw k]) (M.G wd d0 d1) Try.func54 rfl 33 Try.ntmps54 (le_b rfl) ⟨h, Only.refl _ _⟩ ?_
  show SC _ _ _ _ [(0, pt wd 0), (1, iw 0), (2, iw k)] (WLm 74 77 46 wd d0 d1 M S.A0 S.A1 S.now)
  refine SC.sr ?_
  refine SL.alloca rfl rfl (lt_b rfl) ta46 rfl fun b1 hb1 => ?_
  refine SL.nl ?_
  refine SC.sr ?_
  refine SL.mv ?_
  refine SL.mv ?_
  refine SL.nk ?_
  refine SL.fa 2 fd77_1 ?_
  refine SL.ia 2 ar75 ?_
  refine SL.ld 0 ts56 ?_
  refine SL.mv ?_
  refine SL.uu (ru_index_rowN (ri := 3) si56 rfl rfl rfl rfl (by omega) (by omega)) ?_
  refine SL.uu (ru_loada_rowN (ri := 3) (i := k.toNat) (r := [Value.slice xa x.f.length xc, bo x.bad, iw x.tick]) ta46 rfl rfl rfl (by show (M.ps0.map FmV.row)[_]? = _; rw [List.getElem?_map, hx]; rfl) rfl rfl) ?_
  refine SL.alloca rfl rfl (lt_b rfl) ta46 rfl fun b2 hb2 => ?_
  refine SL.storea (i := 7) (vs := [Value.slice xa x.f.length xc, bo x.bad, iw x.tick]) (c' := [Value.slice xa x.f.length xc, bo x.bad, iw x.tick]) rfl rfl ta46 rfl rfl rfl rfl rfl rfl (le_b rfl) (.inr hb2) rfl ?_
  refine SL.nl ?_
  refine SC.seq ?_
  have hcb3 := CU.base (X := ⟨33, w, M.G wd d0 d1⟩) (l := [rBlk wd [pt d0 0, pt d1 0, Value.slice M.q0 M.ps0.length M.c0, Value.slice M.q1 M.ps1.length M.c1, iw S.now] 77, rDv 74 d0 M.fs S.A0, rDv 74 d1 M.fs S.A1, rRowN (.slice M.q0 M.ps0.length M.c0) (oRows M.ps0) 46 3, rRowN (.slice M.q1 M.ps1.length M.c1) (oRows M.ps1) 46 3, rZ M.F M.fs, rBlk b1 [Value.slice none 0 0, bo false, iw 0] 46, rBlk b2 [Value.slice xa x.f.length xc, bo x.bad, iw x.tick] 46]) (l2 := fun (_z : Unit) => [rBlk wd [pt d0 0, pt d1 0, Value.slice M.q0 M.ps0.length M.c0, Value.slice M.q1 M.ps1.length M.c1, iw S.now] 77, rDv 74 d0 M.fs S.A0, rDv 74 d1 M.fs S.A1, rRowN (.slice M.q0 (M.ps0.length - 1) M.c0) (oRows (outF M.ps0 k)) 46 3, rRowN (.slice M.q1 M.ps1.length M.c1) (oRows M.ps1) 46 3, rZ M.F M.fs, rBlk b1 [Value.slice none 0 0, bo false, iw 0] 46, rBlk b2 [Value.slice xa x.f.length xc, bo x.bad, iw x.tick] 46]) (p := fun (_z : Unit) => True) (k := 11) (lb := [rBlk wd [pt d0 0, pt d1 0, Value.slice M.q0 M.ps0.length M.c0, Value.slice M.q1 M.ps1.length M.c1, iw S.now] 77, rDv 74 d0 M.fs S.A0, rDv 74 d1 M.fs S.A1, rNone, rRowN (.slice M.q1 M.ps1.length M.c1) (oRows M.ps1) 46 3, rZ M.F M.fs, rBlk b1 [Value.slice none 0 0, bo false, iw 0] 46, rBlk b2 [Value.slice xa x.f.length xc, bo x.bad, iw x.tick] 46]) (fun w hI => hI.weak (i := 3) (r' := rNone) rfl (fun _ => trivial) (fun b hb => hb.elim)) (fun z w hI => hI.weak (i := 3) (r' := rNone) rfl (fun _ => trivial) (fun b hb => hb.elim))
  refine SC.region_turn (ζ := Unit) 15 11 (fun _z => [rB wd d0 d1 M S.now 77, rDv 74 d0 M.fs S.A0, rDv 74 d1 M.fs S.A1, rRowN (.slice M.q0 (M.ps0.length - 1) M.c0) (oRows (outF M.ps0 k)) 46 3, rR1 M 46, rZ M.F M.fs, rBlk b1 [Value.slice none 0 0, bo false, iw 0] 46, rBlk b2 [Value.slice xa x.f.length xc, bo x.bad, iw x.tick] 46]) (fun _z => True) (by kernel_rfl) (by kernel_rfl) rfl ?_
  refine SS.uu hcb3 (ru_move rfl rfl) ?_
  refine SS.uu hcb3 (ru_move rfl rfl) ?_
  refine SS.uu hcb3 (ru_move rfl rfl) ?_
  refine SS.uu hcb3 (ru_move rfl rfl) ?_
  refine SS.uu hcb3 (ru_nilCheck rfl rfl) ?_
  refine SS.uu hcb3 (ru_fieldAddr (o2 := 2) fd77_1 rfl rfl rfl) ?_
  refine SS.uu hcb3 (ru_indexA (o2 := 2) ar75 rfl rfl rfl (by decide) (by decide) rfl) ?_
  refine SS.uu hcb3 (ru_load (i := 0) ts56 rfl rfl rfl rfl) ?_
  refine SS.uu hcb3 (ru_move rfl rfl) ?_
  refine SS.uu hcb3 (ru_move rfl rfl) ?_
  refine SS.uu hcb3 (ru_add (r := (k + 1)) rfl rfl rfl ((by rw [IntKind.wrap_i64]; omega))) ?_
  refine SS.turnc (Value.slice M.q0 (M.ps0.length - 1) M.c0) rfl rfl co69 rfl rfl rfl (lt_b rfl) (fun w hI => (del1_ow (hI.1.get (i := 3) rfl) hv hk.1 hk.2).mono fun e w2 ⟨h1, h2, h3⟩ => ⟨(), h1, hI.upd (i := 3) rfl h3 (fun b hb => .inl (.inr (.inr (.inr (.inl hb))))) h2 (fun b hb => .inl ((own_eqw M.q0 M.ps0.length M.c0 (M.ps0.length - 1) M.c0).trans hb)), trivial⟩) ?_
  refine SS.uu hcb3 (ru_nilCheck rfl rfl) ?_
  refine SS.uu hcb3 (ru_fieldAddr (o2 := 2) fd77_1 rfl rfl rfl) ?_
  refine SS.uu hcb3 (ru_indexA (o2 := 2) ar75 rfl rfl rfl (by decide) (by decide) rfl) ?_
  refine SS.nilU ?_
  rintro ⟨⟩ _
  refine SL.store (i := 0) (c' := [pt d0 0, pt d1 0, Value.slice M.q0 (M.ps0.length - 1) M.c0, Value.slice M.q1 M.ps1.length M.c1, iw S.now]) rfl rfl ts56 rfl rfl rfl rfl rfl (lt_b rfl) (.inl (.inl rfl)) rfl ?_
  refine SL.nl ?_
  refine SC.sr ?_
  refine SL.uu (ru_loada (i := 7) (vs := [Value.slice xa x.f.length xc, bo x.bad, iw x.tick]) ta46 rfl rfl rfl rfl (le_b rfl)) ?_
  refine SL.storea (i := 6) (vs := [Value.slice xa x.f.length xc, bo x.bad, iw x.tick]) (c' := [Value.slice xa x.f.length xc, bo x.bad, iw x.tick]) rfl rfl ta46 rfl rfl rfl rfl rfl rfl (le_b rfl) (.inr hb1) rfl ?_
  refine SL.nr [rBlk wd [pt d0 0, pt d1 0, Value.slice M.q0 (M.ps0.length - 1) M.c0, Value.slice M.q1 M.ps1.length M.c1, iw S.now] 77, rDv 74 d0 M.fs S.A0, rDv 74 d1 M.fs S.A1, rRowN (.slice M.q0 (M.ps0.length - 1) M.c0) (oRows (outF M.ps0 k)) 46 3, rR1 M 46, rZ M.F M.fs, rBlk b1 [Value.slice xa x.f.length xc, bo x.bad, iw x.tick] 46, rBlk b2 [Value.slice xa x.f.length xc, bo x.bad, iw x.tick] 46] ?_
  refine SC.ret ?_
  refine SE.res (.inl rfl) (resC (i := 6) Try.results54 rfl ta46 rfl rfl) fun w1 hI => ⟨rfl, ?_⟩
  rw [show M.ps0.length - 1 = (outF M.ps0 k).length from (out_len hk.1 hk.2).symm] at hI
  exact ⟨(hI.keep 6).1, hM.out0 k, fun v f h => h, fun b hb => .inl (WM.K.same0 hb), hI.2⟩
theorem take1_any {w : World} {wd d0 d1 : Nat} {M : WM} {S : Wi} {k : Int} {x : Fm} {xa : Option Addr} {xc : Nat} (hM : M.Ok S) (hn : M.ps1.length ≤ 3000000000000) (hx : M.ps1[k.toNat]? = some ⟨.slice xa x.f.length xc, x⟩) (hk : 0 ≤ k ∧ k < (M.ps1.length : Int)) (h : Sep w (WLm 74 77 46 wd d0 d1 M S.A0 S.A1 S.now)) : Calls Try.prog 54 #[pt wd 0, iw 1, iw k] w fun e w' => e = .returned (.agg #[.slice xa x.f.length xc, bo x.bad, iw x.tick]) ∧ WTo 74 77 46 w wd d0 d1 M { M with ps1 := outF M.ps1 k } (S.setL true (outF S.L1 k)) w' := by
  have hv := hM.sl1 h
  refine calls_sc (l0 := (WLm 74 77 46 wd d0 d1 M S.A0 S.A1 S.now)) (args := [pt wd 0, iw 1, iw k]) (M.G wd d0 d1) Try.func54 rfl 33 Try.ntmps54 (le_b rfl) ⟨h, Only.refl _ _⟩ ?_
  show SC _ _ _ _ [(0, pt wd 0), (1, iw 1), (2, iw k)] (WLm 74 77 46 wd d0 d1 M S.A0 S.A1 S.now)
  refine SC.sr ?_
  refine SL.alloca rfl rfl (lt_b rfl) ta46 rfl fun b1 hb1 => ?_
  refine SL.nl ?_
  refine SC.sr ?_
  refine SL.mv ?_
  refine SL.mv ?_
  refine SL.nk ?_
  refine SL.fa 2 fd77_1 ?_
  refine SL.ia 3 ar75 ?_
  refine SL.ld 0 ts56 ?_
  refine SL.mv ?_
  refine SL.uu (ru_index_rowN (ri := 4) si56 rfl rfl rfl rfl (by omega) (by omega)) ?_
  refine SL.uu (ru_loada_rowN (ri := 4) (i := k.toNat) (r := [Value.slice xa x.f.length xc, bo x.bad, iw x.tick]) ta46 rfl rfl rfl (by show (M.ps1.map FmV.row)[_]? = _; rw [List.getElem?_map, hx]; rfl) rfl rfl) ?_
  refine SL.alloca rfl rfl (lt_b rfl) ta46 rfl fun b2 hb2 => ?_
  refine SL.storea (i := 7) (vs := [Value.slice xa x.f.length xc, bo x.bad, iw x.tick]) (c' := [Value.slice xa x.f.length xc, bo x.bad, iw x.tick]) rfl rfl ta46 rfl rfl rfl rfl rfl rfl (le_b rfl) (.inr hb2) rfl ?_
  refine SL.nl ?_
  refine SC.seq ?_
  have hcb3 := CU.base (X := ⟨33, w, M.G wd d0 d1⟩) (l := [rBlk wd [pt d0 0, pt d1 0, Value.slice M.q0 M.ps0.length M.c0, Value.slice M.q1 M.ps1.length M.c1, iw S.now] 77, rDv 74 d0 M.fs S.A0, rDv 74 d1 M.fs S.A1, rRowN (.slice M.q0 M.ps0.length M.c0) (oRows M.ps0) 46 3, rRowN (.slice M.q1 M.ps1.length M.c1) (oRows M.ps1) 46 3, rZ M.F M.fs, rBlk b1 [Value.slice none 0 0, bo false, iw 0] 46, rBlk b2 [Value.slice xa x.f.length xc, bo x.bad, iw x.tick] 46]) (l2 := fun (_z : Unit) => [rBlk wd [pt d0 0, pt d1 0, Value.slice M.q0 M.ps0.length M.c0, Value.slice M.q1 M.ps1.length M.c1, iw S.now] 77, rDv 74 d0 M.fs S.A0, rDv 74 d1 M.fs S.A1, rRowN (.slice M.q0 M.ps0.length M.c0) (oRows M.ps0) 46 3, rRowN (.slice M.q1 (M.ps1.length - 1) M.c1) (oRows (outF M.ps1 k)) 46 3, rZ M.F M.fs, rBlk b1 [Value.slice none 0 0, bo false, iw 0] 46, rBlk b2 [Value.slice xa x.f.length xc, bo x.bad, iw x.tick] 46]) (p := fun (_z : Unit) => True) (k := 11) (lb := [rBlk wd [pt d0 0, pt d1 0, Value.slice M.q0 M.ps0.length M.c0, Value.slice M.q1 M.ps1.length M.c1, iw S.now] 77, rDv 74 d0 M.fs S.A0, rDv 74 d1 M.fs S.A1, rRowN (.slice M.q0 M.ps0.length M.c0) (oRows M.ps0) 46 3, rNone, rZ M.F M.fs, rBlk b1 [Value.slice none 0 0, bo false, iw 0] 46, rBlk b2 [Value.slice xa x.f.length xc, bo x.bad, iw x.tick] 46]) (fun w hI => hI.weak (i := 4) (r' := rNone) rfl (fun _ => trivial) (fun b hb => hb.elim)) (fun z w hI => hI.weak (i := 4) (r' := rNone) rfl (fun _ => trivial) (fun b hb => hb.elim))
  refine SC.region_turn (ζ := Unit) 15 11 (fun _z => [rB wd d0 d1 M S.now 77, rDv 74 d0 M.fs S.A0, rDv 74 d1 M.fs S.A1, rR0 M 46, rRowN (.slice M.q1 (M.ps1.length - 1) M.c1) (oRows (outF M.ps1 k)) 46 3, rZ M.F M.fs, rBlk b1 [Value.slice none 0 0, bo false, iw 0] 46, rBlk b2 [Value.slice xa x.f.length xc, bo x.bad, iw x.tick] 46]) (fun _z => True) (by kernel_rfl) (by kernel_rfl) rfl ?_
  refine SS.uu hcb3 (ru_move rfl rfl) ?_
  refine SS.uu hcb3 (ru_move rfl rfl) ?_
  refine SS.uu hcb3 (ru_move rfl rfl) ?_
  refine SS.uu hcb3 (ru_move rfl rfl) ?_
  refine SS.uu hcb3 (ru_nilCheck rfl rfl) ?_
  refine SS.uu hcb3 (ru_fieldAddr (o2 := 2) fd77_1 rfl rfl rfl) ?_
  refine SS.uu hcb3 (ru_indexA (o2 := 3) ar75 rfl rfl rfl (by decide) (by decide) rfl) ?_
  refine SS.uu hcb3 (ru_load (i := 0) ts56 rfl rfl rfl rfl) ?_
  refine SS.uu hcb3 (ru_move rfl rfl) ?_
  refine SS.uu hcb3 (ru_move rfl rfl) ?_
  refine SS.uu hcb3 (ru_add (r := (k + 1)) rfl rfl rfl ((by rw [IntKind.wrap_i64]; omega))) ?_
  refine SS.turnc (Value.slice M.q1 (M.ps1.length - 1) M.c1) rfl rfl co69 rfl rfl rfl (lt_b rfl) (fun w hI => (del1_ow (hI.1.get (i := 4) rfl) hv hk.1 hk.2).mono fun e w2 ⟨h1, h2, h3⟩ => ⟨(), h1, hI.upd (i := 4) rfl h3 (fun b hb => .inl (.inr (.inr (.inr (.inr hb))))) h2 (fun b hb => .inl ((own_eqw M.q1 M.ps1.length M.c1 (M.ps1.length - 1) M.c1).trans hb)), trivial⟩) ?_
  refine SS.uu hcb3 (ru_nilCheck rfl rfl) ?_
  refine SS.uu hcb3 (ru_fieldAddr (o2 := 2) fd77_1 rfl rfl rfl) ?_
  refine SS.uu hcb3 (ru_indexA (o2 := 3) ar75 rfl rfl rfl (by decide) (by decide) rfl) ?_
  refine SS.nilU ?_
  rintro ⟨⟩ _
  refine SL.store (i := 0) (c' := [pt d0 0, pt d1 0, Value.slice M.q0 M.ps0.length M.c0, Value.slice M.q1 (M.ps1.length - 1) M.c1, iw S.now]) rfl rfl ts56 rfl rfl rfl rfl rfl (lt_b rfl) (.inl (.inl rfl)) rfl ?_
  refine SL.nl ?_
  refine SC.sr ?_
  refine SL.uu (ru_loada (i := 7) (vs := [Value.slice xa x.f.length xc, bo x.bad, iw x.tick]) ta46 rfl rfl rfl rfl (le_b rfl)) ?_
  refine SL.storea (i := 6) (vs := [Value.slice xa x.f.length xc, bo x.bad, iw x.tick]) (c' := [Value.slice xa x.f.length xc, bo x.bad, iw x.tick]) rfl rfl ta46 rfl rfl rfl rfl rfl rfl (le_b rfl) (.inr hb1) rfl ?_
  refine SL.nr [rBlk wd [pt d0 0, pt d1 0, Value.slice M.q0 M.ps0.length M.c0, Value.slice M.q1 (M.ps1.length - 1) M.c1, iw S.now] 77, rDv 74 d0 M.fs S.A0, rDv 74 d1 M.fs S.A1, rR0 M 46, rRowN (.slice M.q1 (M.ps1.length - 1) M.c1) (oRows (outF M.ps1 k)) 46 3, rZ M.F M.fs, rBlk b1 [Value.slice xa x.f.length xc, bo x.bad, iw x.tick] 46, rBlk b2 [Value.slice xa x.f.length xc, bo x.bad, iw x.tick] 46] ?_
  refine SC.ret ?_
  refine SE.res (.inl rfl) (resC (i := 6) Try.results54 rfl ta46 rfl rfl) fun w1 hI => ⟨rfl, ?_⟩
  rw [show M.ps1.length - 1 = (outF M.ps1 k).length from (out_len hk.1 hk.2).symm] at hI
  exact ⟨(hI.keep 6).1, hM.out1 k, fun v f h => h, fun b hb => .inl (WM.K.same1 hb), hI.2⟩

end Go.Proofs.Ytcilikkljkdceaa

/-
  The light machine: 'copy' within a row, and out of another; a call of what the model itself answers. No program is named here.
-/
namespace Go.Proofs.Ytcilikkljkdceaa
open Go.RowKit
section
variable {P : Program} {X : Cx} {ops : Array Oper} {Q : Exit → Act → World → Prop} {rest : List Oper} {o : Oper} {m : List (Nat × Value)} {l : List Res} {d : Nat} {t t' : TypeId}
theorem SL.copyB {e ri size n1 c1 g o1 n2 c2 g2 o2 : Nat} {a1 a2 : Operand} {cs news : List Value} (hg : o.guard = none) (hd : o.dst = some d) (hn : d < X.n) (ho : o.op = .call { callee := .builtin .copy, args := #[a1, a2], argTypes := #[t, t] })
    (ht : P.underlying t = some (.slice e)) (hz : (P.info? e).map (·.size) = some size) (h1 : evM m a1 = some (.slice (some ⟨g, o1, none⟩) n1 c1)) (h2 : evM m a2 = some (.slice (some ⟨g2, o2, none⟩) n2 c2)) (hi : l[ri]? = some (rBlk g cs e)) (hl : news.length = Nat.min n2 n1 * size)
    (hnews : ∀ w, Inv X w l → ∀ j u, news[j]? = some u → w.cell? ⟨g2, o2 + j, none⟩ = some u) (hone : ∀ u ∈ news, u.oneCell' = true) (hfit : o1 + news.length ≤ cs.length) (hS : X.S g ∨ X.w0.heap.size ≤ g)
    (k : SL P X ops Q rest ((d, iw ((Nat.min n2 n1 : Nat) : Int)) :: m) (l.set ri (rBlk g (cs.take o1 ++ news ++ cs.drop (o1 + news.length)) e))) : SL P X ops Q (o :: rest) m l := fun a w hf hI =>
  wpList_plain hg fun K' hK => by
    have hb : Blk w g cs e := hI.1.get hi
    obtain ⟨inf, hinf, hsz⟩ := map_some hz
    have hld := run_loadCells_list (P := P) w ⟨g2, o2, none⟩ news (fun j u hj => by rw [add_at]; exact hnews w hI j u hj)
    have hst := run_storeCells_at P g o1 e news 0 cs.toArray w hb (by simpa using hfit) hone
    have hcp : (Builtin.copy_ #[t, t] o.type #[.slice (some ⟨g, o1, none⟩) n1 c1, .slice (some ⟨g2, o2, none⟩) n2 c2]).run P w = .ok (iw ((Nat.min n2 n1 : Nat) : Int)) (w.setRow g (cs.take o1 ++ news ++ cs.drop (o1 + news.length)).toArray) := by
      rw [Nat.add_zero] at hst
      simp [Builtin.copy_, run_underlying ht, Builtin.lenOf, Builtin.firstCells, sizeOf, typeInfo, hinf, hsz, ← hl, hld, hst]
      rfl
    unfold Oper.wp execOp
    rw [ho]
    have he : #[a1, a2].map a.eval = #[.slice (some ⟨g, o1, none⟩) n1 c1, .slice (some ⟨g2, o2, none⟩) n2 c2] := by simp [hf.ev h1, hf.ev h2]
    simp only [resolve, he, Sem.run_bind, Sem.run_pure, Result.andThen_ok, invoke, builtin, hcp, Oper.upon_value, hd]
    refine hK _ _ (k _ _ (hf.put hn _) (hI.upd hi ⟨rfl, rfl, rfl, by simp [World.setRow], fun k' _ hk' => setRow_other w g k' _ hk'⟩ (fun b' hb' => by cases hb'; exact hS) ?_ (fun b' hb' => .inl hb')))
    have := setRow_heap w g cs.toArray ((cs.take o1 ++ news ++ cs.drop (o1 + news.length))).toArray e (0, 0) hb
    show Blk _ g _ e
    unfold Blk
    simpa using this
theorem ru_cap {e : TypeId} {a1 : Operand} {q : Option Addr} {n c : Nat} (ht : P.underlying t = some (.slice e)) (ho : o.op = .call { callee := .builtin .cap, args := #[a1], argTypes := #[t] }) (h1 : evM m a1 = some (.slice q n c)) : Ru P X o m l (iw (c : Int)) := fun a w hf _ => by
  unfold execOp; rw [ho]
  simp [resolve, hf.ev h1, invoke, builtin, Builtin.cap_, run_underlying ht, goInt]
theorem ru_apart {f : FuncId} {fn : Func} {a1 a2 : Operand} {tR e : TypeId} {size vb o1 n1 c1 g o2 n2 c2 rv rg : Nat} {cv cg : List Value} {aT : Array TypeId} (hf : P.funcs[f]? = some fn) (hname : (fn.name == "runtime.NumGoroutine") = false) (hb : fn.body.isNone = true) (hn : Extern.findNext fn = none) (he : Extern.find fn = some (Extern.SlicesOverlaps.overlaps #[t, t] #[tR]))
    (ht : P.underlying t = some (.slice e)) (hz : (P.info? e).map (·.size) = some size) (ho : o.op = .call { callee := .value (.func f), args := #[a1, a2], argTypes := aT }) (h1 : evM m a1 = some (.slice (some ⟨vb, o1, none⟩) n1 c1)) (h2 : evM m a2 = some (.slice (some ⟨g, o2, none⟩) n2 c2))
    (hv : l[rv]? = some (rBlk vb cv e)) (hg : l[rg]? = some (rBlk g cg e)) (hne : vb ≠ g) (hcg : cg ≠ []) : Ru P X o m l (.bool false) := fun a w hfr hI => by
  have hbv : Blk w vb cv e := hI.1.get hv
  have hbg : Blk w g cg e := hI.1.get hg
  obtain ⟨inf, hinf, hsz⟩ := map_some hz
  have hr := Lib.run_overlaps_apart w t tR e ht size (fun w => by simp [sizeOf, typeInfo, hinf, hsz]) ⟨vb, o1, none⟩ ⟨g, o2, none⟩ n1 c1 n2 c2 hne e e cv.length cg.length (by unfold World.shape?; unfold Blk at hbv; simp [hbv]) (by unfold World.shape?; unfold Blk at hbg; simp [hbg]) (by simpa using hcg) (hbv.fz _) (hbv.fz _)
  unfold execOp; rw [ho]
  have hc := run_callFunc_extern hf hname hb hn he #[.slice (some ⟨vb, o1, none⟩) n1 c1, .slice (some ⟨g, o2, none⟩) n2 c2] w
  rw [hr] at hc
  simp only [Result.andThen_ok] at hc
  have he' : #[a1, a2].map a.eval = #[.slice (some ⟨vb, o1, none⟩) n1 c1, .slice (some ⟨g, o2, none⟩) n2 c2] := by simp [hfr.ev h1, hfr.ev h2]
  have hf0 : a.eval (.func f) = .func (.func f) #[] #[] := rfl
  simp [resolve, he', hf0, Deferred.ofValue, invoke, hc]
end
end Go.Proofs.Ytcilikkljkdceaa

/-
  The light machine: a drawn region, gone through order by order: what but reckons is taken as soon as it is ready; where one operation alone is ready, it comes; where several are, each may. No program is named here.
-/
namespace Go.Proofs.Ytcilikkljkdceaa
open Go.RowKit
def nK (K : Act → World → Prop) : Exit → Act → World → Prop
  | .normal, a, w => K a w
  | _, _, _ => False
section
variable {P : Program} {X : Cx} {ops : Array Oper} {Q : Exit → Act → World → Prop} {m : List (Nat × Value)} {l : List Res} {listed : Array Bool} {fuel : Nat}
theorem wpOp_one {i : Nat} {o : Oper} {K : Act → World → Prop} {a : Act} {w : World} (ho : ops[i]? = some o) (h : wpList P ops (nK K) [o] a w) : wpOp P ops (onlyN Q) i K a w := by
  have up : ∀ {o : Oper} {a : Act} {w : World}, (o.wp P a w (wpList P ops (nK K) []) (nK K) ∨ (o.asks P a w ∧ LetsOut (nK K))) → (o.wp P a w K (onlyN Q) ∨ (o.asks P a w ∧ LetsOut (onlyN Q))) := by
    intro o a w h
    rcases h with h | ⟨_, ⟨a, w, h⟩⟩
    · left
      unfold Oper.wp at h ⊢
      generalize (execOp a.eval o).run P w = r at *
      cases r with
      | ok n w' =>
        cases n <;> simp only [Oper.upon] at h ⊢ <;> first | exact h | exact h.elim | skip
      | halt x w' => cases x <;> simp only [Oper.upon] at h ⊢ <;> exact h.elim
    · exact h.elim
  unfold wpOp
  unfold wpList at h
  simp only [ho]
  split
  · rename_i hw; rw [if_pos hw] at h; exact up h
  · rename_i hw; rw [if_neg hw] at h; exact h
def SA (P : Program) (X : Cx) (ops : Array Oper) (Q : Exit → Act → World → Prop) (fuel : Nat) (listed : Array Bool) (m : List (Nat × Value)) (l : List Res) : Prop := ∀ a w, Fr X.n a m → Inv X w l → wpAny P .any ops (onlyN Q) fuel listed a w
theorem SC.region_any {id : Nat} {L : List Oper} (hm : P.follows .mixedOrders = true) (h : SA P X L.toArray Q L.length (Array.replicate L.length false) m l) : SC P X (.region id L.toArray true) Q m l := fun a w hf hi => by
  refine wp_region_any hm (onlyN_mono _ _ _ _ ?_)
  have := h a _ hf hi.draw1
  simpa using this
theorem SA.done (hr : Region.ready .any ops listed = []) (h : SE X Q .normal m l) : SA P X ops Q fuel listed m l := fun a w hf hi => wpAny_done (Q := onlyN Q) hr (h a w hf hi) fuel
theorem SA.take {d : Nat} {v : Value} {o : Oper} (i : Nat) (ho : ops[i]? = some o) (hs : Region.noSelect ops = true) (hf : Region.free .any ops listed i = true) (hr : (Region.ready .any ops listed).contains i = true) (hg : o.guard = none) (hd : o.dst = some d) (hn : d < X.n)
    (hru : ∀ w, Ru P ⟨X.n, w, fun _ => True⟩ o m [] v) (k : SA P X ops Q fuel (listed.setIfInBounds i true) ((d, v) :: m) l) : SA P X ops Q (fuel + 1) listed m l := fun a w hfr hi =>
  wpAny_take ho hs hf hr (fun c a w h => h.elim) (.inl ⟨by simp [Region.wanted, hg], fun w' => hru w' a w' hfr ⟨⟨fun r hr => by simp at hr, List.Pairwise.nil⟩, Only.refl _ _⟩⟩) (by rw [hd]; exact k _ w (hfr.put hn v) hi)
theorem SA.one {o : Oper} (i : Nat) (ho : ops[i]? = some o) (hr : Region.ready .any ops listed = [i]) (h : SL P X ops (nK (wpAny P .any ops (onlyN Q) fuel (listed.setIfInBounds i true))) [o] m l) : SA P X ops Q (fuel + 1) listed m l := fun a w hf hi =>
  wpAny_all hr (by simp) fun j hj => by
    obtain rfl : j = i := by simpa using hj
    exact wpOp_one ho (h a w hf hi)
theorem SA.two {o1 o2 : Oper} (i j : Nat) (h1 : ops[i]? = some o1) (h2 : ops[j]? = some o2) (hr : Region.ready .any ops listed = [i, j]) (k1 : SL P X ops (nK (wpAny P .any ops (onlyN Q) fuel (listed.setIfInBounds i true))) [o1] m l)
    (k2 : SL P X ops (nK (wpAny P .any ops (onlyN Q) fuel (listed.setIfInBounds j true))) [o2] m l) : SA P X ops Q (fuel + 1) listed m l := fun a w hf hi =>
  wpAny_all hr (by simp) fun k hk => by
    rcases List.mem_cons.1 hk with rfl | hk
    · exact wpOp_one h1 (k1 a w hf hi)
    · obtain rfl : k = j := by simpa using hk
      exact wpOp_one h2 (k2 a w hf hi)
theorem SA.se (h : SA P X ops Q fuel listed m l) : SE X (nK (wpAny P .any ops (onlyN Q) fuel listed)) .normal m l := fun a w hf hi => h a w hf hi
theorem SA.norm (m' : List (Nat × Value)) (l' : List Res) (hm : Subs m m') (hl : l = l') (h : SA P X ops Q fuel listed m' l') : SA P X ops Q fuel listed m l := fun a w hf hi => h a w (hf.sub hm) (hl ▸ hi)
theorem SA.same {l2 : Array Bool} (e : listed = l2) (h : SA P X ops Q fuel l2 m l) : SA P X ops Q fuel listed m l := e ▸ h
theorem SA.lets {ζ : Type} (m2 : ζ → List (Nat × Value)) (r2 : ζ → List Res) (p : ζ → Prop) (f2 : Nat) (l2 : Array Bool) (hj : ∀ z, p z → SA P X ops Q f2 l2 (m2 z) (r2 z)) (h : (∀ z, p z → SA P X ops Q f2 l2 (m2 z) (r2 z)) → SA P X ops Q fuel listed m l) : SA P X ops Q fuel listed m l := h hj
end
end Go.Proofs.Ytcilikkljkdceaa

/-
  Insert of one frame.
-/
namespace Go.Proofs.Ytcilikkljkdceaa
open Go.RowKit
set_option maxRecDepth 100000
set_option maxHeartbeats 4000000
def insA (cs : List Value) (i n : Nat) : List Value := cs.take ((i + 1) * 3) ++ (cs.drop (i * 3)).take ((n - i) * 3) ++ cs.drop ((i + 1) * 3 + ((cs.drop (i * 3)).take ((n - i) * 3)).length)
def insB (cs : List Value) (i n : Nat) (vs : List Value) : List Value := (insA cs i n).take (i * 3) ++ vs ++ (insA cs i n).drop (i * 3 + vs.length)
theorem insA_len {cs : List Value} {i n c : Nat} (hcl : cs.length = c * 3) (hin : i < n) (hroom : n + 1 ≤ c) : (insA cs i n).length = c * 3 := by
  unfold insA
  simp only [List.length_append, List.length_take, List.length_drop, hcl]
  omega
theorem ins_news {w : World} {g i n q : Nat} {cs : List Value} {e : TypeId} {u : Value} (hb : Blk w g cs e) (hq : ((cs.drop (i * 3)).take ((n - i) * 3))[q]? = some u) : w.cell? ⟨g, i * 3 + q, none⟩ = some u := by
  rw [hb.cell]
  rw [List.getElem?_take] at hq
  split at hq
  · rw [List.getElem?_drop] at hq; exact hq
  · cases hq
theorem ins_blk {w : World} {g vb i n c : Nat} {cs : List Value} {v0 v1 v2 : Value} (hb : Sep w [rBlk g cs 46, rBlk vb [v0, v1, v2] 46]) (hne : vb ≠ g) (hin : i < n) (hroom : n + 1 ≤ c) (hcm : c ≤ maxLen) (hcl : cs.length = c * 3) (hone : ∀ u ∈ (cs.drop (i * 3)).take ((n - i) * 3), u.oneCell' = true) (hvo : ∀ u ∈ [v0, v1, v2], u.oneCell' = true) :
    Calls Try.prog 55 #[sl g 0 n c, iw (i : Int), sl vb 0 1 1] w fun e w' => e = .returned (sl g 0 (n + 1) c) ∧ Blk w' g (insB cs i n [v0, v1, v2]) 46 ∧ Only (fun b => b = g) w w' := by
  unfold maxLen at hcm
  have hcs : cs ≠ [] := fun e => by subst e; simp at hcl; omega
  refine calls_sc (l0 := [rBlk g cs 46, rBlk vb [v0, v1, v2] 46]) (args := [sl g 0 n c, iw (i : Int), sl vb 0 1 1]) (fun b => b = g) Try.func55 rfl 95 Try.ntmps55 (le_b rfl) ⟨hb, Only.refl _ _⟩ ?_
  show SC _ _ _ _ [(0, sl g 0 n c), (1, iw (i : Int)), (2, sl vb 0 1 1)] [rBlk g cs 46, rBlk vb [v0, v1, v2] 46]
  refine SC.sr ?_
  refine SL.as ?_
  refine SL.nr [rBlk g cs 46, rBlk vb [v0, v1, v2] 46] ?_
  refine SC.sr ?_
  refine SL.mv ?_
  refine SL.mv ?_
  refine SL.uu (ru_sliceV (size := 3) (l0 := i) (h0 := n) (m0 := c) (v := sl g ((i) * 3) (n - (i)) (c - (i))) (by rw [if_neg (by omega), Option.map_some, add_at, Nat.zero_add]) si56 rfl rfl rfl rfl (show some (iw ((i : Int))) = some (iw (((i : Nat) : Int))) by simp) (by simp) (by omega) (by omega) (by omega)) ?_
  refine SL.nl ?_
  refine SC.sr ?_
  refine SL.mv ?_
  refine SL.uu (ru_len Try.underlying56 rfl rfl) ?_
  refine SL.as ?_
  refine SL.nl ?_
  refine SC.seq ?_
  refine SC.sr ?_
  refine SL.mv ?_
  refine SL.uu (ru_eq (b := false) rfl rfl rfl rfl) ?_
  refine SL.nl ?_
  refine SC.no rfl ?_
  refine SC.skip ?_
  refine SC.of_SE ?_
  refine SC.sr ?_
  refine SL.mv ?_
  refine SL.uu (ru_len Try.underlying56 rfl rfl) ?_
  refine SL.as ?_
  refine SL.nl ?_
  refine SC.seq ?_
  refine SC.sr ?_
  refine SL.mv ?_
  refine SL.mv ?_
  refine SL.uu (ru_eq (b := (((i : Int) : Int) == (n : Int))) rfl rfl rfl rfl) ?_
  refine SL.nl ?_
  refine SC.no (show some (Value.bool (((i : Int) : Int) == (n : Int))) = some (Value.bool false) from congrArg (fun x => some (Value.bool x)) (beq_eq_false_iff_ne.2 (by omega))) ?_
  refine SC.skip ?_
  refine SC.of_SE ?_
  refine SC.seq ?_
  refine SC.sr ?_
  refine SL.mv ?_
  refine SL.mv ?_
  refine SL.uu (ru_add (r := ((n : Int) + 1)) rfl rfl rfl ((by rw [IntKind.wrap_i64]; omega))) ?_
  refine SL.mv ?_
  refine SL.uu (ru_cap Try.underlying56 rfl rfl) ?_
  refine SL.uu (ru_gt (b := (decide (((c : Int) : Int) < ((n : Int) + 1)))) rfl rfl rfl rfl) ?_
  refine SL.nl ?_
  refine SC.no (show some (Value.bool (decide (((c : Int) : Int) < ((n : Int) + 1)))) = some (Value.bool false) from congrArg (fun x => some (Value.bool x)) (decide_eq_false (by omega))) ?_
  refine SC.skip ?_
  refine SC.of_SE ?_
  refine SC.sr ?_
  refine SL.mv ?_
  refine SL.mv ?_
  refine SL.mv ?_
  refine SL.uu (ru_add (r := ((n : Int) + 1)) rfl rfl rfl ((by rw [IntKind.wrap_i64]; omega))) ?_
  refine SL.uu (ru_sliceV (size := 3) (l0 := 0) (h0 := n + 1) (m0 := c) (v := sl g 0 (n + 1) c) (by rw [if_neg (by omega)]; rfl) si56 rfl rfl rfl (show some (iw ((n : Int) + 1)) = some (iw (((n + 1 : Nat) : Int))) by simp) rfl (by simp) (by omega) (by omega) (by omega)) ?_
  refine SL.as ?_
  refine SL.nl ?_
  refine SC.seq ?_
  refine SC.sr ?_
  refine SL.mv ?_
  refine SL.mv ?_
  refine SL.mv ?_
  refine SL.mv ?_
  refine SL.uu (ru_add (r := ((i : Int) + 1)) rfl rfl rfl ((by rw [IntKind.wrap_i64]; omega))) ?_
  refine SL.uu (ru_sliceV (size := 3) (l0 := i + 1) (h0 := (n + 1)) (m0 := c) (v := sl g ((i + 1) * 3) ((n + 1) - (i + 1)) (c - (i + 1))) (by rw [if_neg (by omega), Option.map_some, add_at, Nat.zero_add]) si56 rfl rfl rfl rfl (show some (iw ((i : Int) + 1)) = some (iw (((i + 1 : Nat) : Int))) by simp) (by simp) (by omega) (by omega) (by omega)) ?_
  refine SL.uu (ru_apart (rv := 1) (rg := 0) (size := 3) (tR := 4) Try.func70 (by kernel_rfl) (by kernel_rfl) (by kernel_rfl) (by kernel_rfl) Try.underlying56 (by kernel_rfl) rfl rfl rfl rfl rfl hne hcs) ?_
  refine SL.uu (ru_not (c := true) rfl rfl rfl) ?_
  refine SL.nl ?_
  refine SC.yes rfl ?_
  refine SC.seq ?_
  refine SC.region_any (by kernel_rfl) ?_
  refine SA.take 0 rfl (by kernel_rfl) (by kernel_rfl) (by kernel_rfl) rfl rfl (lt_b rfl) (fun _ => ru_move rfl rfl) ?_
  refine SA.take 1 rfl (by kernel_rfl) (by kernel_rfl) (by kernel_rfl) rfl rfl (lt_b rfl) (fun _ => ru_move rfl rfl) ?_
  refine SA.take 2 rfl (by kernel_rfl) (by kernel_rfl) (by kernel_rfl) rfl rfl (lt_b rfl) (fun _ => ru_move rfl rfl) ?_
  refine SA.take 3 rfl (by kernel_rfl) (by kernel_rfl) (by kernel_rfl) rfl rfl (lt_b rfl) (fun _ => ru_add (r := ((i : Int) + 1)) rfl rfl rfl ((by rw [IntKind.wrap_i64]; omega))) ?_
  refine SA.take 4 rfl (by kernel_rfl) (by kernel_rfl) (by kernel_rfl) rfl rfl (lt_b rfl) (fun _ => ru_sliceV (size := 3) (l0 := i + 1) (h0 := (n + 1)) (m0 := c) (v := sl g ((i + 1) * 3) ((n + 1) - (i + 1)) (c - (i + 1))) (by rw [if_neg (by omega), Option.map_some, add_at, Nat.zero_add]) si56 rfl rfl rfl rfl (show some (iw ((i : Int) + 1)) = some (iw (((i + 1 : Nat) : Int))) by simp) (by simp) (by omega) (by omega) (by omega)) ?_
  refine SA.take 5 rfl (by kernel_rfl) (by kernel_rfl) (by kernel_rfl) rfl rfl (lt_b rfl) (fun _ => ru_move rfl rfl) ?_
  refine SA.take 6 rfl (by kernel_rfl) (by kernel_rfl) (by kernel_rfl) rfl rfl (lt_b rfl) (fun _ => ru_move rfl rfl) ?_
  refine SA.take 7 rfl (by kernel_rfl) (by kernel_rfl) (by kernel_rfl) rfl rfl (lt_b rfl) (fun _ => ru_sliceV (size := 3) (l0 := i) (h0 := (n + 1)) (m0 := c) (v := sl g ((i) * 3) ((n + 1) - (i)) (c - (i))) (by rw [if_neg (by omega), Option.map_some, add_at, Nat.zero_add]) si56 rfl rfl rfl rfl (show some (iw ((i : Int))) = some (iw (((i : Nat) : Int))) by simp) (by simp) (by omega) (by omega) (by omega)) ?_
  refine SA.one 8 rfl (by kernel_rfl) ?_
  refine SL.copyB (ri := 0) (size := 3) (news := ((cs.drop (i * 3)).take ((n - i) * 3))) rfl rfl (lt_b rfl) rfl Try.underlying56 (by kernel_rfl) rfl rfl rfl (by rw [List.length_take, List.length_drop, hcl]; show _ = min _ _ * 3; omega) (fun w hI q u hq => ins_news (hI.1.get (i := 0) rfl) hq) hone (by rw [List.length_take, List.length_drop, hcl]; omega) (.inl rfl) ?_
  refine SL.nil ?_
  refine SA.se ?_
  refine SA.done (by kernel_rfl) ?_
  refine SC.of_SE ?_
  refine SC.nr [rBlk g (insA cs i n) 46, rBlk vb [v0, v1, v2] 46] ?_
  refine SC.sr ?_
  refine SL.mv ?_
  refine SL.mv ?_
  refine SL.uu (ru_sliceV (size := 3) (l0 := i) (h0 := (n + 1)) (m0 := c) (v := sl g ((i) * 3) ((n + 1) - (i)) (c - (i))) (by rw [if_neg (by omega), Option.map_some, add_at, Nat.zero_add]) si56 rfl rfl rfl rfl (show some (iw ((i : Int))) = some (iw (((i : Nat) : Int))) by simp) (by simp) (by omega) (by omega) (by omega)) ?_
  refine SL.mv ?_
  refine SL.copyB (ri := 0) (size := 3) (news := [v0, v1, v2]) rfl rfl (lt_b rfl) rfl Try.underlying56 (by kernel_rfl) rfl rfl rfl (by show 3 = min _ _ * 3; omega) (fun w hI q u hq => (by have hb : Blk w vb [v0, v1, v2] 46 := hI.1.get (i := 1) rfl; rw [Nat.zero_add, hb.cell]; exact hq)) hvo (by rw [insA_len hcl (by omega) (by omega)]; show _ + 3 ≤ _; omega) (.inl rfl) ?_
  refine SL.nr [rBlk g (insB cs i n [v0, v1, v2]) 46, rBlk vb [v0, v1, v2] 46] ?_
  refine SC.sr ?_
  refine SL.mv ?_
  refine SL.as ?_
  refine SL.nl ?_
  refine SC.ret ?_
  refine SE.passr ?_
  refine SE.res (.inl rfl) (res1 Try.results55 rfl) fun w1 hI => ⟨rfl, hI.1.get (i := 0) rfl, hI.2⟩
theorem ins_end {w : World} {q : Option Addr} {vb n c : Nat} {rs : List (List Value)} {v0 v1 v2 : Value} (hb : Sep w [rRowN (.slice q n c) rs 46 3, rBlk vb [v0, v1, v2] 46]) (hnc : n ≤ c) (hrl : rs.length = n) (hn : n ≤ 3000000000000) (hvo : ∀ u ∈ [v0, v1, v2], u.oneCell' = true) :
    Calls Try.prog 55 #[.slice q n c, iw (n : Int), sl vb 0 1 1] w fun e w' => ∃ q' c', e = .returned (.slice q' (n + 1) c') ∧ RowsN w' (.slice q' (n + 1) c') (rs ++ [[v0, v1, v2]]) 46 3 ∧ (∀ b, (Value.slice q' (n + 1) c').ownBlock = some b → (Value.slice q n c).ownBlock = some b ∨ w.heap.size ≤ b) ∧ Only (fun b => (Value.slice q n c).ownBlock = some b) w w' := by
  have hva : [v0, v1, v2].all (·.oneCell') = true := List.all_eq_true.2 hvo
  refine calls_sc (l0 := [rRowN (.slice q n c) rs 46 3, rBlk vb [v0, v1, v2] 46]) (args := [Value.slice q n c, iw (n : Int), sl vb 0 1 1]) (fun b => (Value.slice q n c).ownBlock = some b) Try.func55 rfl 95 Try.ntmps55 (le_b rfl) ⟨hb, Only.refl _ _⟩ ?_
  show SC _ _ _ _ [(0, Value.slice q n c), (1, iw (n : Int)), (2, sl vb 0 1 1)] [rRowN (.slice q n c) rs 46 3, rBlk vb [v0, v1, v2] 46]
  refine SC.sr ?_
  refine SL.as ?_
  refine SL.nr [rRowN (.slice q n c) rs 46 3, rBlk vb [v0, v1, v2] 46] ?_
  refine SC.sr ?_
  refine SL.mv ?_
  refine SL.mv ?_
  refine SL.uu (ru_sliceV (size := 3) (l0 := n) (h0 := n) (m0 := c) rfl si56 rfl rfl rfl rfl rfl (by simp) (by omega) (by omega) (by omega)) ?_
  refine SL.nl ?_
  refine SC.sr ?_
  refine SL.mv ?_
  refine SL.uu (ru_len Try.underlying56 rfl rfl) ?_
  refine SL.as ?_
  refine SL.nl ?_
  refine SC.seq ?_
  refine SC.sr ?_
  refine SL.mv ?_
  refine SL.uu (ru_eq (b := false) rfl rfl rfl rfl) ?_
  refine SL.nl ?_
  refine SC.no rfl ?_
  refine SC.skip ?_
  refine SC.of_SE ?_
  refine SC.sr ?_
  refine SL.mv ?_
  refine SL.uu (ru_len Try.underlying56 rfl rfl) ?_
  refine SL.as ?_
  refine SL.nl ?_
  refine SC.seq ?_
  refine SC.sr ?_
  refine SL.mv ?_
  refine SL.mv ?_
  refine SL.uu (ru_eq (b := true) rfl rfl rfl (by simp)) ?_
  refine SL.nl ?_
  refine SC.yes rfl ?_
  refine SC.sr ?_
  refine SL.mv ?_
  refine SL.mv ?_
  refine SL.append_rowN (ri := 0) (rj := 1) (size := 3) (r := [v0, v1, v2]) (z := Value.agg #[Value.slice none 0 0, bo false, iw 0]) (bytes := 40) rfl rfl (lt_b rfl) rfl (by decide) Try.underlying56 (by kernel_rfl) rfl hva rfl rfl rfl rfl rfl (by omega) (by unfold maxLen; omega) (fun b hb => .inl hb) fun q9 c9 h9 => ?_
  refine SL.as ?_
  refine SL.nr [rRowN (.slice q9 (n + 1) c9) (rs ++ [[v0, v1, v2]]) 46 3, rBlk vb [v0, v1, v2] 46] ?_
  refine SC.ret ?_
  refine SE.passr ?_
  refine SE.res (.inl rfl) (res1 Try.results55 rfl) fun w1 hI => ⟨q9, c9, rfl, hI.1.get (i := 0) rfl, h9, hI.2⟩

theorem ins_ow {w : World} {q : Option Addr} {vb n c : Nat} {to : Int} {rs : List (List Value)} {v0 v1 v2 : Value} (hb : Sep w [rRowN (.slice q n c) rs 46 3, rBlk vb [v0, v1, v2] 46]) (hone : ∀ r ∈ rs, ∀ u ∈ r, u.oneCell' = true) (hvo : ∀ u ∈ [v0, v1, v2], u.oneCell' = true) (hn : n ≤ 3000000000000) (hroom : n + 1 ≤ c) (h0 : 0 ≤ to) (h1 : to ≤ (n : Int)) :
    Calls Try.prog 55 #[.slice q n c, iw to, sl vb 0 1 1] w fun e w' => ∃ q' c', e = .returned (.slice q' (n + 1) c') ∧ RowsN w' (.slice q' (n + 1) c') (insF rs to [v0, v1, v2]) 46 3 ∧ (∀ b, (Value.slice q' (n + 1) c').ownBlock = some b → (Value.slice q n c).ownBlock = some b ∨ w.heap.size ≤ b) ∧ Only (fun b => (Value.slice q n c).ownBlock = some b) w w' := by
  have hR : RowsN w (.slice q n c) rs 46 3 := hb.get (i := 0) rfl
  obtain ⟨hrl, h2⟩ := rowN_form hR
  by_cases e : to = (n : Int)
  · subst e
    have e9 : insF rs (n : Int) [v0, v1, v2] = rs ++ [[v0, v1, v2]] := by unfold insF; rw [Int.toNat_natCast, List.take_of_length_le (by omega), List.drop_of_length_le (by omega)]
    rw [e9]
    exact ins_end hb (by omega) hrl.symm hn hvo
  · obtain ⟨i, rfl⟩ := Int.eq_ofNat_of_zero_le h0
    subst hrl
    obtain ⟨g, cur, rfl, h3, h4, h5, h6, h7⟩ := h2 (by omega)
    clear h2
    have hbl : Blk w g cur.toList 46 := by unfold Blk; simpa using h3
    have hcl : cur.toList.length = c * 3 := by rw [Array.length_toList]; exact h6
    have hfl := flat_len hR.1
    have hne : vb ≠ g := fun e => (List.pairwise_cons.1 hb.2).1 (rBlk vb [v0, v1, v2] 46) (by simp) g rfl e.symm
    have hN : (cur.toList.drop (i * 3)).take ((rs.length - i) * 3) = rs.flatten.drop (i * 3) := by
      rw [← h7, List.drop_take]; congr 1; omega
    refine (ins_blk (i := i) ⟨fun r hr => ?_, List.pairwise_pair.2 fun b hb1 hb2 => hne (hb2.symm.trans hb1)⟩ hne (by omega) hroom h5 hcl (fun u hu => ?_) hvo).mono ?_
    · simp only [List.mem_cons, List.not_mem_nil, or_false] at hr
      rcases hr with rfl | rfl
      · exact hbl
      · exact hb.get (i := 1) rfl
    · rw [hN] at hu
      obtain ⟨r, hr, hur⟩ := List.mem_flatten.1 (List.mem_of_mem_drop hu)
      exact hone r hr u hur
    · rintro e w' ⟨rfl, k1, k2⟩
      have hflat : ∀ (rs : List (List Value)), (∀ r ∈ rs, r.length = 3) → ∀ k, rs.flatten.take (k * 3) = (rs.take k).flatten ∧ rs.flatten.drop (k * 3) = (rs.drop k).flatten := by
        intro rs hr
        induction rs with
        | nil => intro k; simp
        | cons r rs ih =>
          intro k
          have hr0 := hr r (by simp)
          cases k with
          | zero => simp
          | succ k =>
            have := ih (fun r h => hr r (by simp [h])) k
            rw [List.flatten_cons, List.take_append, List.drop_append, List.take_succ_cons, List.drop_succ_cons, List.flatten_cons, show (k + 1) * 3 - r.length = k * 3 by omega, this.1, this.2, List.take_of_length_le (by omega), List.drop_eq_nil_of_le (by omega)]
            exact ⟨rfl, by simp⟩
      have hlen : (insF rs (i : Int) [v0, v1, v2]).length = rs.length + 1 := ins_len (by omega) (by omega)
      have hmem : ∀ r ∈ insF rs (i : Int) [v0, v1, v2], r.length = 3 := fun r hr => by
        rcases mem_ins hr with hr | rfl
        · exact hR.1 r hr
        · rfl
      have hil : (insA cur.toList i rs.length).length = c * 3 := insA_len hcl (by omega) hroom
      refine ⟨_, _, rfl, ⟨hmem, flat_len hmem, .inr ⟨g, c, (insB cur.toList i rs.length [v0, v1, v2]).toArray, by rw [hlen], Nat.zero_le _, k1, by rw [hlen]; exact hroom, h5, ?_, ?_⟩⟩, fun b hb => .inl hb, k2.mono (fun b hb => .inl (by rw [hb]; rfl))⟩
      · unfold insB
        simp only [List.size_toArray, List.length_append, List.length_take, List.length_drop, hil, List.length_cons, List.length_nil]
        omega
      · rw [hlen]
        have e1 : insF rs (i : Int) [v0, v1, v2] = rs.take i ++ [v0, v1, v2] :: rs.drop i := by unfold insF; rw [Int.toNat_natCast]
        rw [e1, List.flatten_append, List.flatten_cons, ← (hflat rs hR.1 i).1, ← (hflat rs hR.1 i).2]
        have hT : cur.toList.take (i * 3) = rs.flatten.take (i * 3) := by
          rw [← h7, List.take_take]; congr 1; omega
        have eA1 : (insA cur.toList i rs.length).take (i * 3) = rs.flatten.take (i * 3) := by
          unfold insA
          rw [List.append_assoc, List.take_append_of_le_length (by rw [List.length_take]; omega), List.take_take, show min (i * 3) ((i + 1) * 3) = i * 3 by omega, hT]
        have eA2 : (insA cur.toList i rs.length).drop (i * 3 + 3) = rs.flatten.drop (i * 3) ++ cur.toList.drop ((i + 1) * 3 + ((cur.toList.drop (i * 3)).take ((rs.length - i) * 3)).length) := by
          unfold insA
          rw [List.append_assoc, show i * 3 + 3 = (i + 1) * 3 by omega, List.drop_append, List.length_take, show (i + 1) * 3 - min ((i + 1) * 3) cur.toList.length = 0 by omega, List.drop_of_length_le (by rw [List.length_take]; omega), hN]
          rfl
        unfold insB
        rw [eA1, show [v0, v1, v2].length = 3 from rfl, eA2]
        show List.take _ ((rs.flatten.take (i * 3) ++ [v0, v1, v2]) ++ (rs.flatten.drop (i * 3) ++ _)) = _
        rw [← List.append_assoc, List.take_left' (by simp only [List.length_append, List.length_take, List.length_drop, hfl, List.length_cons, List.length_nil]; omega), List.append_assoc]

end Go.Proofs.Ytcilikkljkdceaa

/-
  Moving a frame.
-/
namespace Go.Proofs.Ytcilikkljkdceaa
open Go.RowKit
set_option maxRecDepth 100000
set_option maxHeartbeats 4000000
theorem move0_any {w : World} {wd d0 d1 : Nat} {M : WM} {S : Wi} {k to : Int} (hM : M.Ok S) (hn : M.ps0.length ≤ 3000000000000) (h : Sep w (WLm 74 77 46 wd d0 d1 M S.A0 S.A1 S.now)) : Calls Try.prog 22 #[pt wd 0, iw 0, iw k, iw to] w fun e w' => e = .returned (iw (moveF S false k to).1) ∧ ∃ M', WTo 74 77 46 w wd d0 d1 M M' (moveF S false k to).2 w' := by
  refine calls_sc (l0 := (WLm 74 77 46 wd d0 d1 M S.A0 S.A1 S.now)) (args := [pt wd 0, iw 0, iw k, iw to]) (M.G wd d0 d1) Try.func22 rfl 56 Try.ntmps22 (le_b rfl) ⟨h, Only.refl _ _⟩ ?_
  show SC _ _ _ _ [(0, pt wd 0), (1, iw 0), (2, iw k), (3, iw to)] (WLm 74 77 46 wd d0 d1 M S.A0 S.A1 S.now)
  refine SC.sr ?_
  refine SL.as ?_
  refine SL.nl ?_
  refine SC.sr ?_
  refine SL.mv ?_
  refine SL.mv ?_
  refine SL.mv ?_
  refine SL.callv (Value.tuple #[thereP M.q0 M.ps0 k, iw (thereF M.ps0 k)]) rfl rfl co34 rfl rfl rfl (lt_b rfl) (fun w hI => H_only hI (there0_any ((hI.keep 6).1))) ?_
  refine SL.mv ?_
  refine SL.uu (ru_extract rfl rfl rfl) ?_
  refine SL.uu (ru_extract rfl rfl rfl) ?_
  refine SL.as ?_
  refine SL.as ?_
  refine SL.nl ?_
  refine SC.seq ?_
  refine SC.block ?_
  refine SC.sr ?_
  refine SL.mv ?_
  refine SL.uu (ru_ne (b := (((thereF M.ps0 k) : Int) != 0)) rfl rfl rfl rfl) ?_
  refine SL.as ?_
  refine SL.nl ?_
  refine SC.both (((thereF M.ps0 k) : Int) != 0) rfl (fun h1 => ?_) (fun h1 => ?_)
  · skip
    refine SC.sr ?_
    refine SL.mv ?_
    refine SL.as ?_
    refine SL.nl ?_
    refine SC.ret ?_
    refine SE.blkr ?_
    refine SE.passr ?_
    refine SE.res (.inl rfl) (res1 Try.results22 rfl) fun w1 hI => ?_
    have eT : thereF (S.L false) k = thereF M.ps0 k := by show thereF S.L0 k = _; rw [← hM.l0, there_map]
    have eL : (S.L false).length = M.ps0.length := by show S.L0.length = _; rw [← hM.l0, List.length_map]
    have ew : moveF S false k to = (thereF M.ps0 k, S) := by unfold moveF; simp only [eT]; rw [if_pos h1]
    rw [ew]
    exact ⟨rfl, M, WTo.same (hI.keep 6).1 hM hI.2⟩
  have hth : thereF M.ps0 k = 0 := Classical.byContradiction (fun hc => ne_f h1 hc)
  obtain ⟨hk0, hk1, ⟨⟨vx, x⟩, hx⟩⟩ := there_get hth
  have hk : 0 ≤ k ∧ k < (M.ps0.length : Int) := ⟨hk0, hk1⟩
  obtain ⟨hxb, hxF, xa, xc, hxv⟩ := hM.form0 h _ (List.mem_of_getElem? hx)
  have hxf : M.fs vx x.f := hM.f0 _ (List.mem_of_getElem? hx)
  dsimp only at hxv hxb hxF
  subst hxv
  have ex : (S.L false).getD k.toNat fm0 = x := by show S.L0.getD k.toNat fm0 = x; rw [← hM.l0, List.getD_eq_getElem?_getD, List.getElem?_map, hx]; rfl
  refine SC.sr ?_
  refine SL.mv ?_
  refine SL.uu (ru_lt (b := (decide ((to : Int) < 0))) rfl rfl rfl rfl) ?_
  refine SL.mv ?_
  refine SL.join 10 [(0, pt wd 0), (1, iw 0), (2, iw k), (3, iw to), (8, iw 0), (10, iw (thereF M.ps0 k)), (19, bo (((thereF M.ps0 k) : Int) != 0)), (24, iw to), (25, bo (decide ((to : Int) < 0))), (26, bo (decide ((to : Int) < 0))), (36, bo ((decide ((to : Int) < 0)) || (decide (((M.ps0.length : Int) : Int) ≤ to))))] [rB wd d0 d1 M S.now 77, rDv 74 d0 M.fs S.A0, rDv 74 d1 M.fs S.A1, rR0 M 46, rR1 M 46, rZ M.F M.fs] ?_ ?_
  rotate_left
  · intro K hK
    rcases tf (decide ((to : Int) < 0)) with h2 | h2
    · skip
      refine SL.norm [(0, pt wd 0), (1, iw 0), (2, iw k), (3, iw to), (8, iw 0), (10, iw (thereF M.ps0 k)), (19, bo (((thereF M.ps0 k) : Int) != 0)), (24, iw to), (25, bo true), (26, bo true)] _ ⟨rfl, rfl, rfl, rfl, rfl, rfl, rfl, rfl, (congrArg (fun x => some (Value.bool x)) h2), (congrArg (fun x => some (Value.bool x)) h2), trivial⟩ rfl ?_
      refine SL.oo ?_
      refine SL.oo ?_
      refine SL.oo ?_
      refine SL.oo ?_
      refine SL.oo ?_
      refine SL.oo ?_
      refine SL.oo ?_
      refine SL.oo ?_
      refine SL.oo ?_
      refine SL.pk (bo true) (undef) ?_
      exact SL.joined hK ⟨rfl, rfl, rfl, rfl, rfl, rfl, rfl, rfl, (congrArg (fun x => some (Value.bool x)) h2.symm), (congrArg (fun x => some (Value.bool x)) h2.symm), (congrArg (fun bx => some (Value.bool (bx || (decide (((M.ps0.length : Int) : Int) ≤ to))))) h2.symm), trivial⟩ rfl
    refine SL.norm [(0, pt wd 0), (1, iw 0), (2, iw k), (3, iw to), (8, iw 0), (10, iw (thereF M.ps0 k)), (19, bo (((thereF M.ps0 k) : Int) != 0)), (24, iw to), (25, bo false), (26, bo false)] _ ⟨rfl, rfl, rfl, rfl, rfl, rfl, rfl, rfl, (congrArg (fun x => some (Value.bool x)) h2), (congrArg (fun x => some (Value.bool x)) h2), trivial⟩ rfl ?_
    refine SL.gg (ru_move rfl rfl) ?_
    refine SL.gg (ru_move rfl rfl) ?_
    refine SL.gg (ru_move rfl rfl) ?_
    refine SL.gg (ru_nilCheck rfl rfl) ?_
    refine SL.gg (ru_fieldAddr (o2 := 2) fd77_1 rfl rfl rfl) ?_
    refine SL.gg (ru_indexA (o2 := 2) ar75 rfl rfl rfl (by decide) (by decide) rfl) ?_
    refine SL.gg (ru_load (i := 0) ts56 rfl rfl rfl rfl) ?_
    refine SL.gg (ru_len Try.underlying56 rfl rfl) ?_
    refine SL.gg (ru_ge (b := (decide (((M.ps0.length : Int) : Int) ≤ to))) rfl rfl rfl rfl) ?_
    refine SL.pk (bo true) (bo (decide (((M.ps0.length : Int) : Int) ≤ to))) ?_
    exact SL.joined hK ⟨rfl, rfl, rfl, rfl, rfl, rfl, rfl, rfl, (congrArg (fun x => some (Value.bool x)) h2.symm), (congrArg (fun x => some (Value.bool x)) h2.symm), (congrArg (fun bx => some (Value.bool (bx || (decide (((M.ps0.length : Int) : Int) ≤ to))))) h2.symm), trivial⟩ rfl
  skip
  refine SL.as ?_
  refine SL.nl ?_
  refine SC.both ((decide ((to : Int) < 0)) || (decide (((M.ps0.length : Int) : Int) ≤ to))) rfl (fun h3 => ?_) (fun h3 => ?_)
  · skip
    refine SC.sr ?_
    refine SL.as ?_
    refine SL.nl ?_
    refine SC.ret ?_
    refine SE.blkr ?_
    refine SE.passr ?_
    refine SE.res (.inl rfl) (res1 Try.results22 rfl) fun w1 hI => ?_
    have eT : thereF (S.L false) k = thereF M.ps0 k := by show thereF S.L0 k = _; rw [← hM.l0, there_map]
    have eL : (S.L false).length = M.ps0.length := by show S.L0.length = _; rw [← hM.l0, List.length_map]
    have ew : moveF S false k to = (1, S) := by unfold moveF; simp only [eT, eL]; rw [if_neg (not_t h1), if_pos h3]
    rw [ew]
    exact ⟨rfl, M, WTo.same (hI.keep 6).1 hM hI.2⟩
  have hto : 0 ≤ to ∧ to < (M.ps0.length : Int) := by simp only [Bool.or_eq_false_iff, decide_eq_false_iff_not] at h3; omega
  have hol := out_len hk.1 hk.2
  have hcap : M.ps0.length ≤ M.c0 := row_cap (h.get (i := 3) rfl) (by omega)
  have hv := hM.sl0 h
  have hvo9 : ∀ u ∈ [Value.slice xa x.f.length xc, bo x.bad, iw x.tick], u.oneCell' = true := fun u hu => by simp only [List.mem_cons, List.not_mem_nil, or_false] at hu; rcases hu with rfl | rfl | rfl <;> rfl
  refine SC.skip ?_
  refine SE.blkn ?_
  refine SC.of_SE ?_
  refine SC.sr ?_
  refine SL.mv ?_
  refine SL.mv ?_
  refine SL.mv ?_
  refine SL.call (ζ := Unit) (fun _z => Value.agg #[Value.slice xa x.f.length xc, bo x.bad, iw x.tick]) (fun _z => [rBlk wd [pt d0 0, pt d1 0, Value.slice M.q0 ((outF M.ps0 k).length) M.c0, Value.slice M.q1 M.ps1.length M.c1, iw S.now] 77, rDv 74 d0 M.fs S.A0, rDv 74 d1 M.fs S.A1, rRowN (.slice M.q0 ((outF M.ps0 k).length) M.c0) (oRows (outF M.ps0 k)) 46 3, rR1 M 46, rZ M.F M.fs]) (fun _z => True) rfl rfl co54 rfl rfl rfl (lt_b rfl) (fun w5 hI => (take0_any hM hn hx hk ((hI.keep 6).1)).mono fun e w2 ⟨h1, k9⟩ => ⟨(), h1, Inv.wto (l := []) hI k9 (fun b hb => .inl hb), trivial⟩) ?_
  rintro ⟨⟩ _
  refine SL.alloca rfl rfl (lt_b rfl) ta46 rfl fun b4 hb4 => ?_
  refine SL.storea (i := 6) (vs := [Value.slice xa x.f.length xc, bo x.bad, iw x.tick]) (c' := [Value.slice xa x.f.length xc, bo x.bad, iw x.tick]) rfl rfl ta46 rfl rfl rfl rfl rfl rfl (le_b rfl) (.inr hb4) rfl ?_
  refine SL.nl ?_
  refine SC.seq ?_
  refine SC.region_any (by kernel_rfl) ?_
  refine SA.take 0 rfl (by kernel_rfl) (by kernel_rfl) (by kernel_rfl) rfl rfl (lt_b rfl) (fun _ => ru_move rfl rfl) ?_
  refine SA.take 1 rfl (by kernel_rfl) (by kernel_rfl) (by kernel_rfl) rfl rfl (lt_b rfl) (fun _ => ru_move rfl rfl) ?_
  refine SA.take 2 rfl (by kernel_rfl) (by kernel_rfl) (by kernel_rfl) rfl rfl (lt_b rfl) (fun _ => ru_move rfl rfl) ?_
  refine SA.take 3 rfl (by kernel_rfl) (by kernel_rfl) (by kernel_rfl) rfl rfl (lt_b rfl) (fun _ => ru_move rfl rfl) ?_
  refine SA.take 4 rfl (by kernel_rfl) (by kernel_rfl) (by kernel_rfl) rfl rfl (lt_b rfl) (fun _ => ru_nilCheck rfl rfl) ?_
  refine SA.take 5 rfl (by kernel_rfl) (by kernel_rfl) (by kernel_rfl) rfl rfl (lt_b rfl) (fun _ => ru_fieldAddr (o2 := 2) fd77_1 rfl rfl rfl) ?_
  refine SA.take 6 rfl (by kernel_rfl) (by kernel_rfl) (by kernel_rfl) rfl rfl (lt_b rfl) (fun _ => ru_indexA (o2 := 2) ar75 rfl rfl rfl (by decide) (by decide) rfl) ?_
  refine SA.take 8 rfl (by kernel_rfl) (by kernel_rfl) (by kernel_rfl) rfl rfl (lt_b rfl) (fun _ => ru_move rfl rfl) ?_
  refine SA.take 12 rfl (by kernel_rfl) (by kernel_rfl) (by kernel_rfl) rfl rfl (lt_b rfl) (fun _ => ru_nilCheck rfl rfl) ?_
  refine SA.take 13 rfl (by kernel_rfl) (by kernel_rfl) (by kernel_rfl) rfl rfl (lt_b rfl) (fun _ => ru_fieldAddr (o2 := 2) fd77_1 rfl rfl rfl) ?_
  refine SA.lets (ζ := Nat) (fun b5 => [(8, iw 0), (41, pt wd 0), (42, iw 0), (43, pt wd 0), (44, iw 0), (45, pt wd 0), (46, pt wd 2), (47, pt wd 2), (48, Value.slice M.q0 ((outF M.ps0 k).length) M.c0), (49, iw to), (50, Value.agg #[Value.slice xa x.f.length xc, bo x.bad, iw x.tick]), (51, sl b5 0 1 1), (53, pt wd 0), (54, pt wd 2)]) (fun b5 => [rBlk wd [pt d0 0, pt d1 0, Value.slice M.q0 ((outF M.ps0 k).length) M.c0, Value.slice M.q1 M.ps1.length M.c1, iw S.now] 77, rDv 74 d0 M.fs S.A0, rDv 74 d1 M.fs S.A1, rRowN (.slice M.q0 ((outF M.ps0 k).length) M.c0) (oRows (outF M.ps0 k)) 46 3, rR1 M 46, rZ M.F M.fs, rBlk b4 [Value.slice xa x.f.length xc, bo x.bad, iw x.tick] 46, rBlk b5 [Value.slice xa x.f.length xc, bo x.bad, iw x.tick] 46]) (fun b5 => w.heap.size ≤ b5) 3 #[true, true, true, true, true, true, true, true, true, true, true, false, true, true, false, false] ?_ ?_
  · intro b5 hb5
    refine SA.one 11 rfl (by kernel_rfl) ?_
    refine SL.call (ζ := Option Addr × Nat) (fun z => Value.slice z.1 ((outF M.ps0 k).length + 1) z.2) (fun z => [rBlk wd [pt d0 0, pt d1 0, Value.slice M.q0 ((outF M.ps0 k).length) M.c0, Value.slice M.q1 M.ps1.length M.c1, iw S.now] 77, rDv 74 d0 M.fs S.A0, rDv 74 d1 M.fs S.A1, rRowN (.slice z.1 ((outF M.ps0 k).length + 1) z.2) (insF (oRows (outF M.ps0 k)) to [Value.slice xa x.f.length xc, bo x.bad, iw x.tick]) 46 3, rR1 M 46, rZ M.F M.fs, rBlk b4 [Value.slice xa x.f.length xc, bo x.bad, iw x.tick] 46, rBlk b5 [Value.slice xa x.f.length xc, bo x.bad, iw x.tick] 46]) (fun z => ∀ b, (Value.slice z.1 ((outF M.ps0 k).length + 1) z.2).ownBlock = some b → M.G wd d0 d1 b ∨ w.heap.size ≤ b) rfl rfl co55 rfl rfl rfl (lt_b rfl) (fun w5 hI => (ins_ow (to := to) ((hI.pick (js := [3, 7]) rfl).1) (ow_one fun x hx => hv x (mem_out hx)) hvo9 (by omega) (by omega) (by omega) (by omega)).mono fun e w2 ⟨q, c, h1, h2, h3, h4⟩ => ⟨(q, c), h1, hI.upd (i := 3) rfl h4 (fun b hb => (fun b hb => .inl (.inr (.inr (.inr (.inl hb))))) b ((own_eqw M.q0 M.ps0.length M.c0 (outF M.ps0 k).length M.c0).trans hb)) h2 h3, fun b hb => (h3 b hb).elim (fun h => .inl (.inr (.inr (.inr (.inl ((own_eqw M.q0 M.ps0.length M.c0 (outF M.ps0 k).length M.c0).trans h)))))) (fun h => .inr (Nat.le_trans hI.2.size h))⟩) ?_
    rintro ⟨q6, c7⟩ hq6
    dsimp only at hq6
    refine SL.nil ?_
    refine SA.se ?_
    refine SA.take 14 rfl (by kernel_rfl) (by kernel_rfl) (by kernel_rfl) rfl rfl (lt_b rfl) (fun _ => ru_indexA (o2 := 2) ar75 rfl rfl rfl (by decide) (by decide) rfl) ?_
    refine SA.one 15 rfl (by kernel_rfl) ?_
    refine SL.store (i := 0) (c' := [pt d0 0, pt d1 0, Value.slice q6 ((outF M.ps0 k).length + 1) c7, Value.slice M.q1 M.ps1.length M.c1, iw S.now]) rfl rfl ts56 rfl rfl rfl rfl rfl (lt_b rfl) (.inl (.inl rfl)) rfl ?_
    refine SL.nil ?_
    refine SA.se ?_
    refine SA.done (by kernel_rfl) ?_
    refine SC.of_SE ?_
    refine SC.sr ?_
    refine SL.as ?_
    refine SL.nl ?_
    refine SC.ret ?_
    refine SE.res (.inl rfl) (res1 Try.results22 rfl) fun w1 hI => ?_
    have eT : thereF (S.L false) k = thereF M.ps0 k := by show thereF S.L0 k = _; rw [← hM.l0, there_map]
    have eL : (S.L false).length = M.ps0.length := by show S.L0.length = _; rw [← hM.l0, List.length_map]
    have ew : moveF S false k to = (0, S.setL false (insF (outF S.L0 k) to x)) := by unfold moveF; simp only [eT, eL, ex]; rw [if_neg (not_t h1), if_neg (not_t h3)]; rfl
    have er : insF (oRows (outF M.ps0 k)) to [Value.slice xa x.f.length xc, bo x.bad, iw x.tick] = oRows (insF (outF M.ps0 k) to ⟨.slice xa x.f.length xc, x⟩) := (map_ins FmV.row (outF M.ps0 k) to (⟨.slice xa x.f.length xc, x⟩ : FmV)).symm
    have el : (outF M.ps0 k).length + 1 = (insF (outF M.ps0 k) to (⟨.slice xa x.f.length xc, x⟩ : FmV)).length := (ins_len (by omega) (by omega)).symm
    rw [er, el] at hI
    rw [ew]
    exact ⟨rfl, { M with q0 := q6, c0 := c7, ps0 := insF (outF M.ps0 k) to ⟨.slice xa x.f.length xc, x⟩ }, ⟨(hI.keep 6).1, hM.ins0 (y := ⟨.slice xa x.f.length xc, x⟩) _ _ hxf k to, fun v f h => h, fun b hb => WM.K.new0 hb (fun b hb => .inl hb) hq6, hI.2⟩⟩
  · intro hj5
    refine SA.two 7 9 rfl rfl (by kernel_rfl) ?_ ?_
    · skip
      refine SL.ld 0 ts56 ?_
      refine SL.nil ?_
      refine SA.se ?_
      refine SA.one 9 rfl (by kernel_rfl) ?_
      refine SL.uu (ru_loada (i := 6) (vs := [Value.slice xa x.f.length xc, bo x.bad, iw x.tick]) ta46 rfl rfl rfl rfl (le_b rfl)) ?_
      refine SL.nil ?_
      refine SA.se ?_
      refine SA.one 10 rfl (by kernel_rfl) ?_
      refine SL.buildSlice (size := 3) (vals := [(0, Value.agg #[Value.slice xa x.f.length xc, bo x.bad, iw x.tick])]) (z := [Value.slice none 0 0, bo false, iw 0]) (cs := [Value.slice xa x.f.length xc, bo x.bad, iw x.tick]) rfl rfl (lt_b rfl) rfl Try.underlying56 (by kernel_rfl) rfl rfl (by kernel_rfl) fun b8 hb8 => ?_
      refine SL.nil ?_
      refine SA.se ?_
      exact SA.norm [(8, iw 0), (41, pt wd 0), (42, iw 0), (43, pt wd 0), (44, iw 0), (45, pt wd 0), (46, pt wd 2), (47, pt wd 2), (48, Value.slice M.q0 ((outF M.ps0 k).length) M.c0), (49, iw to), (50, Value.agg #[Value.slice xa x.f.length xc, bo x.bad, iw x.tick]), (51, sl b8 0 1 1), (53, pt wd 0), (54, pt wd 2)] [rBlk wd [pt d0 0, pt d1 0, Value.slice M.q0 ((outF M.ps0 k).length) M.c0, Value.slice M.q1 M.ps1.length M.c1, iw S.now] 77, rDv 74 d0 M.fs S.A0, rDv 74 d1 M.fs S.A1, rRowN (.slice M.q0 ((outF M.ps0 k).length) M.c0) (oRows (outF M.ps0 k)) 46 3, rRowN (.slice M.q1 M.ps1.length M.c1) (oRows M.ps1) 46 3, rZ M.F M.fs, rBlk b4 [Value.slice xa x.f.length xc, bo x.bad, iw x.tick] 46, rBlk b8 [Value.slice xa x.f.length xc, bo x.bad, iw x.tick] 46] ⟨rfl, rfl, rfl, rfl, rfl, rfl, rfl, rfl, rfl, rfl, rfl, rfl, rfl, rfl, trivial⟩ rfl (SA.same (by kernel_rfl) (hj5 b8 hb8))
    refine SL.uu (ru_loada (i := 6) (vs := [Value.slice xa x.f.length xc, bo x.bad, iw x.tick]) ta46 rfl rfl rfl rfl (le_b rfl)) ?_
    refine SL.nil ?_
    refine SA.se ?_
    refine SA.two 7 10 rfl rfl (by kernel_rfl) ?_ ?_
    · skip
      refine SL.ld 0 ts56 ?_
      refine SL.nil ?_
      refine SA.se ?_
      refine SA.one 10 rfl (by kernel_rfl) ?_
      refine SL.buildSlice (size := 3) (vals := [(0, Value.agg #[Value.slice xa x.f.length xc, bo x.bad, iw x.tick])]) (z := [Value.slice none 0 0, bo false, iw 0]) (cs := [Value.slice xa x.f.length xc, bo x.bad, iw x.tick]) rfl rfl (lt_b rfl) rfl Try.underlying56 (by kernel_rfl) rfl rfl (by kernel_rfl) fun b9 hb9 => ?_
      refine SL.nil ?_
      refine SA.se ?_
      exact SA.norm [(8, iw 0), (41, pt wd 0), (42, iw 0), (43, pt wd 0), (44, iw 0), (45, pt wd 0), (46, pt wd 2), (47, pt wd 2), (48, Value.slice M.q0 ((outF M.ps0 k).length) M.c0), (49, iw to), (50, Value.agg #[Value.slice xa x.f.length xc, bo x.bad, iw x.tick]), (51, sl b9 0 1 1), (53, pt wd 0), (54, pt wd 2)] [rBlk wd [pt d0 0, pt d1 0, Value.slice M.q0 ((outF M.ps0 k).length) M.c0, Value.slice M.q1 M.ps1.length M.c1, iw S.now] 77, rDv 74 d0 M.fs S.A0, rDv 74 d1 M.fs S.A1, rRowN (.slice M.q0 ((outF M.ps0 k).length) M.c0) (oRows (outF M.ps0 k)) 46 3, rRowN (.slice M.q1 M.ps1.length M.c1) (oRows M.ps1) 46 3, rZ M.F M.fs, rBlk b4 [Value.slice xa x.f.length xc, bo x.bad, iw x.tick] 46, rBlk b9 [Value.slice xa x.f.length xc, bo x.bad, iw x.tick] 46] ⟨rfl, rfl, rfl, rfl, rfl, rfl, rfl, rfl, rfl, rfl, rfl, rfl, rfl, rfl, trivial⟩ rfl (SA.same (by kernel_rfl) (hj5 b9 hb9))
    refine SL.buildSlice (size := 3) (vals := [(0, Value.agg #[Value.slice xa x.f.length xc, bo x.bad, iw x.tick])]) (z := [Value.slice none 0 0, bo false, iw 0]) (cs := [Value.slice xa x.f.length xc, bo x.bad, iw x.tick]) rfl rfl (lt_b rfl) rfl Try.underlying56 (by kernel_rfl) rfl rfl (by kernel_rfl) fun b10 hb10 => ?_
    refine SL.nil ?_
    refine SA.se ?_
    refine SA.one 7 rfl (by kernel_rfl) ?_
    refine SL.ld 0 ts56 ?_
    refine SL.nil ?_
    refine SA.se ?_
    exact SA.norm [(8, iw 0), (41, pt wd 0), (42, iw 0), (43, pt wd 0), (44, iw 0), (45, pt wd 0), (46, pt wd 2), (47, pt wd 2), (48, Value.slice M.q0 ((outF M.ps0 k).length) M.c0), (49, iw to), (50, Value.agg #[Value.slice xa x.f.length xc, bo x.bad, iw x.tick]), (51, sl b10 0 1 1), (53, pt wd 0), (54, pt wd 2)] [rBlk wd [pt d0 0, pt d1 0, Value.slice M.q0 ((outF M.ps0 k).length) M.c0, Value.slice M.q1 M.ps1.length M.c1, iw S.now] 77, rDv 74 d0 M.fs S.A0, rDv 74 d1 M.fs S.A1, rRowN (.slice M.q0 ((outF M.ps0 k).length) M.c0) (oRows (outF M.ps0 k)) 46 3, rRowN (.slice M.q1 M.ps1.length M.c1) (oRows M.ps1) 46 3, rZ M.F M.fs, rBlk b4 [Value.slice xa x.f.length xc, bo x.bad, iw x.tick] 46, rBlk b10 [Value.slice xa x.f.length xc, bo x.bad, iw x.tick] 46] ⟨rfl, rfl, rfl, rfl, rfl, rfl, rfl, rfl, rfl, rfl, rfl, rfl, rfl, rfl, trivial⟩ rfl (SA.same (by kernel_rfl) (hj5 b10 hb10))
theorem move1_any {w : World} {wd d0 d1 : Nat} {M : WM} {S : Wi} {k to : Int} (hM : M.Ok S) (hn : M.ps1.length ≤ 3000000000000) (h : Sep w (WLm 74 77 46 wd d0 d1 M S.A0 S.A1 S.now)) : Calls Try.prog 22 #[pt wd 0, iw 1, iw k, iw to] w fun e w' => e = .returned (iw (moveF S true k to).1) ∧ ∃ M', WTo 74 77 46 w wd d0 d1 M M' (moveF S true k to).2 w' := by
  refine calls_sc (l0 := (WLm 74 77 46 wd d0 d1 M S.A0 S.A1 S.now)) (args := [pt wd 0, iw 1, iw k, iw to]) (M.G wd d0 d1) Try.func22 rfl 56 Try.ntmps22 (le_b rfl) ⟨h, Only.refl _ _⟩ ?_
  show SC _ _ _ _ [(0, pt wd 0), (1, iw 1), (2, iw k), (3, iw to)] (WLm 74 77 46 wd d0 d1 M S.A0 S.A1 S.now)
  refine SC.sr ?_
  refine SL.as ?_
  refine SL.nl ?_
  refine SC.sr ?_
  refine SL.mv ?_
  refine SL.mv ?_
  refine SL.mv ?_
  refine SL.callv (Value.tuple #[thereP M.q1 M.ps1 k, iw (thereF M.ps1 k)]) rfl rfl co34 rfl rfl rfl (lt_b rfl) (fun w hI => H_only hI (there1_any ((hI.keep 6).1))) ?_
  refine SL.mv ?_
  refine SL.uu (ru_extract rfl rfl rfl) ?_
  refine SL.uu (ru_extract rfl rfl rfl) ?_
  refine SL.as ?_
  refine SL.as ?_
  refine SL.nl ?_
  refine SC.seq ?_
  refine SC.block ?_
  refine SC.sr ?_
  refine SL.mv ?_
  refine SL.uu (ru_ne (b := (((thereF M.ps1 k) : Int) != 0)) rfl rfl rfl rfl) ?_
  refine SL.as ?_
  refine SL.nl ?_
  refine SC.both (((thereF M.ps1 k) : Int) != 0) rfl (fun h1 => ?_) (fun h1 => ?_)
  · skip
    refine SC.sr ?_
    refine SL.mv ?_
    refine SL.as ?_
    refine SL.nl ?_
    refine SC.ret ?_
    refine SE.blkr ?_
    refine SE.passr ?_
    refine SE.res (.inl rfl) (res1 Try.results22 rfl) fun w1 hI => ?_
    have eT : thereF (S.L true) k = thereF M.ps1 k := by show thereF S.L1 k = _; rw [← hM.l1, there_map]
    have eL : (S.L true).length = M.ps1.length := by show S.L1.length = _; rw [← hM.l1, List.length_map]
    have ew : moveF S true k to = (thereF M.ps1 k, S) := by unfold moveF; simp only [eT]; rw [if_pos h1]
    rw [ew]
    exact ⟨rfl, M, WTo.same (hI.keep 6).1 hM hI.2⟩
  have hth : thereF M.ps1 k = 0 := Classical.byContradiction (fun hc => ne_f h1 hc)
  obtain ⟨hk0, hk1, ⟨⟨vx, x⟩, hx⟩⟩ := there_get hth
  have hk : 0 ≤ k ∧ k < (M.ps1.length : Int) := ⟨hk0, hk1⟩
  obtain ⟨hxb, hxF, xa, xc, hxv⟩ := hM.form1 h _ (List.mem_of_getElem? hx)
  have hxf : M.fs vx x.f := hM.f1 _ (List.mem_of_getElem? hx)
  dsimp only at hxv hxb hxF
  subst hxv
  have ex : (S.L true).getD k.toNat fm0 = x := by show S.L1.getD k.toNat fm0 = x; rw [← hM.l1, List.getD_eq_getElem?_getD, List.getElem?_map, hx]; rfl
  refine SC.sr ?_
  refine SL.mv ?_
  refine SL.uu (ru_lt (b := (decide ((to : Int) < 0))) rfl rfl rfl rfl) ?_
  refine SL.mv ?_
  refine SL.join 10 [(0, pt wd 0), (1, iw 1), (2, iw k), (3, iw to), (8, iw 0), (10, iw (thereF M.ps1 k)), (19, bo (((thereF M.ps1 k) : Int) != 0)), (24, iw to), (25, bo (decide ((to : Int) < 0))), (26, bo (decide ((to : Int) < 0))), (36, bo ((decide ((to : Int) < 0)) || (decide (((M.ps1.length : Int) : Int) ≤ to))))] [rB wd d0 d1 M S.now 77, rDv 74 d0 M.fs S.A0, rDv 74 d1 M.fs S.A1, rR0 M 46, rR1 M 46, rZ M.F M.fs] ?_ ?_
  rotate_left
  · intro K hK
    rcases tf (decide ((to : Int) < 0)) with h2 | h2
    · skip
      refine SL.norm [(0, pt wd 0), (1, iw 1), (2, iw k), (3, iw to), (8, iw 0), (10, iw (thereF M.ps1 k)), (19, bo (((thereF M.ps1 k) : Int) != 0)), (24, iw to), (25, bo true), (26, bo true)] _ ⟨rfl, rfl, rfl, rfl, rfl, rfl, rfl, rfl, (congrArg (fun x => some (Value.bool x)) h2), (congrArg (fun x => some (Value.bool x)) h2), trivial⟩ rfl ?_
      refine SL.oo ?_
      refine SL.oo ?_
      refine SL.oo ?_
      refine SL.oo ?_
      refine SL.oo ?_
      refine SL.oo ?_
      refine SL.oo ?_
      refine SL.oo ?_
      refine SL.oo ?_
      refine SL.pk (bo true) (undef) ?_
      exact SL.joined hK ⟨rfl, rfl, rfl, rfl, rfl, rfl, rfl, rfl, (congrArg (fun x => some (Value.bool x)) h2.symm), (congrArg (fun x => some (Value.bool x)) h2.symm), (congrArg (fun bx => some (Value.bool (bx || (decide (((M.ps1.length : Int) : Int) ≤ to))))) h2.symm), trivial⟩ rfl
    refine SL.norm [(0, pt wd 0), (1, iw 1), (2, iw k), (3, iw to), (8, iw 0), (10, iw (thereF M.ps1 k)), (19, bo (((thereF M.ps1 k) : Int) != 0)), (24, iw to), (25, bo false), (26, bo false)] _ ⟨rfl, rfl, rfl, rfl, rfl, rfl, rfl, rfl, (congrArg (fun x => some (Value.bool x)) h2), (congrArg (fun x => some (Value.bool x)) h2), trivial⟩ rfl ?_
    refine SL.gg (ru_move rfl rfl) ?_
    refine SL.gg (ru_move rfl rfl) ?_
    refine SL.gg (ru_move rfl rfl) ?_
    refine SL.gg (ru_nilCheck rfl rfl) ?_
    refine SL.gg (ru_fieldAddr (o2 := 2) fd77_1 rfl rfl rfl) ?_
    refine SL.gg (ru_indexA (o2 := 3) ar75 rfl rfl rfl (by decide) (by decide) rfl) ?_
    refine SL.gg (ru_load (i := 0) ts56 rfl rfl rfl rfl) ?_
    refine SL.gg (ru_len Try.underlying56 rfl rfl) ?_
    refine SL.gg (ru_ge (b := (decide (((M.ps1.length : Int) : Int) ≤ to))) rfl rfl rfl rfl) ?_
    refine SL.pk (bo true) (bo (decide (((M.ps1.length : Int) : Int) ≤ to))) ?_
    exact SL.joined hK ⟨rfl, rfl, rfl, rfl, rfl, rfl, rfl, rfl, (congrArg (fun x => some (Value.bool x)) h2.symm), (congrArg (fun x => some (Value.bool x)) h2.symm), (congrArg (fun bx => some (Value.bool (bx || (decide (((M.ps1.length : Int) : Int) ≤ to))))) h2.symm), trivial⟩ rfl
  skip
  refine SL.as ?_
  refine SL.nl ?_
  refine SC.both ((decide ((to : Int) < 0)) || (decide (((M.ps1.length : Int) : Int) ≤ to))) rfl (fun h3 => ?_) (fun h3 => ?_)
  · skip
    refine SC.sr ?_
    refine SL.as ?_
    refine SL.nl ?_
    refine SC.ret ?_
    refine SE.blkr ?_
    refine SE.passr ?_
    refine SE.res (.inl rfl) (res1 Try.results22 rfl) fun w1 hI => ?_
    have eT : thereF (S.L true) k = thereF M.ps1 k := by show thereF S.L1 k = _; rw [← hM.l1, there_map]
    have eL : (S.L true).length = M.ps1.length := by show S.L1.length = _; rw [← hM.l1, List.length_map]
    have ew : moveF S true k to = (1, S) := by unfold moveF; simp only [eT, eL]; rw [if_neg (not_t h1), if_pos h3]
    rw [ew]
    exact ⟨rfl, M, WTo.same (hI.keep 6).1 hM hI.2⟩
  have hto : 0 ≤ to ∧ to < (M.ps1.length : Int) := by simp only [Bool.or_eq_false_iff, decide_eq_false_iff_not] at h3; omega
  have hol := out_len hk.1 hk.2
  have hcap : M.ps1.length ≤ M.c1 := row_cap (h.get (i := 4) rfl) (by omega)
  have hv := hM.sl1 h
  have hvo9 : ∀ u ∈ [Value.slice xa x.f.length xc, bo x.bad, iw x.tick], u.oneCell' = true := fun u hu => by simp only [List.mem_cons, List.not_mem_nil, or_false] at hu; rcases hu with rfl | rfl | rfl <;> rfl
  refine SC.skip ?_
  refine SE.blkn ?_
  refine SC.of_SE ?_
  refine SC.sr ?_
  refine SL.mv ?_
  refine SL.mv ?_
  refine SL.mv ?_
  refine SL.call (ζ := Unit) (fun _z => Value.agg #[Value.slice xa x.f.length xc, bo x.bad, iw x.tick]) (fun _z => [rBlk wd [pt d0 0, pt d1 0, Value.slice M.q0 M.ps0.length M.c0, Value.slice M.q1 ((outF M.ps1 k).length) M.c1, iw S.now] 77, rDv 74 d0 M.fs S.A0, rDv 74 d1 M.fs S.A1, rR0 M 46, rRowN (.slice M.q1 ((outF M.ps1 k).length) M.c1) (oRows (outF M.ps1 k)) 46 3, rZ M.F M.fs]) (fun _z => True) rfl rfl co54 rfl rfl rfl (lt_b rfl) (fun w5 hI => (take1_any hM hn hx hk ((hI.keep 6).1)).mono fun e w2 ⟨h1, k9⟩ => ⟨(), h1, Inv.wto (l := []) hI k9 (fun b hb => .inl hb), trivial⟩) ?_
  rintro ⟨⟩ _
  refine SL.alloca rfl rfl (lt_b rfl) ta46 rfl fun b4 hb4 => ?_
  refine SL.storea (i := 6) (vs := [Value.slice xa x.f.length xc, bo x.bad, iw x.tick]) (c' := [Value.slice xa x.f.length xc, bo x.bad, iw x.tick]) rfl rfl ta46 rfl rfl rfl rfl rfl rfl (le_b rfl) (.inr hb4) rfl ?_
  refine SL.nl ?_
  refine SC.seq ?_
  refine SC.region_any (by kernel_rfl) ?_
  refine SA.take 0 rfl (by kernel_rfl) (by kernel_rfl) (by kernel_rfl) rfl rfl (lt_b rfl) (fun _ => ru_move rfl rfl) ?_
  refine SA.take 1 rfl (by kernel_rfl) (by kernel_rfl) (by kernel_rfl) rfl rfl (lt_b rfl) (fun _ => ru_move rfl rfl) ?_
  refine SA.take 2 rfl (by kernel_rfl) (by kernel_rfl) (by kernel_rfl) rfl rfl (lt_b rfl) (fun _ => ru_move rfl rfl) ?_
  refine SA.take 3 rfl (by kernel_rfl) (by kernel_rfl) (by kernel_rfl) rfl rfl (lt_b rfl) (fun _ => ru_move rfl rfl) ?_
  refine SA.take 4 rfl (by kernel_rfl) (by kernel_rfl) (by kernel_rfl) rfl rfl (lt_b rfl) (fun _ => ru_nilCheck rfl rfl) ?_
  refine SA.take 5 rfl (by kernel_rfl) (by kernel_rfl) (by kernel_rfl) rfl rfl (lt_b rfl) (fun _ => ru_fieldAddr (o2 := 2) fd77_1 rfl rfl rfl) ?_
  refine SA.take 6 rfl (by kernel_rfl) (by kernel_rfl) (by kernel_rfl) rfl rfl (lt_b rfl) (fun _ => ru_indexA (o2 := 3) ar75 rfl rfl rfl (by decide) (by decide) rfl) ?_
  refine SA.take 8 rfl (by kernel_rfl) (by kernel_rfl) (by kernel_rfl) rfl rfl (lt_b rfl) (fun _ => ru_move rfl rfl) ?_
  refine SA.take 12 rfl (by kernel_rfl) (by kernel_rfl) (by kernel_rfl) rfl rfl (lt_b rfl) (fun _ => ru_nilCheck rfl rfl) ?_
  refine SA.take 13 rfl (by kernel_rfl) (by kernel_rfl) (by kernel_rfl) rfl rfl (lt_b rfl) (fun _ => ru_fieldAddr (o2 := 2) fd77_1 rfl rfl rfl) ?_
  refine SA.lets (ζ := Nat) (fun b5 => [(8, iw 0), (41, pt wd 0), (42, iw 1), (43, pt wd 0), (44, iw 1), (45, pt wd 0), (46, pt wd 2), (47, pt wd 3), (48, Value.slice M.q1 ((outF M.ps1 k).length) M.c1), (49, iw to), (50, Value.agg #[Value.slice xa x.f.length xc, bo x.bad, iw x.tick]), (51, sl b5 0 1 1), (53, pt wd 0), (54, pt wd 2)]) (fun b5 => [rBlk wd [pt d0 0, pt d1 0, Value.slice M.q0 M.ps0.length M.c0, Value.slice M.q1 ((outF M.ps1 k).length) M.c1, iw S.now] 77, rDv 74 d0 M.fs S.A0, rDv 74 d1 M.fs S.A1, rR0 M 46, rRowN (.slice M.q1 ((outF M.ps1 k).length) M.c1) (oRows (outF M.ps1 k)) 46 3, rZ M.F M.fs, rBlk b4 [Value.slice xa x.f.length xc, bo x.bad, iw x.tick] 46, rBlk b5 [Value.slice xa x.f.length xc, bo x.bad, iw x.tick] 46]) (fun b5 => w.heap.size ≤ b5) 3 #[true, true, true, true, true, true, true, true, true, true, true, false, true, true, false, false] ?_ ?_
  · intro b5 hb5
    refine SA.one 11 rfl (by kernel_rfl) ?_
    refine SL.call (ζ := Option Addr × Nat) (fun z => Value.slice z.1 ((outF M.ps1 k).length + 1) z.2) (fun z => [rBlk wd [pt d0 0, pt d1 0, Value.slice M.q0 M.ps0.length M.c0, Value.slice M.q1 ((outF M.ps1 k).length) M.c1, iw S.now] 77, rDv 74 d0 M.fs S.A0, rDv 74 d1 M.fs S.A1, rR0 M 46, rRowN (.slice z.1 ((outF M.ps1 k).length + 1) z.2) (insF (oRows (outF M.ps1 k)) to [Value.slice xa x.f.length xc, bo x.bad, iw x.tick]) 46 3, rZ M.F M.fs, rBlk b4 [Value.slice xa x.f.length xc, bo x.bad, iw x.tick] 46, rBlk b5 [Value.slice xa x.f.length xc, bo x.bad, iw x.tick] 46]) (fun z => ∀ b, (Value.slice z.1 ((outF M.ps1 k).length + 1) z.2).ownBlock = some b → M.G wd d0 d1 b ∨ w.heap.size ≤ b) rfl rfl co55 rfl rfl rfl (lt_b rfl) (fun w5 hI => (ins_ow (to := to) ((hI.pick (js := [4, 7]) rfl).1) (ow_one fun x hx => hv x (mem_out hx)) hvo9 (by omega) (by omega) (by omega) (by omega)).mono fun e w2 ⟨q, c, h1, h2, h3, h4⟩ => ⟨(q, c), h1, hI.upd (i := 4) rfl h4 (fun b hb => (fun b hb => .inl (.inr (.inr (.inr (.inr hb))))) b ((own_eqw M.q1 M.ps1.length M.c1 (outF M.ps1 k).length M.c1).trans hb)) h2 h3, fun b hb => (h3 b hb).elim (fun h => .inl (.inr (.inr (.inr (.inr ((own_eqw M.q1 M.ps1.length M.c1 (outF M.ps1 k).length M.c1).trans h)))))) (fun h => .inr (Nat.le_trans hI.2.size h))⟩) ?_
    rintro ⟨q6, c7⟩ hq6
    dsimp only at hq6
    refine SL.nil ?_
    refine SA.se ?_
    refine SA.take 14 rfl (by kernel_rfl) (by kernel_rfl) (by kernel_rfl) rfl rfl (lt_b rfl) (fun _ => ru_indexA (o2 := 3) ar75 rfl rfl rfl (by decide) (by decide) rfl) ?_
    refine SA.one 15 rfl (by kernel_rfl) ?_
    refine SL.store (i := 0) (c' := [pt d0 0, pt d1 0, Value.slice M.q0 M.ps0.length M.c0, Value.slice q6 ((outF M.ps1 k).length + 1) c7, iw S.now]) rfl rfl ts56 rfl rfl rfl rfl rfl (lt_b rfl) (.inl (.inl rfl)) rfl ?_
    refine SL.nil ?_
    refine SA.se ?_
    refine SA.done (by kernel_rfl) ?_
    refine SC.of_SE ?_
    refine SC.sr ?_
    refine SL.as ?_
    refine SL.nl ?_
    refine SC.ret ?_
    refine SE.res (.inl rfl) (res1 Try.results22 rfl) fun w1 hI => ?_
    have eT : thereF (S.L true) k = thereF M.ps1 k := by show thereF S.L1 k = _; rw [← hM.l1, there_map]
    have eL : (S.L true).length = M.ps1.length := by show S.L1.length = _; rw [← hM.l1, List.length_map]
    have ew : moveF S true k to = (0, S.setL true (insF (outF S.L1 k) to x)) := by unfold moveF; simp only [eT, eL, ex]; rw [if_neg (not_t h1), if_neg (not_t h3)]; rfl
    have er : insF (oRows (outF M.ps1 k)) to [Value.slice xa x.f.length xc, bo x.bad, iw x.tick] = oRows (insF (outF M.ps1 k) to ⟨.slice xa x.f.length xc, x⟩) := (map_ins FmV.row (outF M.ps1 k) to (⟨.slice xa x.f.length xc, x⟩ : FmV)).symm
    have el : (outF M.ps1 k).length + 1 = (insF (outF M.ps1 k) to (⟨.slice xa x.f.length xc, x⟩ : FmV)).length := (ins_len (by omega) (by omega)).symm
    rw [er, el] at hI
    rw [ew]
    exact ⟨rfl, { M with q1 := q6, c1 := c7, ps1 := insF (outF M.ps1 k) to ⟨.slice xa x.f.length xc, x⟩ }, ⟨(hI.keep 6).1, hM.ins1 (y := ⟨.slice xa x.f.length xc, x⟩) _ _ hxf k to, fun v f h => h, fun b hb => WM.K.new1 hb (fun b hb => .inl hb) hq6, hI.2⟩⟩
  · intro hj5
    refine SA.two 7 9 rfl rfl (by kernel_rfl) ?_ ?_
    · skip
      refine SL.ld 0 ts56 ?_
      refine SL.nil ?_
      refine SA.se ?_
      refine SA.one 9 rfl (by kernel_rfl) ?_
      refine SL.uu (ru_loada (i := 6) (vs := [Value.slice xa x.f.length xc, bo x.bad, iw x.tick]) ta46 rfl rfl rfl rfl (le_b rfl)) ?_
      refine SL.nil ?_
      refine SA.se ?_
      refine SA.one 10 rfl (by kernel_rfl) ?_
      refine SL.buildSlice (size := 3) (vals := [(0, Value.agg #[Value.slice xa x.f.length xc, bo x.bad, iw x.tick])]) (z := [Value.slice none 0 0, bo false, iw 0]) (cs := [Value.slice xa x.f.length xc, bo x.bad, iw x.tick]) rfl rfl (lt_b rfl) rfl Try.underlying56 (by kernel_rfl) rfl rfl (by kernel_rfl) fun b8 hb8 => ?_
      refine SL.nil ?_
      refine SA.se ?_
      exact SA.norm [(8, iw 0), (41, pt wd 0), (42, iw 1), (43, pt wd 0), (44, iw 1), (45, pt wd 0), (46, pt wd 2), (47, pt wd 3), (48, Value.slice M.q1 ((outF M.ps1 k).length) M.c1), (49, iw to), (50, Value.agg #[Value.slice xa x.f.length xc, bo x.bad, iw x.tick]), (51, sl b8 0 1 1), (53, pt wd 0), (54, pt wd 2)] [rBlk wd [pt d0 0, pt d1 0, Value.slice M.q0 M.ps0.length M.c0, Value.slice M.q1 ((outF M.ps1 k).length) M.c1, iw S.now] 77, rDv 74 d0 M.fs S.A0, rDv 74 d1 M.fs S.A1, rRowN (.slice M.q0 M.ps0.length M.c0) (oRows M.ps0) 46 3, rRowN (.slice M.q1 ((outF M.ps1 k).length) M.c1) (oRows (outF M.ps1 k)) 46 3, rZ M.F M.fs, rBlk b4 [Value.slice xa x.f.length xc, bo x.bad, iw x.tick] 46, rBlk b8 [Value.slice xa x.f.length xc, bo x.bad, iw x.tick] 46] ⟨rfl, rfl, rfl, rfl, rfl, rfl, rfl, rfl, rfl, rfl, rfl, rfl, rfl, rfl, trivial⟩ rfl (SA.same (by kernel_rfl) (hj5 b8 hb8))
    refine SL.uu (ru_loada (i := 6) (vs := [Value.slice xa x.f.length xc, bo x.bad, iw x.tick]) ta46 rfl rfl rfl rfl (le_b rfl)) ?_
    refine SL.nil ?_
    refine SA.se ?_
    refine SA.two 7 10 rfl rfl (by kernel_rfl) ?_ ?_
    · skip
      refine SL.ld 0 ts56 ?_
      refine SL.nil ?_
      refine SA.se ?_
      refine SA.one 10 rfl (by kernel_rfl) ?_
      refine SL.buildSlice (size := 3) (vals := [(0, Value.agg #[Value.slice xa x.f.length xc, bo x.bad, iw x.tick])]) (z := [Value.slice none 0 0, bo false, iw 0]) (cs := [Value.slice xa x.f.length xc, bo x.bad, iw x.tick]) rfl rfl (lt_b rfl) rfl Try.underlying56 (by kernel_rfl) rfl rfl (by kernel_rfl) fun b9 hb9 => ?_
      refine SL.nil ?_
      refine SA.se ?_
      exact SA.norm [(8, iw 0), (41, pt wd 0), (42, iw 1), (43, pt wd 0), (44, iw 1), (45, pt wd 0), (46, pt wd 2), (47, pt wd 3), (48, Value.slice M.q1 ((outF M.ps1 k).length) M.c1), (49, iw to), (50, Value.agg #[Value.slice xa x.f.length xc, bo x.bad, iw x.tick]), (51, sl b9 0 1 1), (53, pt wd 0), (54, pt wd 2)] [rBlk wd [pt d0 0, pt d1 0, Value.slice M.q0 M.ps0.length M.c0, Value.slice M.q1 ((outF M.ps1 k).length) M.c1, iw S.now] 77, rDv 74 d0 M.fs S.A0, rDv 74 d1 M.fs S.A1, rRowN (.slice M.q0 M.ps0.length M.c0) (oRows M.ps0) 46 3, rRowN (.slice M.q1 ((outF M.ps1 k).length) M.c1) (oRows (outF M.ps1 k)) 46 3, rZ M.F M.fs, rBlk b4 [Value.slice xa x.f.length xc, bo x.bad, iw x.tick] 46, rBlk b9 [Value.slice xa x.f.length xc, bo x.bad, iw x.tick] 46] ⟨rfl, rfl, rfl, rfl, rfl, rfl, rfl, rfl, rfl, rfl, rfl, rfl, rfl, rfl, trivial⟩ rfl (SA.same (by kernel_rfl) (hj5 b9 hb9))
    refine SL.buildSlice (size := 3) (vals := [(0, Value.agg #[Value.slice xa x.f.length xc, bo x.bad, iw x.tick])]) (z := [Value.slice none 0 0, bo false, iw 0]) (cs := [Value.slice xa x.f.length xc, bo x.bad, iw x.tick]) rfl rfl (lt_b rfl) rfl Try.underlying56 (by kernel_rfl) rfl rfl (by kernel_rfl) fun b10 hb10 => ?_
    refine SL.nil ?_
    refine SA.se ?_
    refine SA.one 7 rfl (by kernel_rfl) ?_
    refine SL.ld 0 ts56 ?_
    refine SL.nil ?_
    refine SA.se ?_
    exact SA.norm [(8, iw 0), (41, pt wd 0), (42, iw 1), (43, pt wd 0), (44, iw 1), (45, pt wd 0), (46, pt wd 2), (47, pt wd 3), (48, Value.slice M.q1 ((outF M.ps1 k).length) M.c1), (49, iw to), (50, Value.agg #[Value.slice xa x.f.length xc, bo x.bad, iw x.tick]), (51, sl b10 0 1 1), (53, pt wd 0), (54, pt wd 2)] [rBlk wd [pt d0 0, pt d1 0, Value.slice M.q0 M.ps0.length M.c0, Value.slice M.q1 ((outF M.ps1 k).length) M.c1, iw S.now] 77, rDv 74 d0 M.fs S.A0, rDv 74 d1 M.fs S.A1, rRowN (.slice M.q0 M.ps0.length M.c0) (oRows M.ps0) 46 3, rRowN (.slice M.q1 ((outF M.ps1 k).length) M.c1) (oRows (outF M.ps1 k)) 46 3, rZ M.F M.fs, rBlk b4 [Value.slice xa x.f.length xc, bo x.bad, iw x.tick] 46, rBlk b10 [Value.slice xa x.f.length xc, bo x.bad, iw x.tick] 46] ⟨rfl, rfl, rfl, rfl, rfl, rfl, rfl, rfl, rfl, rfl, rfl, rfl, rfl, rfl, trivial⟩ rfl (SA.same (by kernel_rfl) (hj5 b10 hb10))
theorem moveX_any {w : World} {wd : Nat} {dir : Int} {k to : Int} (hd : isD dir = false) : Calls Try.prog 22 #[pt wd 0, iw dir, iw k, iw to] w fun e w' => e = .returned (iw 1) ∧ Only (fun _ => False) w w' := by
  refine calls_sc (l0 := []) (args := [pt wd 0, iw dir, iw k, iw to]) (fun _ => False) Try.func22 rfl 56 Try.ntmps22 (le_b rfl) ⟨⟨by simp, List.Pairwise.nil⟩, Only.refl _ _⟩ ?_
  show SC _ _ _ _ [(0, pt wd 0), (1, iw dir), (2, iw k), (3, iw to)] []
  refine SC.sr ?_
  refine SL.as ?_
  refine SL.nl ?_
  refine SC.sr ?_
  refine SL.mv ?_
  refine SL.mv ?_
  refine SL.mv ?_
  refine SL.callv (Value.tuple #[Value.pointer none, iw 1]) rfl rfl co34 rfl rfl rfl (lt_b rfl) (fun w hI => H_only hI (thereX_any hd)) ?_
  refine SL.mv ?_
  refine SL.uu (ru_extract rfl rfl rfl) ?_
  refine SL.uu (ru_extract rfl rfl rfl) ?_
  refine SL.as ?_
  refine SL.as ?_
  refine SL.nl ?_
  refine SC.seq ?_
  refine SC.block ?_
  refine SC.sr ?_
  refine SL.mv ?_
  refine SL.uu (ru_ne (b := true) rfl rfl rfl rfl) ?_
  refine SL.as ?_
  refine SL.nl ?_
  refine SC.yes rfl ?_
  refine SC.sr ?_
  refine SL.mv ?_
  refine SL.as ?_
  refine SL.nl ?_
  refine SC.ret ?_
  refine SE.blkr ?_
  refine SE.passr ?_
  refine SE.res (.inl rfl) (res1 Try.results22 rfl) fun w1 hI => ⟨rfl, hI.2⟩

end Go.Proofs.Ytcilikkljkdceaa

/-
  Pulling a frame.
-/
namespace Go.Proofs.Ytcilikkljkdceaa
open Go.RowKit
set_option maxRecDepth 100000
set_option maxHeartbeats 4000000
theorem pull0_any {w : World} {wd d0 d1 : Nat} {M : WM} {S : Wi} (hM : M.Ok S) (hn : M.ps0.length ≤ 3000000000000) (hk : NicOk S.A0) (h : Sep w (WLm 74 77 46 wd d0 d1 M S.A0 S.A1 S.now)) : Calls Try.prog 21 #[pt wd 0, iw 0] w fun e w' => e = .returned (iw (pullF S false).1) ∧ ∃ M', WTo 74 77 46 w wd d0 d1 M M' (pullF S false).2 w' := by
  refine calls_sc (l0 := (WLm 74 77 46 wd d0 d1 M S.A0 S.A1 S.now)) (args := [pt wd 0, iw 0]) (M.G wd d0 d1) Try.func21 rfl 44 Try.ntmps21 (le_b rfl) ⟨h, Only.refl _ _⟩ ?_
  show SC _ _ _ _ [(0, pt wd 0), (1, iw 0)] (WLm 74 77 46 wd d0 d1 M S.A0 S.A1 S.now)
  refine SC.sr ?_
  refine SL.as ?_
  refine SL.nl ?_
  refine SC.seq ?_
  refine SC.sr ?_
  refine SL.mv ?_
  refine SL.callv (bo true) rfl rfl co53 rfl rfl rfl (lt_b rfl) (fun w hI => H_only hI (is_any _)) ?_
  refine SL.uu (ru_not (c := false) rfl rfl rfl) ?_
  refine SL.nl ?_
  refine SC.no rfl ?_
  refine SC.skip ?_
  refine SC.of_SE ?_
  refine SC.sr ?_
  refine SL.mv ?_
  refine SL.mv ?_
  refine SL.nk ?_
  refine SL.fa 0 fd77_0 ?_
  refine SL.ia 0 ar34 ?_
  refine SL.ld 0 ts33 ?_
  refine SL.call (ζ := Option Addr × Nat × (Nat → Prop) × (Value → List UInt8 → Prop)) (fun z => Value.tuple #[Value.agg #[Value.slice z.1 ((takeR S.A0).1.1.1.length) z.2.1, bo false, iw ((takeR S.A0).1.1.2)], iw ((takeR S.A0).1.2)]) (fun z => [rB wd d0 d1 M S.now 77, rDv 74 d0 z.2.2.2 ((takeR S.A0).2), rDv 74 d1 z.2.2.2 S.A1, rR0 M 46, rR1 M 46, rZ z.2.2.1 z.2.2.2]) (fun z => (∀ v f, M.fs v f → z.2.2.2 v f) ∧ z.2.2.2 (.slice z.1 (takeR S.A0).1.1.1.length z.2.1) (takeR S.A0).1.1.1 ∧ ∀ b, z.2.2.1 b → M.F b ∨ w.heap.size ≤ b) rfl rfl co52 rfl rfl rfl (lt_b rfl) (fun w5 hI => (p_take hk (WL.nic0 (l := []) hI)).mono fun e w2 ⟨v, h1, k1, k3, k4⟩ => by obtain ⟨F1, g1, g2, g3, g4, qa, qc, rfl⟩ := out_frz k1 (WL.nic0 (l := []) hI).lt k4 (by have := takeR_len hk; omega); obtain ⟨F', fs', q1, q2, q3⟩ := WL.turn0 (g := fun v f => v = .slice qa (takeR S.A0).1.1.1.length qc ∧ f = (takeR S.A0).1.1.1) (l := []) hI (.inl (.inr (.inl rfl))) g1 g2 k3 (fun v f hv => by obtain ⟨rfl, rfl⟩ := hv; exact ⟨g3, g4⟩); exact ⟨(qa, qc, F', fs'), h1, q2, fun v f h => q1 v f (.inl h), q1 _ _ (.inr ⟨rfl, rfl⟩), fun b hb => (q3 b hb).imp id (Nat.le_trans hI.2.size)⟩) ?_
  rintro ⟨q1, c2, Fn, fsn⟩ ⟨hfn, hfv, hFn⟩
  dsimp only at hfn hfv hFn
  refine SL.mv ?_
  refine SL.uu (ru_extract rfl rfl rfl) ?_
  refine SL.uu (ru_extract rfl rfl rfl) ?_
  refine SL.alloca rfl rfl (lt_b rfl) ta46 rfl fun b3 hb3 => ?_
  refine SL.storea (i := 6) (vs := [Value.slice q1 ((takeR S.A0).1.1.1.length) c2, bo false, iw ((takeR S.A0).1.1.2)]) (c' := [Value.slice q1 ((takeR S.A0).1.1.1.length) c2, bo false, iw ((takeR S.A0).1.1.2)]) rfl rfl ta46 rfl rfl rfl rfl rfl rfl (le_b rfl) (.inr hb3) rfl ?_
  refine SL.as ?_
  refine SL.nl ?_
  refine SC.seq ?_
  refine SC.sr ?_
  refine SL.mv ?_
  refine SL.uu (ru_eq (b := ((((takeR S.A0).1.2) : Int) == 0)) rfl rfl rfl rfl) ?_
  refine SL.mv ?_
  refine SL.join 6 [(0, pt wd 0), (1, iw 0), (4, iw 0), (5, pt b3 0), (6, iw ((takeR S.A0).1.2)), (20, iw ((takeR S.A0).1.2)), (21, bo ((((takeR S.A0).1.2) : Int) == 0)), (22, bo ((((takeR S.A0).1.2) : Int) == 0)), (28, bo (((((takeR S.A0).1.2) : Int) == 0) && (!(oldB S.now (takeR S.A0).1.1.2))))] [rB wd d0 d1 M S.now 77, rDv 74 d0 fsn ((takeR S.A0).2), rDv 74 d1 fsn S.A1, rR0 M 46, rR1 M 46, rZ Fn fsn, rBlk b3 [Value.slice q1 ((takeR S.A0).1.1.1.length) c2, bo false, iw ((takeR S.A0).1.1.2)] 46] ?_ ?_
  rotate_left
  · intro K hK
    rcases tf ((((takeR S.A0).1.2) : Int) == 0) with h4 | h4
    · skip
      refine SL.norm [(0, pt wd 0), (1, iw 0), (4, iw 0), (5, pt b3 0), (6, iw ((takeR S.A0).1.2)), (20, iw ((takeR S.A0).1.2)), (21, bo true), (22, bo true)] _ ⟨rfl, rfl, rfl, rfl, rfl, rfl, (congrArg (fun x => some (Value.bool x)) h4), (congrArg (fun x => some (Value.bool x)) h4), trivial⟩ rfl ?_
      refine SL.gg (ru_move rfl rfl) ?_
      refine SL.gg (ru_fieldAddr (o2 := 2) fd46_2 rfl rfl rfl) ?_
      refine SL.gg (ru_load (i := 6) ts3 rfl rfl rfl rfl) ?_
      refine SL.callvg (bo (oldB S.now (takeR S.A0).1.1.2)) rfl rfl rfl rfl co51 rfl rfl rfl (lt_b rfl) (fun w hI => H_only hI (old_any (M := { M with F := Fn, fs := fsn }) (S := S.setA false (takeR S.A0).2) _ ((hI.keep 6).1))) ?_
      refine SL.gg (ru_not (c := (!(oldB S.now (takeR S.A0).1.1.2))) rfl rfl rfl) ?_
      refine SL.pk (bo (!(oldB S.now (takeR S.A0).1.1.2))) (bo false) ?_
      exact SL.joined hK ⟨rfl, rfl, rfl, rfl, rfl, rfl, (congrArg (fun x => some (Value.bool x)) h4.symm), (congrArg (fun x => some (Value.bool x)) h4.symm), (congrArg (fun bx => some (Value.bool (bx && (!(oldB S.now (takeR S.A0).1.1.2))))) h4.symm), trivial⟩ rfl
    refine SL.norm [(0, pt wd 0), (1, iw 0), (4, iw 0), (5, pt b3 0), (6, iw ((takeR S.A0).1.2)), (20, iw ((takeR S.A0).1.2)), (21, bo false), (22, bo false)] _ ⟨rfl, rfl, rfl, rfl, rfl, rfl, (congrArg (fun x => some (Value.bool x)) h4), (congrArg (fun x => some (Value.bool x)) h4), trivial⟩ rfl ?_
    refine SL.oo ?_
    refine SL.oo ?_
    refine SL.oo ?_
    refine SL.oo ?_
    refine SL.oo ?_
    refine SL.pk (undef) (bo false) ?_
    exact SL.joined hK ⟨rfl, rfl, rfl, rfl, rfl, rfl, (congrArg (fun x => some (Value.bool x)) h4.symm), (congrArg (fun x => some (Value.bool x)) h4.symm), (congrArg (fun bx => some (Value.bool (bx && (!(oldB S.now (takeR S.A0).1.1.2))))) h4.symm), trivial⟩ rfl
  skip
  refine SL.nl ?_
  refine SC.both (((((takeR S.A0).1.2) : Int) == 0) && (!(oldB S.now (takeR S.A0).1.1.2))) rfl (fun h5 => ?_) (fun h5 => ?_)
  · skip
    refine SC.region_any (by kernel_rfl) ?_
    refine SA.take 0 rfl (by kernel_rfl) (by kernel_rfl) (by kernel_rfl) rfl rfl (lt_b rfl) (fun _ => ru_move rfl rfl) ?_
    refine SA.take 1 rfl (by kernel_rfl) (by kernel_rfl) (by kernel_rfl) rfl rfl (lt_b rfl) (fun _ => ru_move rfl rfl) ?_
    refine SA.take 2 rfl (by kernel_rfl) (by kernel_rfl) (by kernel_rfl) rfl rfl (lt_b rfl) (fun _ => ru_move rfl rfl) ?_
    refine SA.take 3 rfl (by kernel_rfl) (by kernel_rfl) (by kernel_rfl) rfl rfl (lt_b rfl) (fun _ => ru_move rfl rfl) ?_
    refine SA.take 4 rfl (by kernel_rfl) (by kernel_rfl) (by kernel_rfl) rfl rfl (lt_b rfl) (fun _ => ru_nilCheck rfl rfl) ?_
    refine SA.take 5 rfl (by kernel_rfl) (by kernel_rfl) (by kernel_rfl) rfl rfl (lt_b rfl) (fun _ => ru_fieldAddr (o2 := 2) fd77_1 rfl rfl rfl) ?_
    refine SA.take 6 rfl (by kernel_rfl) (by kernel_rfl) (by kernel_rfl) rfl rfl (lt_b rfl) (fun _ => ru_indexA (o2 := 2) ar75 rfl rfl rfl (by decide) (by decide) rfl) ?_
    refine SA.take 11 rfl (by kernel_rfl) (by kernel_rfl) (by kernel_rfl) rfl rfl (lt_b rfl) (fun _ => ru_nilCheck rfl rfl) ?_
    refine SA.take 12 rfl (by kernel_rfl) (by kernel_rfl) (by kernel_rfl) rfl rfl (lt_b rfl) (fun _ => ru_fieldAddr (o2 := 2) fd77_1 rfl rfl rfl) ?_
    refine SA.lets (ζ := Nat) (fun b6 => [(4, iw 0), (6, iw ((takeR S.A0).1.2)), (29, pt wd 0), (30, iw 0), (31, pt wd 0), (32, iw 0), (33, pt wd 0), (34, pt wd 2), (35, pt wd 2), (36, Value.slice M.q0 M.ps0.length M.c0), (37, Value.agg #[Value.slice q1 ((takeR S.A0).1.1.1.length) c2, bo false, iw ((takeR S.A0).1.1.2)]), (38, sl b6 0 1 1), (40, pt wd 0), (41, pt wd 2)]) (fun b6 => [rB wd d0 d1 M S.now 77, rDv 74 d0 fsn ((takeR S.A0).2), rDv 74 d1 fsn S.A1, rR0 M 46, rR1 M 46, rZ Fn fsn, rBlk b3 [Value.slice q1 ((takeR S.A0).1.1.1.length) c2, bo false, iw ((takeR S.A0).1.1.2)] 46, rBlk b6 [Value.slice q1 ((takeR S.A0).1.1.1.length) c2, bo false, iw ((takeR S.A0).1.1.2)] 46]) (fun b6 => w.heap.size ≤ b6) 3 #[true, true, true, true, true, true, true, true, true, true, false, true, true, false, false] ?_ ?_
    · intro b6 hb6
      refine SA.one 10 rfl (by kernel_rfl) ?_
      refine SL.append_rowN (ri := 3) (rj := 7) (size := 3) (r := [Value.slice q1 ((takeR S.A0).1.1.1.length) c2, bo false, iw ((takeR S.A0).1.1.2)]) (z := Value.agg #[Value.slice none 0 0, bo false, iw 0]) (bytes := 40) rfl rfl (lt_b rfl) rfl (by decide) Try.underlying56 (by kernel_rfl) rfl rfl rfl rfl rfl rfl rfl (by rw [List.length_map]; omega) (by unfold maxLen; rw [List.length_map]; omega) (fun b hb => .inl (.inr (.inr (.inr (.inl hb))))) fun q7 c8 hq9 => ?_
      refine SL.nil ?_
      refine SA.se ?_
      refine SA.take 13 rfl (by kernel_rfl) (by kernel_rfl) (by kernel_rfl) rfl rfl (lt_b rfl) (fun _ => ru_indexA (o2 := 2) ar75 rfl rfl rfl (by decide) (by decide) rfl) ?_
      refine SA.one 14 rfl (by kernel_rfl) ?_
      refine SL.store (i := 0) (c' := [pt d0 0, pt d1 0, Value.slice q7 (M.ps0.length + 1) c8, Value.slice M.q1 M.ps1.length M.c1, iw S.now]) rfl rfl ts56 rfl rfl rfl rfl rfl (lt_b rfl) (.inl (.inl rfl)) rfl ?_
      refine SL.nil ?_
      refine SA.se ?_
      refine SA.done (by kernel_rfl) ?_
      refine SC.of_SE ?_
      refine SC.sr ?_
      refine SL.mv ?_
      refine SL.as ?_
      refine SL.nl ?_
      refine SC.ret ?_
      refine SE.res (.inl rfl) (res1 Try.results21 rfl) fun w1 hI => ?_
      have er : oRows (M.ps0 ++ [⟨.slice q1 (takeR S.A0).1.1.1.length c2, ⟨(takeR S.A0).1.1.1, false, (takeR S.A0).1.1.2⟩⟩]) = oRows M.ps0 ++ [[Value.slice q1 ((takeR S.A0).1.1.1.length) c2, bo false, iw ((takeR S.A0).1.1.2)]] := List.map_append
      have el : (M.ps0 ++ [(⟨.slice q1 (takeR S.A0).1.1.1.length c2, ⟨(takeR S.A0).1.1.1, false, (takeR S.A0).1.1.2⟩⟩ : FmV)]).length = M.ps0.length + 1 := by rw [List.length_append]; rfl
      have ew : pullF S false = ((takeR S.A0).1.2, (S.setA false (takeR S.A0).2).setL false (S.L0 ++ [⟨(takeR S.A0).1.1.1, false, (takeR S.A0).1.1.2⟩])) := by unfold pullF; exact if_pos h5
      rw [← er, ← el] at hI
      rw [ew]
      have hO := hM.app0 (F := Fn) (fs := fsn) (y := ⟨.slice q1 (takeR S.A0).1.1.1.length c2, ⟨(takeR S.A0).1.1.1, false, (takeR S.A0).1.1.2⟩⟩) hfn q7 c8 hfv
      exact ⟨rfl, { M with F := Fn, fs := fsn, q0 := q7, c0 := c8, ps0 := M.ps0 ++ [⟨.slice q1 (takeR S.A0).1.1.1.length c2, ⟨(takeR S.A0).1.1.1, false, (takeR S.A0).1.1.2⟩⟩] }, ⟨(hI.keep 6).1, ⟨hO.f0, hO.f1, hO.l0, hO.l1⟩, hfn, fun b hb => WM.K.new0 hb hFn hq9, hI.2⟩⟩
    · intro hj6
      refine SA.two 7 8 rfl rfl (by kernel_rfl) ?_ ?_
      · skip
        refine SL.ld 0 ts56 ?_
        refine SL.nil ?_
        refine SA.se ?_
        refine SA.one 8 rfl (by kernel_rfl) ?_
        refine SL.uu (ru_loada (i := 6) (vs := [Value.slice q1 ((takeR S.A0).1.1.1.length) c2, bo false, iw ((takeR S.A0).1.1.2)]) ta46 rfl rfl rfl rfl (le_b rfl)) ?_
        refine SL.nil ?_
        refine SA.se ?_
        refine SA.one 9 rfl (by kernel_rfl) ?_
        refine SL.buildSlice (size := 3) (vals := [(0, Value.agg #[Value.slice q1 ((takeR S.A0).1.1.1.length) c2, bo false, iw ((takeR S.A0).1.1.2)])]) (z := [Value.slice none 0 0, bo false, iw 0]) (cs := [Value.slice q1 ((takeR S.A0).1.1.1.length) c2, bo false, iw ((takeR S.A0).1.1.2)]) rfl rfl (lt_b rfl) rfl Try.underlying56 (by kernel_rfl) rfl rfl (by kernel_rfl) fun b10 hb10 => ?_
        refine SL.nil ?_
        refine SA.se ?_
        exact SA.norm [(4, iw 0), (6, iw ((takeR S.A0).1.2)), (29, pt wd 0), (30, iw 0), (31, pt wd 0), (32, iw 0), (33, pt wd 0), (34, pt wd 2), (35, pt wd 2), (36, Value.slice M.q0 M.ps0.length M.c0), (37, Value.agg #[Value.slice q1 ((takeR S.A0).1.1.1.length) c2, bo false, iw ((takeR S.A0).1.1.2)]), (38, sl b10 0 1 1), (40, pt wd 0), (41, pt wd 2)] [rBlk wd [pt d0 0, pt d1 0, Value.slice M.q0 M.ps0.length M.c0, Value.slice M.q1 M.ps1.length M.c1, iw S.now] 77, rDv 74 d0 fsn ((takeR S.A0).2), rDv 74 d1 fsn S.A1, rRowN (.slice M.q0 M.ps0.length M.c0) (oRows M.ps0) 46 3, rRowN (.slice M.q1 M.ps1.length M.c1) (oRows M.ps1) 46 3, rZ Fn fsn, rBlk b3 [Value.slice q1 ((takeR S.A0).1.1.1.length) c2, bo false, iw ((takeR S.A0).1.1.2)] 46, rBlk b10 [Value.slice q1 ((takeR S.A0).1.1.1.length) c2, bo false, iw ((takeR S.A0).1.1.2)] 46] ⟨rfl, rfl, rfl, rfl, rfl, rfl, rfl, rfl, rfl, rfl, rfl, rfl, rfl, rfl, trivial⟩ rfl (SA.same (by kernel_rfl) (hj6 b10 hb10))
      refine SL.uu (ru_loada (i := 6) (vs := [Value.slice q1 ((takeR S.A0).1.1.1.length) c2, bo false, iw ((takeR S.A0).1.1.2)]) ta46 rfl rfl rfl rfl (le_b rfl)) ?_
      refine SL.nil ?_
      refine SA.se ?_
      refine SA.two 7 9 rfl rfl (by kernel_rfl) ?_ ?_
      · skip
        refine SL.ld 0 ts56 ?_
        refine SL.nil ?_
        refine SA.se ?_
        refine SA.one 9 rfl (by kernel_rfl) ?_
        refine SL.buildSlice (size := 3) (vals := [(0, Value.agg #[Value.slice q1 ((takeR S.A0).1.1.1.length) c2, bo false, iw ((takeR S.A0).1.1.2)])]) (z := [Value.slice none 0 0, bo false, iw 0]) (cs := [Value.slice q1 ((takeR S.A0).1.1.1.length) c2, bo false, iw ((takeR S.A0).1.1.2)]) rfl rfl (lt_b rfl) rfl Try.underlying56 (by kernel_rfl) rfl rfl (by kernel_rfl) fun b11 hb11 => ?_
        refine SL.nil ?_
        refine SA.se ?_
        exact SA.norm [(4, iw 0), (6, iw ((takeR S.A0).1.2)), (29, pt wd 0), (30, iw 0), (31, pt wd 0), (32, iw 0), (33, pt wd 0), (34, pt wd 2), (35, pt wd 2), (36, Value.slice M.q0 M.ps0.length M.c0), (37, Value.agg #[Value.slice q1 ((takeR S.A0).1.1.1.length) c2, bo false, iw ((takeR S.A0).1.1.2)]), (38, sl b11 0 1 1), (40, pt wd 0), (41, pt wd 2)] [rBlk wd [pt d0 0, pt d1 0, Value.slice M.q0 M.ps0.length M.c0, Value.slice M.q1 M.ps1.length M.c1, iw S.now] 77, rDv 74 d0 fsn ((takeR S.A0).2), rDv 74 d1 fsn S.A1, rRowN (.slice M.q0 M.ps0.length M.c0) (oRows M.ps0) 46 3, rRowN (.slice M.q1 M.ps1.length M.c1) (oRows M.ps1) 46 3, rZ Fn fsn, rBlk b3 [Value.slice q1 ((takeR S.A0).1.1.1.length) c2, bo false, iw ((takeR S.A0).1.1.2)] 46, rBlk b11 [Value.slice q1 ((takeR S.A0).1.1.1.length) c2, bo false, iw ((takeR S.A0).1.1.2)] 46] ⟨rfl, rfl, rfl, rfl, rfl, rfl, rfl, rfl, rfl, rfl, rfl, rfl, rfl, rfl, trivial⟩ rfl (SA.same (by kernel_rfl) (hj6 b11 hb11))
      refine SL.buildSlice (size := 3) (vals := [(0, Value.agg #[Value.slice q1 ((takeR S.A0).1.1.1.length) c2, bo false, iw ((takeR S.A0).1.1.2)])]) (z := [Value.slice none 0 0, bo false, iw 0]) (cs := [Value.slice q1 ((takeR S.A0).1.1.1.length) c2, bo false, iw ((takeR S.A0).1.1.2)]) rfl rfl (lt_b rfl) rfl Try.underlying56 (by kernel_rfl) rfl rfl (by kernel_rfl) fun b12 hb12 => ?_
      refine SL.nil ?_
      refine SA.se ?_
      refine SA.one 7 rfl (by kernel_rfl) ?_
      refine SL.ld 0 ts56 ?_
      refine SL.nil ?_
      refine SA.se ?_
      exact SA.norm [(4, iw 0), (6, iw ((takeR S.A0).1.2)), (29, pt wd 0), (30, iw 0), (31, pt wd 0), (32, iw 0), (33, pt wd 0), (34, pt wd 2), (35, pt wd 2), (36, Value.slice M.q0 M.ps0.length M.c0), (37, Value.agg #[Value.slice q1 ((takeR S.A0).1.1.1.length) c2, bo false, iw ((takeR S.A0).1.1.2)]), (38, sl b12 0 1 1), (40, pt wd 0), (41, pt wd 2)] [rBlk wd [pt d0 0, pt d1 0, Value.slice M.q0 M.ps0.length M.c0, Value.slice M.q1 M.ps1.length M.c1, iw S.now] 77, rDv 74 d0 fsn ((takeR S.A0).2), rDv 74 d1 fsn S.A1, rRowN (.slice M.q0 M.ps0.length M.c0) (oRows M.ps0) 46 3, rRowN (.slice M.q1 M.ps1.length M.c1) (oRows M.ps1) 46 3, rZ Fn fsn, rBlk b3 [Value.slice q1 ((takeR S.A0).1.1.1.length) c2, bo false, iw ((takeR S.A0).1.1.2)] 46, rBlk b12 [Value.slice q1 ((takeR S.A0).1.1.1.length) c2, bo false, iw ((takeR S.A0).1.1.2)] 46] ⟨rfl, rfl, rfl, rfl, rfl, rfl, rfl, rfl, rfl, rfl, rfl, rfl, rfl, rfl, trivial⟩ rfl (SA.same (by kernel_rfl) (hj6 b12 hb12))
  refine SC.skip ?_
  refine SC.of_SE ?_
  refine SC.sr ?_
  refine SL.mv ?_
  refine SL.as ?_
  refine SL.nl ?_
  refine SC.ret ?_
  refine SE.res (.inl rfl) (res1 Try.results21 rfl) fun w1 hI => ?_
  have ew : pullF S false = ((takeR S.A0).1.2, (S.setA false (takeR S.A0).2)) := by unfold pullF; exact if_neg (not_t h5)
  rw [ew]
  exact ⟨rfl, { M with F := Fn, fs := fsn }, ⟨(hI.keep 6).1, ⟨fun y hy => hfn _ _ (hM.f0 y hy), fun y hy => hfn _ _ (hM.f1 y hy), hM.l0, hM.l1⟩, hfn, fun b hb => WM.K.frz (M' := M) hb (fun b hb => .inr (.inr (.inr hb))) hFn, hI.2⟩⟩
theorem pull1_any {w : World} {wd d0 d1 : Nat} {M : WM} {S : Wi} (hM : M.Ok S) (hn : M.ps1.length ≤ 3000000000000) (hk : NicOk S.A1) (h : Sep w (WLm 74 77 46 wd d0 d1 M S.A0 S.A1 S.now)) : Calls Try.prog 21 #[pt wd 0, iw 1] w fun e w' => e = .returned (iw (pullF S true).1) ∧ ∃ M', WTo 74 77 46 w wd d0 d1 M M' (pullF S true).2 w' := by
  refine calls_sc (l0 := (WLm 74 77 46 wd d0 d1 M S.A0 S.A1 S.now)) (args := [pt wd 0, iw 1]) (M.G wd d0 d1) Try.func21 rfl 44 Try.ntmps21 (le_b rfl) ⟨h, Only.refl _ _⟩ ?_
  show SC _ _ _ _ [(0, pt wd 0), (1, iw 1)] (WLm 74 77 46 wd d0 d1 M S.A0 S.A1 S.now)
  refine SC.sr ?_
  refine SL.as ?_
  refine SL.nl ?_
  refine SC.seq ?_
  refine SC.sr ?_
  refine SL.mv ?_
  refine SL.callv (bo true) rfl rfl co53 rfl rfl rfl (lt_b rfl) (fun w hI => H_only hI (is_any _)) ?_
  refine SL.uu (ru_not (c := false) rfl rfl rfl) ?_
  refine SL.nl ?_
  refine SC.no rfl ?_
  refine SC.skip ?_
  refine SC.of_SE ?_
  refine SC.sr ?_
  refine SL.mv ?_
  refine SL.mv ?_
  refine SL.nk ?_
  refine SL.fa 0 fd77_0 ?_
  refine SL.ia 1 ar34 ?_
  refine SL.ld 0 ts33 ?_
  refine SL.call (ζ := Option Addr × Nat × (Nat → Prop) × (Value → List UInt8 → Prop)) (fun z => Value.tuple #[Value.agg #[Value.slice z.1 ((takeR S.A1).1.1.1.length) z.2.1, bo false, iw ((takeR S.A1).1.1.2)], iw ((takeR S.A1).1.2)]) (fun z => [rB wd d0 d1 M S.now 77, rDv 74 d0 z.2.2.2 S.A0, rDv 74 d1 z.2.2.2 ((takeR S.A1).2), rR0 M 46, rR1 M 46, rZ z.2.2.1 z.2.2.2]) (fun z => (∀ v f, M.fs v f → z.2.2.2 v f) ∧ z.2.2.2 (.slice z.1 (takeR S.A1).1.1.1.length z.2.1) (takeR S.A1).1.1.1 ∧ ∀ b, z.2.2.1 b → M.F b ∨ w.heap.size ≤ b) rfl rfl co52 rfl rfl rfl (lt_b rfl) (fun w5 hI => (p_take hk (WL.nic1 (l := []) hI)).mono fun e w2 ⟨v, h1, k1, k3, k4⟩ => by obtain ⟨F1, g1, g2, g3, g4, qa, qc, rfl⟩ := out_frz k1 (WL.nic1 (l := []) hI).lt k4 (by have := takeR_len hk; omega); obtain ⟨F', fs', q1, q2, q3⟩ := WL.turn1 (g := fun v f => v = .slice qa (takeR S.A1).1.1.1.length qc ∧ f = (takeR S.A1).1.1.1) (l := []) hI (.inl (.inr (.inr (.inl rfl)))) g1 g2 k3 (fun v f hv => by obtain ⟨rfl, rfl⟩ := hv; exact ⟨g3, g4⟩); exact ⟨(qa, qc, F', fs'), h1, q2, fun v f h => q1 v f (.inl h), q1 _ _ (.inr ⟨rfl, rfl⟩), fun b hb => (q3 b hb).imp id (Nat.le_trans hI.2.size)⟩) ?_
  rintro ⟨q1, c2, Fn, fsn⟩ ⟨hfn, hfv, hFn⟩
  dsimp only at hfn hfv hFn
  refine SL.mv ?_
  refine SL.uu (ru_extract rfl rfl rfl) ?_
  refine SL.uu (ru_extract rfl rfl rfl) ?_
  refine SL.alloca rfl rfl (lt_b rfl) ta46 rfl fun b3 hb3 => ?_
  refine SL.storea (i := 6) (vs := [Value.slice q1 ((takeR S.A1).1.1.1.length) c2, bo false, iw ((takeR S.A1).1.1.2)]) (c' := [Value.slice q1 ((takeR S.A1).1.1.1.length) c2, bo false, iw ((takeR S.A1).1.1.2)]) rfl rfl ta46 rfl rfl rfl rfl rfl rfl (le_b rfl) (.inr hb3) rfl ?_
  refine SL.as ?_
  refine SL.nl ?_
  refine SC.seq ?_
  refine SC.sr ?_
  refine SL.mv ?_
  refine SL.uu (ru_eq (b := ((((takeR S.A1).1.2) : Int) == 0)) rfl rfl rfl rfl) ?_
  refine SL.mv ?_
  refine SL.join 6 [(0, pt wd 0), (1, iw 1), (4, iw 0), (5, pt b3 0), (6, iw ((takeR S.A1).1.2)), (20, iw ((takeR S.A1).1.2)), (21, bo ((((takeR S.A1).1.2) : Int) == 0)), (22, bo ((((takeR S.A1).1.2) : Int) == 0)), (28, bo (((((takeR S.A1).1.2) : Int) == 0) && (!(oldB S.now (takeR S.A1).1.1.2))))] [rB wd d0 d1 M S.now 77, rDv 74 d0 fsn S.A0, rDv 74 d1 fsn ((takeR S.A1).2), rR0 M 46, rR1 M 46, rZ Fn fsn, rBlk b3 [Value.slice q1 ((takeR S.A1).1.1.1.length) c2, bo false, iw ((takeR S.A1).1.1.2)] 46] ?_ ?_
  rotate_left
  · intro K hK
    rcases tf ((((takeR S.A1).1.2) : Int) == 0) with h4 | h4
    · skip
      refine SL.norm [(0, pt wd 0), (1, iw 1), (4, iw 0), (5, pt b3 0), (6, iw ((takeR S.A1).1.2)), (20, iw ((takeR S.A1).1.2)), (21, bo true), (22, bo true)] _ ⟨rfl, rfl, rfl, rfl, rfl, rfl, (congrArg (fun x => some (Value.bool x)) h4), (congrArg (fun x => some (Value.bool x)) h4), trivial⟩ rfl ?_
      refine SL.gg (ru_move rfl rfl) ?_
      refine SL.gg (ru_fieldAddr (o2 := 2) fd46_2 rfl rfl rfl) ?_
      refine SL.gg (ru_load (i := 6) ts3 rfl rfl rfl rfl) ?_
      refine SL.callvg (bo (oldB S.now (takeR S.A1).1.1.2)) rfl rfl rfl rfl co51 rfl rfl rfl (lt_b rfl) (fun w hI => H_only hI (old_any (M := { M with F := Fn, fs := fsn }) (S := S.setA true (takeR S.A1).2) _ ((hI.keep 6).1))) ?_
      refine SL.gg (ru_not (c := (!(oldB S.now (takeR S.A1).1.1.2))) rfl rfl rfl) ?_
      refine SL.pk (bo (!(oldB S.now (takeR S.A1).1.1.2))) (bo false) ?_
      exact SL.joined hK ⟨rfl, rfl, rfl, rfl, rfl, rfl, (congrArg (fun x => some (Value.bool x)) h4.symm), (congrArg (fun x => some (Value.bool x)) h4.symm), (congrArg (fun bx => some (Value.bool (bx && (!(oldB S.now (takeR S.A1).1.1.2))))) h4.symm), trivial⟩ rfl
    refine SL.norm [(0, pt wd 0), (1, iw 1), (4, iw 0), (5, pt b3 0), (6, iw ((takeR S.A1).1.2)), (20, iw ((takeR S.A1).1.2)), (21, bo false), (22, bo false)] _ ⟨rfl, rfl, rfl, rfl, rfl, rfl, (congrArg (fun x => some (Value.bool x)) h4), (congrArg (fun x => some (Value.bool x)) h4), trivial⟩ rfl ?_
    refine SL.oo ?_
    refine SL.oo ?_
    refine SL.oo ?_
    refine SL.oo ?_
    refine SL.oo ?_
    refine SL.pk (undef) (bo false) ?_
    exact SL.joined hK ⟨rfl, rfl, rfl, rfl, rfl, rfl, (congrArg (fun x => some (Value.bool x)) h4.symm), (congrArg (fun x => some (Value.bool x)) h4.symm), (congrArg (fun bx => some (Value.bool (bx && (!(oldB S.now (takeR S.A1).1.1.2))))) h4.symm), trivial⟩ rfl
  skip
  refine SL.nl ?_
  refine SC.both (((((takeR S.A1).1.2) : Int) == 0) && (!(oldB S.now (takeR S.A1).1.1.2))) rfl (fun h5 => ?_) (fun h5 => ?_)
  · skip
    refine SC.region_any (by kernel_rfl) ?_
    refine SA.take 0 rfl (by kernel_rfl) (by kernel_rfl) (by kernel_rfl) rfl rfl (lt_b rfl) (fun _ => ru_move rfl rfl) ?_
    refine SA.take 1 rfl (by kernel_rfl) (by kernel_rfl) (by kernel_rfl) rfl rfl (lt_b rfl) (fun _ => ru_move rfl rfl) ?_
    refine SA.take 2 rfl (by kernel_rfl) (by kernel_rfl) (by kernel_rfl) rfl rfl (lt_b rfl) (fun _ => ru_move rfl rfl) ?_
    refine SA.take 3 rfl (by kernel_rfl) (by kernel_rfl) (by kernel_rfl) rfl rfl (lt_b rfl) (fun _ => ru_move rfl rfl) ?_
    refine SA.take 4 rfl (by kernel_rfl) (by kernel_rfl) (by kernel_rfl) rfl rfl (lt_b rfl) (fun _ => ru_nilCheck rfl rfl) ?_
    refine SA.take 5 rfl (by kernel_rfl) (by kernel_rfl) (by kernel_rfl) rfl rfl (lt_b rfl) (fun _ => ru_fieldAddr (o2 := 2) fd77_1 rfl rfl rfl) ?_
    refine SA.take 6 rfl (by kernel_rfl) (by kernel_rfl) (by kernel_rfl) rfl rfl (lt_b rfl) (fun _ => ru_indexA (o2 := 3) ar75 rfl rfl rfl (by decide) (by decide) rfl) ?_
    refine SA.take 11 rfl (by kernel_rfl) (by kernel_rfl) (by kernel_rfl) rfl rfl (lt_b rfl) (fun _ => ru_nilCheck rfl rfl) ?_
    refine SA.take 12 rfl (by kernel_rfl) (by kernel_rfl) (by kernel_rfl) rfl rfl (lt_b rfl) (fun _ => ru_fieldAddr (o2 := 2) fd77_1 rfl rfl rfl) ?_
    refine SA.lets (ζ := Nat) (fun b6 => [(4, iw 0), (6, iw ((takeR S.A1).1.2)), (29, pt wd 0), (30, iw 1), (31, pt wd 0), (32, iw 1), (33, pt wd 0), (34, pt wd 2), (35, pt wd 3), (36, Value.slice M.q1 M.ps1.length M.c1), (37, Value.agg #[Value.slice q1 ((takeR S.A1).1.1.1.length) c2, bo false, iw ((takeR S.A1).1.1.2)]), (38, sl b6 0 1 1), (40, pt wd 0), (41, pt wd 2)]) (fun b6 => [rB wd d0 d1 M S.now 77, rDv 74 d0 fsn S.A0, rDv 74 d1 fsn ((takeR S.A1).2), rR0 M 46, rR1 M 46, rZ Fn fsn, rBlk b3 [Value.slice q1 ((takeR S.A1).1.1.1.length) c2, bo false, iw ((takeR S.A1).1.1.2)] 46, rBlk b6 [Value.slice q1 ((takeR S.A1).1.1.1.length) c2, bo false, iw ((takeR S.A1).1.1.2)] 46]) (fun b6 => w.heap.size ≤ b6) 3 #[true, true, true, true, true, true, true, true, true, true, false, true, true, false, false] ?_ ?_
    · intro b6 hb6
      refine SA.one 10 rfl (by kernel_rfl) ?_
      refine SL.append_rowN (ri := 4) (rj := 7) (size := 3) (r := [Value.slice q1 ((takeR S.A1).1.1.1.length) c2, bo false, iw ((takeR S.A1).1.1.2)]) (z := Value.agg #[Value.slice none 0 0, bo false, iw 0]) (bytes := 40) rfl rfl (lt_b rfl) rfl (by decide) Try.underlying56 (by kernel_rfl) rfl rfl rfl rfl rfl rfl rfl (by rw [List.length_map]; omega) (by unfold maxLen; rw [List.length_map]; omega) (fun b hb => .inl (.inr (.inr (.inr (.inr hb))))) fun q7 c8 hq9 => ?_
      refine SL.nil ?_
      refine SA.se ?_
      refine SA.take 13 rfl (by kernel_rfl) (by kernel_rfl) (by kernel_rfl) rfl rfl (lt_b rfl) (fun _ => ru_indexA (o2 := 3) ar75 rfl rfl rfl (by decide) (by decide) rfl) ?_
      refine SA.one 14 rfl (by kernel_rfl) ?_
      refine SL.store (i := 0) (c' := [pt d0 0, pt d1 0, Value.slice M.q0 M.ps0.length M.c0, Value.slice q7 (M.ps1.length + 1) c8, iw S.now]) rfl rfl ts56 rfl rfl rfl rfl rfl (lt_b rfl) (.inl (.inl rfl)) rfl ?_
      refine SL.nil ?_
      refine SA.se ?_
      refine SA.done (by kernel_rfl) ?_
      refine SC.of_SE ?_
      refine SC.sr ?_
      refine SL.mv ?_
      refine SL.as ?_
      refine SL.nl ?_
      refine SC.ret ?_
      refine SE.res (.inl rfl) (res1 Try.results21 rfl) fun w1 hI => ?_
      have er : oRows (M.ps1 ++ [⟨.slice q1 (takeR S.A1).1.1.1.length c2, ⟨(takeR S.A1).1.1.1, false, (takeR S.A1).1.1.2⟩⟩]) = oRows M.ps1 ++ [[Value.slice q1 ((takeR S.A1).1.1.1.length) c2, bo false, iw ((takeR S.A1).1.1.2)]] := List.map_append
      have el : (M.ps1 ++ [(⟨.slice q1 (takeR S.A1).1.1.1.length c2, ⟨(takeR S.A1).1.1.1, false, (takeR S.A1).1.1.2⟩⟩ : FmV)]).length = M.ps1.length + 1 := by rw [List.length_append]; rfl
      have ew : pullF S true = ((takeR S.A1).1.2, (S.setA true (takeR S.A1).2).setL true (S.L1 ++ [⟨(takeR S.A1).1.1.1, false, (takeR S.A1).1.1.2⟩])) := by unfold pullF; exact if_pos h5
      rw [← er, ← el] at hI
      rw [ew]
      have hO := hM.app1 (F := Fn) (fs := fsn) (y := ⟨.slice q1 (takeR S.A1).1.1.1.length c2, ⟨(takeR S.A1).1.1.1, false, (takeR S.A1).1.1.2⟩⟩) hfn q7 c8 hfv
      exact ⟨rfl, { M with F := Fn, fs := fsn, q1 := q7, c1 := c8, ps1 := M.ps1 ++ [⟨.slice q1 (takeR S.A1).1.1.1.length c2, ⟨(takeR S.A1).1.1.1, false, (takeR S.A1).1.1.2⟩⟩] }, ⟨(hI.keep 6).1, ⟨hO.f0, hO.f1, hO.l0, hO.l1⟩, hfn, fun b hb => WM.K.new1 hb hFn hq9, hI.2⟩⟩
    · intro hj6
      refine SA.two 7 8 rfl rfl (by kernel_rfl) ?_ ?_
      · skip
        refine SL.ld 0 ts56 ?_
        refine SL.nil ?_
        refine SA.se ?_
        refine SA.one 8 rfl (by kernel_rfl) ?_
        refine SL.uu (ru_loada (i := 6) (vs := [Value.slice q1 ((takeR S.A1).1.1.1.length) c2, bo false, iw ((takeR S.A1).1.1.2)]) ta46 rfl rfl rfl rfl (le_b rfl)) ?_
        refine SL.nil ?_
        refine SA.se ?_
        refine SA.one 9 rfl (by kernel_rfl) ?_
        refine SL.buildSlice (size := 3) (vals := [(0, Value.agg #[Value.slice q1 ((takeR S.A1).1.1.1.length) c2, bo false, iw ((takeR S.A1).1.1.2)])]) (z := [Value.slice none 0 0, bo false, iw 0]) (cs := [Value.slice q1 ((takeR S.A1).1.1.1.length) c2, bo false, iw ((takeR S.A1).1.1.2)]) rfl rfl (lt_b rfl) rfl Try.underlying56 (by kernel_rfl) rfl rfl (by kernel_rfl) fun b10 hb10 => ?_
        refine SL.nil ?_
        refine SA.se ?_
        exact SA.norm [(4, iw 0), (6, iw ((takeR S.A1).1.2)), (29, pt wd 0), (30, iw 1), (31, pt wd 0), (32, iw 1), (33, pt wd 0), (34, pt wd 2), (35, pt wd 3), (36, Value.slice M.q1 M.ps1.length M.c1), (37, Value.agg #[Value.slice q1 ((takeR S.A1).1.1.1.length) c2, bo false, iw ((takeR S.A1).1.1.2)]), (38, sl b10 0 1 1), (40, pt wd 0), (41, pt wd 2)] [rBlk wd [pt d0 0, pt d1 0, Value.slice M.q0 M.ps0.length M.c0, Value.slice M.q1 M.ps1.length M.c1, iw S.now] 77, rDv 74 d0 fsn S.A0, rDv 74 d1 fsn ((takeR S.A1).2), rRowN (.slice M.q0 M.ps0.length M.c0) (oRows M.ps0) 46 3, rRowN (.slice M.q1 M.ps1.length M.c1) (oRows M.ps1) 46 3, rZ Fn fsn, rBlk b3 [Value.slice q1 ((takeR S.A1).1.1.1.length) c2, bo false, iw ((takeR S.A1).1.1.2)] 46, rBlk b10 [Value.slice q1 ((takeR S.A1).1.1.1.length) c2, bo false, iw ((takeR S.A1).1.1.2)] 46] ⟨rfl, rfl, rfl, rfl, rfl, rfl, rfl, rfl, rfl, rfl, rfl, rfl, rfl, rfl, trivial⟩ rfl (SA.same (by kernel_rfl) (hj6 b10 hb10))
      refine SL.uu (ru_loada (i := 6) (vs := [Value.slice q1 ((takeR S.A1).1.1.1.length) c2, bo false, iw ((takeR S.A1).1.1.2)]) ta46 rfl rfl rfl rfl (le_b rfl)) ?_
      refine SL.nil ?_
      refine SA.se ?_
      refine SA.two 7 9 rfl rfl (by kernel_rfl) ?_ ?_
      · skip
        refine SL.ld 0 ts56 ?_
        refine SL.nil ?_
        refine SA.se ?_
        refine SA.one 9 rfl (by kernel_rfl) ?_
        refine SL.buildSlice (size := 3) (vals := [(0, Value.agg #[Value.slice q1 ((takeR S.A1).1.1.1.length) c2, bo false, iw ((takeR S.A1).1.1.2)])]) (z := [Value.slice none 0 0, bo false, iw 0]) (cs := [Value.slice q1 ((takeR S.A1).1.1.1.length) c2, bo false, iw ((takeR S.A1).1.1.2)]) rfl rfl (lt_b rfl) rfl Try.underlying56 (by kernel_rfl) rfl rfl (by kernel_rfl) fun b11 hb11 => ?_
        refine SL.nil ?_
        refine SA.se ?_
        exact SA.norm [(4, iw 0), (6, iw ((takeR S.A1).1.2)), (29, pt wd 0), (30, iw 1), (31, pt wd 0), (32, iw 1), (33, pt wd 0), (34, pt wd 2), (35, pt wd 3), (36, Value.slice M.q1 M.ps1.length M.c1), (37, Value.agg #[Value.slice q1 ((takeR S.A1).1.1.1.length) c2, bo false, iw ((takeR S.A1).1.1.2)]), (38, sl b11 0 1 1), (40, pt wd 0), (41, pt wd 2)] [rBlk wd [pt d0 0, pt d1 0, Value.slice M.q0 M.ps0.length M.c0, Value.slice M.q1 M.ps1.length M.c1, iw S.now] 77, rDv 74 d0 fsn S.A0, rDv 74 d1 fsn ((takeR S.A1).2), rRowN (.slice M.q0 M.ps0.length M.c0) (oRows M.ps0) 46 3, rRowN (.slice M.q1 M.ps1.length M.c1) (oRows M.ps1) 46 3, rZ Fn fsn, rBlk b3 [Value.slice q1 ((takeR S.A1).1.1.1.length) c2, bo false, iw ((takeR S.A1).1.1.2)] 46, rBlk b11 [Value.slice q1 ((takeR S.A1).1.1.1.length) c2, bo false, iw ((takeR S.A1).1.1.2)] 46] ⟨rfl, rfl, rfl, rfl, rfl, rfl, rfl, rfl, rfl, rfl, rfl, rfl, rfl, rfl, trivial⟩ rfl (SA.same (by kernel_rfl) (hj6 b11 hb11))
      refine SL.buildSlice (size := 3) (vals := [(0, Value.agg #[Value.slice q1 ((takeR S.A1).1.1.1.length) c2, bo false, iw ((takeR S.A1).1.1.2)])]) (z := [Value.slice none 0 0, bo false, iw 0]) (cs := [Value.slice q1 ((takeR S.A1).1.1.1.length) c2, bo false, iw ((takeR S.A1).1.1.2)]) rfl rfl (lt_b rfl) rfl Try.underlying56 (by kernel_rfl) rfl rfl (by kernel_rfl) fun b12 hb12 => ?_
      refine SL.nil ?_
      refine SA.se ?_
      refine SA.one 7 rfl (by kernel_rfl) ?_
      refine SL.ld 0 ts56 ?_
      refine SL.nil ?_
      refine SA.se ?_
      exact SA.norm [(4, iw 0), (6, iw ((takeR S.A1).1.2)), (29, pt wd 0), (30, iw 1), (31, pt wd 0), (32, iw 1), (33, pt wd 0), (34, pt wd 2), (35, pt wd 3), (36, Value.slice M.q1 M.ps1.length M.c1), (37, Value.agg #[Value.slice q1 ((takeR S.A1).1.1.1.length) c2, bo false, iw ((takeR S.A1).1.1.2)]), (38, sl b12 0 1 1), (40, pt wd 0), (41, pt wd 2)] [rBlk wd [pt d0 0, pt d1 0, Value.slice M.q0 M.ps0.length M.c0, Value.slice M.q1 M.ps1.length M.c1, iw S.now] 77, rDv 74 d0 fsn S.A0, rDv 74 d1 fsn ((takeR S.A1).2), rRowN (.slice M.q0 M.ps0.length M.c0) (oRows M.ps0) 46 3, rRowN (.slice M.q1 M.ps1.length M.c1) (oRows M.ps1) 46 3, rZ Fn fsn, rBlk b3 [Value.slice q1 ((takeR S.A1).1.1.1.length) c2, bo false, iw ((takeR S.A1).1.1.2)] 46, rBlk b12 [Value.slice q1 ((takeR S.A1).1.1.1.length) c2, bo false, iw ((takeR S.A1).1.1.2)] 46] ⟨rfl, rfl, rfl, rfl, rfl, rfl, rfl, rfl, rfl, rfl, rfl, rfl, rfl, rfl, trivial⟩ rfl (SA.same (by kernel_rfl) (hj6 b12 hb12))
  refine SC.skip ?_
  refine SC.of_SE ?_
  refine SC.sr ?_
  refine SL.mv ?_
  refine SL.as ?_
  refine SL.nl ?_
  refine SC.ret ?_
  refine SE.res (.inl rfl) (res1 Try.results21 rfl) fun w1 hI => ?_
  have ew : pullF S true = ((takeR S.A1).1.2, (S.setA true (takeR S.A1).2)) := by unfold pullF; exact if_neg (not_t h5)
  rw [ew]
  exact ⟨rfl, { M with F := Fn, fs := fsn }, ⟨(hI.keep 6).1, ⟨fun y hy => hfn _ _ (hM.f0 y hy), fun y hy => hfn _ _ (hM.f1 y hy), hM.l0, hM.l1⟩, hfn, fun b hb => WM.K.frz (M' := M) hb (fun b hb => .inr (.inr (.inr hb))) hFn, hI.2⟩⟩
theorem pullX_any {w : World} {wd : Nat} {dir : Int} (hd : isD dir = false) : Calls Try.prog 21 #[pt wd 0, iw dir] w fun e w' => e = .returned (iw 1) ∧ Only (fun _ => False) w w' := by
  refine calls_sc (l0 := []) (args := [pt wd 0, iw dir]) (fun _ => False) Try.func21 rfl 44 Try.ntmps21 (le_b rfl) ⟨⟨by simp, List.Pairwise.nil⟩, Only.refl _ _⟩ ?_
  show SC _ _ _ _ [(0, pt wd 0), (1, iw dir)] []
  refine SC.sr ?_
  refine SL.as ?_
  refine SL.nl ?_
  refine SC.seq ?_
  refine SC.sr ?_
  refine SL.mv ?_
  refine SL.callv (bo false) rfl rfl co53 rfl rfl rfl (lt_b rfl) (fun w hI => H_only hI ((is_any dir).mono fun e w2 ⟨h1, h2⟩ => ⟨h1.trans (by rw [hd]), h2⟩)) ?_
  refine SL.uu (ru_not (c := true) rfl rfl rfl) ?_
  refine SL.nl ?_
  refine SC.yes rfl ?_
  refine SC.sr ?_
  refine SL.as ?_
  refine SL.nl ?_
  refine SC.ret ?_
  refine SE.passr ?_
  refine SE.res (.inl rfl) (res1 Try.results21 rfl) fun w1 hI => ⟨rfl, hI.2⟩

end Go.Proofs.Ytcilikkljkdceaa

/-
  Delivering a frame.
-/
namespace Go.Proofs.Ytcilikkljkdceaa
open Go.RowKit
set_option maxRecDepth 100000
set_option maxHeartbeats 4000000
theorem deliver0_any {w : World} {wd d0 d1 : Nat} {M : WM} {S : Wi} {k : Int} (hM : M.Ok S) (hn : M.ps0.length ≤ 3000000000000) (hn1 : NicOk S.A1) (h : Sep w (WLm 74 77 46 wd d0 d1 M S.A0 S.A1 S.now)) : Calls Try.prog 36 #[pt wd 0, iw 0, iw k] w fun e w' => e = .returned (iw (deliverF S false k).1) ∧ ∃ M', WTo 74 77 46 w wd d0 d1 M M' (deliverF S false k).2 w' := by
  refine calls_sc (l0 := (WLm 74 77 46 wd d0 d1 M S.A0 S.A1 S.now)) (args := [pt wd 0, iw 0, iw k]) (M.G wd d0 d1) Try.func36 rfl 36 Try.ntmps36 (le_b rfl) ⟨h, Only.refl _ _⟩ ?_
  show SC _ _ _ _ [(0, pt wd 0), (1, iw 0), (2, iw k)] (WLm 74 77 46 wd d0 d1 M S.A0 S.A1 S.now)
  refine SC.sr ?_
  refine SL.as ?_
  refine SL.nl ?_
  refine SC.seq ?_
  refine SC.sr ?_
  refine SL.mv ?_
  refine SL.mv ?_
  refine SL.mv ?_
  refine SL.callv (Value.tuple #[thereP M.q0 M.ps0 k, iw (thereF M.ps0 k)]) rfl rfl co34 rfl rfl rfl (lt_b rfl) (fun w hI => H_only hI (there0_any ((hI.keep 6).1))) ?_
  refine SL.mv ?_
  refine SL.uu (ru_extract rfl rfl rfl) ?_
  refine SL.uu (ru_extract rfl rfl rfl) ?_
  refine SL.as ?_
  refine SL.as ?_
  refine SL.nl ?_
  refine SC.sr ?_
  refine SL.mv ?_
  refine SL.uu (ru_ne (b := (((thereF M.ps0 k) : Int) != 0)) rfl rfl rfl rfl) ?_
  refine SL.nl ?_
  refine SC.both (((thereF M.ps0 k) : Int) != 0) rfl (fun h1 => ?_) (fun h1 => ?_)
  · skip
    refine SC.sr ?_
    refine SL.mv ?_
    refine SL.as ?_
    refine SL.nl ?_
    refine SC.ret ?_
    refine SE.passr ?_
    refine SE.res (.inl rfl) (res1 Try.results36 rfl) fun w1 hI => ?_
    have eT : thereF (S.L false) k = thereF M.ps0 k := by show thereF S.L0 k = _; rw [← hM.l0, there_map]
    have ew : deliverF S false k = (thereF M.ps0 k, S) := by unfold deliverF; simp only [eT]; rw [if_pos h1]
    rw [ew]
    exact ⟨rfl, M, WTo.same (hI.keep 6).1 hM hI.2⟩
  have hth : thereF M.ps0 k = 0 := Classical.byContradiction (fun hc => ne_f h1 hc)
  obtain ⟨hk0, hk1, ⟨⟨vx, x⟩, hx⟩⟩ := there_get hth
  have hk : 0 ≤ k ∧ k < (M.ps0.length : Int) := ⟨hk0, hk1⟩
  obtain ⟨hxb, hxF, xa, xc, hxv⟩ := hM.form0 h _ (List.mem_of_getElem? hx)
  have hxf : M.fs vx x.f := hM.f0 _ (List.mem_of_getElem? hx)
  dsimp only at hxv hxb hxF
  subst hxv
  have ex : (S.L false).getD k.toNat fm0 = x := by show S.L0.getD k.toNat fm0 = x; rw [← hM.l0, List.getD_eq_getElem?_getD, List.getElem?_map, hx]; rfl
  refine SC.skip ?_
  refine SC.of_SE ?_
  refine SC.sr ?_
  refine SL.mv ?_
  refine SL.mv ?_
  refine SL.mv ?_
  refine SL.call (ζ := Unit) (fun _z => Value.agg #[Value.slice xa x.f.length xc, bo x.bad, iw x.tick]) (fun _z => [rBlk wd [pt d0 0, pt d1 0, Value.slice M.q0 ((outF M.ps0 k).length) M.c0, Value.slice M.q1 M.ps1.length M.c1, iw S.now] 77, rDv 74 d0 M.fs S.A0, rDv 74 d1 M.fs S.A1, rRowN (.slice M.q0 ((outF M.ps0 k).length) M.c0) (oRows (outF M.ps0 k)) 46 3, rR1 M 46, rZ M.F M.fs]) (fun _z => True) rfl rfl co54 rfl rfl rfl (lt_b rfl) (fun w5 hI => (take0_any hM hn hx hk ((hI.keep 6).1)).mono fun e w2 ⟨h1, k9⟩ => ⟨(), h1, Inv.wto (l := []) hI k9 (fun b hb => .inl hb), trivial⟩) ?_
  rintro ⟨⟩ _
  refine SL.alloca rfl rfl (lt_b rfl) ta46 rfl fun b2 hb2 => ?_
  refine SL.storea (i := 6) (vs := [Value.slice xa x.f.length xc, bo x.bad, iw x.tick]) (c' := [Value.slice xa x.f.length xc, bo x.bad, iw x.tick]) rfl rfl ta46 rfl rfl rfl rfl rfl rfl (le_b rfl) (.inr hb2) rfl ?_
  refine SL.nl ?_
  refine SC.seq ?_
  refine SC.region_tail 11 (by kernel_rfl) (by kernel_rfl) ?_
  refine SQ.mv ?_
  refine SQ.mv ?_
  refine SQ.uu (ru_sub (r := 1) rfl rfl rfl rfl) ?_
  refine SQ.nk ?_
  refine SQ.fa 0 fd77_0 ?_
  refine SQ.ia 1 ar34 ?_
  refine SQ.ld 0 ts33 ?_
  refine SQ.fa 0 fd46_0 ?_
  refine SQ.ld 6 ts28 ?_
  refine SQ.fa 1 fd46_1 ?_
  refine SQ.ld 6 ts4 ?_
  refine SQ.nilL ?_
  refine SL.call (ζ := (Nat → Prop) × (Value → List UInt8 → Prop)) (fun z => iw ((giveF S.A1 x.f x.bad).1)) (fun z => [rBlk wd [pt d0 0, pt d1 0, Value.slice M.q0 ((outF M.ps0 k).length) M.c0, Value.slice M.q1 M.ps1.length M.c1, iw S.now] 77, rDv 74 d0 z.2 S.A0, rDv 74 d1 z.2 ((giveF S.A1 x.f x.bad).2), rRowN (.slice M.q0 ((outF M.ps0 k).length) M.c0) (oRows (outF M.ps0 k)) 46 3, rR1 M 46, rZ z.1 z.2, rBlk b2 [Value.slice xa x.f.length xc, bo x.bad, iw x.tick] 46]) (fun z => (∀ v f, M.fs v f ∨ False → z.2 v f) ∧ ∀ b, z.1 b → M.F b ∨ w.heap.size ≤ b) rfl rfl co58 rfl rfl rfl (lt_b rfl) (fun w5 hI => (p_give hn1 (WL.nic1 (l := [rBlk b2 [Value.slice xa x.f.length xc, bo x.bad, iw x.tick] 46]) hI) (((hI.1.get (i := 5) rfl).2 _ _ hxf).1) (fun b9 o9 n9 c9 e9 h9 e => List.pairwise_iff_getElem.1 hI.1.2 2 5 (by simp) (by simp) (by decide) b9 e (((hI.1.get (i := 5) rfl).2 _ _ hxf).2 b9 o9 n9 c9 e9 h9)) x.bad).mono fun e w2 ⟨h1, F1, k1, k2, k3⟩ => by obtain ⟨F', fs', q1, q2, q3⟩ := WL.turn1 (g := fun _ _ => False) (l := [rBlk b2 [Value.slice xa x.f.length xc, bo x.bad, iw x.tick] 46]) hI (.inl (.inr (.inr (.inl rfl)))) k1 k2 k3 (fun _ _ h => h.elim); exact ⟨(F', fs'), h1, q2, q1, fun b hb => (q3 b hb).imp id (Nat.le_trans hI.2.size)⟩) ?_
  rintro ⟨Fn, fsn⟩ ⟨hfn, hFn⟩
  dsimp only at hfn hFn
  refine SL.as ?_
  refine SL.nl ?_
  refine SC.ret ?_
  refine SE.res (.inl rfl) (res1 Try.results36 rfl) fun w1 hI => ?_
  have eT : thereF (S.L false) k = thereF M.ps0 k := by show thereF S.L0 k = _; rw [← hM.l0, there_map]
  have ew : deliverF S false k = ((giveF S.A1 x.f x.bad).1, (S.setL false (outF S.L0 k)).setA true (giveF S.A1 x.f x.bad).2) := by unfold deliverF; simp only [eT]; rw [if_neg (not_t h1), ex]; rfl
  rw [ew]
  exact ⟨rfl, { M with F := Fn, fs := fsn, ps0 := outF M.ps0 k }, ⟨(hI.keep 6).1, ⟨fun y hy => hfn _ _ (.inl ((hM.out0 k).f0 y hy)), fun y hy => hfn _ _ (.inl ((hM.out0 k).f1 y hy)), (hM.out0 k).l0, (hM.out0 k).l1⟩, fun v f h => hfn v f (.inl h), fun b hb => WM.K.frz (M' := { M with ps0 := outF M.ps0 k }) hb (fun b hb => WM.K.same0 hb) hFn, hI.2⟩⟩
theorem deliver1_any {w : World} {wd d0 d1 : Nat} {M : WM} {S : Wi} {k : Int} (hM : M.Ok S) (hn : M.ps1.length ≤ 3000000000000) (hn0 : NicOk S.A0) (h : Sep w (WLm 74 77 46 wd d0 d1 M S.A0 S.A1 S.now)) : Calls Try.prog 36 #[pt wd 0, iw 1, iw k] w fun e w' => e = .returned (iw (deliverF S true k).1) ∧ ∃ M', WTo 74 77 46 w wd d0 d1 M M' (deliverF S true k).2 w' := by
  refine calls_sc (l0 := (WLm 74 77 46 wd d0 d1 M S.A0 S.A1 S.now)) (args := [pt wd 0, iw 1, iw k]) (M.G wd d0 d1) Try.func36 rfl 36 Try.ntmps36 (le_b rfl) ⟨h, Only.refl _ _⟩ ?_
  show SC _ _ _ _ [(0, pt wd 0), (1, iw 1), (2, iw k)] (WLm 74 77 46 wd d0 d1 M S.A0 S.A1 S.now)
  refine SC.sr ?_
  refine SL.as ?_
  refine SL.nl ?_
  refine SC.seq ?_
  refine SC.sr ?_
  refine SL.mv ?_
  refine SL.mv ?_
  refine SL.mv ?_
  refine SL.callv (Value.tuple #[thereP M.q1 M.ps1 k, iw (thereF M.ps1 k)]) rfl rfl co34 rfl rfl rfl (lt_b rfl) (fun w hI => H_only hI (there1_any ((hI.keep 6).1))) ?_
  refine SL.mv ?_
  refine SL.uu (ru_extract rfl rfl rfl) ?_
  refine SL.uu (ru_extract rfl rfl rfl) ?_
  refine SL.as ?_
  refine SL.as ?_
  refine SL.nl ?_
  refine SC.sr ?_
  refine SL.mv ?_
  refine SL.uu (ru_ne (b := (((thereF M.ps1 k) : Int) != 0)) rfl rfl rfl rfl) ?_
  refine SL.nl ?_
  refine SC.both (((thereF M.ps1 k) : Int) != 0) rfl (fun h1 => ?_) (fun h1 => ?_)
  · skip
    refine SC.sr ?_
    refine SL.mv ?_
    refine SL.as ?_
    refine SL.nl ?_
    refine SC.ret ?_
    refine SE.passr ?_
    refine SE.res (.inl rfl) (res1 Try.results36 rfl) fun w1 hI => ?_
    have eT : thereF (S.L true) k = thereF M.ps1 k := by show thereF S.L1 k = _; rw [← hM.l1, there_map]
    have ew : deliverF S true k = (thereF M.ps1 k, S) := by unfold deliverF; simp only [eT]; rw [if_pos h1]
    rw [ew]
    exact ⟨rfl, M, WTo.same (hI.keep 6).1 hM hI.2⟩
  have hth : thereF M.ps1 k = 0 := Classical.byContradiction (fun hc => ne_f h1 hc)
  obtain ⟨hk0, hk1, ⟨⟨vx, x⟩, hx⟩⟩ := there_get hth
  have hk : 0 ≤ k ∧ k < (M.ps1.length : Int) := ⟨hk0, hk1⟩
  obtain ⟨hxb, hxF, xa, xc, hxv⟩ := hM.form1 h _ (List.mem_of_getElem? hx)
  have hxf : M.fs vx x.f := hM.f1 _ (List.mem_of_getElem? hx)
  dsimp only at hxv hxb hxF
  subst hxv
  have ex : (S.L true).getD k.toNat fm0 = x := by show S.L1.getD k.toNat fm0 = x; rw [← hM.l1, List.getD_eq_getElem?_getD, List.getElem?_map, hx]; rfl
  refine SC.skip ?_
  refine SC.of_SE ?_
  refine SC.sr ?_
  refine SL.mv ?_
  refine SL.mv ?_
  refine SL.mv ?_
  refine SL.call (ζ := Unit) (fun _z => Value.agg #[Value.slice xa x.f.length xc, bo x.bad, iw x.tick]) (fun _z => [rBlk wd [pt d0 0, pt d1 0, Value.slice M.q0 M.ps0.length M.c0, Value.slice M.q1 ((outF M.ps1 k).length) M.c1, iw S.now] 77, rDv 74 d0 M.fs S.A0, rDv 74 d1 M.fs S.A1, rR0 M 46, rRowN (.slice M.q1 ((outF M.ps1 k).length) M.c1) (oRows (outF M.ps1 k)) 46 3, rZ M.F M.fs]) (fun _z => True) rfl rfl co54 rfl rfl rfl (lt_b rfl) (fun w5 hI => (take1_any hM hn hx hk ((hI.keep 6).1)).mono fun e w2 ⟨h1, k9⟩ => ⟨(), h1, Inv.wto (l := []) hI k9 (fun b hb => .inl hb), trivial⟩) ?_
  rintro ⟨⟩ _
  refine SL.alloca rfl rfl (lt_b rfl) ta46 rfl fun b2 hb2 => ?_
  refine SL.storea (i := 6) (vs := [Value.slice xa x.f.length xc, bo x.bad, iw x.tick]) (c' := [Value.slice xa x.f.length xc, bo x.bad, iw x.tick]) rfl rfl ta46 rfl rfl rfl rfl rfl rfl (le_b rfl) (.inr hb2) rfl ?_
  refine SL.nl ?_
  refine SC.seq ?_
  refine SC.region_tail 11 (by kernel_rfl) (by kernel_rfl) ?_
  refine SQ.mv ?_
  refine SQ.mv ?_
  refine SQ.uu (ru_sub (r := 0) rfl rfl rfl rfl) ?_
  refine SQ.nk ?_
  refine SQ.fa 0 fd77_0 ?_
  refine SQ.ia 0 ar34 ?_
  refine SQ.ld 0 ts33 ?_
  refine SQ.fa 0 fd46_0 ?_
  refine SQ.ld 6 ts28 ?_
  refine SQ.fa 1 fd46_1 ?_
  refine SQ.ld 6 ts4 ?_
  refine SQ.nilL ?_
  refine SL.call (ζ := (Nat → Prop) × (Value → List UInt8 → Prop)) (fun z => iw ((giveF S.A0 x.f x.bad).1)) (fun z => [rBlk wd [pt d0 0, pt d1 0, Value.slice M.q0 M.ps0.length M.c0, Value.slice M.q1 ((outF M.ps1 k).length) M.c1, iw S.now] 77, rDv 74 d0 z.2 ((giveF S.A0 x.f x.bad).2), rDv 74 d1 z.2 S.A1, rR0 M 46, rRowN (.slice M.q1 ((outF M.ps1 k).length) M.c1) (oRows (outF M.ps1 k)) 46 3, rZ z.1 z.2, rBlk b2 [Value.slice xa x.f.length xc, bo x.bad, iw x.tick] 46]) (fun z => (∀ v f, M.fs v f ∨ False → z.2 v f) ∧ ∀ b, z.1 b → M.F b ∨ w.heap.size ≤ b) rfl rfl co58 rfl rfl rfl (lt_b rfl) (fun w5 hI => (p_give hn0 (WL.nic0 (l := [rBlk b2 [Value.slice xa x.f.length xc, bo x.bad, iw x.tick] 46]) hI) (((hI.1.get (i := 5) rfl).2 _ _ hxf).1) (fun b9 o9 n9 c9 e9 h9 e => List.pairwise_iff_getElem.1 hI.1.2 1 5 (by simp) (by simp) (by decide) b9 e (((hI.1.get (i := 5) rfl).2 _ _ hxf).2 b9 o9 n9 c9 e9 h9)) x.bad).mono fun e w2 ⟨h1, F1, k1, k2, k3⟩ => by obtain ⟨F', fs', q1, q2, q3⟩ := WL.turn0 (g := fun _ _ => False) (l := [rBlk b2 [Value.slice xa x.f.length xc, bo x.bad, iw x.tick] 46]) hI (.inl (.inr (.inl rfl))) k1 k2 k3 (fun _ _ h => h.elim); exact ⟨(F', fs'), h1, q2, q1, fun b hb => (q3 b hb).imp id (Nat.le_trans hI.2.size)⟩) ?_
  rintro ⟨Fn, fsn⟩ ⟨hfn, hFn⟩
  dsimp only at hfn hFn
  refine SL.as ?_
  refine SL.nl ?_
  refine SC.ret ?_
  refine SE.res (.inl rfl) (res1 Try.results36 rfl) fun w1 hI => ?_
  have eT : thereF (S.L true) k = thereF M.ps1 k := by show thereF S.L1 k = _; rw [← hM.l1, there_map]
  have ew : deliverF S true k = ((giveF S.A0 x.f x.bad).1, (S.setL true (outF S.L1 k)).setA false (giveF S.A0 x.f x.bad).2) := by unfold deliverF; simp only [eT]; rw [if_neg (not_t h1), ex]; rfl
  rw [ew]
  exact ⟨rfl, { M with F := Fn, fs := fsn, ps1 := outF M.ps1 k }, ⟨(hI.keep 6).1, ⟨fun y hy => hfn _ _ (.inl ((hM.out1 k).f0 y hy)), fun y hy => hfn _ _ (.inl ((hM.out1 k).f1 y hy)), (hM.out1 k).l0, (hM.out1 k).l1⟩, fun v f h => hfn v f (.inl h), fun b hb => WM.K.frz (M' := { M with ps1 := outF M.ps1 k }) hb (fun b hb => WM.K.same1 hb) hFn, hI.2⟩⟩
theorem deliverX_any {w : World} {wd : Nat} {dir : Int} {k : Int} (hd : isD dir = false) : Calls Try.prog 36 #[pt wd 0, iw dir, iw k] w fun e w' => e = .returned (iw 1) ∧ Only (fun _ => False) w w' := by
  refine calls_sc (l0 := []) (args := [pt wd 0, iw dir, iw k]) (fun _ => False) Try.func36 rfl 36 Try.ntmps36 (le_b rfl) ⟨⟨by simp, List.Pairwise.nil⟩, Only.refl _ _⟩ ?_
  show SC _ _ _ _ [(0, pt wd 0), (1, iw dir), (2, iw k)] []
  refine SC.sr ?_
  refine SL.as ?_
  refine SL.nl ?_
  refine SC.seq ?_
  refine SC.sr ?_
  refine SL.mv ?_
  refine SL.mv ?_
  refine SL.mv ?_
  refine SL.callv (Value.tuple #[Value.pointer none, iw 1]) rfl rfl co34 rfl rfl rfl (lt_b rfl) (fun w hI => H_only hI (thereX_any hd)) ?_
  refine SL.mv ?_
  refine SL.uu (ru_extract rfl rfl rfl) ?_
  refine SL.uu (ru_extract rfl rfl rfl) ?_
  refine SL.as ?_
  refine SL.as ?_
  refine SL.nl ?_
  refine SC.sr ?_
  refine SL.mv ?_
  refine SL.uu (ru_ne (b := true) rfl rfl rfl rfl) ?_
  refine SL.nl ?_
  refine SC.yes rfl ?_
  refine SC.sr ?_
  refine SL.mv ?_
  refine SL.as ?_
  refine SL.nl ?_
  refine SC.ret ?_
  refine SE.passr ?_
  refine SE.res (.inl rfl) (res1 Try.results36 rfl) fun w1 hI => ⟨rfl, hI.2⟩

end Go.Proofs.Ytcilikkljkdceaa

/-
  Dropping and doubling a frame.
-/
namespace Go.Proofs.Ytcilikkljkdceaa
open Go.RowKit
set_option maxRecDepth 100000
set_option maxHeartbeats 4000000
theorem drop0_any {w : World} {wd d0 d1 : Nat} {M : WM} {S : Wi} {k : Int} (hM : M.Ok S) (hn : M.ps0.length ≤ 3000000000000) (h : Sep w (WLm 74 77 46 wd d0 d1 M S.A0 S.A1 S.now)) : Calls Try.prog 39 #[pt wd 0, iw 0, iw k] w fun e w' => e = .returned (iw (dropF S false k).1) ∧ ∃ M', WTo 74 77 46 w wd d0 d1 M M' (dropF S false k).2 w' := by
  refine calls_sc (l0 := (WLm 74 77 46 wd d0 d1 M S.A0 S.A1 S.now)) (args := [pt wd 0, iw 0, iw k]) (M.G wd d0 d1) Try.func39 rfl 23 Try.ntmps39 (le_b rfl) ⟨h, Only.refl _ _⟩ ?_
  show SC _ _ _ _ [(0, pt wd 0), (1, iw 0), (2, iw k)] (WLm 74 77 46 wd d0 d1 M S.A0 S.A1 S.now)
  refine SC.sr ?_
  refine SL.as ?_
  refine SL.nl ?_
  refine SC.sr ?_
  refine SL.mv ?_
  refine SL.mv ?_
  refine SL.mv ?_
  refine SL.callv (Value.tuple #[thereP M.q0 M.ps0 k, iw (thereF M.ps0 k)]) rfl rfl co34 rfl rfl rfl (lt_b rfl) (fun w hI => H_only hI (there0_any ((hI.keep 6).1))) ?_
  refine SL.mv ?_
  refine SL.uu (ru_extract rfl rfl rfl) ?_
  refine SL.uu (ru_extract rfl rfl rfl) ?_
  refine SL.as ?_
  refine SL.as ?_
  refine SL.nl ?_
  refine SC.seq ?_
  refine SC.sr ?_
  refine SL.mv ?_
  refine SL.uu (ru_eq (b := (((thereF M.ps0 k) : Int) == 0)) rfl rfl rfl rfl) ?_
  refine SL.nl ?_
  refine SC.both (((thereF M.ps0 k) : Int) == 0) rfl (fun h1 => ?_) (fun h1 => ?_)
  · skip
    have hth : thereF M.ps0 k = 0 := eq_t h1
    obtain ⟨hk0, hk1, ⟨⟨vx, x⟩, hx⟩⟩ := there_get hth
    have hk : 0 ≤ k ∧ k < (M.ps0.length : Int) := ⟨hk0, hk1⟩
    obtain ⟨hxb, hxF, xa, xc, hxv⟩ := hM.form0 h _ (List.mem_of_getElem? hx)
    have hxf : M.fs vx x.f := hM.f0 _ (List.mem_of_getElem? hx)
    dsimp only at hxv hxb hxF
    subst hxv
    have ex : (S.L false).getD k.toNat fm0 = x := by show S.L0.getD k.toNat fm0 = x; rw [← hM.l0, List.getD_eq_getElem?_getD, List.getElem?_map, hx]; rfl
    refine SC.region ?_
    refine SL.mv ?_
    refine SL.mv ?_
    refine SL.mv ?_
    refine SL.call (ζ := Unit) (fun _z => Value.agg #[Value.slice xa x.f.length xc, bo x.bad, iw x.tick]) (fun _z => [rBlk wd [pt d0 0, pt d1 0, Value.slice M.q0 ((outF M.ps0 k).length) M.c0, Value.slice M.q1 M.ps1.length M.c1, iw S.now] 77, rDv 74 d0 M.fs S.A0, rDv 74 d1 M.fs S.A1, rRowN (.slice M.q0 ((outF M.ps0 k).length) M.c0) (oRows (outF M.ps0 k)) 46 3, rR1 M 46, rZ M.F M.fs]) (fun _z => True) rfl rfl co54 rfl rfl rfl (lt_b rfl) (fun w5 hI => (take0_any hM hn hx hk ((hI.keep 6).1)).mono fun e w2 ⟨h1, k9⟩ => ⟨(), h1, Inv.wto (l := []) hI k9 (fun b hb => .inl hb), trivial⟩) ?_
    rintro ⟨⟩ _
    refine SL.nl ?_
    refine SC.sr ?_
    refine SL.mv ?_
    refine SL.as ?_
    refine SL.nl ?_
    refine SC.ret ?_
    refine SE.res (.inl rfl) (res1 Try.results39 rfl) fun w1 hI => ?_
    have eT : thereF (S.L false) k = thereF M.ps0 k := by show thereF S.L0 k = _; rw [← hM.l0, there_map]
    have ew : dropF S false k = (thereF M.ps0 k, S.setL false (outF S.L0 k)) := by unfold dropF; simp only [eT]; rw [if_pos h1]; rfl
    rw [ew]
    exact ⟨rfl, { M with ps0 := outF M.ps0 k }, ⟨(hI.keep 6).1, hM.out0 k, fun v f h => h, fun b hb => .inl (WM.K.same0 hb), hI.2⟩⟩
  refine SC.skip ?_
  refine SC.of_SE ?_
  refine SC.sr ?_
  refine SL.mv ?_
  refine SL.as ?_
  refine SL.nl ?_
  refine SC.ret ?_
  refine SE.res (.inl rfl) (res1 Try.results39 rfl) fun w1 hI => ?_
  have eT : thereF (S.L false) k = thereF M.ps0 k := by show thereF S.L0 k = _; rw [← hM.l0, there_map]
  have ew : dropF S false k = (thereF M.ps0 k, S) := by unfold dropF; simp only [eT]; rw [if_neg (not_t h1)]
  rw [ew]
  exact ⟨rfl, M, WTo.same (hI.keep 6).1 hM hI.2⟩
theorem drop1_any {w : World} {wd d0 d1 : Nat} {M : WM} {S : Wi} {k : Int} (hM : M.Ok S) (hn : M.ps1.length ≤ 3000000000000) (h : Sep w (WLm 74 77 46 wd d0 d1 M S.A0 S.A1 S.now)) : Calls Try.prog 39 #[pt wd 0, iw 1, iw k] w fun e w' => e = .returned (iw (dropF S true k).1) ∧ ∃ M', WTo 74 77 46 w wd d0 d1 M M' (dropF S true k).2 w' := by
  refine calls_sc (l0 := (WLm 74 77 46 wd d0 d1 M S.A0 S.A1 S.now)) (args := [pt wd 0, iw 1, iw k]) (M.G wd d0 d1) Try.func39 rfl 23 Try.ntmps39 (le_b rfl) ⟨h, Only.refl _ _⟩ ?_
  show SC _ _ _ _ [(0, pt wd 0), (1, iw 1), (2, iw k)] (WLm 74 77 46 wd d0 d1 M S.A0 S.A1 S.now)
  refine SC.sr ?_
  refine SL.as ?_
  refine SL.nl ?_
  refine SC.sr ?_
  refine SL.mv ?_
  refine SL.mv ?_
  refine SL.mv ?_
  refine SL.callv (Value.tuple #[thereP M.q1 M.ps1 k, iw (thereF M.ps1 k)]) rfl rfl co34 rfl rfl rfl (lt_b rfl) (fun w hI => H_only hI (there1_any ((hI.keep 6).1))) ?_
  refine SL.mv ?_
  refine SL.uu (ru_extract rfl rfl rfl) ?_
  refine SL.uu (ru_extract rfl rfl rfl) ?_
  refine SL.as ?_
  refine SL.as ?_
  refine SL.nl ?_
  refine SC.seq ?_
  refine SC.sr ?_
  refine SL.mv ?_
  refine SL.uu (ru_eq (b := (((thereF M.ps1 k) : Int) == 0)) rfl rfl rfl rfl) ?_
  refine SL.nl ?_
  refine SC.both (((thereF M.ps1 k) : Int) == 0) rfl (fun h1 => ?_) (fun h1 => ?_)
  · skip
    have hth : thereF M.ps1 k = 0 := eq_t h1
    obtain ⟨hk0, hk1, ⟨⟨vx, x⟩, hx⟩⟩ := there_get hth
    have hk : 0 ≤ k ∧ k < (M.ps1.length : Int) := ⟨hk0, hk1⟩
    obtain ⟨hxb, hxF, xa, xc, hxv⟩ := hM.form1 h _ (List.mem_of_getElem? hx)
    have hxf : M.fs vx x.f := hM.f1 _ (List.mem_of_getElem? hx)
    dsimp only at hxv hxb hxF
    subst hxv
    have ex : (S.L true).getD k.toNat fm0 = x := by show S.L1.getD k.toNat fm0 = x; rw [← hM.l1, List.getD_eq_getElem?_getD, List.getElem?_map, hx]; rfl
    refine SC.region ?_
    refine SL.mv ?_
    refine SL.mv ?_
    refine SL.mv ?_
    refine SL.call (ζ := Unit) (fun _z => Value.agg #[Value.slice xa x.f.length xc, bo x.bad, iw x.tick]) (fun _z => [rBlk wd [pt d0 0, pt d1 0, Value.slice M.q0 M.ps0.length M.c0, Value.slice M.q1 ((outF M.ps1 k).length) M.c1, iw S.now] 77, rDv 74 d0 M.fs S.A0, rDv 74 d1 M.fs S.A1, rR0 M 46, rRowN (.slice M.q1 ((outF M.ps1 k).length) M.c1) (oRows (outF M.ps1 k)) 46 3, rZ M.F M.fs]) (fun _z => True) rfl rfl co54 rfl rfl rfl (lt_b rfl) (fun w5 hI => (take1_any hM hn hx hk ((hI.keep 6).1)).mono fun e w2 ⟨h1, k9⟩ => ⟨(), h1, Inv.wto (l := []) hI k9 (fun b hb => .inl hb), trivial⟩) ?_
    rintro ⟨⟩ _
    refine SL.nl ?_
    refine SC.sr ?_
    refine SL.mv ?_
    refine SL.as ?_
    refine SL.nl ?_
    refine SC.ret ?_
    refine SE.res (.inl rfl) (res1 Try.results39 rfl) fun w1 hI => ?_
    have eT : thereF (S.L true) k = thereF M.ps1 k := by show thereF S.L1 k = _; rw [← hM.l1, there_map]
    have ew : dropF S true k = (thereF M.ps1 k, S.setL true (outF S.L1 k)) := by unfold dropF; simp only [eT]; rw [if_pos h1]; rfl
    rw [ew]
    exact ⟨rfl, { M with ps1 := outF M.ps1 k }, ⟨(hI.keep 6).1, hM.out1 k, fun v f h => h, fun b hb => .inl (WM.K.same1 hb), hI.2⟩⟩
  refine SC.skip ?_
  refine SC.of_SE ?_
  refine SC.sr ?_
  refine SL.mv ?_
  refine SL.as ?_
  refine SL.nl ?_
  refine SC.ret ?_
  refine SE.res (.inl rfl) (res1 Try.results39 rfl) fun w1 hI => ?_
  have eT : thereF (S.L true) k = thereF M.ps1 k := by show thereF S.L1 k = _; rw [← hM.l1, there_map]
  have ew : dropF S true k = (thereF M.ps1 k, S) := by unfold dropF; simp only [eT]; rw [if_neg (not_t h1)]
  rw [ew]
  exact ⟨rfl, M, WTo.same (hI.keep 6).1 hM hI.2⟩
theorem dropX_any {w : World} {wd : Nat} {dir : Int} {k : Int} (hd : isD dir = false) : Calls Try.prog 39 #[pt wd 0, iw dir, iw k] w fun e w' => e = .returned (iw 1) ∧ Only (fun _ => False) w w' := by
  refine calls_sc (l0 := []) (args := [pt wd 0, iw dir, iw k]) (fun _ => False) Try.func39 rfl 23 Try.ntmps39 (le_b rfl) ⟨⟨by simp, List.Pairwise.nil⟩, Only.refl _ _⟩ ?_
  show SC _ _ _ _ [(0, pt wd 0), (1, iw dir), (2, iw k)] []
  refine SC.sr ?_
  refine SL.as ?_
  refine SL.nl ?_
  refine SC.sr ?_
  refine SL.mv ?_
  refine SL.mv ?_
  refine SL.mv ?_
  refine SL.callv (Value.tuple #[Value.pointer none, iw 1]) rfl rfl co34 rfl rfl rfl (lt_b rfl) (fun w hI => H_only hI (thereX_any hd)) ?_
  refine SL.mv ?_
  refine SL.uu (ru_extract rfl rfl rfl) ?_
  refine SL.uu (ru_extract rfl rfl rfl) ?_
  refine SL.as ?_
  refine SL.as ?_
  refine SL.nl ?_
  refine SC.seq ?_
  refine SC.sr ?_
  refine SL.mv ?_
  refine SL.uu (ru_eq (b := false) rfl rfl rfl rfl) ?_
  refine SL.nl ?_
  refine SC.no rfl ?_
  refine SC.skip ?_
  refine SC.of_SE ?_
  refine SC.sr ?_
  refine SL.mv ?_
  refine SL.as ?_
  refine SL.nl ?_
  refine SC.ret ?_
  refine SE.res (.inl rfl) (res1 Try.results39 rfl) fun w1 hI => ⟨rfl, hI.2⟩
theorem double0_any {w : World} {wd d0 d1 : Nat} {M : WM} {S : Wi} {k : Int} (hM : M.Ok S) (hn : M.ps0.length ≤ 3000000000000) (h : Sep w (WLm 74 77 46 wd d0 d1 M S.A0 S.A1 S.now)) : Calls Try.prog 14 #[pt wd 0, iw 0, iw k] w fun e w' => e = .returned (iw (doubleF S false k).1) ∧ ∃ M', WTo 74 77 46 w wd d0 d1 M M' (doubleF S false k).2 w' := by
  refine calls_sc (l0 := (WLm 74 77 46 wd d0 d1 M S.A0 S.A1 S.now)) (args := [pt wd 0, iw 0, iw k]) (M.G wd d0 d1) Try.func14 rfl 35 Try.ntmps14 (le_b rfl) ⟨h, Only.refl _ _⟩ ?_
  show SC _ _ _ _ [(0, pt wd 0), (1, iw 0), (2, iw k)] (WLm 74 77 46 wd d0 d1 M S.A0 S.A1 S.now)
  refine SC.sr ?_
  refine SL.as ?_
  refine SL.nl ?_
  refine SC.sr ?_
  refine SL.mv ?_
  refine SL.mv ?_
  refine SL.mv ?_
  refine SL.callv (Value.tuple #[thereP M.q0 M.ps0 k, iw (thereF M.ps0 k)]) rfl rfl co34 rfl rfl rfl (lt_b rfl) (fun w hI => H_only hI (there0_any ((hI.keep 6).1))) ?_
  refine SL.mv ?_
  refine SL.uu (ru_extract rfl rfl rfl) ?_
  refine SL.uu (ru_extract rfl rfl rfl) ?_
  refine SL.as ?_
  refine SL.as ?_
  refine SL.nl ?_
  refine SC.seq ?_
  refine SC.sr ?_
  refine SL.mv ?_
  refine SL.uu (ru_eq (b := (((thereF M.ps0 k) : Int) == 0)) rfl rfl rfl rfl) ?_
  refine SL.nl ?_
  refine SC.both (((thereF M.ps0 k) : Int) == 0) rfl (fun h1 => ?_) (fun h1 => ?_)
  · skip
    have hth : thereF M.ps0 k = 0 := eq_t h1
    obtain ⟨hk0, hk1, ⟨⟨vx, x⟩, hx⟩⟩ := there_get hth
    have hk : 0 ≤ k ∧ k < (M.ps0.length : Int) := ⟨hk0, hk1⟩
    obtain ⟨hxb, hxF, xa, xc, hxv⟩ := hM.form0 h _ (List.mem_of_getElem? hx)
    have hxf : M.fs vx x.f := hM.f0 _ (List.mem_of_getElem? hx)
    dsimp only at hxv hxb hxF
    subst hxv
    have ex : (S.L false).getD k.toNat fm0 = x := by show S.L0.getD k.toNat fm0 = x; rw [← hM.l0, List.getD_eq_getElem?_getD, List.getElem?_map, hx]; rfl
    refine SC.norm [(0, pt wd 0), (1, iw 0), (6, iw 0), (7, Value.pointer (some ⟨rowB M.q0, k.toNat * 3, none⟩)), (8, iw (thereF M.ps0 k)), (17, bo (((thereF M.ps0 k) : Int) == 0))] _ ⟨rfl, rfl, rfl, (congrArg some (show thereP M.q0 M.ps0 k = _ from if_pos hth)), rfl, rfl, trivial⟩ rfl ?_
    refine SC.region_any (by kernel_rfl) ?_
    refine SA.take 0 rfl (by kernel_rfl) (by kernel_rfl) (by kernel_rfl) rfl rfl (lt_b rfl) (fun _ => ru_move rfl rfl) ?_
    refine SA.take 1 rfl (by kernel_rfl) (by kernel_rfl) (by kernel_rfl) rfl rfl (lt_b rfl) (fun _ => ru_move rfl rfl) ?_
    refine SA.take 2 rfl (by kernel_rfl) (by kernel_rfl) (by kernel_rfl) rfl rfl (lt_b rfl) (fun _ => ru_move rfl rfl) ?_
    refine SA.take 3 rfl (by kernel_rfl) (by kernel_rfl) (by kernel_rfl) rfl rfl (lt_b rfl) (fun _ => ru_move rfl rfl) ?_
    refine SA.take 4 rfl (by kernel_rfl) (by kernel_rfl) (by kernel_rfl) rfl rfl (lt_b rfl) (fun _ => ru_nilCheck rfl rfl) ?_
    refine SA.take 5 rfl (by kernel_rfl) (by kernel_rfl) (by kernel_rfl) rfl rfl (lt_b rfl) (fun _ => ru_fieldAddr (o2 := 2) fd77_1 rfl rfl rfl) ?_
    refine SA.take 6 rfl (by kernel_rfl) (by kernel_rfl) (by kernel_rfl) rfl rfl (lt_b rfl) (fun _ => ru_indexA (o2 := 2) ar75 rfl rfl rfl (by decide) (by decide) rfl) ?_
    refine SA.take 8 rfl (by kernel_rfl) (by kernel_rfl) (by kernel_rfl) rfl rfl (lt_b rfl) (fun _ => ru_move rfl rfl) ?_
    refine SA.take 9 rfl (by kernel_rfl) (by kernel_rfl) (by kernel_rfl) rfl rfl (lt_b rfl) (fun _ => ru_nilCheck rfl rfl) ?_
    refine SA.take 13 rfl (by kernel_rfl) (by kernel_rfl) (by kernel_rfl) rfl rfl (lt_b rfl) (fun _ => ru_nilCheck rfl rfl) ?_
    refine SA.take 14 rfl (by kernel_rfl) (by kernel_rfl) (by kernel_rfl) rfl rfl (lt_b rfl) (fun _ => ru_fieldAddr (o2 := 2) fd77_1 rfl rfl rfl) ?_
    refine SA.lets (ζ := Nat) (fun b2 => [(6, iw 0), (8, iw (thereF M.ps0 k)), (18, pt wd 0), (19, iw 0), (20, pt wd 0), (21, iw 0), (22, pt wd 0), (23, pt wd 2), (24, pt wd 2), (25, Value.slice M.q0 M.ps0.length M.c0), (26, Value.pointer (some ⟨rowB M.q0, k.toNat * 3, none⟩)), (27, Value.pointer (some ⟨rowB M.q0, k.toNat * 3, none⟩)), (28, Value.agg #[Value.slice xa x.f.length xc, bo x.bad, iw x.tick]), (29, sl b2 0 1 1), (31, pt wd 0), (32, pt wd 2)]) (fun b2 => [rB wd d0 d1 M S.now 77, rDv 74 d0 M.fs S.A0, rDv 74 d1 M.fs S.A1, rR0 M 46, rR1 M 46, rZ M.F M.fs, rBlk b2 [Value.slice xa x.f.length xc, bo x.bad, iw x.tick] 46]) (fun b2 => w.heap.size ≤ b2) 3 #[true, true, true, true, true, true, true, true, true, true, true, true, false, true, true, false, false] ?_ ?_
    · intro b2 hb2
      refine SA.one 12 rfl (by kernel_rfl) ?_
      refine SL.append_rowN (ri := 3) (rj := 6) (size := 3) (r := [Value.slice xa x.f.length xc, bo x.bad, iw x.tick]) (z := Value.agg #[Value.slice none 0 0, bo false, iw 0]) (bytes := 40) rfl rfl (lt_b rfl) rfl (by decide) Try.underlying56 (by kernel_rfl) rfl rfl rfl rfl rfl rfl rfl (by rw [List.length_map]; omega) (by unfold maxLen; rw [List.length_map]; omega) (fun b hb => .inl (.inr (.inr (.inr (.inl hb))))) fun q3 c4 hq5 => ?_
      refine SL.nil ?_
      refine SA.se ?_
      refine SA.take 15 rfl (by kernel_rfl) (by kernel_rfl) (by kernel_rfl) rfl rfl (lt_b rfl) (fun _ => ru_indexA (o2 := 2) ar75 rfl rfl rfl (by decide) (by decide) rfl) ?_
      refine SA.one 16 rfl (by kernel_rfl) ?_
      refine SL.store (i := 0) (c' := [pt d0 0, pt d1 0, Value.slice q3 (M.ps0.length + 1) c4, Value.slice M.q1 M.ps1.length M.c1, iw S.now]) rfl rfl ts56 rfl rfl rfl rfl rfl (lt_b rfl) (.inl (.inl rfl)) rfl ?_
      refine SL.nil ?_
      refine SA.se ?_
      refine SA.done (by kernel_rfl) ?_
      refine SC.of_SE ?_
      refine SC.sr ?_
      refine SL.mv ?_
      refine SL.as ?_
      refine SL.nl ?_
      refine SC.ret ?_
      have er : oRows (M.ps0 ++ [⟨.slice xa x.f.length xc, x⟩]) = oRows M.ps0 ++ [[Value.slice xa x.f.length xc, bo x.bad, iw x.tick]] := List.map_append
      have el : (M.ps0 ++ [(⟨.slice xa x.f.length xc, x⟩ : FmV)]).length = M.ps0.length + 1 := by rw [List.length_append]; rfl
      refine SE.res (.inl rfl) (res1 Try.results14 rfl) fun w1 hI => ?_
      have eT : thereF (S.L false) k = thereF M.ps0 k := by show thereF S.L0 k = _; rw [← hM.l0, there_map]
      have ew : doubleF S false k = (thereF M.ps0 k, S.setL false (S.L0 ++ [x])) := by unfold doubleF; simp only [eT]; rw [if_pos h1, ex]; rfl
      rw [← er, ← el] at hI
      rw [ew]
      exact ⟨rfl, { M with q0 := q3, c0 := c4, ps0 := M.ps0 ++ [⟨.slice xa x.f.length xc, x⟩] }, ⟨(hI.keep 6).1, hM.app0 (y := ⟨.slice xa x.f.length xc, x⟩) (fun _ _ h => h) _ _ hxf, fun v f h => h, fun b hb => WM.K.new0 hb (fun b hb => .inl hb) hq5, hI.2⟩⟩
    · intro hj2
      refine SA.two 7 10 rfl rfl (by kernel_rfl) ?_ ?_
      · skip
        refine SL.ld 0 ts56 ?_
        refine SL.nil ?_
        refine SA.se ?_
        refine SA.one 10 rfl (by kernel_rfl) ?_
        refine SL.uu (ru_loada_rowN (ri := 3) (i := k.toNat) (r := [Value.slice xa x.f.length xc, bo x.bad, iw x.tick]) ta46 rfl rfl rfl (by show (M.ps0.map FmV.row)[_]? = _; rw [List.getElem?_map, hx]; rfl) rfl rfl) ?_
        refine SL.nil ?_
        refine SA.se ?_
        refine SA.one 11 rfl (by kernel_rfl) ?_
        refine SL.buildSlice (size := 3) (vals := [(0, Value.agg #[Value.slice xa x.f.length xc, bo x.bad, iw x.tick])]) (z := [Value.slice none 0 0, bo false, iw 0]) (cs := [Value.slice xa x.f.length xc, bo x.bad, iw x.tick]) rfl rfl (lt_b rfl) rfl Try.underlying56 (by kernel_rfl) rfl rfl (by kernel_rfl) fun b6 hb6 => ?_
        refine SL.nil ?_
        refine SA.se ?_
        exact SA.norm [(6, iw 0), (8, iw (thereF M.ps0 k)), (18, pt wd 0), (19, iw 0), (20, pt wd 0), (21, iw 0), (22, pt wd 0), (23, pt wd 2), (24, pt wd 2), (25, Value.slice M.q0 M.ps0.length M.c0), (26, Value.pointer (some ⟨rowB M.q0, k.toNat * 3, none⟩)), (27, Value.pointer (some ⟨rowB M.q0, k.toNat * 3, none⟩)), (28, Value.agg #[Value.slice xa x.f.length xc, bo x.bad, iw x.tick]), (29, sl b6 0 1 1), (31, pt wd 0), (32, pt wd 2)] [rBlk wd [pt d0 0, pt d1 0, Value.slice M.q0 M.ps0.length M.c0, Value.slice M.q1 M.ps1.length M.c1, iw S.now] 77, rDv 74 d0 M.fs S.A0, rDv 74 d1 M.fs S.A1, rRowN (.slice M.q0 M.ps0.length M.c0) (oRows M.ps0) 46 3, rRowN (.slice M.q1 M.ps1.length M.c1) (oRows M.ps1) 46 3, rZ M.F M.fs, rBlk b6 [Value.slice xa x.f.length xc, bo x.bad, iw x.tick] 46] ⟨rfl, rfl, rfl, rfl, rfl, rfl, rfl, rfl, rfl, rfl, rfl, rfl, rfl, rfl, rfl, rfl, trivial⟩ rfl (SA.same (by kernel_rfl) (hj2 b6 hb6))
      refine SL.uu (ru_loada_rowN (ri := 3) (i := k.toNat) (r := [Value.slice xa x.f.length xc, bo x.bad, iw x.tick]) ta46 rfl rfl rfl (by show (M.ps0.map FmV.row)[_]? = _; rw [List.getElem?_map, hx]; rfl) rfl rfl) ?_
      refine SL.nil ?_
      refine SA.se ?_
      refine SA.two 7 11 rfl rfl (by kernel_rfl) ?_ ?_
      · skip
        refine SL.ld 0 ts56 ?_
        refine SL.nil ?_
        refine SA.se ?_
        refine SA.one 11 rfl (by kernel_rfl) ?_
        refine SL.buildSlice (size := 3) (vals := [(0, Value.agg #[Value.slice xa x.f.length xc, bo x.bad, iw x.tick])]) (z := [Value.slice none 0 0, bo false, iw 0]) (cs := [Value.slice xa x.f.length xc, bo x.bad, iw x.tick]) rfl rfl (lt_b rfl) rfl Try.underlying56 (by kernel_rfl) rfl rfl (by kernel_rfl) fun b7 hb7 => ?_
        refine SL.nil ?_
        refine SA.se ?_
        exact SA.norm [(6, iw 0), (8, iw (thereF M.ps0 k)), (18, pt wd 0), (19, iw 0), (20, pt wd 0), (21, iw 0), (22, pt wd 0), (23, pt wd 2), (24, pt wd 2), (25, Value.slice M.q0 M.ps0.length M.c0), (26, Value.pointer (some ⟨rowB M.q0, k.toNat * 3, none⟩)), (27, Value.pointer (some ⟨rowB M.q0, k.toNat * 3, none⟩)), (28, Value.agg #[Value.slice xa x.f.length xc, bo x.bad, iw x.tick]), (29, sl b7 0 1 1), (31, pt wd 0), (32, pt wd 2)] [rBlk wd [pt d0 0, pt d1 0, Value.slice M.q0 M.ps0.length M.c0, Value.slice M.q1 M.ps1.length M.c1, iw S.now] 77, rDv 74 d0 M.fs S.A0, rDv 74 d1 M.fs S.A1, rRowN (.slice M.q0 M.ps0.length M.c0) (oRows M.ps0) 46 3, rRowN (.slice M.q1 M.ps1.length M.c1) (oRows M.ps1) 46 3, rZ M.F M.fs, rBlk b7 [Value.slice xa x.f.length xc, bo x.bad, iw x.tick] 46] ⟨rfl, rfl, rfl, rfl, rfl, rfl, rfl, rfl, rfl, rfl, rfl, rfl, rfl, rfl, rfl, rfl, trivial⟩ rfl (SA.same (by kernel_rfl) (hj2 b7 hb7))
      refine SL.buildSlice (size := 3) (vals := [(0, Value.agg #[Value.slice xa x.f.length xc, bo x.bad, iw x.tick])]) (z := [Value.slice none 0 0, bo false, iw 0]) (cs := [Value.slice xa x.f.length xc, bo x.bad, iw x.tick]) rfl rfl (lt_b rfl) rfl Try.underlying56 (by kernel_rfl) rfl rfl (by kernel_rfl) fun b8 hb8 => ?_
      refine SL.nil ?_
      refine SA.se ?_
      refine SA.one 7 rfl (by kernel_rfl) ?_
      refine SL.ld 0 ts56 ?_
      refine SL.nil ?_
      refine SA.se ?_
      exact SA.norm [(6, iw 0), (8, iw (thereF M.ps0 k)), (18, pt wd 0), (19, iw 0), (20, pt wd 0), (21, iw 0), (22, pt wd 0), (23, pt wd 2), (24, pt wd 2), (25, Value.slice M.q0 M.ps0.length M.c0), (26, Value.pointer (some ⟨rowB M.q0, k.toNat * 3, none⟩)), (27, Value.pointer (some ⟨rowB M.q0, k.toNat * 3, none⟩)), (28, Value.agg #[Value.slice xa x.f.length xc, bo x.bad, iw x.tick]), (29, sl b8 0 1 1), (31, pt wd 0), (32, pt wd 2)] [rBlk wd [pt d0 0, pt d1 0, Value.slice M.q0 M.ps0.length M.c0, Value.slice M.q1 M.ps1.length M.c1, iw S.now] 77, rDv 74 d0 M.fs S.A0, rDv 74 d1 M.fs S.A1, rRowN (.slice M.q0 M.ps0.length M.c0) (oRows M.ps0) 46 3, rRowN (.slice M.q1 M.ps1.length M.c1) (oRows M.ps1) 46 3, rZ M.F M.fs, rBlk b8 [Value.slice xa x.f.length xc, bo x.bad, iw x.tick] 46] ⟨rfl, rfl, rfl, rfl, rfl, rfl, rfl, rfl, rfl, rfl, rfl, rfl, rfl, rfl, rfl, rfl, trivial⟩ rfl (SA.same (by kernel_rfl) (hj2 b8 hb8))
  refine SC.skip ?_
  refine SC.of_SE ?_
  refine SC.sr ?_
  refine SL.mv ?_
  refine SL.as ?_
  refine SL.nl ?_
  refine SC.ret ?_
  refine SE.res (.inl rfl) (res1 Try.results14 rfl) fun w1 hI => ?_
  have eT : thereF (S.L false) k = thereF M.ps0 k := by show thereF S.L0 k = _; rw [← hM.l0, there_map]
  have ew : doubleF S false k = (thereF M.ps0 k, S) := by unfold doubleF; simp only [eT]; rw [if_neg (not_t h1)]
  rw [ew]
  exact ⟨rfl, M, WTo.same (hI.keep 6).1 hM hI.2⟩
theorem double1_any {w : World} {wd d0 d1 : Nat} {M : WM} {S : Wi} {k : Int} (hM : M.Ok S) (hn : M.ps1.length ≤ 3000000000000) (h : Sep w (WLm 74 77 46 wd d0 d1 M S.A0 S.A1 S.now)) : Calls Try.prog 14 #[pt wd 0, iw 1, iw k] w fun e w' => e = .returned (iw (doubleF S true k).1) ∧ ∃ M', WTo 74 77 46 w wd d0 d1 M M' (doubleF S true k).2 w' := by
  refine calls_sc (l0 := (WLm 74 77 46 wd d0 d1 M S.A0 S.A1 S.now)) (args := [pt wd 0, iw 1, iw k]) (M.G wd d0 d1) Try.func14 rfl 35 Try.ntmps14 (le_b rfl) ⟨h, Only.refl _ _⟩ ?_
  show SC _ _ _ _ [(0, pt wd 0), (1, iw 1), (2, iw k)] (WLm 74 77 46 wd d0 d1 M S.A0 S.A1 S.now)
  refine SC.sr ?_
  refine SL.as ?_
  refine SL.nl ?_
  refine SC.sr ?_
  refine SL.mv ?_
  refine SL.mv ?_
  refine SL.mv ?_
  refine SL.callv (Value.tuple #[thereP M.q1 M.ps1 k, iw (thereF M.ps1 k)]) rfl rfl co34 rfl rfl rfl (lt_b rfl) (fun w hI => H_only hI (there1_any ((hI.keep 6).1))) ?_
  refine SL.mv ?_
  refine SL.uu (ru_extract rfl rfl rfl) ?_
  refine SL.uu (ru_extract rfl rfl rfl) ?_
  refine SL.as ?_
  refine SL.as ?_
  refine SL.nl ?_
  refine SC.seq ?_
  refine SC.sr ?_
  refine SL.mv ?_
  refine SL.uu (ru_eq (b := (((thereF M.ps1 k) : Int) == 0)) rfl rfl rfl rfl) ?_
  refine SL.nl ?_
  refine SC.both (((thereF M.ps1 k) : Int) == 0) rfl (fun h1 => ?_) (fun h1 => ?_)
  · skip
    have hth : thereF M.ps1 k = 0 := eq_t h1
    obtain ⟨hk0, hk1, ⟨⟨vx, x⟩, hx⟩⟩ := there_get hth
    have hk : 0 ≤ k ∧ k < (M.ps1.length : Int) := ⟨hk0, hk1⟩
    obtain ⟨hxb, hxF, xa, xc, hxv⟩ := hM.form1 h _ (List.mem_of_getElem? hx)
    have hxf : M.fs vx x.f := hM.f1 _ (List.mem_of_getElem? hx)
    dsimp only at hxv hxb hxF
    subst hxv
    have ex : (S.L true).getD k.toNat fm0 = x := by show S.L1.getD k.toNat fm0 = x; rw [← hM.l1, List.getD_eq_getElem?_getD, List.getElem?_map, hx]; rfl
    refine SC.norm [(0, pt wd 0), (1, iw 1), (6, iw 0), (7, Value.pointer (some ⟨rowB M.q1, k.toNat * 3, none⟩)), (8, iw (thereF M.ps1 k)), (17, bo (((thereF M.ps1 k) : Int) == 0))] _ ⟨rfl, rfl, rfl, (congrArg some (show thereP M.q1 M.ps1 k = _ from if_pos hth)), rfl, rfl, trivial⟩ rfl ?_
    refine SC.region_any (by kernel_rfl) ?_
    refine SA.take 0 rfl (by kernel_rfl) (by kernel_rfl) (by kernel_rfl) rfl rfl (lt_b rfl) (fun _ => ru_move rfl rfl) ?_
    refine SA.take 1 rfl (by kernel_rfl) (by kernel_rfl) (by kernel_rfl) rfl rfl (lt_b rfl) (fun _ => ru_move rfl rfl) ?_
    refine SA.take 2 rfl (by kernel_rfl) (by kernel_rfl) (by kernel_rfl) rfl rfl (lt_b rfl) (fun _ => ru_move rfl rfl) ?_
    refine SA.take 3 rfl (by kernel_rfl) (by kernel_rfl) (by kernel_rfl) rfl rfl (lt_b rfl) (fun _ => ru_move rfl rfl) ?_
    refine SA.take 4 rfl (by kernel_rfl) (by kernel_rfl) (by kernel_rfl) rfl rfl (lt_b rfl) (fun _ => ru_nilCheck rfl rfl) ?_
    refine SA.take 5 rfl (by kernel_rfl) (by kernel_rfl) (by kernel_rfl) rfl rfl (lt_b rfl) (fun _ => ru_fieldAddr (o2 := 2) fd77_1 rfl rfl rfl) ?_
    refine SA.take 6 rfl (by kernel_rfl) (by kernel_rfl) (by kernel_rfl) rfl rfl (lt_b rfl) (fun _ => ru_indexA (o2 := 3) ar75 rfl rfl rfl (by decide) (by decide) rfl) ?_
    refine SA.take 8 rfl (by kernel_rfl) (by kernel_rfl) (by kernel_rfl) rfl rfl (lt_b rfl) (fun _ => ru_move rfl rfl) ?_
    refine SA.take 9 rfl (by kernel_rfl) (by kernel_rfl) (by kernel_rfl) rfl rfl (lt_b rfl) (fun _ => ru_nilCheck rfl rfl) ?_
    refine SA.take 13 rfl (by kernel_rfl) (by kernel_rfl) (by kernel_rfl) rfl rfl (lt_b rfl) (fun _ => ru_nilCheck rfl rfl) ?_
    refine SA.take 14 rfl (by kernel_rfl) (by kernel_rfl) (by kernel_rfl) rfl rfl (lt_b rfl) (fun _ => ru_fieldAddr (o2 := 2) fd77_1 rfl rfl rfl) ?_
    refine SA.lets (ζ := Nat) (fun b2 => [(6, iw 0), (8, iw (thereF M.ps1 k)), (18, pt wd 0), (19, iw 1), (20, pt wd 0), (21, iw 1), (22, pt wd 0), (23, pt wd 2), (24, pt wd 3), (25, Value.slice M.q1 M.ps1.length M.c1), (26, Value.pointer (some ⟨rowB M.q1, k.toNat * 3, none⟩)), (27, Value.pointer (some ⟨rowB M.q1, k.toNat * 3, none⟩)), (28, Value.agg #[Value.slice xa x.f.length xc, bo x.bad, iw x.tick]), (29, sl b2 0 1 1), (31, pt wd 0), (32, pt wd 2)]) (fun b2 => [rB wd d0 d1 M S.now 77, rDv 74 d0 M.fs S.A0, rDv 74 d1 M.fs S.A1, rR0 M 46, rR1 M 46, rZ M.F M.fs, rBlk b2 [Value.slice xa x.f.length xc, bo x.bad, iw x.tick] 46]) (fun b2 => w.heap.size ≤ b2) 3 #[true, true, true, true, true, true, true, true, true, true, true, true, false, true, true, false, false] ?_ ?_
    · intro b2 hb2
      refine SA.one 12 rfl (by kernel_rfl) ?_
      refine SL.append_rowN (ri := 4) (rj := 6) (size := 3) (r := [Value.slice xa x.f.length xc, bo x.bad, iw x.tick]) (z := Value.agg #[Value.slice none 0 0, bo false, iw 0]) (bytes := 40) rfl rfl (lt_b rfl) rfl (by decide) Try.underlying56 (by kernel_rfl) rfl rfl rfl rfl rfl rfl rfl (by rw [List.length_map]; omega) (by unfold maxLen; rw [List.length_map]; omega) (fun b hb => .inl (.inr (.inr (.inr (.inr hb))))) fun q3 c4 hq5 => ?_
      refine SL.nil ?_
      refine SA.se ?_
      refine SA.take 15 rfl (by kernel_rfl) (by kernel_rfl) (by kernel_rfl) rfl rfl (lt_b rfl) (fun _ => ru_indexA (o2 := 3) ar75 rfl rfl rfl (by decide) (by decide) rfl) ?_
      refine SA.one 16 rfl (by kernel_rfl) ?_
      refine SL.store (i := 0) (c' := [pt d0 0, pt d1 0, Value.slice M.q0 M.ps0.length M.c0, Value.slice q3 (M.ps1.length + 1) c4, iw S.now]) rfl rfl ts56 rfl rfl rfl rfl rfl (lt_b rfl) (.inl (.inl rfl)) rfl ?_
      refine SL.nil ?_
      refine SA.se ?_
      refine SA.done (by kernel_rfl) ?_
      refine SC.of_SE ?_
      refine SC.sr ?_
      refine SL.mv ?_
      refine SL.as ?_
      refine SL.nl ?_
      refine SC.ret ?_
      have er : oRows (M.ps1 ++ [⟨.slice xa x.f.length xc, x⟩]) = oRows M.ps1 ++ [[Value.slice xa x.f.length xc, bo x.bad, iw x.tick]] := List.map_append
      have el : (M.ps1 ++ [(⟨.slice xa x.f.length xc, x⟩ : FmV)]).length = M.ps1.length + 1 := by rw [List.length_append]; rfl
      refine SE.res (.inl rfl) (res1 Try.results14 rfl) fun w1 hI => ?_
      have eT : thereF (S.L true) k = thereF M.ps1 k := by show thereF S.L1 k = _; rw [← hM.l1, there_map]
      have ew : doubleF S true k = (thereF M.ps1 k, S.setL true (S.L1 ++ [x])) := by unfold doubleF; simp only [eT]; rw [if_pos h1, ex]; rfl
      rw [← er, ← el] at hI
      rw [ew]
      exact ⟨rfl, { M with q1 := q3, c1 := c4, ps1 := M.ps1 ++ [⟨.slice xa x.f.length xc, x⟩] }, ⟨(hI.keep 6).1, hM.app1 (y := ⟨.slice xa x.f.length xc, x⟩) (fun _ _ h => h) _ _ hxf, fun v f h => h, fun b hb => WM.K.new1 hb (fun b hb => .inl hb) hq5, hI.2⟩⟩
    · intro hj2
      refine SA.two 7 10 rfl rfl (by kernel_rfl) ?_ ?_
      · skip
        refine SL.ld 0 ts56 ?_
        refine SL.nil ?_
        refine SA.se ?_
        refine SA.one 10 rfl (by kernel_rfl) ?_
        refine SL.uu (ru_loada_rowN (ri := 4) (i := k.toNat) (r := [Value.slice xa x.f.length xc, bo x.bad, iw x.tick]) ta46 rfl rfl rfl (by show (M.ps1.map FmV.row)[_]? = _; rw [List.getElem?_map, hx]; rfl) rfl rfl) ?_
        refine SL.nil ?_
        refine SA.se ?_
        refine SA.one 11 rfl (by kernel_rfl) ?_
        refine SL.buildSlice (size := 3) (vals := [(0, Value.agg #[Value.slice xa x.f.length xc, bo x.bad, iw x.tick])]) (z := [Value.slice none 0 0, bo false, iw 0]) (cs := [Value.slice xa x.f.length xc, bo x.bad, iw x.tick]) rfl rfl (lt_b rfl) rfl Try.underlying56 (by kernel_rfl) rfl rfl (by kernel_rfl) fun b6 hb6 => ?_
        refine SL.nil ?_
        refine SA.se ?_
        exact SA.norm [(6, iw 0), (8, iw (thereF M.ps1 k)), (18, pt wd 0), (19, iw 1), (20, pt wd 0), (21, iw 1), (22, pt wd 0), (23, pt wd 2), (24, pt wd 3), (25, Value.slice M.q1 M.ps1.length M.c1), (26, Value.pointer (some ⟨rowB M.q1, k.toNat * 3, none⟩)), (27, Value.pointer (some ⟨rowB M.q1, k.toNat * 3, none⟩)), (28, Value.agg #[Value.slice xa x.f.length xc, bo x.bad, iw x.tick]), (29, sl b6 0 1 1), (31, pt wd 0), (32, pt wd 2)] [rBlk wd [pt d0 0, pt d1 0, Value.slice M.q0 M.ps0.length M.c0, Value.slice M.q1 M.ps1.length M.c1, iw S.now] 77, rDv 74 d0 M.fs S.A0, rDv 74 d1 M.fs S.A1, rRowN (.slice M.q0 M.ps0.length M.c0) (oRows M.ps0) 46 3, rRowN (.slice M.q1 M.ps1.length M.c1) (oRows M.ps1) 46 3, rZ M.F M.fs, rBlk b6 [Value.slice xa x.f.length xc, bo x.bad, iw x.tick] 46] ⟨rfl, rfl, rfl, rfl, rfl, rfl, rfl, rfl, rfl, rfl, rfl, rfl, rfl, rfl, rfl, rfl, trivial⟩ rfl (SA.same (by kernel_rfl) (hj2 b6 hb6))
      refine SL.uu (ru_loada_rowN (ri := 4) (i := k.toNat) (r := [Value.slice xa x.f.length xc, bo x.bad, iw x.tick]) ta46 rfl rfl rfl (by show (M.ps1.map FmV.row)[_]? = _; rw [List.getElem?_map, hx]; rfl) rfl rfl) ?_
      refine SL.nil ?_
      refine SA.se ?_
      refine SA.two 7 11 rfl rfl (by kernel_rfl) ?_ ?_
      · skip
        refine SL.ld 0 ts56 ?_
        refine SL.nil ?_
        refine SA.se ?_
        refine SA.one 11 rfl (by kernel_rfl) ?_
        refine SL.buildSlice (size := 3) (vals := [(0, Value.agg #[Value.slice xa x.f.length xc, bo x.bad, iw x.tick])]) (z := [Value.slice none 0 0, bo false, iw 0]) (cs := [Value.slice xa x.f.length xc, bo x.bad, iw x.tick]) rfl rfl (lt_b rfl) rfl Try.underlying56 (by kernel_rfl) rfl rfl (by kernel_rfl) fun b7 hb7 => ?_
        refine SL.nil ?_
        refine SA.se ?_
        exact SA.norm [(6, iw 0), (8, iw (thereF M.ps1 k)), (18, pt wd 0), (19, iw 1), (20, pt wd 0), (21, iw 1), (22, pt wd 0), (23, pt wd 2), (24, pt wd 3), (25, Value.slice M.q1 M.ps1.length M.c1), (26, Value.pointer (some ⟨rowB M.q1, k.toNat * 3, none⟩)), (27, Value.pointer (some ⟨rowB M.q1, k.toNat * 3, none⟩)), (28, Value.agg #[Value.slice xa x.f.length xc, bo x.bad, iw x.tick]), (29, sl b7 0 1 1), (31, pt wd 0), (32, pt wd 2)] [rBlk wd [pt d0 0, pt d1 0, Value.slice M.q0 M.ps0.length M.c0, Value.slice M.q1 M.ps1.length M.c1, iw S.now] 77, rDv 74 d0 M.fs S.A0, rDv 74 d1 M.fs S.A1, rRowN (.slice M.q0 M.ps0.length M.c0) (oRows M.ps0) 46 3, rRowN (.slice M.q1 M.ps1.length M.c1) (oRows M.ps1) 46 3, rZ M.F M.fs, rBlk b7 [Value.slice xa x.f.length xc, bo x.bad, iw x.tick] 46] ⟨rfl, rfl, rfl, rfl, rfl, rfl, rfl, rfl, rfl, rfl, rfl, rfl, rfl, rfl, rfl, rfl, trivial⟩ rfl (SA.same (by kernel_rfl) (hj2 b7 hb7))
      refine SL.buildSlice (size := 3) (vals := [(0, Value.agg #[Value.slice xa x.f.length xc, bo x.bad, iw x.tick])]) (z := [Value.slice none 0 0, bo false, iw 0]) (cs := [Value.slice xa x.f.length xc, bo x.bad, iw x.tick]) rfl rfl (lt_b rfl) rfl Try.underlying56 (by kernel_rfl) rfl rfl (by kernel_rfl) fun b8 hb8 => ?_
      refine SL.nil ?_
      refine SA.se ?_
      refine SA.one 7 rfl (by kernel_rfl) ?_
      refine SL.ld 0 ts56 ?_
      refine SL.nil ?_
      refine SA.se ?_
      exact SA.norm [(6, iw 0), (8, iw (thereF M.ps1 k)), (18, pt wd 0), (19, iw 1), (20, pt wd 0), (21, iw 1), (22, pt wd 0), (23, pt wd 2), (24, pt wd 3), (25, Value.slice M.q1 M.ps1.length M.c1), (26, Value.pointer (some ⟨rowB M.q1, k.toNat * 3, none⟩)), (27, Value.pointer (some ⟨rowB M.q1, k.toNat * 3, none⟩)), (28, Value.agg #[Value.slice xa x.f.length xc, bo x.bad, iw x.tick]), (29, sl b8 0 1 1), (31, pt wd 0), (32, pt wd 2)] [rBlk wd [pt d0 0, pt d1 0, Value.slice M.q0 M.ps0.length M.c0, Value.slice M.q1 M.ps1.length M.c1, iw S.now] 77, rDv 74 d0 M.fs S.A0, rDv 74 d1 M.fs S.A1, rRowN (.slice M.q0 M.ps0.length M.c0) (oRows M.ps0) 46 3, rRowN (.slice M.q1 M.ps1.length M.c1) (oRows M.ps1) 46 3, rZ M.F M.fs, rBlk b8 [Value.slice xa x.f.length xc, bo x.bad, iw x.tick] 46] ⟨rfl, rfl, rfl, rfl, rfl, rfl, rfl, rfl, rfl, rfl, rfl, rfl, rfl, rfl, rfl, rfl, trivial⟩ rfl (SA.same (by kernel_rfl) (hj2 b8 hb8))
  refine SC.skip ?_
  refine SC.of_SE ?_
  refine SC.sr ?_
  refine SL.mv ?_
  refine SL.as ?_
  refine SL.nl ?_
  refine SC.ret ?_
  refine SE.res (.inl rfl) (res1 Try.results14 rfl) fun w1 hI => ?_
  have eT : thereF (S.L true) k = thereF M.ps1 k := by show thereF S.L1 k = _; rw [← hM.l1, there_map]
  have ew : doubleF S true k = (thereF M.ps1 k, S) := by unfold doubleF; simp only [eT]; rw [if_neg (not_t h1)]
  rw [ew]
  exact ⟨rfl, M, WTo.same (hI.keep 6).1 hM hI.2⟩
theorem doubleX_any {w : World} {wd : Nat} {dir : Int} {k : Int} (hd : isD dir = false) : Calls Try.prog 14 #[pt wd 0, iw dir, iw k] w fun e w' => e = .returned (iw 1) ∧ Only (fun _ => False) w w' := by
  refine calls_sc (l0 := []) (args := [pt wd 0, iw dir, iw k]) (fun _ => False) Try.func14 rfl 35 Try.ntmps14 (le_b rfl) ⟨⟨by simp, List.Pairwise.nil⟩, Only.refl _ _⟩ ?_
  show SC _ _ _ _ [(0, pt wd 0), (1, iw dir), (2, iw k)] []
  refine SC.sr ?_
  refine SL.as ?_
  refine SL.nl ?_
  refine SC.sr ?_
  refine SL.mv ?_
  refine SL.mv ?_
  refine SL.mv ?_
  refine SL.callv (Value.tuple #[Value.pointer none, iw 1]) rfl rfl co34 rfl rfl rfl (lt_b rfl) (fun w hI => H_only hI (thereX_any hd)) ?_
  refine SL.mv ?_
  refine SL.uu (ru_extract rfl rfl rfl) ?_
  refine SL.uu (ru_extract rfl rfl rfl) ?_
  refine SL.as ?_
  refine SL.as ?_
  refine SL.nl ?_
  refine SC.seq ?_
  refine SC.sr ?_
  refine SL.mv ?_
  refine SL.uu (ru_eq (b := false) rfl rfl rfl rfl) ?_
  refine SL.nl ?_
  refine SC.no rfl ?_
  refine SC.skip ?_
  refine SC.of_SE ?_
  refine SC.sr ?_
  refine SL.mv ?_
  refine SL.as ?_
  refine SL.nl ?_
  refine SC.ret ?_
  refine SE.res (.inl rfl) (res1 Try.results14 rfl) fun w1 hI => ⟨rfl, hI.2⟩

end Go.Proofs.Ytcilikkljkdceaa

/-
  A new device, and a write (the program's).
-/
namespace Go.Proofs.Ytcilikkljkdceaa
open Go.RowKit
set_option maxRecDepth 100000
set_option maxHeartbeats 4000000
theorem p_new (w : World) : Calls Try.prog 26 #[] w fun e w' => ∃ g, w.heap.size ≤ g ∧ e = .returned (pt g 0) ∧ Blk w' g (nc newA nilv nilv) 74 ∧ Only (fun _ => False) w w' := by
  refine calls_sc (l0 := []) (args := []) (fun _ => False) Try.func26 rfl 9 Try.ntmps26 (le_b rfl) ⟨⟨by simp, List.Pairwise.nil⟩, Only.refl _ _⟩ ?_
  show SC _ _ _ _ [] []
  refine SC.sr ?_
  refine SL.as ?_
  refine SL.nl ?_
  refine SC.sr ?_
  refine SL.uu (ru_build (vals := []) (cells := [iw 0, iw 0, iw 0, iw 0, iw 0, iw 0, iw 0, iw 0, Value.slice none 0 0, iw 0, Value.slice none 0 0, iw 0, Value.slice none 0 0, iw 0, Value.slice none 0 0, iw 0, Value.slice none 0 0, iw 0, Value.slice none 0 0, iw 0, Value.slice none 0 0, iw 0, Value.slice none 0 0, iw 0, Value.slice none 0 0, iw 0, Value.slice none 0 0, iw 0, Value.slice none 0 0, iw 0, Value.slice none 0 0, iw 0, Value.slice none 0 0, iw 0, Value.slice none 0 0, iw 0, Value.slice none 0 0, iw 0, Value.slice none 0 0, iw 0, iw 0, bo false, Value.slice none 0 0, bo false, iw 0, bo false, Value.slice none 0 0, bo false, iw 0, bo false, Value.slice none 0 0, bo false, iw 0, bo false, Value.slice none 0 0, bo false, iw 0, bo false, Value.slice none 0 0, bo false, iw 0, bo false, Value.slice none 0 0, bo false, iw 0, bo false, Value.slice none 0 0, bo false, iw 0, bo false, Value.slice none 0 0, bo false, iw 0, bo false, Value.slice none 0 0, bo false, iw 0, bo false, Value.slice none 0 0, bo false, iw 0, bo false, Value.slice none 0 0, bo false, iw 0, bo false, Value.slice none 0 0, bo false, iw 0, bo false, Value.slice none 0 0, bo false, iw 0, bo false, Value.slice none 0 0, bo false, iw 0, bo false, Value.slice none 0 0, bo false, iw 0, bo false, Value.slice none 0 0, bo false, iw 0]) rfl rfl (by kernel_rfl)) ?_
  refine SL.box (c := [iw 0, iw 0, iw 0, iw 0, iw 0, iw 0, iw 0, iw 0, Value.slice none 0 0, iw 0, Value.slice none 0 0, iw 0, Value.slice none 0 0, iw 0, Value.slice none 0 0, iw 0, Value.slice none 0 0, iw 0, Value.slice none 0 0, iw 0, Value.slice none 0 0, iw 0, Value.slice none 0 0, iw 0, Value.slice none 0 0, iw 0, Value.slice none 0 0, iw 0, Value.slice none 0 0, iw 0, Value.slice none 0 0, iw 0, Value.slice none 0 0, iw 0, Value.slice none 0 0, iw 0, Value.slice none 0 0, iw 0, Value.slice none 0 0, iw 0, iw 0, bo false, Value.slice none 0 0, bo false, iw 0, bo false, Value.slice none 0 0, bo false, iw 0, bo false, Value.slice none 0 0, bo false, iw 0, bo false, Value.slice none 0 0, bo false, iw 0, bo false, Value.slice none 0 0, bo false, iw 0, bo false, Value.slice none 0 0, bo false, iw 0, bo false, Value.slice none 0 0, bo false, iw 0, bo false, Value.slice none 0 0, bo false, iw 0, bo false, Value.slice none 0 0, bo false, iw 0, bo false, Value.slice none 0 0, bo false, iw 0, bo false, Value.slice none 0 0, bo false, iw 0, bo false, Value.slice none 0 0, bo false, iw 0, bo false, Value.slice none 0 0, bo false, iw 0, bo false, Value.slice none 0 0, bo false, iw 0, bo false, Value.slice none 0 0, bo false, iw 0, bo false, Value.slice none 0 0, bo false, iw 0]) rfl rfl (lt_b rfl) rfl rfl rfl fun b1 hb1 => ?_
  refine SL.as ?_
  refine SL.nl ?_
  refine SC.sr ?_
  refine SL.mv ?_
  refine SL.nk ?_
  refine SL.fa 0 fd74_0 ?_
  refine SL.ia 1 ar68 ?_
  refine SL.store (i := 0) (c' := [iw 0, iw 1, iw 0, iw 0, iw 0, iw 0, iw 0, iw 0, Value.slice none 0 0, iw 0, Value.slice none 0 0, iw 0, Value.slice none 0 0, iw 0, Value.slice none 0 0, iw 0, Value.slice none 0 0, iw 0, Value.slice none 0 0, iw 0, Value.slice none 0 0, iw 0, Value.slice none 0 0, iw 0, Value.slice none 0 0, iw 0, Value.slice none 0 0, iw 0, Value.slice none 0 0, iw 0, Value.slice none 0 0, iw 0, Value.slice none 0 0, iw 0, Value.slice none 0 0, iw 0, Value.slice none 0 0, iw 0, Value.slice none 0 0, iw 0, iw 0, bo false, Value.slice none 0 0, bo false, iw 0, bo false, Value.slice none 0 0, bo false, iw 0, bo false, Value.slice none 0 0, bo false, iw 0, bo false, Value.slice none 0 0, bo false, iw 0, bo false, Value.slice none 0 0, bo false, iw 0, bo false, Value.slice none 0 0, bo false, iw 0, bo false, Value.slice none 0 0, bo false, iw 0, bo false, Value.slice none 0 0, bo false, iw 0, bo false, Value.slice none 0 0, bo false, iw 0, bo false, Value.slice none 0 0, bo false, iw 0, bo false, Value.slice none 0 0, bo false, iw 0, bo false, Value.slice none 0 0, bo false, iw 0, bo false, Value.slice none 0 0, bo false, iw 0, bo false, Value.slice none 0 0, bo false, iw 0, bo false, Value.slice none 0 0, bo false, iw 0, bo false, Value.slice none 0 0, bo false, iw 0]) rfl rfl ts3 rfl rfl rfl rfl rfl (lt_b rfl) (.inr hb1) rfl ?_
  refine SL.nl ?_
  refine SC.sr ?_
  refine SL.mv ?_
  refine SL.as ?_
  refine SL.nl ?_
  refine SC.ret ?_
  refine SE.res (.inl rfl) (res1 Try.results26 rfl) fun w1 hI => ⟨b1, hb1, rfl, ?_, hI.2⟩
  have e : [iw 0, iw 1, iw 0, iw 0, iw 0, iw 0, iw 0, iw 0, Value.slice none 0 0, iw 0, Value.slice none 0 0, iw 0, Value.slice none 0 0, iw 0, Value.slice none 0 0, iw 0, Value.slice none 0 0, iw 0, Value.slice none 0 0, iw 0, Value.slice none 0 0, iw 0, Value.slice none 0 0, iw 0, Value.slice none 0 0, iw 0, Value.slice none 0 0, iw 0, Value.slice none 0 0, iw 0, Value.slice none 0 0, iw 0, Value.slice none 0 0, iw 0, Value.slice none 0 0, iw 0, Value.slice none 0 0, iw 0, Value.slice none 0 0, iw 0, iw 0, bo false, Value.slice none 0 0, bo false, iw 0, bo false, Value.slice none 0 0, bo false, iw 0, bo false, Value.slice none 0 0, bo false, iw 0, bo false, Value.slice none 0 0, bo false, iw 0, bo false, Value.slice none 0 0, bo false, iw 0, bo false, Value.slice none 0 0, bo false, iw 0, bo false, Value.slice none 0 0, bo false, iw 0, bo false, Value.slice none 0 0, bo false, iw 0, bo false, Value.slice none 0 0, bo false, iw 0, bo false, Value.slice none 0 0, bo false, iw 0, bo false, Value.slice none 0 0, bo false, iw 0, bo false, Value.slice none 0 0, bo false, iw 0, bo false, Value.slice none 0 0, bo false, iw 0, bo false, Value.slice none 0 0, bo false, iw 0, bo false, Value.slice none 0 0, bo false, iw 0, bo false, Value.slice none 0 0, bo false, iw 0] = nc newA nilv nilv := by kernel_rfl
  rw [← e]
  exact hI.1.get (i := 0) rfl

theorem p_write {w : World} {d : Nat} {F : Nat → Prop} {A : NicA} (hk : NicOk A) (h : NicAt 74 w d F A) (reg v : Int) : Calls Try.prog 11 #[pt d 0, iw reg, iw v] w fun e w' => e = .returned (iw (writeF A reg v).1) ∧ NicAt 74 w' d F (writeF A reg v).2 ∧ Only (fun b => b = d) w w' := by
  have hok := hk
  obtain ⟨r2, r3, r4, r5, r6, _, _, _⟩ := hok
  obtain ⟨tv, cv, hI⟩ := h.inv 103 (fun b => b = d)
  refine calls_sc (l0 := _) (args := [pt d 0, iw reg, iw v]) (fun b => b = d) Try.func11 rfl 103 Try.ntmps11 (le_b rfl) hI ?_
  show SC _ _ _ _ [(0, pt d 0), (1, iw reg), (2, iw v)] [rBlk d (nc A tv cv) 74, rFrs F tv cv A.tb A.cb]
  refine SC.sr ?_
  refine SL.as ?_
  refine SL.nl ?_
  refine SC.seq ?_
  refine SC.block ?_
  refine SC.sr ?_
  refine SL.mv ?_
  refine SL.uu (ru_eq (b := ((reg : Int) == 0)) rfl rfl rfl rfl) ?_
  refine SL.mv ?_
  refine SL.join 3 [(0, pt d 0), (1, iw reg), (2, iw v), (6, iw 0), (11, iw reg), (12, bo ((reg : Int) == 0)), (13, bo ((reg : Int) == 0)), (16, bo (((reg : Int) == 0) && ((v : Int) == 2)))] [rBlk d (nc A tv cv) 74, rFrs F tv cv A.tb A.cb] ?_ ?_
  rotate_left
  · intro K hK
    rcases tf ((reg : Int) == 0) with h1 | h1
    · skip
      refine SL.norm [(0, pt d 0), (1, iw reg), (2, iw v), (6, iw 0), (11, iw reg), (12, bo true), (13, bo true)] _ ⟨rfl, rfl, rfl, rfl, rfl, (congrArg (fun x => some (Value.bool x)) h1), (congrArg (fun x => some (Value.bool x)) h1), trivial⟩ rfl ?_
      refine SL.gg (ru_move rfl rfl) ?_
      refine SL.gg (ru_eq (b := ((v : Int) == 2)) rfl rfl rfl rfl) ?_
      refine SL.pk (bo ((v : Int) == 2)) (bo false) ?_
      exact SL.joined hK ⟨rfl, rfl, rfl, rfl, rfl, (congrArg (fun x => some (Value.bool x)) h1.symm), (congrArg (fun x => some (Value.bool x)) h1.symm), (congrArg (fun bx => some (Value.bool (bx && ((v : Int) == 2)))) h1.symm), trivial⟩ rfl
    refine SL.norm [(0, pt d 0), (1, iw reg), (2, iw v), (6, iw 0), (11, iw reg), (12, bo false), (13, bo false)] _ ⟨rfl, rfl, rfl, rfl, rfl, (congrArg (fun x => some (Value.bool x)) h1), (congrArg (fun x => some (Value.bool x)) h1), trivial⟩ rfl ?_
    refine SL.oo ?_
    refine SL.oo ?_
    refine SL.pk (undef) (bo false) ?_
    exact SL.joined hK ⟨rfl, rfl, rfl, rfl, rfl, (congrArg (fun x => some (Value.bool x)) h1.symm), (congrArg (fun x => some (Value.bool x)) h1.symm), (congrArg (fun bx => some (Value.bool (bx && ((v : Int) == 2)))) h1.symm), trivial⟩ rfl
  skip
  refine SL.as ?_
  refine SL.nl ?_
  refine SC.both (((reg : Int) == 0) && ((v : Int) == 2)) rfl (fun h2 => ?_) (fun h2 => ?_)
  · skip
    have h0 := w_0 h2
    refine SC.seq ?_
    refine SC.region_quiet (by kernel_rfl) (by kernel_rfl) ?_
    refine SQ.mv ?_
    refine SQ.nk ?_
    refine SQ.fa 0 fd74_0 ?_
    refine SQ.ia 1 ar68 ?_
    refine SQ.uu (ru_load (i := 0) (v := iw (A.r 1)) ts3 rfl rfl rfl (nc_r (by decide))) ?_
    refine SQ.mv ?_
    refine SQ.nk ?_
    refine SQ.fa 104 fd74_3 ?_
    refine SQ.uu (ru_load (i := 0) (v := iw A.clk) ts3 rfl rfl rfl nc_clk) ?_
    refine SQ.uu (ru_assign rfl rfl) ?_
    refine SQ.uu (ru_assign rfl rfl) ?_
    refine SQ.nilE ?_
    refine SC.of_SE ?_
    refine SC.sr ?_
    refine SL.mv ?_
    refine SL.call (ζ := Nat) (fun g3 => pt g3 0) (fun g3 => [rBlk d (nc A tv cv) 74, rFrs F tv cv A.tb A.cb, rBlk g3 (nc newA nilv nilv) 74]) (fun g3 => w.heap.size ≤ g3) rfl rfl co26 rfl rfl rfl (lt_b rfl) (fun w hI => (p_new _).mono fun e w2 ⟨g, h1, h2, h3, h4⟩ => ⟨g, h2, hI.add h4 h3 (fun q hq => by cases hq; exact h1), Nat.le_trans hI.2.size h1⟩) ?_
    intro g3 hg3
    refine SL.nk ?_
    refine SL.uu (ru_loada (i := 2) (vs := (nc newA nilv nilv)) ta74 rfl rfl rfl nc_all (by rw [nc_len]; exact Nat.le_refl _)) ?_
    refine SL.nk ?_
    refine SL.storea (i := 0) (vs := (nc newA nilv nilv)) (c' := (nc newA nilv nilv)) rfl rfl ta74 rfl rfl rfl (nc_one (fun _ => rfl) (fun _ => rfl)) nc_len rfl (by rw [nc_len, nc_len]; omega) (.inl rfl) nc_whole ?_
    refine SL.nl ?_
    refine SC.region ?_
    refine SL.mv ?_
    refine SL.mv ?_
    refine SL.mv ?_
    refine SL.mv ?_
    refine SL.nk ?_
    refine SL.fa 0 fd74_0 ?_
    refine SL.ia 1 ar68 ?_
    refine SL.store (i := 0) (c' := (nc { newA with r := up newA.r 1 (A.r 1) } nilv nilv)) rfl rfl ts3 rfl rfl rfl rfl rfl (by rw [nc_len]; omega) (.inl rfl) (set_r (by decide) (A.r 1)) ?_
    refine SL.nk ?_
    refine SL.fa 104 fd74_3 ?_
    refine SL.store (i := 0) (c' := (nc { newA with r := up newA.r 1 (A.r 1), clk := A.clk } nilv nilv)) rfl rfl ts3 rfl rfl rfl rfl rfl (by rw [nc_len]; omega) (.inl rfl) (set_clk A.clk) ?_
    refine SL.nil ?_
    refine SE.blkn ?_
    refine SC.of_SE ?_
    refine SC.sr ?_
    refine SL.as ?_
    refine SL.nl ?_
    refine SC.ret ?_
    refine SE.res (.inl rfl) (res1 Try.results11 rfl) fun w1 hI => ?_
    have e : writeF A reg v = (0, { newA with r := up newA.r 1 (A.r 1), clk := A.clk }) := by
      try simp at h2
      unfold writeF
      (repeat' split) <;> first | rfl | (exfalso; omega) | (exfalso; simp_all; done) | (exfalso; simp_all; omega)
    rw [e]
    exact ⟨rfl, NicAt.fin_reset rfl rfl hI⟩
  refine SC.sr ?_
  refine SL.mv ?_
  refine SL.uu (ru_eq (b := ((reg : Int) == 0)) rfl rfl rfl rfl) ?_
  refine SL.mv ?_
  refine SL.join 7 [(0, pt d 0), (1, iw reg), (2, iw v), (6, iw 0), (10, bo (((reg : Int) == 0) && ((v : Int) == 2))), (41, iw reg), (42, bo ((reg : Int) == 0)), (43, bo ((reg : Int) == 0)), (50, bo (((reg : Int) == 0) && (((v : Int) == 0) || ((v : Int) == 1))))] [rBlk d (nc A tv cv) 74, rFrs F tv cv A.tb A.cb] ?_ ?_
  rotate_left
  · intro K hK
    rcases tf ((reg : Int) == 0) with h4 | h4
    · skip
      refine SL.norm [(0, pt d 0), (1, iw reg), (2, iw v), (6, iw 0), (10, bo (((reg : Int) == 0) && ((v : Int) == 2))), (41, iw reg), (42, bo true), (43, bo true)] _ ⟨rfl, rfl, rfl, rfl, rfl, rfl, (congrArg (fun x => some (Value.bool x)) h4), (congrArg (fun x => some (Value.bool x)) h4), trivial⟩ rfl ?_
      refine SL.gg (ru_move rfl rfl) ?_
      refine SL.gg (ru_eq (b := ((v : Int) == 0)) rfl rfl rfl rfl) ?_
      refine SL.gg (ru_move rfl rfl) ?_
      refine SL.join 3 [(0, pt d 0), (1, iw reg), (2, iw v), (6, iw 0), (10, bo (((reg : Int) == 0) && ((v : Int) == 2))), (41, iw reg), (42, bo true), (43, bo true), (44, iw v), (45, bo ((v : Int) == 0)), (46, bo ((v : Int) == 0)), (49, bo (((v : Int) == 0) || ((v : Int) == 1)))] [rBlk d (nc A tv cv) 74, rFrs F tv cv A.tb A.cb] ?_ ?_
      rotate_left
      · intro K hK
        rcases tf ((v : Int) == 0) with h5 | h5
        · skip
          refine SL.norm [(0, pt d 0), (1, iw reg), (2, iw v), (6, iw 0), (10, bo (((reg : Int) == 0) && ((v : Int) == 2))), (41, iw reg), (42, bo true), (43, bo true), (44, iw v), (45, bo true), (46, bo true)] _ ⟨rfl, rfl, rfl, rfl, rfl, rfl, rfl, rfl, rfl, (congrArg (fun x => some (Value.bool x)) h5), (congrArg (fun x => some (Value.bool x)) h5), trivial⟩ rfl ?_
          refine SL.oo ?_
          refine SL.oo ?_
          refine SL.gg (ru_pick (u := bo true) (v := undef) rfl rfl rfl rfl) ?_
          exact SL.joined hK ⟨rfl, rfl, rfl, rfl, rfl, rfl, rfl, rfl, rfl, (congrArg (fun x => some (Value.bool x)) h5.symm), (congrArg (fun x => some (Value.bool x)) h5.symm), (congrArg (fun bx => some (Value.bool (bx || ((v : Int) == 1)))) h5.symm), trivial⟩ rfl
        refine SL.norm [(0, pt d 0), (1, iw reg), (2, iw v), (6, iw 0), (10, bo (((reg : Int) == 0) && ((v : Int) == 2))), (41, iw reg), (42, bo true), (43, bo true), (44, iw v), (45, bo false), (46, bo false)] _ ⟨rfl, rfl, rfl, rfl, rfl, rfl, rfl, rfl, rfl, (congrArg (fun x => some (Value.bool x)) h5), (congrArg (fun x => some (Value.bool x)) h5), trivial⟩ rfl ?_
        refine SL.gg (ru_move rfl rfl) ?_
        refine SL.gg (ru_eq (b := ((v : Int) == 1)) rfl rfl rfl rfl) ?_
        refine SL.gg (ru_pick (u := bo true) (v := bo ((v : Int) == 1)) rfl rfl rfl rfl) ?_
        exact SL.joined hK ⟨rfl, rfl, rfl, rfl, rfl, rfl, rfl, rfl, rfl, (congrArg (fun x => some (Value.bool x)) h5.symm), (congrArg (fun x => some (Value.bool x)) h5.symm), (congrArg (fun bx => some (Value.bool (bx || ((v : Int) == 1)))) h5.symm), trivial⟩ rfl
      skip
      refine SL.pk (bo (((v : Int) == 0) || ((v : Int) == 1))) (bo false) ?_
      exact SL.joined hK ⟨rfl, rfl, rfl, rfl, rfl, rfl, (congrArg (fun x => some (Value.bool x)) h4.symm), (congrArg (fun x => some (Value.bool x)) h4.symm), (congrArg (fun bx => some (Value.bool (bx && (((v : Int) == 0) || ((v : Int) == 1))))) h4.symm), trivial⟩ rfl
    refine SL.norm [(0, pt d 0), (1, iw reg), (2, iw v), (6, iw 0), (10, bo (((reg : Int) == 0) && ((v : Int) == 2))), (41, iw reg), (42, bo false), (43, bo false)] _ ⟨rfl, rfl, rfl, rfl, rfl, rfl, (congrArg (fun x => some (Value.bool x)) h4), (congrArg (fun x => some (Value.bool x)) h4), trivial⟩ rfl ?_
    refine SL.oo ?_
    refine SL.oo ?_
    refine SL.oo ?_
    refine SL.offu rfl rfl rfl rfl (lt_b rfl) ?_
    refine SL.offu rfl rfl rfl rfl (lt_b rfl) ?_
    refine SL.oo ?_
    refine SL.pk (undef) (bo false) ?_
    exact SL.joined hK ⟨rfl, rfl, rfl, rfl, rfl, rfl, (congrArg (fun x => some (Value.bool x)) h4.symm), (congrArg (fun x => some (Value.bool x)) h4.symm), (congrArg (fun bx => some (Value.bool (bx && (((v : Int) == 0) || ((v : Int) == 1))))) h4.symm), trivial⟩ rfl
  skip
  refine SL.as ?_
  refine SL.nl ?_
  refine SC.both (((reg : Int) == 0) && (((v : Int) == 0) || ((v : Int) == 1))) rfl (fun h6 => ?_) (fun h6 => ?_)
  · skip
    have h0 := w_0 h6
    refine SC.region ?_
    refine SL.mv ?_
    refine SL.mv ?_
    refine SL.mv ?_
    refine SL.nk ?_
    refine SL.fa 0 fd74_0 ?_
    refine SL.uu (ru_indexA (o2 := 0 + reg.toNat * 1) ar68 rfl rfl rfl (by omega) (by omega) rfl) ?_
    refine SL.store (i := 0) (c' := (nc { A with r := up A.r reg.toNat v } tv cv)) rfl rfl ts3 rfl rfl rfl rfl rfl (by rw [nc_len]; omega) (.inl rfl) (set_r' (by omega) v) ?_
    refine SL.nil ?_
    refine SE.blkn ?_
    refine SC.of_SE ?_
    refine SC.sr ?_
    refine SL.as ?_
    refine SL.nl ?_
    refine SC.ret ?_
    refine SE.res (.inl rfl) (res1 Try.results11 rfl) fun w1 hI => ?_
    have e : writeF A reg v = (0, { A with r := up A.r reg.toNat v }) := by
      try simp at h2 h6
      unfold writeF
      (repeat' split) <;> first | rfl | (exfalso; omega) | (exfalso; simp_all; done) | (exfalso; simp_all; omega)
    rw [e]
    exact ⟨rfl, NicAt.fin' hI⟩
  refine SC.sr ?_
  refine SL.mv ?_
  refine SL.uu (ru_lt (b := (decide ((v : Int) < 0))) rfl rfl rfl rfl) ?_
  refine SL.mv ?_
  refine SL.join 3 [(0, pt d 0), (1, iw reg), (2, iw v), (6, iw 0), (40, bo (((reg : Int) == 0) && (((v : Int) == 0) || ((v : Int) == 1)))), (58, iw v), (59, bo (decide ((v : Int) < 0))), (60, bo (decide ((v : Int) < 0))), (63, bo ((decide ((v : Int) < 0)) || (decide ((16 : Int) ≤ v))))] [rBlk d (nc A tv cv) 74, rFrs F tv cv A.tb A.cb] ?_ ?_
  rotate_left
  · intro K hK
    rcases tf (decide ((v : Int) < 0)) with h7 | h7
    · skip
      refine SL.norm [(0, pt d 0), (1, iw reg), (2, iw v), (6, iw 0), (40, bo (((reg : Int) == 0) && (((v : Int) == 0) || ((v : Int) == 1)))), (58, iw v), (59, bo true), (60, bo true)] _ ⟨rfl, rfl, rfl, rfl, rfl, rfl, (congrArg (fun x => some (Value.bool x)) h7), (congrArg (fun x => some (Value.bool x)) h7), trivial⟩ rfl ?_
      refine SL.oo ?_
      refine SL.oo ?_
      refine SL.pk (bo true) (undef) ?_
      exact SL.joined hK ⟨rfl, rfl, rfl, rfl, rfl, rfl, (congrArg (fun x => some (Value.bool x)) h7.symm), (congrArg (fun x => some (Value.bool x)) h7.symm), (congrArg (fun bx => some (Value.bool (bx || (decide ((16 : Int) ≤ v))))) h7.symm), trivial⟩ rfl
    refine SL.norm [(0, pt d 0), (1, iw reg), (2, iw v), (6, iw 0), (40, bo (((reg : Int) == 0) && (((v : Int) == 0) || ((v : Int) == 1)))), (58, iw v), (59, bo false), (60, bo false)] _ ⟨rfl, rfl, rfl, rfl, rfl, rfl, (congrArg (fun x => some (Value.bool x)) h7), (congrArg (fun x => some (Value.bool x)) h7), trivial⟩ rfl ?_
    refine SL.gg (ru_move rfl rfl) ?_
    refine SL.gg (ru_ge (b := (decide ((16 : Int) ≤ v))) rfl rfl rfl rfl) ?_
    refine SL.pk (bo true) (bo (decide ((16 : Int) ≤ v))) ?_
    exact SL.joined hK ⟨rfl, rfl, rfl, rfl, rfl, rfl, (congrArg (fun x => some (Value.bool x)) h7.symm), (congrArg (fun x => some (Value.bool x)) h7.symm), (congrArg (fun bx => some (Value.bool (bx || (decide ((16 : Int) ≤ v))))) h7.symm), trivial⟩ rfl
  skip
  refine SL.as ?_
  refine SL.nl ?_
  refine SC.both ((decide ((v : Int) < 0)) || (decide ((16 : Int) ≤ v))) rfl (fun h8 => ?_) (fun h8 => ?_)
  · skip
    refine SC.sr ?_
    refine SL.as ?_
    refine SL.nl ?_
    refine SC.ret ?_
    refine SE.blkr ?_
    refine SE.passr ?_
    refine SE.res (.inl rfl) (res1 Try.results11 rfl) fun w1 hI => ?_
    have e : writeF A reg v = (1, A) := by
      try simp at h2 h6 h8
      unfold writeF
      (repeat' split) <;> first | rfl | (exfalso; omega) | (exfalso; simp_all; done) | (exfalso; simp_all; omega)
    rw [e]
    exact ⟨rfl, NicAt.fin' hI⟩
  have hv := host_in h8
  refine SC.sr ?_
  refine SL.mv ?_
  refine SL.uu (ru_eq (b := ((reg : Int) == 5)) rfl rfl rfl rfl) ?_
  refine SL.as ?_
  refine SL.nl ?_
  refine SC.both ((reg : Int) == 5) rfl (fun h9 => ?_) (fun h9 => ?_)
  · skip
    have h5 := w_5 h9
    have e5 : A.r reg.toNat = A.r 5 := by rw [h5]; rfl
    refine SC.seq ?_
    refine SC.sr ?_
    refine SL.mv ?_
    refine SL.mv ?_
    refine SL.nk ?_
    refine SL.fa 0 fd74_0 ?_
    refine SL.uu (ru_indexA (o2 := 0 + reg.toNat * 1) ar68 rfl rfl rfl (by omega) (by omega) rfl) ?_
    refine SL.uu (ru_load (i := 0) (v := iw (A.r reg.toNat)) ts3 rfl rfl rfl (nc_r' (by omega))) ?_
    refine SL.as ?_
    refine SL.nl ?_
    refine SC.block ?_
    refine SC.loop (γ := Unit) (fun n _ => [(0, pt d 0), (1, iw reg), (2, iw v), (6, iw 0), (9, iw ((v - (n : Int)) % 16))]) (fun n _ => [rBlk d (nc { A with tp := posts A.tp (A.r 5) ((v - (n : Int)) % 16) A.clk } tv cv) 74, rFrs F tv cv A.tb A.cb]) (fun n _ => n ≤ ((v - A.r 5) % 16).toNat) ((v - A.r 5) % 16).toNat () (Nat.le_refl _) ⟨rfl, rfl, rfl, rfl, (congrArg (fun x => some (iw x)) (show A.r reg.toNat = (v - (((((v - A.r 5) % 16).toNat : Nat) : Int) : Int)) % 16 by omega)), trivial⟩ (congrArg (fun c => [rBlk d c 74, rFrs F tv cv A.tb A.cb]) (nc_posts r5 hv)) ?_
    rintro n ⟨⟩ hn
    rcases Nat.eq_zero_or_pos n with h0 | h0
    · skip
      have ez : (v - (n : Int)) % 16 = v := by omega
      refine SC.seq ?_
      refine SC.sr ?_
      refine SL.mv ?_
      refine SL.mv ?_
      refine SL.uu (ru_ne (b := ((((v - (n : Int)) % 16) : Int) != v)) rfl rfl rfl rfl) ?_
      refine SL.nl ?_
      refine SC.no (show some (Value.bool ((((v - (n : Int)) % 16) : Int) != v)) = some (Value.bool false) from congrArg (fun x => some (Value.bool x)) (bne_f (by omega))) ?_
      refine SC.exit ?_
      refine SE.passe ?_
      refine SE.passe ?_
      refine SE.blke ?_
      refine SC.of_SE ?_
      refine SC.region ?_
      refine SL.mv ?_
      refine SL.mv ?_
      refine SL.mv ?_
      refine SL.nk ?_
      refine SL.fa 0 fd74_0 ?_
      refine SL.uu (ru_indexA (o2 := 0 + reg.toNat * 1) ar68 rfl rfl rfl (by omega) (by omega) rfl) ?_
      refine SL.store (i := 0) (c' := (nc { A with r := up A.r reg.toNat v, tp := posts A.tp (A.r 5) ((v - (n : Int)) % 16) A.clk } tv cv)) rfl rfl ts3 rfl rfl rfl rfl rfl (by rw [nc_len]; omega) (.inl rfl) (set_r' (by omega) v) ?_
      refine SL.nil ?_
      refine SE.blkn ?_
      refine SC.of_SE ?_
      refine SC.sr ?_
      refine SL.as ?_
      refine SL.nl ?_
      refine SC.ret ?_
      refine SE.res (.inl rfl) (res1 Try.results11 rfl) fun w1 hI => ?_
      rw [ez] at hI
      have e : writeF A reg v = (0, { A with r := up A.r reg.toNat v, tp := posts A.tp (A.r 5) v A.clk }) := by
        try simp at h2 h6 h8 h9
        unfold writeF
        (repeat' split) <;> first | rfl | (exfalso; omega) | (exfalso; simp_all; done) | (exfalso; simp_all; omega)
      rw [e]
      exact ⟨rfl, NicAt.fin' hI⟩
    refine SC.seq ?_
    refine SC.sr ?_
    refine SL.mv ?_
    refine SL.mv ?_
    refine SL.uu (ru_ne (b := ((((v - (n : Int)) % 16) : Int) != v)) rfl rfl rfl rfl) ?_
    refine SL.nl ?_
    refine SC.yes (show some (Value.bool ((((v - (n : Int)) % 16) : Int) != v)) = some (Value.bool true) from congrArg (fun x => some (Value.bool x)) (bne_t (by omega))) ?_
    refine SC.skip ?_
    refine SC.of_SE ?_
    refine SC.seq ?_
    refine SC.block ?_
    refine SC.region_tail 10 (by kernel_rfl) (by kernel_rfl) ?_
    refine SQ.mv ?_
    refine SQ.mv ?_
    refine SQ.mv ?_
    refine SQ.nk ?_
    refine SQ.fa 104 fd74_3 ?_
    refine SQ.uu (ru_load (i := 0) (v := iw A.clk) ts3 rfl rfl rfl nc_clk) ?_
    refine SQ.nk ?_
    refine SQ.fa 8 fd74_1 ?_
    refine SQ.uu (ru_indexA (o2 := 8 + (((v - (n : Int)) % 16).toNat) * 2) ar69 rfl rfl rfl (by omega) (by omega) rfl) ?_
    refine SQ.fa (8 + (((v - (n : Int)) % 16).toNat) * 2 + 1) fd67_1 ?_
    refine SQ.nilL ?_
    refine SL.store (i := 0) (c' := (nc { A with tp := up (posts A.tp (A.r 5) ((v - (n : Int)) % 16) A.clk) (((v - (n : Int)) % 16).toNat) A.clk } tv cv)) rfl rfl ts3 rfl rfl rfl rfl rfl (by rw [nc_len]; omega) (.inl rfl) (set_tp (by omega) A.clk) ?_
    refine SL.nil ?_
    refine SE.blkn ?_
    refine SC.of_SE ?_
    refine SC.region ?_
    refine SL.mv ?_
    refine SL.callv (iw (nx ((v - (n : Int)) % 16))) rfl rfl co33 rfl rfl rfl (lt_b rfl) (fun w hI => H_same hI (next_any w (by omega))) ?_
    refine SL.as ?_
    refine SL.nil ?_
    refine SE.again (n - 1) () (by omega) (by omega) ⟨rfl, rfl, rfl, rfl, (congrArg (fun x => some (iw x)) (nx_step h0)), trivial⟩ (congrArg (fun c => [rBlk d c 74, rFrs F tv cv A.tb A.cb]) (nc_posts' r5 hv h0 hn))
  refine SC.sr ?_
  refine SL.mv ?_
  refine SL.uu (ru_eq (b := ((reg : Int) == 3)) rfl rfl rfl rfl) ?_
  refine SL.as ?_
  refine SL.nl ?_
  refine SC.both ((reg : Int) == 3) rfl (fun h10 => ?_) (fun h10 => ?_)
  · skip
    have h5 := w_5 h10
    refine SC.region ?_
    refine SL.mv ?_
    refine SL.mv ?_
    refine SL.mv ?_
    refine SL.nk ?_
    refine SL.fa 0 fd74_0 ?_
    refine SL.uu (ru_indexA (o2 := 0 + reg.toNat * 1) ar68 rfl rfl rfl (by omega) (by omega) rfl) ?_
    refine SL.store (i := 0) (c' := (nc { A with r := up A.r reg.toNat v } tv cv)) rfl rfl ts3 rfl rfl rfl rfl rfl (by rw [nc_len]; omega) (.inl rfl) (set_r' (by omega) v) ?_
    refine SL.nil ?_
    refine SE.blkn ?_
    refine SC.of_SE ?_
    refine SC.sr ?_
    refine SL.as ?_
    refine SL.nl ?_
    refine SC.ret ?_
    refine SE.res (.inl rfl) (res1 Try.results11 rfl) fun w1 hI => ?_
    have e : writeF A reg v = (0, { A with r := up A.r reg.toNat v }) := by
      try simp at h2 h6 h8 h9 h10
      unfold writeF
      (repeat' split) <;> first | rfl | (exfalso; omega) | (exfalso; simp_all; done) | (exfalso; simp_all; omega)
    rw [e]
    exact ⟨rfl, NicAt.fin' hI⟩
  refine SC.sr ?_
  refine SL.as ?_
  refine SL.nl ?_
  refine SC.ret ?_
  refine SE.blkr ?_
  refine SE.passr ?_
  refine SE.res (.inl rfl) (res1 Try.results11 rfl) fun w1 hI => ?_
  have e : writeF A reg v = (1, A) := by
    try simp at h2 h6 h8 h9 h10
    unfold writeF
    (repeat' split) <;> first | rfl | (exfalso; omega) | (exfalso; simp_all; done) | (exfalso; simp_all; omega)
  rw [e]
  exact ⟨rfl, NicAt.fin' hI⟩

end Go.Proofs.Ytcilikkljkdceaa

/-
  The wire's calls, on the wire as one thing.
-/
namespace Go.Proofs.Ytcilikkljkdceaa
open Go.RowKit
set_option maxRecDepth 100000
set_option maxHeartbeats 4000000
theorem dirC (dir : Int) : dir = 0 ∨ dir = 1 ∨ isD dir = false := by
  by_cases h0 : dir = 0
  · exact .inl h0
  · by_cases h1 : dir = 1
    · exact .inr (.inl h1)
    · exact .inr (.inr (by unfold isD; simp [h0, h1]))
theorem dirX {α : Type} {dir : Int} (h : isD dir = false) (f : Bool → α) (e : α) : dirF dir f e = e := by
  unfold isD at h
  simp only [Bool.or_eq_false_iff, beq_eq_false_iff_ne] at h
  unfold dirF
  rw [if_neg h.1, if_neg h.2]
def pullD (S : Wi) (dir : Int) : Int × Wi := dirF dir (pullF S) (1, S)
def dropD (S : Wi) (dir k : Int) : Int × Wi := dirF dir (fun b => dropF S b k) (1, S)
def doubleD (S : Wi) (dir k : Int) : Int × Wi := dirF dir (fun b => doubleF S b k) (1, S)
def moveD (S : Wi) (dir k to : Int) : Int × Wi := dirF dir (fun b => moveF S b k to) (1, S)
def damageD (S : Wi) (dir k bit : Int) : Int × Wi := dirF dir (fun b => damageF S b k bit) (1, S)
def deliverD (S : Wi) (dir k : Int) : Int × Wi := dirF dir (fun b => deliverF S b k) (1, S)
def lenD (S : Wi) (dir : Int) : Int := dirF dir (fun b => ((S.L b).length : Int)) 0
def seeD (S : Wi) (dir k : Int) : Fm × Int := dirF dir (fun b => (seeW S b k, thereF (S.L b) k)) (fm0, 1)
theorem Wb.dir {n m : Nat} {S : Wi} {f : Bool → Int × Wi} (h : Wb n S) (hf : ∀ b, Wb m (f b).2) (hm : n ≤ m) (dir : Int) : Wb m (dirF dir f (1, S)).2 := by
  unfold dirF
  split
  · exact hf _
  · split
    · exact hf _
    · exact h.le hm
theorem Wb.pullD {n : Nat} {S : Wi} (h : Wb n S) (dir : Int) : Wb (n + 1) (pullD S dir).2 := h.dir (fun b => h.pull b) (Nat.le_succ n) dir
theorem Wb.dropD {n : Nat} {S : Wi} (h : Wb n S) (dir k : Int) : Wb n (dropD S dir k).2 := h.dir (fun b => h.drop b k) (Nat.le_refl n) dir
theorem Wb.doubleD {n : Nat} {S : Wi} (h : Wb n S) (dir k : Int) : Wb (n + 1) (doubleD S dir k).2 := h.dir (fun b => h.double b k) (Nat.le_succ n) dir
theorem Wb.moveD {n : Nat} {S : Wi} (h : Wb n S) (dir k to : Int) : Wb n (moveD S dir k to).2 := h.dir (fun b => h.move b k to) (Nat.le_refl n) dir
theorem Wb.damageD {n : Nat} {S : Wi} (h : Wb n S) (dir k bit : Int) : Wb n (damageD S dir k bit).2 := h.dir (fun b => h.damage b k bit) (Nat.le_refl n) dir
theorem Wb.deliverD {n : Nat} {S : Wi} (h : Wb n S) (dir k : Int) : Wb n (deliverD S dir k).2 := h.dir (fun b => h.deliver b k) (Nat.le_refl n) dir
theorem WM.Ok.n0 {M : WM} {S : Wi} (h : M.Ok S) : M.ps0.length = S.L0.length := by rw [← h.l0, List.length_map]
theorem WM.Ok.n1 {M : WM} {S : Wi} (h : M.Ok S) : M.ps1.length = S.L1.length := by rw [← h.l1, List.length_map]
theorem rw_pull {n : Nat} {w : World} {wd d0 d1 : Nat} {G : Nat → Prop} {S : Wi} (hB : Wb n S) (hn : n ≤ 3000000000000) (h : (rWp wd d0 d1 G S).ok w) (dir : Int) : Calls Try.prog 21 #[pt wd 0, iw dir] w fun e w' => e = .returned (iw (pullD S dir).1) ∧ RTo 74 77 46 w wd d0 d1 G (pullD S dir).2 w' := by
  have h9 := h
  obtain ⟨⟨M, hM, hs, hg⟩, hlt⟩ := h
  rcases dirC dir with rfl | rfl | hd
  · exact (pull0_any hM (by rw [hM.n0]; have := hB.l0.1; omega) hB.d0.ok hs).mono fun e w2 ⟨h1, M2, k⟩ => ⟨h1, RTo.of hg k⟩
  · exact (pull1_any hM (by rw [hM.n1]; have := hB.l1.1; omega) hB.d1.ok hs).mono fun e w2 ⟨h1, M2, k⟩ => ⟨h1, RTo.of hg k⟩
  · rw [show pullD S dir = (1, S) from dirX hd _ _]
    exact (pullX_any hd).mono fun e w2 ⟨h1, h2⟩ => ⟨h1, RTo.same h9 h2⟩
theorem rw_drop {n : Nat} {w : World} {wd d0 d1 : Nat} {G : Nat → Prop} {S : Wi} (hB : Wb n S) (hn : n ≤ 3000000000000) (h : (rWp wd d0 d1 G S).ok w) (dir k : Int) : Calls Try.prog 39 #[pt wd 0, iw dir, iw k] w fun e w' => e = .returned (iw (dropD S dir k).1) ∧ RTo 74 77 46 w wd d0 d1 G (dropD S dir k).2 w' := by
  have h9 := h
  obtain ⟨⟨M, hM, hs, hg⟩, hlt⟩ := h
  rcases dirC dir with rfl | rfl | hd
  · exact (drop0_any hM (by rw [hM.n0]; have := hB.l0.1; omega) hs).mono fun e w2 ⟨h1, M2, k⟩ => ⟨h1, RTo.of hg k⟩
  · exact (drop1_any hM (by rw [hM.n1]; have := hB.l1.1; omega) hs).mono fun e w2 ⟨h1, M2, k⟩ => ⟨h1, RTo.of hg k⟩
  · rw [show dropD S dir k = (1, S) from dirX hd _ _]
    exact (dropX_any hd).mono fun e w2 ⟨h1, h2⟩ => ⟨h1, RTo.same h9 h2⟩
theorem rw_double {n : Nat} {w : World} {wd d0 d1 : Nat} {G : Nat → Prop} {S : Wi} (hB : Wb n S) (hn : n ≤ 3000000000000) (h : (rWp wd d0 d1 G S).ok w) (dir k : Int) : Calls Try.prog 14 #[pt wd 0, iw dir, iw k] w fun e w' => e = .returned (iw (doubleD S dir k).1) ∧ RTo 74 77 46 w wd d0 d1 G (doubleD S dir k).2 w' := by
  have h9 := h
  obtain ⟨⟨M, hM, hs, hg⟩, hlt⟩ := h
  rcases dirC dir with rfl | rfl | hd
  · exact (double0_any hM (by rw [hM.n0]; have := hB.l0.1; omega) hs).mono fun e w2 ⟨h1, M2, k⟩ => ⟨h1, RTo.of hg k⟩
  · exact (double1_any hM (by rw [hM.n1]; have := hB.l1.1; omega) hs).mono fun e w2 ⟨h1, M2, k⟩ => ⟨h1, RTo.of hg k⟩
  · rw [show doubleD S dir k = (1, S) from dirX hd _ _]
    exact (doubleX_any hd).mono fun e w2 ⟨h1, h2⟩ => ⟨h1, RTo.same h9 h2⟩
theorem rw_move {n : Nat} {w : World} {wd d0 d1 : Nat} {G : Nat → Prop} {S : Wi} (hB : Wb n S) (hn : n ≤ 3000000000000) (h : (rWp wd d0 d1 G S).ok w) (dir k to : Int) : Calls Try.prog 22 #[pt wd 0, iw dir, iw k, iw to] w fun e w' => e = .returned (iw (moveD S dir k to).1) ∧ RTo 74 77 46 w wd d0 d1 G (moveD S dir k to).2 w' := by
  have h9 := h
  obtain ⟨⟨M, hM, hs, hg⟩, hlt⟩ := h
  rcases dirC dir with rfl | rfl | hd
  · exact (move0_any hM (by rw [hM.n0]; have := hB.l0.1; omega) hs).mono fun e w2 ⟨h1, M2, k⟩ => ⟨h1, RTo.of hg k⟩
  · exact (move1_any hM (by rw [hM.n1]; have := hB.l1.1; omega) hs).mono fun e w2 ⟨h1, M2, k⟩ => ⟨h1, RTo.of hg k⟩
  · rw [show moveD S dir k to = (1, S) from dirX hd _ _]
    exact (moveX_any hd).mono fun e w2 ⟨h1, h2⟩ => ⟨h1, RTo.same h9 h2⟩
theorem rw_damage {n : Nat} {w : World} {wd d0 d1 : Nat} {G : Nat → Prop} {S : Wi} (hB : Wb n S) (hn : n ≤ 3000000000000) (h : (rWp wd d0 d1 G S).ok w) (dir k bit : Int) (hbit : bit ≤ 9223372036854775807) : Calls Try.prog 23 #[pt wd 0, iw dir, iw k, iw bit] w fun e w' => e = .returned (iw (damageD S dir k bit).1) ∧ RTo 74 77 46 w wd d0 d1 G (damageD S dir k bit).2 w' := by
  have h9 := h
  obtain ⟨⟨M, hM, hs, hg⟩, hlt⟩ := h
  rcases dirC dir with rfl | rfl | hd
  · exact (damage0_any hM (by rw [hM.n0]; have := hB.l0.1; omega) hbit (fun x hx => (hB.l0.2 x hx).1) hs).mono fun e w2 ⟨h1, M2, k⟩ => ⟨h1, RTo.of hg k⟩
  · exact (damage1_any hM (by rw [hM.n1]; have := hB.l1.1; omega) hbit (fun x hx => (hB.l1.2 x hx).1) hs).mono fun e w2 ⟨h1, M2, k⟩ => ⟨h1, RTo.of hg k⟩
  · rw [show damageD S dir k bit = (1, S) from dirX hd _ _]
    exact (damageX_any hd).mono fun e w2 ⟨h1, h2⟩ => ⟨h1, RTo.same h9 h2⟩
theorem rw_deliver {n : Nat} {w : World} {wd d0 d1 : Nat} {G : Nat → Prop} {S : Wi} (hB : Wb n S) (hn : n ≤ 3000000000000) (h : (rWp wd d0 d1 G S).ok w) (dir k : Int) : Calls Try.prog 36 #[pt wd 0, iw dir, iw k] w fun e w' => e = .returned (iw (deliverD S dir k).1) ∧ RTo 74 77 46 w wd d0 d1 G (deliverD S dir k).2 w' := by
  have h9 := h
  obtain ⟨⟨M, hM, hs, hg⟩, hlt⟩ := h
  rcases dirC dir with rfl | rfl | hd
  · exact (deliver0_any hM (by rw [hM.n0]; have := hB.l0.1; omega) hB.d1.ok hs).mono fun e w2 ⟨h1, M2, k⟩ => ⟨h1, RTo.of hg k⟩
  · exact (deliver1_any hM (by rw [hM.n1]; have := hB.l1.1; omega) hB.d0.ok hs).mono fun e w2 ⟨h1, M2, k⟩ => ⟨h1, RTo.of hg k⟩
  · rw [show deliverD S dir k = (1, S) from dirX hd _ _]
    exact (deliverX_any hd).mono fun e w2 ⟨h1, h2⟩ => ⟨h1, RTo.same h9 h2⟩
theorem rw_tick {n : Nat} {w : World} {wd d0 d1 : Nat} {G : Nat → Prop} {S : Wi} (hB : Wb n S) (hn : n ≤ 3000000000000) (h : (rWp wd d0 d1 G S).ok w) : Calls Try.prog 18 #[pt wd 0] w fun e w' => e = .returned (.tuple #[]) ∧ RTo 74 77 46 w wd d0 d1 G (tickW S) w' := by
  obtain ⟨⟨M, hM, hs, hg⟩, hlt⟩ := h
  exact (tick_any hM hB.d0.ok hB.d1.ok (Nat.le_trans hB.l0.1 hn) (Nat.le_trans hB.l1.1 hn) hs).mono fun e w2 ⟨h1, M2, k⟩ => ⟨h1, RTo.of hg k⟩
theorem rw_now {w : World} {wd d0 d1 : Nat} {G : Nat → Prop} {S : Wi} (h : (rWp wd d0 d1 G S).ok w) : Calls Try.prog 12 #[pt wd 0] w fun e w' => e = .returned (iw S.now) ∧ Only (fun _ => False) w w' := by
  obtain ⟨⟨M, hM, hs, hg⟩, hlt⟩ := h
  exact now_any hs
theorem rw_len {w : World} {wd d0 d1 : Nat} {G : Nat → Prop} {S : Wi} (h : (rWp wd d0 d1 G S).ok w) (dir : Int) : Calls Try.prog 20 #[pt wd 0, iw dir] w fun e w' => e = .returned (iw (lenD S dir)) ∧ Only (fun _ => False) w w' := by
  obtain ⟨⟨M, hM, hs, hg⟩, hlt⟩ := h
  rcases dirC dir with rfl | rfl | hd
  · exact (len0_any hs).mono fun e w2 ⟨h1, h2⟩ => ⟨h1.trans (by rw [hM.n0]; rfl), h2⟩
  · exact (len1_any hs).mono fun e w2 ⟨h1, h2⟩ => ⟨h1.trans (by rw [hM.n1]; rfl), h2⟩
  · rw [show lenD S dir = 0 from dirX hd _ _]
    exact lenX_any hd
theorem rw_see {n : Nat} {S : Wi} (hB : Wb n S) {w : World} {wd d0 d1 : Nat} {G : Nat → Prop} (h : (rWp wd d0 d1 G S).ok w) (dir k : Int) : Calls Try.prog 13 #[pt wd 0, iw dir, iw k] w fun e w' => ∃ q c, e = .returned (.tuple #[.agg #[.slice q (seeD S dir k).1.f.length c, bo (seeD S dir k).1.bad, iw (seeD S dir k).1.tick], iw (seeD S dir k).2]) ∧ OwnBytes w' 0 5 (.slice q (seeD S dir k).1.f.length c) (seeD S dir k).1.f ∧ (∀ b, (Value.slice q (seeD S dir k).1.f.length c).ownBlock = some b → w.heap.size ≤ b) ∧ Only (fun _ => False) w w' := by
  obtain ⟨⟨M, hM, hs, hg⟩, hlt⟩ := h
  rcases dirC dir with rfl | rfl | hd
  · exact see0_any hM (fun x hx => (hB.l0.2 x hx).1) hs
  · exact see1_any hM (fun x hx => (hB.l1.2 x hx).1) hs
  · rw [show seeD S dir k = (fm0, 1) from dirX hd _ _]
    exact (seeX_any hd).mono fun e w2 ⟨h1, h2⟩ => ⟨none, 0, h1, ⟨rfl, .inl ⟨rfl, rfl⟩⟩, fun b hb => by (simp [Value.ownBlock] at hb), h2⟩
theorem rw_settx0 {w : World} {wd d0 d1 : Nat} {G : Nat → Prop} {S : Wi} (h : (rWp wd d0 d1 G S).ok w) (hk : NicOk S.A0) {v : Value} {f : List UInt8} (hb : BytesAt w v f) (hs : sliceIn v (fun b => ¬ G b)) (i : Int) : Calls Try.prog 10 #[pt d0 0, iw i, v] w fun e w' => e = .returned (iw (setTxF S.A0 i f).1) ∧ RTo 74 77 46 w wd d0 d1 G (S.setA false (setTxF S.A0 i f).2) w' := by
  obtain ⟨F, k1, k2, k3, k4⟩ := rwi_dev0 h
  exact (p_settx hk k1 hb (fun b o n c e hn => fun hd => hs b o n c e hn (hd ▸ k3)) i).mono fun e w2 ⟨h1, h2⟩ => ⟨h1, k4 _ _ h2⟩
theorem rw_setrx0 {w : World} {wd d0 d1 : Nat} {G : Nat → Prop} {S : Wi} (h : (rWp wd d0 d1 G S).ok w) (hk : NicOk S.A0) (i room : Int) : Calls Try.prog 37 #[pt d0 0, iw i, iw room] w fun e w' => e = .returned (iw (setRxF S.A0 i room).1) ∧ RTo 74 77 46 w wd d0 d1 G (S.setA false (setRxF S.A0 i room).2) w' := by
  obtain ⟨F, k1, k2, k3, k4⟩ := rwi_dev0 h
  exact (p_setrx hk k1 i room).mono fun e w2 ⟨h1, h2⟩ => ⟨h1, k4 _ _ h2⟩
theorem rw_write0 {w : World} {wd d0 d1 : Nat} {G : Nat → Prop} {S : Wi} (h : (rWp wd d0 d1 G S).ok w) (hk : NicOk S.A0) (reg v : Int) : Calls Try.prog 11 #[pt d0 0, iw reg, iw v] w fun e w' => e = .returned (iw (writeF S.A0 reg v).1) ∧ RTo 74 77 46 w wd d0 d1 G (S.setA false (writeF S.A0 reg v).2) w' := by
  obtain ⟨F, k1, k2, k3, k4⟩ := rwi_dev0 h
  exact (p_write hk k1 reg v).mono fun e w2 ⟨h1, h2, h3⟩ => ⟨h1, k4 _ _ ⟨F, h2, fun b hb => .inl hb, h3⟩⟩
theorem rw_rx0 {w : World} {wd d0 d1 : Nat} {G : Nat → Prop} {S : Wi} (h : (rWp wd d0 d1 G S).ok w) (hk : NicOk S.A0) (i : Int) : Calls Try.prog 38 #[pt d0 0, iw i] w fun e w' => ∃ v, e = .returned (.tuple #[v, bo (rxR S.A0 i).1.2, iw (rxR S.A0 i).2]) ∧ Only (fun _ => False) w w' ∧ Out 5 w w' v (rxR S.A0 i).1.1 := by
  obtain ⟨F, k1, k2, k3, k4⟩ := rwi_dev0 h
  exact p_rx hk k1 i
theorem rw_settx1 {w : World} {wd d0 d1 : Nat} {G : Nat → Prop} {S : Wi} (h : (rWp wd d0 d1 G S).ok w) (hk : NicOk S.A1) {v : Value} {f : List UInt8} (hb : BytesAt w v f) (hs : sliceIn v (fun b => ¬ G b)) (i : Int) : Calls Try.prog 10 #[pt d1 0, iw i, v] w fun e w' => e = .returned (iw (setTxF S.A1 i f).1) ∧ RTo 74 77 46 w wd d0 d1 G (S.setA true (setTxF S.A1 i f).2) w' := by
  obtain ⟨F, k1, k2, k3, k4⟩ := rwi_dev1 h
  exact (p_settx hk k1 hb (fun b o n c e hn => fun hd => hs b o n c e hn (hd ▸ k3)) i).mono fun e w2 ⟨h1, h2⟩ => ⟨h1, k4 _ _ h2⟩
theorem rw_setrx1 {w : World} {wd d0 d1 : Nat} {G : Nat → Prop} {S : Wi} (h : (rWp wd d0 d1 G S).ok w) (hk : NicOk S.A1) (i room : Int) : Calls Try.prog 37 #[pt d1 0, iw i, iw room] w fun e w' => e = .returned (iw (setRxF S.A1 i room).1) ∧ RTo 74 77 46 w wd d0 d1 G (S.setA true (setRxF S.A1 i room).2) w' := by
  obtain ⟨F, k1, k2, k3, k4⟩ := rwi_dev1 h
  exact (p_setrx hk k1 i room).mono fun e w2 ⟨h1, h2⟩ => ⟨h1, k4 _ _ h2⟩
theorem rw_write1 {w : World} {wd d0 d1 : Nat} {G : Nat → Prop} {S : Wi} (h : (rWp wd d0 d1 G S).ok w) (hk : NicOk S.A1) (reg v : Int) : Calls Try.prog 11 #[pt d1 0, iw reg, iw v] w fun e w' => e = .returned (iw (writeF S.A1 reg v).1) ∧ RTo 74 77 46 w wd d0 d1 G (S.setA true (writeF S.A1 reg v).2) w' := by
  obtain ⟨F, k1, k2, k3, k4⟩ := rwi_dev1 h
  exact (p_write hk k1 reg v).mono fun e w2 ⟨h1, h2, h3⟩ => ⟨h1, k4 _ _ ⟨F, h2, fun b hb => .inl hb, h3⟩⟩
theorem rw_rx1 {w : World} {wd d0 d1 : Nat} {G : Nat → Prop} {S : Wi} (h : (rWp wd d0 d1 G S).ok w) (hk : NicOk S.A1) (i : Int) : Calls Try.prog 38 #[pt d1 0, iw i] w fun e w' => ∃ v, e = .returned (.tuple #[v, bo (rxR S.A1 i).1.2, iw (rxR S.A1 i).2]) ∧ Only (fun _ => False) w w' ∧ Out 5 w w' v (rxR S.A1 i).1.1 := by
  obtain ⟨F, k1, k2, k3, k4⟩ := rwi_dev1 h
  exact p_rx hk k1 i

end Go.Proofs.Ytcilikkljkdceaa

/-
  An event (the reference's).
-/
namespace Go.Proofs.Ytcilikkljkdceaa
open Go.RowKit
set_option maxRecDepth 100000
set_option maxHeartbeats 4000000
end Go.Proofs.Ytcilikkljkdceaa

/-
  What a device's calls do (the reference's).
-/
namespace Go.Proofs.Ytcilikkljkdceaa
open Go.RowKit
set_option maxRecDepth 100000
set_option maxHeartbeats 4000000
end Go.Proofs.Ytcilikkljkdceaa

/-
  What a device's other calls do (the reference's).
-/
namespace Go.Proofs.Ytcilikkljkdceaa
open Go.RowKit
set_option maxRecDepth 100000
set_option maxHeartbeats 4000000
theorem q_settx {w : World} {d : Nat} {F : Nat → Prop} {A : NicA} (hk : NicOk A) (h : NicAt 100 w d F A) {v : Value} {f : List UInt8} (hb : BytesAt w v f) (hs : sliceIn v (fun b => ¬ b = d)) (i : Int) : Calls Try.prog 57 #[pt d 0, iw i, v] w fun e w' => e = .returned (iw (setTxF A i f).1) ∧ NicTo 100 w d F (setTxF A i f).2 w' := by
  have hok := hk
  obtain ⟨r2, r3, r4, r5, r6, _, _, _⟩ := hok
  obtain ⟨a, c, rfl⟩ := hb.form
  have hbl := hb.len
  obtain ⟨tv, cv, hI⟩ := h.inv 41 (fun b => b = d)
  refine calls_sc (l0 := _) (args := [pt d 0, iw i, Value.slice a f.length c]) (fun b => b = d) Try.func57 rfl 41 Try.ntmps57 (le_b rfl) hI ?_
  show SC _ _ _ _ [(0, pt d 0), (1, iw i), (2, Value.slice a f.length c)] [rBlk d (nc A tv cv) 100, rFrs F tv cv A.tb A.cb]
  refine SC.sr ?_
  refine SL.as ?_
  refine SL.nl ?_
  refine SC.seq ?_
  refine SC.sr ?_
  refine SL.mv ?_
  refine SL.uu (ru_lt (b := (decide ((i : Int) < 0))) rfl rfl rfl rfl) ?_
  refine SL.mv ?_
  refine SL.join 3 [(0, pt d 0), (1, iw i), (2, Value.slice a f.length c), (6, iw 0), (8, iw i), (9, bo (decide ((i : Int) < 0))), (10, bo (decide ((i : Int) < 0))), (13, bo ((decide ((i : Int) < 0)) || (decide ((16 : Int) ≤ i))))] [rBlk d (nc A tv cv) 100, rFrs F tv cv A.tb A.cb] ?_ ?_
  rotate_left
  · intro K hK
    rcases tf (decide ((i : Int) < 0)) with h1 | h1
    · skip
      refine SL.norm [(0, pt d 0), (1, iw i), (2, Value.slice a f.length c), (6, iw 0), (8, iw i), (9, bo true), (10, bo true)] _ ⟨rfl, rfl, rfl, rfl, rfl, (congrArg (fun x => some (Value.bool x)) h1), (congrArg (fun x => some (Value.bool x)) h1), trivial⟩ rfl ?_
      refine SL.oo ?_
      refine SL.oo ?_
      refine SL.pk (bo true) (undef) ?_
      exact SL.joined hK ⟨rfl, rfl, rfl, rfl, rfl, (congrArg (fun x => some (Value.bool x)) h1.symm), (congrArg (fun x => some (Value.bool x)) h1.symm), (congrArg (fun bx => some (Value.bool (bx || (decide ((16 : Int) ≤ i))))) h1.symm), trivial⟩ rfl
    refine SL.norm [(0, pt d 0), (1, iw i), (2, Value.slice a f.length c), (6, iw 0), (8, iw i), (9, bo false), (10, bo false)] _ ⟨rfl, rfl, rfl, rfl, rfl, (congrArg (fun x => some (Value.bool x)) h1), (congrArg (fun x => some (Value.bool x)) h1), trivial⟩ rfl ?_
    refine SL.gg (ru_move rfl rfl) ?_
    refine SL.gg (ru_ge (b := (decide ((16 : Int) ≤ i))) rfl rfl rfl rfl) ?_
    refine SL.pk (bo true) (bo (decide ((16 : Int) ≤ i))) ?_
    exact SL.joined hK ⟨rfl, rfl, rfl, rfl, rfl, (congrArg (fun x => some (Value.bool x)) h1.symm), (congrArg (fun x => some (Value.bool x)) h1.symm), (congrArg (fun bx => some (Value.bool (bx || (decide ((16 : Int) ≤ i))))) h1.symm), trivial⟩ rfl
  skip
  refine SL.nl ?_
  refine SC.both ((decide ((i : Int) < 0)) || (decide ((16 : Int) ≤ i))) rfl (fun h2 => ?_) (fun h2 => ?_)
  · skip
    have hbd := fun (e : hostB i (A.r 4) (A.r 5) = true) => host_bd e
    refine SC.sr ?_
    refine SL.as ?_
    refine SL.nl ?_
    refine SC.ret ?_
    refine SE.passr ?_
    refine SE.res (.inl rfl) (res1 Try.results57 rfl) fun w1 hI => ?_
    have e : setTxF A i f = (1, A) := by
      try simp at h2
      unfold setTxF
      (repeat' split) <;> first | rfl | (exfalso; omega) | (exfalso; simp_all; done) | (exfalso; simp_all; omega)
    rw [e]
    exact ⟨rfl, NicAt.fin hI⟩
  have hi := host_in h2
  refine SC.skip ?_
  refine SC.of_SE ?_
  refine SC.seq ?_
  refine SC.region_quiet (by kernel_rfl) (by kernel_rfl) ?_
  refine SQ.mv ?_
  refine SQ.mv ?_
  refine SQ.nk ?_
  refine SQ.fa 0 fd100_0 ?_
  refine SQ.ia 4 ar68 ?_
  refine SQ.uu (ru_load (i := 0) (v := iw (A.r 4)) ts3 rfl rfl rfl (nc_r (by decide))) ?_
  refine SQ.mv ?_
  refine SQ.nk ?_
  refine SQ.fa 0 fd100_0 ?_
  refine SQ.ia 5 ar68 ?_
  refine SQ.uu (ru_load (i := 0) (v := iw (A.r 5)) ts3 rfl rfl rfl (nc_r (by decide))) ?_
  refine SQ.call (bo (!(hostB i (A.r 4) (A.r 5)))) rfl rfl co72 rfl rfl rfl (lt_b rfl) (fun w hI => H_only hI (devices_any (by omega) (by omega) (by omega))) ?_
  refine SQ.uu (ru_assign rfl rfl) ?_
  refine SQ.nilE ?_
  refine SC.of_SE ?_
  refine SC.seq ?_
  refine SC.sr ?_
  refine SL.mv ?_
  refine SL.nl ?_
  refine SC.both (!(hostB i (A.r 4) (A.r 5))) rfl (fun h3 => ?_) (fun h3 => ?_)
  · skip
    refine SC.sr ?_
    refine SL.as ?_
    refine SL.nl ?_
    refine SC.ret ?_
    refine SE.passr ?_
    refine SE.res (.inl rfl) (res1 Try.results57 rfl) fun w1 hI => ?_
    have e : setTxF A i f = (1, A) := by
      try simp at h2 h3
      unfold setTxF
      (repeat' split) <;> first | rfl | (exfalso; omega) | (exfalso; simp_all; done) | (exfalso; simp_all; omega)
    rw [e]
    exact ⟨rfl, NicAt.fin hI⟩
  refine SC.skip ?_
  refine SC.of_SE ?_
  refine SC.seq ?_
  refine SC.sr ?_
  refine SL.mv ?_
  refine SL.uu (ru_len Try.underlying28 rfl rfl) ?_
  refine SL.uu (ru_eq (b := (((f.length : Int) : Int) == 0)) rfl rfl rfl rfl) ?_
  refine SL.nl ?_
  refine SC.both (((f.length : Int) : Int) == 0) rfl (fun h4 => ?_) (fun h4 => ?_)
  · skip
    refine SC.sr ?_
    refine SL.as ?_
    refine SL.nl ?_
    refine SC.ret ?_
    refine SE.passr ?_
    refine SE.res (.inl rfl) (res1 Try.results57 rfl) fun w1 hI => ?_
    have e : setTxF A i f = (3, A) := by
      try simp at h2 h3 h4
      unfold setTxF
      (repeat' split) <;> first | rfl | (exfalso; omega) | (exfalso; simp_all; done) | (exfalso; simp_all; omega)
    rw [e]
    exact ⟨rfl, NicAt.fin hI⟩
  refine SC.skip ?_
  refine SC.of_SE ?_
  refine SC.seq ?_
  refine SC.sr ?_
  refine SL.mv ?_
  refine SL.uu (ru_len Try.underlying28 rfl rfl) ?_
  refine SL.uu (ru_gt (b := (decide ((274 : Int) < (f.length : Int)))) rfl rfl rfl rfl) ?_
  refine SL.nl ?_
  refine SC.both (decide ((274 : Int) < (f.length : Int))) rfl (fun h5 => ?_) (fun h5 => ?_)
  · skip
    refine SC.sr ?_
    refine SL.as ?_
    refine SL.nl ?_
    refine SC.ret ?_
    refine SE.passr ?_
    refine SE.res (.inl rfl) (res1 Try.results57 rfl) fun w1 hI => ?_
    have e : setTxF A i f = (2, A) := by
      try simp at h2 h3 h4 h5
      unfold setTxF
      (repeat' split) <;> first | rfl | (exfalso; omega) | (exfalso; simp_all; done) | (exfalso; simp_all; omega)
    rw [e]
    exact ⟨rfl, NicAt.fin hI⟩
  refine SC.skip ?_
  refine SC.of_SE ?_
  refine SC.seq ?_
  refine SC.region_app 8 3 (fun t6 => rMine (appV t6 5 f.length) f 5) (by kernel_rfl) (by kernel_rfl) rfl (fun t6 ht6 => ?_)
  refine SS.ru _ CT.base rfl rfl rfl (lt_b rfl) (ru_move rfl rfl) ?_
  refine SS.ru _ CT.base rfl rfl rfl (lt_b rfl) (ru_move rfl rfl) ?_
  refine SS.ru _ CT.base rfl rfl rfl (lt_b rfl) (ru_move rfl rfl) ?_
  refine SS.append0 (f := f) rfl rfl (lt_b rfl) rfl Try.underlying28 (by kernel_rfl) rfl rfl (fun w hI => (hb.only hI.2 hs)) ?_
  refine SS.ru _ CT.base rfl rfl rfl (lt_b rfl) (ru_nilCheck rfl rfl) ?_
  refine SS.ru _ CT.base rfl rfl rfl (lt_b rfl) (ru_fieldAddr (o2 := 8) fd100_1 rfl rfl rfl) ?_
  refine SS.ru _ CT.base rfl rfl rfl (lt_b rfl) (ru_indexA (o2 := 8 + i.toNat * 2) ar95 rfl rfl rfl (by omega) (by omega) rfl) ?_
  refine SS.ru _ CT.base rfl rfl rfl (lt_b rfl) (ru_fieldAddr (o2 := (8 + i.toNat * 2)) fd94_0 rfl rfl rfl) ?_
  refine SS.nilT ?_
  refine SL.store (i := 0) (c' := (nc A (up tv i.toNat (Value.slice (appA t6 f.length) f.length (appC t6 5 f.length))) cv)) rfl rfl ts28 rfl rfl rfl rfl rfl (by rw [nc_len]; omega) (.inl rfl) (set_tv (by omega) (Value.slice (appA t6 f.length) f.length (appC t6 5 f.length))) ?_
  refine SL.nl ?_
  refine SC.sr ?_
  refine SL.as ?_
  refine SL.nl ?_
  refine SC.ret ?_
  refine SE.res (.inl rfl) (res1 Try.results57 rfl) fun w1 hI => ?_
  have e : setTxF A i f = (0, { A with tb := up A.tb i.toNat f }) := by
    try simp at h2 h3 h4 h5
    unfold setTxF
    (repeat' split) <;> first | rfl | (exfalso; omega) | (exfalso; simp_all; done) | (exfalso; simp_all; omega)
  rw [e]
  exact ⟨rfl, NicAt.fin_txM hbl (appV_new ht6) hI⟩
end Go.Proofs.Ytcilikkljkdceaa

/-
  A new device, and a write (the reference's).
-/
namespace Go.Proofs.Ytcilikkljkdceaa
open Go.RowKit
set_option maxRecDepth 100000
set_option maxHeartbeats 4000000
theorem q_new (w : World) : Calls Try.prog 27 #[] w fun e w' => ∃ g, w.heap.size ≤ g ∧ e = .returned (pt g 0) ∧ Blk w' g (nc newA nilv nilv) 100 ∧ Only (fun _ => False) w w' := by
  refine calls_sc (l0 := []) (args := []) (fun _ => False) Try.func27 rfl 9 Try.ntmps27 (le_b rfl) ⟨⟨by simp, List.Pairwise.nil⟩, Only.refl _ _⟩ ?_
  show SC _ _ _ _ [] []
  refine SC.sr ?_
  refine SL.as ?_
  refine SL.nl ?_
  refine SC.sr ?_
  refine SL.uu (ru_build (vals := []) (cells := [iw 0, iw 0, iw 0, iw 0, iw 0, iw 0, iw 0, iw 0, Value.slice none 0 0, iw 0, Value.slice none 0 0, iw 0, Value.slice none 0 0, iw 0, Value.slice none 0 0, iw 0, Value.slice none 0 0, iw 0, Value.slice none 0 0, iw 0, Value.slice none 0 0, iw 0, Value.slice none 0 0, iw 0, Value.slice none 0 0, iw 0, Value.slice none 0 0, iw 0, Value.slice none 0 0, iw 0, Value.slice none 0 0, iw 0, Value.slice none 0 0, iw 0, Value.slice none 0 0, iw 0, Value.slice none 0 0, iw 0, Value.slice none 0 0, iw 0, iw 0, bo false, Value.slice none 0 0, bo false, iw 0, bo false, Value.slice none 0 0, bo false, iw 0, bo false, Value.slice none 0 0, bo false, iw 0, bo false, Value.slice none 0 0, bo false, iw 0, bo false, Value.slice none 0 0, bo false, iw 0, bo false, Value.slice none 0 0, bo false, iw 0, bo false, Value.slice none 0 0, bo false, iw 0, bo false, Value.slice none 0 0, bo false, iw 0, bo false, Value.slice none 0 0, bo false, iw 0, bo false, Value.slice none 0 0, bo false, iw 0, bo false, Value.slice none 0 0, bo false, iw 0, bo false, Value.slice none 0 0, bo false, iw 0, bo false, Value.slice none 0 0, bo false, iw 0, bo false, Value.slice none 0 0, bo false, iw 0, bo false, Value.slice none 0 0, bo false, iw 0, bo false, Value.slice none 0 0, bo false, iw 0]) rfl rfl (by kernel_rfl)) ?_
  refine SL.box (c := [iw 0, iw 0, iw 0, iw 0, iw 0, iw 0, iw 0, iw 0, Value.slice none 0 0, iw 0, Value.slice none 0 0, iw 0, Value.slice none 0 0, iw 0, Value.slice none 0 0, iw 0, Value.slice none 0 0, iw 0, Value.slice none 0 0, iw 0, Value.slice none 0 0, iw 0, Value.slice none 0 0, iw 0, Value.slice none 0 0, iw 0, Value.slice none 0 0, iw 0, Value.slice none 0 0, iw 0, Value.slice none 0 0, iw 0, Value.slice none 0 0, iw 0, Value.slice none 0 0, iw 0, Value.slice none 0 0, iw 0, Value.slice none 0 0, iw 0, iw 0, bo false, Value.slice none 0 0, bo false, iw 0, bo false, Value.slice none 0 0, bo false, iw 0, bo false, Value.slice none 0 0, bo false, iw 0, bo false, Value.slice none 0 0, bo false, iw 0, bo false, Value.slice none 0 0, bo false, iw 0, bo false, Value.slice none 0 0, bo false, iw 0, bo false, Value.slice none 0 0, bo false, iw 0, bo false, Value.slice none 0 0, bo false, iw 0, bo false, Value.slice none 0 0, bo false, iw 0, bo false, Value.slice none 0 0, bo false, iw 0, bo false, Value.slice none 0 0, bo false, iw 0, bo false, Value.slice none 0 0, bo false, iw 0, bo false, Value.slice none 0 0, bo false, iw 0, bo false, Value.slice none 0 0, bo false, iw 0, bo false, Value.slice none 0 0, bo false, iw 0, bo false, Value.slice none 0 0, bo false, iw 0]) rfl rfl (lt_b rfl) rfl rfl rfl fun b1 hb1 => ?_
  refine SL.as ?_
  refine SL.nl ?_
  refine SC.sr ?_
  refine SL.mv ?_
  refine SL.nk ?_
  refine SL.fa 0 fd100_0 ?_
  refine SL.ia 1 ar68 ?_
  refine SL.store (i := 0) (c' := [iw 0, iw 1, iw 0, iw 0, iw 0, iw 0, iw 0, iw 0, Value.slice none 0 0, iw 0, Value.slice none 0 0, iw 0, Value.slice none 0 0, iw 0, Value.slice none 0 0, iw 0, Value.slice none 0 0, iw 0, Value.slice none 0 0, iw 0, Value.slice none 0 0, iw 0, Value.slice none 0 0, iw 0, Value.slice none 0 0, iw 0, Value.slice none 0 0, iw 0, Value.slice none 0 0, iw 0, Value.slice none 0 0, iw 0, Value.slice none 0 0, iw 0, Value.slice none 0 0, iw 0, Value.slice none 0 0, iw 0, Value.slice none 0 0, iw 0, iw 0, bo false, Value.slice none 0 0, bo false, iw 0, bo false, Value.slice none 0 0, bo false, iw 0, bo false, Value.slice none 0 0, bo false, iw 0, bo false, Value.slice none 0 0, bo false, iw 0, bo false, Value.slice none 0 0, bo false, iw 0, bo false, Value.slice none 0 0, bo false, iw 0, bo false, Value.slice none 0 0, bo false, iw 0, bo false, Value.slice none 0 0, bo false, iw 0, bo false, Value.slice none 0 0, bo false, iw 0, bo false, Value.slice none 0 0, bo false, iw 0, bo false, Value.slice none 0 0, bo false, iw 0, bo false, Value.slice none 0 0, bo false, iw 0, bo false, Value.slice none 0 0, bo false, iw 0, bo false, Value.slice none 0 0, bo false, iw 0, bo false, Value.slice none 0 0, bo false, iw 0, bo false, Value.slice none 0 0, bo false, iw 0]) rfl rfl ts3 rfl rfl rfl rfl rfl (lt_b rfl) (.inr hb1) rfl ?_
  refine SL.nl ?_
  refine SC.sr ?_
  refine SL.mv ?_
  refine SL.as ?_
  refine SL.nl ?_
  refine SC.ret ?_
  refine SE.res (.inl rfl) (res1 Try.results27 rfl) fun w1 hI => ⟨b1, hb1, rfl, ?_, hI.2⟩
  have e : [iw 0, iw 1, iw 0, iw 0, iw 0, iw 0, iw 0, iw 0, Value.slice none 0 0, iw 0, Value.slice none 0 0, iw 0, Value.slice none 0 0, iw 0, Value.slice none 0 0, iw 0, Value.slice none 0 0, iw 0, Value.slice none 0 0, iw 0, Value.slice none 0 0, iw 0, Value.slice none 0 0, iw 0, Value.slice none 0 0, iw 0, Value.slice none 0 0, iw 0, Value.slice none 0 0, iw 0, Value.slice none 0 0, iw 0, Value.slice none 0 0, iw 0, Value.slice none 0 0, iw 0, Value.slice none 0 0, iw 0, Value.slice none 0 0, iw 0, iw 0, bo false, Value.slice none 0 0, bo false, iw 0, bo false, Value.slice none 0 0, bo false, iw 0, bo false, Value.slice none 0 0, bo false, iw 0, bo false, Value.slice none 0 0, bo false, iw 0, bo false, Value.slice none 0 0, bo false, iw 0, bo false, Value.slice none 0 0, bo false, iw 0, bo false, Value.slice none 0 0, bo false, iw 0, bo false, Value.slice none 0 0, bo false, iw 0, bo false, Value.slice none 0 0, bo false, iw 0, bo false, Value.slice none 0 0, bo false, iw 0, bo false, Value.slice none 0 0, bo false, iw 0, bo false, Value.slice none 0 0, bo false, iw 0, bo false, Value.slice none 0 0, bo false, iw 0, bo false, Value.slice none 0 0, bo false, iw 0, bo false, Value.slice none 0 0, bo false, iw 0, bo false, Value.slice none 0 0, bo false, iw 0] = nc newA nilv nilv := by kernel_rfl
  rw [← e]
  exact hI.1.get (i := 0) rfl

theorem q_write {w : World} {d : Nat} {F : Nat → Prop} {A : NicA} (hk : NicOk A) (h : NicAt 100 w d F A) (reg v : Int) : Calls Try.prog 28 #[pt d 0, iw reg, iw v] w fun e w' => e = .returned (iw (writeF A reg v).1) ∧ NicAt 100 w' d F (writeF A reg v).2 ∧ Only (fun b => b = d) w w' := by
  have hok := hk
  obtain ⟨r2, r3, r4, r5, r6, _, _, _⟩ := hok
  obtain ⟨tv, cv, hI⟩ := h.inv 97 (fun b => b = d)
  refine calls_sc (l0 := _) (args := [pt d 0, iw reg, iw v]) (fun b => b = d) Try.func28 rfl 97 Try.ntmps28 (le_b rfl) hI ?_
  show SC _ _ _ _ [(0, pt d 0), (1, iw reg), (2, iw v)] [rBlk d (nc A tv cv) 100, rFrs F tv cv A.tb A.cb]
  refine SC.sr ?_
  refine SL.as ?_
  refine SL.nl ?_
  refine SC.seq ?_
  refine SC.sr ?_
  refine SL.mv ?_
  refine SL.uu (ru_eq (b := ((reg : Int) == 0)) rfl rfl rfl rfl) ?_
  refine SL.mv ?_
  refine SL.join 3 [(0, pt d 0), (1, iw reg), (2, iw v), (6, iw 0), (9, iw reg), (10, bo ((reg : Int) == 0)), (11, bo ((reg : Int) == 0)), (14, bo (((reg : Int) == 0) && ((v : Int) == 2)))] [rBlk d (nc A tv cv) 100, rFrs F tv cv A.tb A.cb] ?_ ?_
  rotate_left
  · intro K hK
    rcases tf ((reg : Int) == 0) with h1 | h1
    · skip
      refine SL.norm [(0, pt d 0), (1, iw reg), (2, iw v), (6, iw 0), (9, iw reg), (10, bo true), (11, bo true)] _ ⟨rfl, rfl, rfl, rfl, rfl, (congrArg (fun x => some (Value.bool x)) h1), (congrArg (fun x => some (Value.bool x)) h1), trivial⟩ rfl ?_
      refine SL.gg (ru_move rfl rfl) ?_
      refine SL.gg (ru_eq (b := ((v : Int) == 2)) rfl rfl rfl rfl) ?_
      refine SL.pk (bo ((v : Int) == 2)) (bo false) ?_
      exact SL.joined hK ⟨rfl, rfl, rfl, rfl, rfl, (congrArg (fun x => some (Value.bool x)) h1.symm), (congrArg (fun x => some (Value.bool x)) h1.symm), (congrArg (fun bx => some (Value.bool (bx && ((v : Int) == 2)))) h1.symm), trivial⟩ rfl
    refine SL.norm [(0, pt d 0), (1, iw reg), (2, iw v), (6, iw 0), (9, iw reg), (10, bo false), (11, bo false)] _ ⟨rfl, rfl, rfl, rfl, rfl, (congrArg (fun x => some (Value.bool x)) h1), (congrArg (fun x => some (Value.bool x)) h1), trivial⟩ rfl ?_
    refine SL.oo ?_
    refine SL.oo ?_
    refine SL.pk (undef) (bo false) ?_
    exact SL.joined hK ⟨rfl, rfl, rfl, rfl, rfl, (congrArg (fun x => some (Value.bool x)) h1.symm), (congrArg (fun x => some (Value.bool x)) h1.symm), (congrArg (fun bx => some (Value.bool (bx && ((v : Int) == 2)))) h1.symm), trivial⟩ rfl
  skip
  refine SL.nl ?_
  refine SC.both (((reg : Int) == 0) && ((v : Int) == 2)) rfl (fun h2 => ?_) (fun h2 => ?_)
  · skip
    have h0 := w_0 h2
    refine SC.sr ?_
    refine SL.call (ζ := Nat) (fun g3 => pt g3 0) (fun g3 => [rBlk d (nc A tv cv) 100, rFrs F tv cv A.tb A.cb, rBlk g3 (nc newA nilv nilv) 100]) (fun g3 => w.heap.size ≤ g3) rfl rfl co27 rfl rfl rfl (lt_b rfl) (fun w hI => (q_new _).mono fun e w2 ⟨g, h1, h2, h3, h4⟩ => ⟨g, h2, hI.add h4 h3 (fun q hq => by cases hq; exact h1), Nat.le_trans hI.2.size h1⟩) ?_
    intro g3 hg3
    refine SL.as ?_
    refine SL.nl ?_
    refine SC.sr ?_
    refine SL.mv ?_
    refine SL.mv ?_
    refine SL.nk ?_
    refine SL.fa 104 fd100_3 ?_
    refine SL.uu (ru_load (i := 0) (v := iw A.clk) ts3 rfl rfl rfl nc_clk) ?_
    refine SL.nk ?_
    refine SL.fa 104 fd100_3 ?_
    refine SL.store (i := 2) (c' := (nc { newA with clk := A.clk } nilv nilv)) rfl rfl ts3 rfl rfl rfl rfl rfl (by rw [nc_len]; omega) (.inr hg3) (set_clk A.clk) ?_
    refine SL.nl ?_
    refine SC.seq ?_
    refine SC.region_tail 9 (by kernel_rfl) (by kernel_rfl) ?_
    refine SQ.mv ?_
    refine SQ.mv ?_
    refine SQ.nk ?_
    refine SQ.fa 0 fd100_0 ?_
    refine SQ.ia 1 ar68 ?_
    refine SQ.uu (ru_load (i := 0) (v := iw (A.r 1)) ts3 rfl rfl rfl (nc_r (by decide))) ?_
    refine SQ.nk ?_
    refine SQ.fa 0 fd100_0 ?_
    refine SQ.ia 1 ar68 ?_
    refine SQ.nilL ?_
    refine SL.store (i := 2) (c' := (nc { newA with r := up newA.r 1 (A.r 1), clk := A.clk } nilv nilv)) rfl rfl ts3 rfl rfl rfl rfl rfl (by rw [nc_len]; omega) (.inr hg3) (set_r (by decide) (A.r 1)) ?_
    refine SL.nl ?_
    refine SC.sr ?_
    refine SL.mv ?_
    refine SL.mv ?_
    refine SL.nk ?_
    refine SL.uu (ru_loada (i := 2) (vs := (nc { newA with r := up newA.r 1 (A.r 1), clk := A.clk } nilv nilv)) ta100 rfl rfl rfl nc_all (by rw [nc_len]; exact Nat.le_refl _)) ?_
    refine SL.nk ?_
    refine SL.storea (i := 0) (vs := (nc { newA with r := up newA.r 1 (A.r 1), clk := A.clk } nilv nilv)) (c' := (nc { newA with r := up newA.r 1 (A.r 1), clk := A.clk } nilv nilv)) rfl rfl ta100 rfl rfl rfl (nc_one (fun _ => rfl) (fun _ => rfl)) nc_len rfl (by rw [nc_len, nc_len]; omega) (.inl rfl) nc_whole ?_
    refine SL.nl ?_
    refine SC.sr ?_
    refine SL.as ?_
    refine SL.nl ?_
    refine SC.ret ?_
    refine SE.passr ?_
    refine SE.res (.inl rfl) (res1 Try.results28 rfl) fun w1 hI => ?_
    have e : writeF A reg v = (0, { newA with r := up newA.r 1 (A.r 1), clk := A.clk }) := by
      try simp at h2
      unfold writeF
      (repeat' split) <;> first | rfl | (exfalso; omega) | (exfalso; simp_all; done) | (exfalso; simp_all; omega)
    rw [e]
    exact ⟨rfl, NicAt.fin_reset rfl rfl hI⟩
  refine SC.skip ?_
  refine SC.of_SE ?_
  refine SC.seq ?_
  refine SC.sr ?_
  refine SL.mv ?_
  refine SL.uu (ru_eq (b := ((reg : Int) == 0)) rfl rfl rfl rfl) ?_
  refine SL.mv ?_
  refine SL.join 7 [(0, pt d 0), (1, iw reg), (2, iw v), (6, iw 0), (37, iw reg), (38, bo ((reg : Int) == 0)), (39, bo ((reg : Int) == 0)), (46, bo (((reg : Int) == 0) && (((v : Int) == 0) || ((v : Int) == 1))))] [rBlk d (nc A tv cv) 100, rFrs F tv cv A.tb A.cb] ?_ ?_
  rotate_left
  · intro K hK
    rcases tf ((reg : Int) == 0) with h4 | h4
    · skip
      refine SL.norm [(0, pt d 0), (1, iw reg), (2, iw v), (6, iw 0), (37, iw reg), (38, bo true), (39, bo true)] _ ⟨rfl, rfl, rfl, rfl, rfl, (congrArg (fun x => some (Value.bool x)) h4), (congrArg (fun x => some (Value.bool x)) h4), trivial⟩ rfl ?_
      refine SL.gg (ru_move rfl rfl) ?_
      refine SL.gg (ru_eq (b := ((v : Int) == 0)) rfl rfl rfl rfl) ?_
      refine SL.gg (ru_move rfl rfl) ?_
      refine SL.join 3 [(0, pt d 0), (1, iw reg), (2, iw v), (6, iw 0), (37, iw reg), (38, bo true), (39, bo true), (40, iw v), (41, bo ((v : Int) == 0)), (42, bo ((v : Int) == 0)), (45, bo (((v : Int) == 0) || ((v : Int) == 1)))] [rBlk d (nc A tv cv) 100, rFrs F tv cv A.tb A.cb] ?_ ?_
      rotate_left
      · intro K hK
        rcases tf ((v : Int) == 0) with h5 | h5
        · skip
          refine SL.norm [(0, pt d 0), (1, iw reg), (2, iw v), (6, iw 0), (37, iw reg), (38, bo true), (39, bo true), (40, iw v), (41, bo true), (42, bo true)] _ ⟨rfl, rfl, rfl, rfl, rfl, rfl, rfl, rfl, (congrArg (fun x => some (Value.bool x)) h5), (congrArg (fun x => some (Value.bool x)) h5), trivial⟩ rfl ?_
          refine SL.oo ?_
          refine SL.oo ?_
          refine SL.gg (ru_pick (u := bo true) (v := undef) rfl rfl rfl rfl) ?_
          exact SL.joined hK ⟨rfl, rfl, rfl, rfl, rfl, rfl, rfl, rfl, (congrArg (fun x => some (Value.bool x)) h5.symm), (congrArg (fun x => some (Value.bool x)) h5.symm), (congrArg (fun bx => some (Value.bool (bx || ((v : Int) == 1)))) h5.symm), trivial⟩ rfl
        refine SL.norm [(0, pt d 0), (1, iw reg), (2, iw v), (6, iw 0), (37, iw reg), (38, bo true), (39, bo true), (40, iw v), (41, bo false), (42, bo false)] _ ⟨rfl, rfl, rfl, rfl, rfl, rfl, rfl, rfl, (congrArg (fun x => some (Value.bool x)) h5), (congrArg (fun x => some (Value.bool x)) h5), trivial⟩ rfl ?_
        refine SL.gg (ru_move rfl rfl) ?_
        refine SL.gg (ru_eq (b := ((v : Int) == 1)) rfl rfl rfl rfl) ?_
        refine SL.gg (ru_pick (u := bo true) (v := bo ((v : Int) == 1)) rfl rfl rfl rfl) ?_
        exact SL.joined hK ⟨rfl, rfl, rfl, rfl, rfl, rfl, rfl, rfl, (congrArg (fun x => some (Value.bool x)) h5.symm), (congrArg (fun x => some (Value.bool x)) h5.symm), (congrArg (fun bx => some (Value.bool (bx || ((v : Int) == 1)))) h5.symm), trivial⟩ rfl
      skip
      refine SL.pk (bo (((v : Int) == 0) || ((v : Int) == 1))) (bo false) ?_
      exact SL.joined hK ⟨rfl, rfl, rfl, rfl, rfl, (congrArg (fun x => some (Value.bool x)) h4.symm), (congrArg (fun x => some (Value.bool x)) h4.symm), (congrArg (fun bx => some (Value.bool (bx && (((v : Int) == 0) || ((v : Int) == 1))))) h4.symm), trivial⟩ rfl
    refine SL.norm [(0, pt d 0), (1, iw reg), (2, iw v), (6, iw 0), (37, iw reg), (38, bo false), (39, bo false)] _ ⟨rfl, rfl, rfl, rfl, rfl, (congrArg (fun x => some (Value.bool x)) h4), (congrArg (fun x => some (Value.bool x)) h4), trivial⟩ rfl ?_
    refine SL.oo ?_
    refine SL.oo ?_
    refine SL.oo ?_
    refine SL.offu rfl rfl rfl rfl (lt_b rfl) ?_
    refine SL.offu rfl rfl rfl rfl (lt_b rfl) ?_
    refine SL.oo ?_
    refine SL.pk (undef) (bo false) ?_
    exact SL.joined hK ⟨rfl, rfl, rfl, rfl, rfl, (congrArg (fun x => some (Value.bool x)) h4.symm), (congrArg (fun x => some (Value.bool x)) h4.symm), (congrArg (fun bx => some (Value.bool (bx && (((v : Int) == 0) || ((v : Int) == 1))))) h4.symm), trivial⟩ rfl
  skip
  refine SL.nl ?_
  refine SC.both (((reg : Int) == 0) && (((v : Int) == 0) || ((v : Int) == 1))) rfl (fun h6 => ?_) (fun h6 => ?_)
  · skip
    have h0 := w_0 h6
    refine SC.sr ?_
    refine SL.mv ?_
    refine SL.mv ?_
    refine SL.mv ?_
    refine SL.nk ?_
    refine SL.fa 0 fd100_0 ?_
    refine SL.uu (ru_indexA (o2 := 0 + reg.toNat * 1) ar68 rfl rfl rfl (by omega) (by omega) rfl) ?_
    refine SL.store (i := 0) (c' := (nc { A with r := up A.r reg.toNat v } tv cv)) rfl rfl ts3 rfl rfl rfl rfl rfl (by rw [nc_len]; omega) (.inl rfl) (set_r' (by omega) v) ?_
    refine SL.nl ?_
    refine SC.sr ?_
    refine SL.as ?_
    refine SL.nl ?_
    refine SC.ret ?_
    refine SE.passr ?_
    refine SE.res (.inl rfl) (res1 Try.results28 rfl) fun w1 hI => ?_
    have e : writeF A reg v = (0, { A with r := up A.r reg.toNat v }) := by
      try simp at h2 h6
      unfold writeF
      (repeat' split) <;> first | rfl | (exfalso; omega) | (exfalso; simp_all; done) | (exfalso; simp_all; omega)
    rw [e]
    exact ⟨rfl, NicAt.fin' hI⟩
  refine SC.skip ?_
  refine SC.of_SE ?_
  refine SC.seq ?_
  refine SC.sr ?_
  refine SL.mv ?_
  refine SL.uu (ru_ne (b := ((reg : Int) != 3)) rfl rfl rfl rfl) ?_
  refine SL.mv ?_
  refine SL.join 3 [(0, pt d 0), (1, iw reg), (2, iw v), (6, iw 0), (53, iw reg), (54, bo ((reg : Int) != 3)), (55, bo ((reg : Int) != 3)), (58, bo (((reg : Int) != 3) && ((reg : Int) != 5)))] [rBlk d (nc A tv cv) 100, rFrs F tv cv A.tb A.cb] ?_ ?_
  rotate_left
  · intro K hK
    rcases tf ((reg : Int) != 3) with h7 | h7
    · skip
      refine SL.norm [(0, pt d 0), (1, iw reg), (2, iw v), (6, iw 0), (53, iw reg), (54, bo true), (55, bo true)] _ ⟨rfl, rfl, rfl, rfl, rfl, (congrArg (fun x => some (Value.bool x)) h7), (congrArg (fun x => some (Value.bool x)) h7), trivial⟩ rfl ?_
      refine SL.gg (ru_move rfl rfl) ?_
      refine SL.gg (ru_ne (b := ((reg : Int) != 5)) rfl rfl rfl rfl) ?_
      refine SL.pk (bo ((reg : Int) != 5)) (bo false) ?_
      exact SL.joined hK ⟨rfl, rfl, rfl, rfl, rfl, (congrArg (fun x => some (Value.bool x)) h7.symm), (congrArg (fun x => some (Value.bool x)) h7.symm), (congrArg (fun bx => some (Value.bool (bx && ((reg : Int) != 5)))) h7.symm), trivial⟩ rfl
    refine SL.norm [(0, pt d 0), (1, iw reg), (2, iw v), (6, iw 0), (53, iw reg), (54, bo false), (55, bo false)] _ ⟨rfl, rfl, rfl, rfl, rfl, (congrArg (fun x => some (Value.bool x)) h7), (congrArg (fun x => some (Value.bool x)) h7), trivial⟩ rfl ?_
    refine SL.oo ?_
    refine SL.oo ?_
    refine SL.pk (undef) (bo false) ?_
    exact SL.joined hK ⟨rfl, rfl, rfl, rfl, rfl, (congrArg (fun x => some (Value.bool x)) h7.symm), (congrArg (fun x => some (Value.bool x)) h7.symm), (congrArg (fun bx => some (Value.bool (bx && ((reg : Int) != 5)))) h7.symm), trivial⟩ rfl
  skip
  refine SL.mv ?_
  refine SL.join 3 [(0, pt d 0), (1, iw reg), (2, iw v), (6, iw 0), (53, iw reg), (54, bo ((reg : Int) != 3)), (55, bo ((reg : Int) != 3)), (58, bo (((reg : Int) != 3) && ((reg : Int) != 5))), (59, bo (((reg : Int) != 3) && ((reg : Int) != 5))), (62, bo ((((reg : Int) != 3) && ((reg : Int) != 5)) || (decide ((v : Int) < 0))))] [rBlk d (nc A tv cv) 100, rFrs F tv cv A.tb A.cb] ?_ ?_
  rotate_left
  · intro K hK
    rcases tf (((reg : Int) != 3) && ((reg : Int) != 5)) with h8 | h8
    · skip
      refine SL.norm [(0, pt d 0), (1, iw reg), (2, iw v), (6, iw 0), (53, iw reg), (54, bo ((reg : Int) != 3)), (55, bo ((reg : Int) != 3)), (58, bo true), (59, bo true)] _ ⟨rfl, rfl, rfl, rfl, rfl, rfl, rfl, (congrArg (fun x => some (Value.bool x)) h8), (congrArg (fun x => some (Value.bool x)) h8), trivial⟩ rfl ?_
      refine SL.oo ?_
      refine SL.oo ?_
      refine SL.pk (bo true) (undef) ?_
      exact SL.joined hK ⟨rfl, rfl, rfl, rfl, rfl, rfl, rfl, (congrArg (fun x => some (Value.bool x)) h8.symm), (congrArg (fun x => some (Value.bool x)) h8.symm), (congrArg (fun bx => some (Value.bool (bx || (decide ((v : Int) < 0))))) h8.symm), trivial⟩ rfl
    refine SL.norm [(0, pt d 0), (1, iw reg), (2, iw v), (6, iw 0), (53, iw reg), (54, bo ((reg : Int) != 3)), (55, bo ((reg : Int) != 3)), (58, bo false), (59, bo false)] _ ⟨rfl, rfl, rfl, rfl, rfl, rfl, rfl, (congrArg (fun x => some (Value.bool x)) h8), (congrArg (fun x => some (Value.bool x)) h8), trivial⟩ rfl ?_
    refine SL.gg (ru_move rfl rfl) ?_
    refine SL.gg (ru_lt (b := (decide ((v : Int) < 0))) rfl rfl rfl rfl) ?_
    refine SL.pk (bo true) (bo (decide ((v : Int) < 0))) ?_
    exact SL.joined hK ⟨rfl, rfl, rfl, rfl, rfl, rfl, rfl, (congrArg (fun x => some (Value.bool x)) h8.symm), (congrArg (fun x => some (Value.bool x)) h8.symm), (congrArg (fun bx => some (Value.bool (bx || (decide ((v : Int) < 0))))) h8.symm), trivial⟩ rfl
  skip
  refine SL.mv ?_
  refine SL.join 3 [(0, pt d 0), (1, iw reg), (2, iw v), (6, iw 0), (53, iw reg), (54, bo ((reg : Int) != 3)), (55, bo ((reg : Int) != 3)), (58, bo (((reg : Int) != 3) && ((reg : Int) != 5))), (59, bo (((reg : Int) != 3) && ((reg : Int) != 5))), (62, bo ((((reg : Int) != 3) && ((reg : Int) != 5)) || (decide ((v : Int) < 0)))), (63, bo ((((reg : Int) != 3) && ((reg : Int) != 5)) || (decide ((v : Int) < 0)))), (66, bo (((((reg : Int) != 3) && ((reg : Int) != 5)) || (decide ((v : Int) < 0))) || (decide ((16 : Int) ≤ v))))] [rBlk d (nc A tv cv) 100, rFrs F tv cv A.tb A.cb] ?_ ?_
  rotate_left
  · intro K hK
    rcases tf ((((reg : Int) != 3) && ((reg : Int) != 5)) || (decide ((v : Int) < 0))) with h9 | h9
    · skip
      refine SL.norm [(0, pt d 0), (1, iw reg), (2, iw v), (6, iw 0), (53, iw reg), (54, bo ((reg : Int) != 3)), (55, bo ((reg : Int) != 3)), (58, bo (((reg : Int) != 3) && ((reg : Int) != 5))), (59, bo (((reg : Int) != 3) && ((reg : Int) != 5))), (62, bo true), (63, bo true)] _ ⟨rfl, rfl, rfl, rfl, rfl, rfl, rfl, rfl, rfl, (congrArg (fun x => some (Value.bool x)) h9), (congrArg (fun x => some (Value.bool x)) h9), trivial⟩ rfl ?_
      refine SL.oo ?_
      refine SL.oo ?_
      refine SL.pk (bo true) (undef) ?_
      exact SL.joined hK ⟨rfl, rfl, rfl, rfl, rfl, rfl, rfl, rfl, rfl, (congrArg (fun x => some (Value.bool x)) h9.symm), (congrArg (fun x => some (Value.bool x)) h9.symm), (congrArg (fun bx => some (Value.bool (bx || (decide ((16 : Int) ≤ v))))) h9.symm), trivial⟩ rfl
    refine SL.norm [(0, pt d 0), (1, iw reg), (2, iw v), (6, iw 0), (53, iw reg), (54, bo ((reg : Int) != 3)), (55, bo ((reg : Int) != 3)), (58, bo (((reg : Int) != 3) && ((reg : Int) != 5))), (59, bo (((reg : Int) != 3) && ((reg : Int) != 5))), (62, bo false), (63, bo false)] _ ⟨rfl, rfl, rfl, rfl, rfl, rfl, rfl, rfl, rfl, (congrArg (fun x => some (Value.bool x)) h9), (congrArg (fun x => some (Value.bool x)) h9), trivial⟩ rfl ?_
    refine SL.gg (ru_move rfl rfl) ?_
    refine SL.gg (ru_ge (b := (decide ((16 : Int) ≤ v))) rfl rfl rfl rfl) ?_
    refine SL.pk (bo true) (bo (decide ((16 : Int) ≤ v))) ?_
    exact SL.joined hK ⟨rfl, rfl, rfl, rfl, rfl, rfl, rfl, rfl, rfl, (congrArg (fun x => some (Value.bool x)) h9.symm), (congrArg (fun x => some (Value.bool x)) h9.symm), (congrArg (fun bx => some (Value.bool (bx || (decide ((16 : Int) ≤ v))))) h9.symm), trivial⟩ rfl
  skip
  refine SL.nl ?_
  refine SC.both (((((reg : Int) != 3) && ((reg : Int) != 5)) || (decide ((v : Int) < 0))) || (decide ((16 : Int) ≤ v))) rfl (fun h10 => ?_) (fun h10 => ?_)
  · skip
    refine SC.sr ?_
    refine SL.as ?_
    refine SL.nl ?_
    refine SC.ret ?_
    refine SE.passr ?_
    refine SE.res (.inl rfl) (res1 Try.results28 rfl) fun w1 hI => ?_
    have e : writeF A reg v = (1, A) := by
      try simp at h2 h6 h10
      unfold writeF
      (repeat' split) <;> first | rfl | (exfalso; omega) | (exfalso; simp_all; done) | (exfalso; simp_all; omega)
    rw [e]
    exact ⟨rfl, NicAt.fin' hI⟩
  have hv := w_rng h10
  have hr := w_reg h10
  refine SC.skip ?_
  refine SC.of_SE ?_
  refine SC.seq ?_
  refine SC.sr ?_
  refine SL.mv ?_
  refine SL.uu (ru_eq (b := ((reg : Int) == 5)) rfl rfl rfl rfl) ?_
  refine SL.nl ?_
  refine SC.both ((reg : Int) == 5) rfl (fun h11 => ?_) (fun h11 => ?_)
  · skip
    have h5 := w_5 h11
    have e5 : A.r reg.toNat = A.r 5 := by rw [h5]; rfl
    refine SC.sr ?_
    refine SL.mv ?_
    refine SL.mv ?_
    refine SL.nk ?_
    refine SL.fa 0 fd100_0 ?_
    refine SL.uu (ru_indexA (o2 := 0 + reg.toNat * 1) ar68 rfl rfl rfl (by omega) (by omega) rfl) ?_
    refine SL.uu (ru_load (i := 0) (v := iw (A.r reg.toNat)) ts3 rfl rfl rfl (nc_r' (by omega))) ?_
    refine SL.as ?_
    refine SL.nl ?_
    refine SC.block ?_
    refine SC.loop (γ := Unit) (fun n _ => [(0, pt d 0), (1, iw reg), (2, iw v), (6, iw 0), (8, iw ((v - (n : Int)) % 16))]) (fun n _ => [rBlk d (nc { A with tp := posts A.tp (A.r 5) ((v - (n : Int)) % 16) A.clk } tv cv) 100, rFrs F tv cv A.tb A.cb]) (fun n _ => n ≤ ((v - A.r 5) % 16).toNat) ((v - A.r 5) % 16).toNat () (Nat.le_refl _) ⟨rfl, rfl, rfl, rfl, (congrArg (fun x => some (iw x)) (show A.r reg.toNat = (v - (((((v - A.r 5) % 16).toNat : Nat) : Int) : Int)) % 16 by omega)), trivial⟩ (congrArg (fun c => [rBlk d c 100, rFrs F tv cv A.tb A.cb]) (nc_posts r5 hv)) ?_
    rintro n ⟨⟩ hn
    rcases Nat.eq_zero_or_pos n with h0 | h0
    · skip
      have ez : (v - (n : Int)) % 16 = v := by omega
      refine SC.seq ?_
      refine SC.sr ?_
      refine SL.mv ?_
      refine SL.mv ?_
      refine SL.uu (ru_ne (b := ((((v - (n : Int)) % 16) : Int) != v)) rfl rfl rfl rfl) ?_
      refine SL.nl ?_
      refine SC.no (show some (Value.bool ((((v - (n : Int)) % 16) : Int) != v)) = some (Value.bool false) from congrArg (fun x => some (Value.bool x)) (bne_f (by omega))) ?_
      refine SC.exit ?_
      refine SE.passe ?_
      refine SE.passe ?_
      refine SE.blke ?_
      refine SC.of_SE ?_
      refine SC.sr ?_
      refine SL.mv ?_
      refine SL.mv ?_
      refine SL.mv ?_
      refine SL.nk ?_
      refine SL.fa 0 fd100_0 ?_
      refine SL.uu (ru_indexA (o2 := 0 + reg.toNat * 1) ar68 rfl rfl rfl (by omega) (by omega) rfl) ?_
      refine SL.store (i := 0) (c' := (nc { A with r := up A.r reg.toNat v, tp := posts A.tp (A.r 5) ((v - (n : Int)) % 16) A.clk } tv cv)) rfl rfl ts3 rfl rfl rfl rfl rfl (by rw [nc_len]; omega) (.inl rfl) (set_r' (by omega) v) ?_
      refine SL.nl ?_
      refine SC.sr ?_
      refine SL.as ?_
      refine SL.nl ?_
      refine SC.ret ?_
      refine SE.res (.inl rfl) (res1 Try.results28 rfl) fun w1 hI => ?_
      rw [ez] at hI
      have e : writeF A reg v = (0, { A with r := up A.r reg.toNat v, tp := posts A.tp (A.r 5) v A.clk }) := by
        try simp at h2 h6 h10 h11
        unfold writeF
        (repeat' split) <;> first | rfl | (exfalso; omega) | (exfalso; simp_all; done) | (exfalso; simp_all; omega)
      rw [e]
      exact ⟨rfl, NicAt.fin' hI⟩
    refine SC.seq ?_
    refine SC.sr ?_
    refine SL.mv ?_
    refine SL.mv ?_
    refine SL.uu (ru_ne (b := ((((v - (n : Int)) % 16) : Int) != v)) rfl rfl rfl rfl) ?_
    refine SL.nl ?_
    refine SC.yes (show some (Value.bool ((((v - (n : Int)) % 16) : Int) != v)) = some (Value.bool true) from congrArg (fun x => some (Value.bool x)) (bne_t (by omega))) ?_
    refine SC.skip ?_
    refine SC.of_SE ?_
    refine SC.seq ?_
    refine SC.block ?_
    refine SC.region_tail 10 (by kernel_rfl) (by kernel_rfl) ?_
    refine SQ.mv ?_
    refine SQ.mv ?_
    refine SQ.mv ?_
    refine SQ.nk ?_
    refine SQ.fa 104 fd100_3 ?_
    refine SQ.uu (ru_load (i := 0) (v := iw A.clk) ts3 rfl rfl rfl nc_clk) ?_
    refine SQ.nk ?_
    refine SQ.fa 8 fd100_1 ?_
    refine SQ.uu (ru_indexA (o2 := 8 + (((v - (n : Int)) % 16).toNat) * 2) ar95 rfl rfl rfl (by omega) (by omega) rfl) ?_
    refine SQ.fa (8 + (((v - (n : Int)) % 16).toNat) * 2 + 1) fd94_1 ?_
    refine SQ.nilL ?_
    refine SL.store (i := 0) (c' := (nc { A with tp := up (posts A.tp (A.r 5) ((v - (n : Int)) % 16) A.clk) (((v - (n : Int)) % 16).toNat) A.clk } tv cv)) rfl rfl ts3 rfl rfl rfl rfl rfl (by rw [nc_len]; omega) (.inl rfl) (set_tp (by omega) A.clk) ?_
    refine SL.nil ?_
    refine SE.blkn ?_
    refine SC.of_SE ?_
    refine SC.region ?_
    refine SL.mv ?_
    refine SL.uu (ru_add (r := (IntKind.i64.wrap (((v - (n : Int)) % 16) + 1))) rfl rfl rfl rfl) ?_
    refine SL.uu (ru_rem (r := (Int.tmod (IntKind.i64.wrap (((v - (n : Int)) % 16) + 1)) 16)) rfl rfl rfl (by decide) rfl) ?_
    refine SL.as ?_
    refine SL.nil ?_
    refine SE.again (n - 1) () (by omega) (by omega) ⟨rfl, rfl, rfl, rfl, (congrArg (fun x => some (iw x)) (dev_nx h0)), trivial⟩ (congrArg (fun c => [rBlk d c 100, rFrs F tv cv A.tb A.cb]) (nc_posts' r5 hv h0 hn))
  refine SC.skip ?_
  refine SC.of_SE ?_
  refine SC.sr ?_
  refine SL.mv ?_
  refine SL.mv ?_
  refine SL.mv ?_
  refine SL.nk ?_
  refine SL.fa 0 fd100_0 ?_
  refine SL.uu (ru_indexA (o2 := 0 + reg.toNat * 1) ar68 rfl rfl rfl (by omega) (by omega) rfl) ?_
  refine SL.store (i := 0) (c' := (nc { A with r := up A.r reg.toNat v } tv cv)) rfl rfl ts3 rfl rfl rfl rfl rfl (by rw [nc_len]; omega) (.inl rfl) (set_r' (by omega) v) ?_
  refine SL.nl ?_
  refine SC.sr ?_
  refine SL.as ?_
  refine SL.nl ?_
  refine SC.ret ?_
  refine SE.res (.inl rfl) (res1 Try.results28 rfl) fun w1 hI => ?_
  have e : writeF A reg v = (0, { A with r := up A.r reg.toNat v }) := by
    try simp at h2 h6 h10 h11
    unfold writeF
    (repeat' split) <;> first | rfl | (exfalso; omega) | (exfalso; simp_all; done) | (exfalso; simp_all; omega)
  rw [e]
  exact ⟨rfl, NicAt.fin' hI⟩

end Go.Proofs.Ytcilikkljkdceaa
