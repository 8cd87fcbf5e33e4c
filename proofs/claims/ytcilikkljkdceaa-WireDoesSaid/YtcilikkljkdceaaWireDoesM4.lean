/-
  What the proof of WireDoes stands on, part 4: each theorem by itself, under the conditions that it names.
-/
import Derived.Test.YtcilikkljkdceaaWireDoesM3
/-
  The document's Move.
-/
namespace Go.Proofs.Ytcilikkljkdceaa
open Go.RowKit
set_option maxRecDepth 100000
set_option maxHeartbeats 4000000
theorem rowN_cap {w : World} {q : Option Addr} {n c e size : Nat} {rs : List (List Value)} (h : RowsN w (.slice q n c) rs e size) : n ≤ c := by
  obtain ⟨h1, h2⟩ := rowN_form h
  by_cases h0 : 0 < n
  · obtain ⟨_, _, _, _, h3, _⟩ := h2 h0; exact h3
  · omega
theorem mv_rows {rs : List (List Value)} {n : Nat} {to : Int} {r r' : List Value} (h : rs.length = n) (h1 : 0 ≤ to ∧ to.toNat ≤ n) (hr : r = r') : ([] ++ (rs.drop 0).take (to.toNat - 0) ++ [r]) ++ (rs.drop to.toNat).take (n - to.toNat) = insF rs to r' := by
  subst hr
  unfold insF
  rw [List.nil_append, List.drop_zero, Nat.sub_zero, List.take_of_length_le (l := rs.drop to.toNat) (by rw [List.length_drop]; omega), List.append_assoc]; rfl
theorem qmove0_any {w : World} {wd d0 d1 : Nat} {M : WM} {S : Wi} {k to : Int} (hM : M.Ok S) (hn : M.ps0.length ≤ 3000000000000) (h : Sep w (WLm 100 92 46 wd d0 d1 M S.A0 S.A1 S.now)) : Calls Try.prog 44 #[pt wd 0, iw 0, iw k, iw to] w fun e w' => e = .returned (iw (moveF S false k to).1) ∧ ∃ M', WTo 100 92 46 w wd d0 d1 M M' (moveF S false k to).2 w' := by
  refine calls_sc (l0 := (WLm 100 92 46 wd d0 d1 M S.A0 S.A1 S.now)) (args := [pt wd 0, iw 0, iw k, iw to]) (M.G wd d0 d1) Try.func44 rfl 68 Try.ntmps44 (le_b rfl) ⟨h, Only.refl _ _⟩ ?_
  show SC _ _ _ _ [(0, pt wd 0), (1, iw 0), (2, iw k), (3, iw to)] (WLm 100 92 46 wd d0 d1 M S.A0 S.A1 S.now)
  refine SC.sr ?_
  refine SL.as ?_
  refine SL.nl ?_
  refine SC.sr ?_
  refine SL.mv ?_
  refine SL.mv ?_
  refine SL.mv ?_
  refine SL.callv (iw (thereF M.ps0 k)) rfl rfl co60 rfl rfl rfl (lt_b rfl) (fun w hI => H_only hI (qthere0_any ((hI.keep 6).1))) ?_
  refine SL.as ?_
  refine SL.nl ?_
  refine SC.seq ?_
  refine SC.sr ?_
  refine SL.mv ?_
  refine SL.uu (ru_ne (b := (((thereF M.ps0 k) : Int) != 0)) rfl rfl rfl rfl) ?_
  refine SL.nl ?_
  refine SC.both (((thereF M.ps0 k) : Int) != 0) rfl (fun h1 => ?_) (fun h1 => ?_)
  · skip
    refine SC.sr ?_
    refine SL.mv ?_
    refine SL.as ?_
    refine SL.nl ?_
    refine SC.ret ?_
    refine SE.passr ?_
    refine SE.res (.inl rfl) (res1 Try.results44 rfl) fun w1 hI => ?_
    have eT : thereF (S.L false) k = thereF M.ps0 k := by show thereF S.L0 k = _; rw [← hM.l0, there_map]
    have eL : (S.L false).length = M.ps0.length := by show S.L0.length = _; rw [← hM.l0, List.length_map]
    have ew : moveF S false k to = (thereF M.ps0 k, S) := by unfold moveF; simp only [eT]; rw [if_pos h1]
    rw [ew]
    exact ⟨rfl, M, WTo.same (hI.keep 6).1 hM hI.2⟩
  have hth : thereF M.ps0 k = 0 := Classical.byContradiction (fun hc => ne_f h1 hc)
  obtain ⟨hk0, hk1, ⟨⟨vx, x⟩, hx⟩⟩ := there_get hth
  have hk : 0 ≤ k ∧ k < (M.ps0.length : Int) := ⟨hk0, hk1⟩
  obtain ⟨hxb, hxF, xa, xc, hxv⟩ := hM.form0 h _ (List.mem_of_getElem? hx)
  have hxf : M.fs vx x.f := hM.f0 _ (List.mem_of_getElem? hx)
  dsimp only at hxv hxb hxF
  subst hxv
  have ex : (S.L false).getD k.toNat fm0 = x := by show S.L0.getD k.toNat fm0 = x; rw [← hM.l0, List.getD_eq_getElem?_getD, List.getElem?_map, hx]; rfl
  refine SC.skip ?_
  refine SC.of_SE ?_
  refine SC.seq ?_
  refine SC.sr ?_
  refine SL.mv ?_
  refine SL.uu (ru_lt (b := (decide ((to : Int) < 0))) rfl rfl rfl rfl) ?_
  refine SL.mv ?_
  refine SL.join 10 [(0, pt wd 0), (1, iw 0), (2, iw k), (3, iw to), (8, iw 0), (20, iw to), (21, bo (decide ((to : Int) < 0))), (22, bo (decide ((to : Int) < 0))), (32, bo ((decide ((to : Int) < 0)) || (decide (((M.ps0.length : Int) : Int) ≤ to))))] [rB wd d0 d1 M S.now 92, rDv 100 d0 M.fs S.A0, rDv 100 d1 M.fs S.A1, rR0 M 46, rR1 M 46, rZ M.F M.fs] ?_ ?_
  rotate_left
  · intro K hK
    rcases tf (decide ((to : Int) < 0)) with h2 | h2
    · skip
      refine SL.norm [(0, pt wd 0), (1, iw 0), (2, iw k), (3, iw to), (8, iw 0), (20, iw to), (21, bo true), (22, bo true)] _ ⟨rfl, rfl, rfl, rfl, rfl, rfl, (congrArg (fun x => some (Value.bool x)) h2), (congrArg (fun x => some (Value.bool x)) h2), trivial⟩ rfl ?_
      refine SL.oo ?_
      refine SL.oo ?_
      refine SL.oo ?_
      refine SL.oo ?_
      refine SL.oo ?_
      refine SL.oo ?_
      refine SL.oo ?_
      refine SL.oo ?_
      refine SL.oo ?_
      refine SL.pk (bo true) (undef) ?_
      exact SL.joined hK ⟨rfl, rfl, rfl, rfl, rfl, rfl, (congrArg (fun x => some (Value.bool x)) h2.symm), (congrArg (fun x => some (Value.bool x)) h2.symm), (congrArg (fun bx => some (Value.bool (bx || (decide (((M.ps0.length : Int) : Int) ≤ to))))) h2.symm), trivial⟩ rfl
    refine SL.norm [(0, pt wd 0), (1, iw 0), (2, iw k), (3, iw to), (8, iw 0), (20, iw to), (21, bo false), (22, bo false)] _ ⟨rfl, rfl, rfl, rfl, rfl, rfl, (congrArg (fun x => some (Value.bool x)) h2), (congrArg (fun x => some (Value.bool x)) h2), trivial⟩ rfl ?_
    refine SL.gg (ru_move rfl rfl) ?_
    refine SL.gg (ru_move rfl rfl) ?_
    refine SL.gg (ru_move rfl rfl) ?_
    refine SL.gg (ru_nilCheck rfl rfl) ?_
    refine SL.gg (ru_fieldAddr (o2 := 2) fd92_1 rfl rfl rfl) ?_
    refine SL.gg (ru_indexA (o2 := 2) ar75 rfl rfl rfl (by decide) (by decide) rfl) ?_
    refine SL.gg (ru_load (i := 0) ts56 rfl rfl rfl rfl) ?_
    refine SL.gg (ru_len Try.underlying56 rfl rfl) ?_
    refine SL.gg (ru_ge (b := (decide (((M.ps0.length : Int) : Int) ≤ to))) rfl rfl rfl rfl) ?_
    refine SL.pk (bo true) (bo (decide (((M.ps0.length : Int) : Int) ≤ to))) ?_
    exact SL.joined hK ⟨rfl, rfl, rfl, rfl, rfl, rfl, (congrArg (fun x => some (Value.bool x)) h2.symm), (congrArg (fun x => some (Value.bool x)) h2.symm), (congrArg (fun bx => some (Value.bool (bx || (decide (((M.ps0.length : Int) : Int) ≤ to))))) h2.symm), trivial⟩ rfl
  skip
  refine SL.nl ?_
  refine SC.both ((decide ((to : Int) < 0)) || (decide (((M.ps0.length : Int) : Int) ≤ to))) rfl (fun h3 => ?_) (fun h3 => ?_)
  · skip
    refine SC.sr ?_
    refine SL.as ?_
    refine SL.nl ?_
    refine SC.ret ?_
    refine SE.passr ?_
    refine SE.res (.inl rfl) (res1 Try.results44 rfl) fun w1 hI => ?_
    have eT : thereF (S.L false) k = thereF M.ps0 k := by show thereF S.L0 k = _; rw [← hM.l0, there_map]
    have eL : (S.L false).length = M.ps0.length := by show S.L0.length = _; rw [← hM.l0, List.length_map]
    have ew : moveF S false k to = (1, S) := by unfold moveF; simp only [eT, eL]; rw [if_neg (not_t h1), if_pos h3]
    rw [ew]
    exact ⟨rfl, M, WTo.same (hI.keep 6).1 hM hI.2⟩
  have hto : 0 ≤ to ∧ to < (M.ps0.length : Int) := by simp only [Bool.or_eq_false_iff, decide_eq_false_iff_not] at h3; omega
  have hol := out_len hk.1 hk.2
  have hv := hM.sl0 h
  have hone : ∀ (i n : Nat), ∀ r ∈ ((oRows (outF M.ps0 k)).drop i).take n, ∀ u ∈ r, u.oneCell' = true := fun i n r hr => ow_one (fun x hx => hv x (mem_out hx)) r (List.mem_of_mem_drop (List.mem_of_mem_take hr))
  have hrl : (oRows (outF M.ps0 k)).length = M.ps0.length - 1 := by rw [List.length_map]; exact hol
  refine SC.skip ?_
  refine SC.of_SE ?_
  refine SC.sr ?_
  refine SL.mv ?_
  refine SL.mv ?_
  refine SL.nk ?_
  refine SL.fa 2 fd92_1 ?_
  refine SL.ia 2 ar75 ?_
  refine SL.ld 0 ts56 ?_
  refine SL.mv ?_
  refine SL.uu (ru_index_rowN (ri := 3) si56 rfl rfl rfl rfl (by omega) (by omega)) ?_
  refine SL.uu (ru_loada_rowN (ri := 3) (i := k.toNat) (r := [Value.slice xa x.f.length xc, bo x.bad, iw x.tick]) ta46 rfl rfl rfl (by show (M.ps0.map FmV.row)[_]? = _; rw [List.getElem?_map, hx]; rfl) rfl rfl) ?_
  refine SL.alloca rfl rfl (lt_b rfl) ta46 rfl fun b4 hb4 => ?_
  refine SL.storea (i := 6) (vs := [Value.slice xa x.f.length xc, bo x.bad, iw x.tick]) (c' := [Value.slice xa x.f.length xc, bo x.bad, iw x.tick]) rfl rfl ta46 rfl rfl rfl rfl rfl rfl (le_b rfl) (.inr hb4) rfl ?_
  refine SL.nl ?_
  refine SC.sr ?_
  refine SL.mv ?_
  refine SL.mv ?_
  refine SL.nk ?_
  refine SL.fa 2 fd92_1 ?_
  refine SL.ia 2 ar75 ?_
  refine SL.ld 0 ts56 ?_
  refine SL.mv ?_
  refine SL.mk (Mk.rowN ⟨68, w, M.G wd d0 d1⟩ (outF M.ps0 k).length (oRows (outF M.ps0 k)) 46 3) (w_all rfl) rfl co61 rfl rfl rfl (lt_b rfl) (fun l' w hI => (qout_any (ps := M.ps0) (k := k) (hM.sl0 h) (by omega) hk.1 (hI.reo [3] (by decide)).1).mono fun e w2 ⟨q, c, h1, h2, h3, h4⟩ => ⟨_, h1, ⟨q, c, fun b hb => Nat.le_trans hI.2.size (h3 b hb), rfl⟩, hI.add (r := rRowN (.slice q _ c) _ 46 3) h4 h2 h3⟩) ?_
  rintro _ ⟨q5, c6, hq5, rfl⟩
  refine SL.as ?_
  refine SL.nl ?_
  refine SC.seq ?_
  refine SC.rows (rRowN (.slice none 0 0) [] 46 3) (fun b hb => by cases hb) (fun w => rowN_nil w 46 3) ?_
  refine SC.factN (p := (outF M.ps0 k).length ≤ c6) (fun w hI => rowN_cap (hI.1.get (i := 7) rfl)) fun hcq => ?_
  refine SC.region ?_
  refine SL.mv ?_
  refine SL.mv ?_
  refine SL.uu (ru_sliceV (size := 3) (l0 := 0) (h0 := to.toNat) (m0 := c6) rfl si56 rfl rfl rfl (show some (iw to) = some (iw ((to.toNat : Nat) : Int)) by rw [Int.toNat_of_nonneg (by omega)]) rfl (by simp) (by omega) (by omega) (by omega)) ?_
  refine SL.append_rows (ri := 8) (size := 3) (r2 := ((oRows (outF M.ps0 k)).drop 0).take (to.toNat - 0)) (z := Value.agg #[Value.slice none 0 0, bo false, iw 0]) (bytes := 40) rfl rfl (lt_b rfl) rfl (by decide) Try.underlying56 (by kernel_rfl) rfl (hone _ _) rfl rfl rfl (fun w hI => rowN_part (hI.1.get (i := 7) rfl) (by omega) (by omega)) (by simp only [List.length_append, List.length_take, List.length_drop, hrl, List.length_nil, List.length_cons]; omega) (by unfold maxLen; simp only [List.length_append, List.length_take, List.length_drop, hrl, List.length_nil, List.length_cons]; omega) (fun b hb => by simp [Value.ownBlock] at hb) fun q7 c8 hq9 => ?_
  refine SL.as ?_
  refine SL.nl ?_
  refine SC.sr ?_
  refine SL.mv ?_
  refine SL.uu (ru_loada (i := 6) (vs := [Value.slice xa x.f.length xc, bo x.bad, iw x.tick]) ta46 rfl rfl rfl rfl (le_b rfl)) ?_
  refine SL.buildSlice (size := 3) (vals := [(0, Value.agg #[Value.slice xa x.f.length xc, bo x.bad, iw x.tick])]) (z := [Value.slice none 0 0, bo false, iw 0]) (cs := [Value.slice xa x.f.length xc, bo x.bad, iw x.tick]) rfl rfl (lt_b rfl) rfl Try.underlying56 (by kernel_rfl) rfl rfl (by kernel_rfl) fun b10 hb10 => ?_
  refine SL.append_rowN (ri := 8) (rj := 9) (size := 3) (r := [Value.slice xa x.f.length xc, bo x.bad, iw x.tick]) (z := Value.agg #[Value.slice none 0 0, bo false, iw 0]) (bytes := 40) rfl rfl (lt_b rfl) rfl (by decide) Try.underlying56 (by kernel_rfl) rfl rfl rfl rfl rfl rfl rfl (by simp only [List.length_append, List.length_take, List.length_drop, hrl, List.length_nil]; omega) (by unfold maxLen; simp only [List.length_append, List.length_take, List.length_drop, hrl, List.length_nil]; omega) (fun b hb => hq9 b hb) fun q11 c12 hq13 => ?_
  refine SL.as ?_
  refine SL.nl ?_
  refine SC.seq ?_
  refine SC.region_any (by kernel_rfl) ?_
  refine SA.take 0 rfl (by kernel_rfl) (by kernel_rfl) (by kernel_rfl) rfl rfl (lt_b rfl) (fun _ => ru_move rfl rfl) ?_
  refine SA.take 1 rfl (by kernel_rfl) (by kernel_rfl) (by kernel_rfl) rfl rfl (lt_b rfl) (fun _ => ru_move rfl rfl) ?_
  refine SA.take 2 rfl (by kernel_rfl) (by kernel_rfl) (by kernel_rfl) rfl rfl (lt_b rfl) (fun _ => ru_move rfl rfl) ?_
  refine SA.take 3 rfl (by kernel_rfl) (by kernel_rfl) (by kernel_rfl) rfl rfl (lt_b rfl) (fun _ => ru_move rfl rfl) ?_
  refine SA.take 4 rfl (by kernel_rfl) (by kernel_rfl) (by kernel_rfl) rfl rfl (lt_b rfl) (fun _ => ru_move rfl rfl) ?_
  refine SA.take 5 rfl (by kernel_rfl) (by kernel_rfl) (by kernel_rfl) rfl rfl (lt_b rfl) (fun _ => ru_sliceV (size := 3) (l0 := to.toNat) (h0 := (outF M.ps0 k).length) (m0 := c6) rfl si56 rfl rfl rfl rfl (show some (iw to) = some (iw ((to.toNat : Nat) : Int)) by rw [Int.toNat_of_nonneg (by omega)]) (by simp) (by omega) (by omega) (by omega)) ?_
  refine SA.take 7 rfl (by kernel_rfl) (by kernel_rfl) (by kernel_rfl) rfl rfl (lt_b rfl) (fun _ => ru_nilCheck rfl rfl) ?_
  refine SA.take 8 rfl (by kernel_rfl) (by kernel_rfl) (by kernel_rfl) rfl rfl (lt_b rfl) (fun _ => ru_fieldAddr (o2 := 2) fd92_1 rfl rfl rfl) ?_
  refine SA.one 6 rfl (by kernel_rfl) ?_
  refine SL.append_rows (ri := 8) (size := 3) (r2 := ((oRows (outF M.ps0 k)).drop to.toNat).take ((outF M.ps0 k).length - to.toNat)) (z := Value.agg #[Value.slice none 0 0, bo false, iw 0]) (bytes := 40) rfl rfl (lt_b rfl) rfl (by decide) Try.underlying56 (by kernel_rfl) rfl (hone _ _) rfl rfl rfl (fun w hI => rowN_part (hI.1.get (i := 7) rfl) (by omega) (by omega)) (by simp only [List.length_append, List.length_take, List.length_drop, hrl, List.length_nil, List.length_cons]; omega) (by unfold maxLen; simp only [List.length_append, List.length_take, List.length_drop, hrl, List.length_nil, List.length_cons]; omega) (fun b hb => hq13 b hb) fun q14 c15 hq16 => ?_
  refine SL.nil ?_
  refine SA.se ?_
  refine SA.take 9 rfl (by kernel_rfl) (by kernel_rfl) (by kernel_rfl) rfl rfl (lt_b rfl) (fun _ => ru_indexA (o2 := 2) ar75 rfl rfl rfl (by decide) (by decide) rfl) ?_
  refine SA.one 10 rfl (by kernel_rfl) ?_
  refine SL.store (i := 0) (c' := [pt d0 0, pt d1 0, Value.slice q14 (([] ++ ((oRows (outF M.ps0 k)).drop 0).take (to.toNat - 0) ++ [[Value.slice xa x.f.length xc, bo x.bad, iw x.tick]] ++ ((oRows (outF M.ps0 k)).drop to.toNat).take ((outF M.ps0 k).length - to.toNat)).length) c15, Value.slice M.q1 M.ps1.length M.c1, iw S.now]) rfl rfl ts56 rfl rfl rfl rfl rfl (lt_b rfl) (.inl (.inl rfl)) rfl ?_
  refine SL.nil ?_
  refine SA.se ?_
  refine SA.done (by kernel_rfl) ?_
  refine SC.of_SE ?_
  refine SC.nr [rBlk wd [pt d0 0, pt d1 0, Value.slice q14 (([] ++ ((oRows (outF M.ps0 k)).drop 0).take (to.toNat - 0) ++ [[Value.slice xa x.f.length xc, bo x.bad, iw x.tick]] ++ ((oRows (outF M.ps0 k)).drop to.toNat).take ((outF M.ps0 k).length - to.toNat)).length) c15, Value.slice M.q1 M.ps1.length M.c1, iw S.now] 92, rDv 100 d0 M.fs S.A0, rDv 100 d1 M.fs S.A1, rR0 M 46, rR1 M 46, rZ M.F M.fs, rBlk b4 [Value.slice xa x.f.length xc, bo x.bad, iw x.tick] 46, rRowN (.slice q5 ((outF M.ps0 k).length) c6) (oRows (outF M.ps0 k)) 46 3, rRowN (.slice q14 (([] ++ ((oRows (outF M.ps0 k)).drop 0).take (to.toNat - 0) ++ [[Value.slice xa x.f.length xc, bo x.bad, iw x.tick]] ++ ((oRows (outF M.ps0 k)).drop to.toNat).take ((outF M.ps0 k).length - to.toNat)).length) c15) ([] ++ ((oRows (outF M.ps0 k)).drop 0).take (to.toNat - 0) ++ [[Value.slice xa x.f.length xc, bo x.bad, iw x.tick]] ++ ((oRows (outF M.ps0 k)).drop to.toNat).take ((outF M.ps0 k).length - to.toNat)) 46 3, rBlk b10 [Value.slice xa x.f.length xc, bo x.bad, iw x.tick] 46] ?_
  refine SC.sr ?_
  refine SL.as ?_
  refine SL.nl ?_
  refine SC.ret ?_
  refine SE.res (.inl rfl) (res1 Try.results44 rfl) fun w1 hI => ?_
  have eT : thereF (S.L false) k = thereF M.ps0 k := by show thereF S.L0 k = _; rw [← hM.l0, there_map]
  have eL : (S.L false).length = M.ps0.length := by show S.L0.length = _; rw [← hM.l0, List.length_map]
  have ew : moveF S false k to = (0, S.setL false (insF (outF S.L0 k) to x)) := by unfold moveF; simp only [eT, eL, ex]; rw [if_neg (not_t h1), if_neg (not_t h3)]; rfl
  have er : [] ++ ((oRows (outF M.ps0 k)).drop 0).take (to.toNat - 0) ++ [[Value.slice xa x.f.length xc, bo x.bad, iw x.tick]] ++ ((oRows (outF M.ps0 k)).drop to.toNat).take ((outF M.ps0 k).length - to.toNat) = oRows (insF (outF M.ps0 k) to ⟨.slice xa x.f.length xc, x⟩) := (mv_rows (n := (outF M.ps0 k).length) (List.length_map _) (by omega) rfl).trans (map_ins FmV.row (outF M.ps0 k) to (⟨.slice xa x.f.length xc, x⟩ : FmV)).symm
  have el : ([] ++ ((oRows (outF M.ps0 k)).drop 0).take (to.toNat - 0) ++ [[Value.slice xa x.f.length xc, bo x.bad, iw x.tick]] ++ ((oRows (outF M.ps0 k)).drop to.toNat).take ((outF M.ps0 k).length - to.toNat)).length = (insF (outF M.ps0 k) to (⟨.slice xa x.f.length xc, x⟩ : FmV)).length := by rw [er, List.length_map]
  have hI9 : Inv ⟨68, w, M.G wd d0 d1⟩ w1 [rBlk wd [pt d0 0, pt d1 0, Value.slice q14 (([] ++ ((oRows (outF M.ps0 k)).drop 0).take (to.toNat - 0) ++ [[Value.slice xa x.f.length xc, bo x.bad, iw x.tick]] ++ ((oRows (outF M.ps0 k)).drop to.toNat).take ((outF M.ps0 k).length - to.toNat)).length) c15, Value.slice M.q1 M.ps1.length M.c1, iw S.now] 92, rDv 100 d0 M.fs S.A0, rDv 100 d1 M.fs S.A1, rRowN (.slice q14 (([] ++ ((oRows (outF M.ps0 k)).drop 0).take (to.toNat - 0) ++ [[Value.slice xa x.f.length xc, bo x.bad, iw x.tick]] ++ ((oRows (outF M.ps0 k)).drop to.toNat).take ((outF M.ps0 k).length - to.toNat)).length) c15) ([] ++ ((oRows (outF M.ps0 k)).drop 0).take (to.toNat - 0) ++ [[Value.slice xa x.f.length xc, bo x.bad, iw x.tick]] ++ ((oRows (outF M.ps0 k)).drop to.toNat).take ((outF M.ps0 k).length - to.toNat)) 46 3, rRowN (.slice M.q1 M.ps1.length M.c1) (oRows M.ps1) 46 3, rZ M.F M.fs] := hI.reo [0, 1, 2, 8, 4, 5] (by decide)
  rw [el, er] at hI9
  rw [ew]
  have hO := hM.ins0 (y := ⟨.slice xa x.f.length xc, x⟩) q14 c15 hxf k to
  rw [el] at hq16
  exact ⟨rfl, { M with q0 := q14, c0 := c15, ps0 := insF (outF M.ps0 k) to ⟨.slice xa x.f.length xc, x⟩ }, ⟨hI9.1, hO, fun v f h => h, fun b hb => WM.K.new0 hb (fun b hb => .inl hb) hq16, hI.2⟩⟩
theorem qmove1_any {w : World} {wd d0 d1 : Nat} {M : WM} {S : Wi} {k to : Int} (hM : M.Ok S) (hn : M.ps1.length ≤ 3000000000000) (h : Sep w (WLm 100 92 46 wd d0 d1 M S.A0 S.A1 S.now)) : Calls Try.prog 44 #[pt wd 0, iw 1, iw k, iw to] w fun e w' => e = .returned (iw (moveF S true k to).1) ∧ ∃ M', WTo 100 92 46 w wd d0 d1 M M' (moveF S true k to).2 w' := by
  refine calls_sc (l0 := (WLm 100 92 46 wd d0 d1 M S.A0 S.A1 S.now)) (args := [pt wd 0, iw 1, iw k, iw to]) (M.G wd d0 d1) Try.func44 rfl 68 Try.ntmps44 (le_b rfl) ⟨h, Only.refl _ _⟩ ?_
  show SC _ _ _ _ [(0, pt wd 0), (1, iw 1), (2, iw k), (3, iw to)] (WLm 100 92 46 wd d0 d1 M S.A0 S.A1 S.now)
  refine SC.sr ?_
  refine SL.as ?_
  refine SL.nl ?_
  refine SC.sr ?_
  refine SL.mv ?_
  refine SL.mv ?_
  refine SL.mv ?_
  refine SL.callv (iw (thereF M.ps1 k)) rfl rfl co60 rfl rfl rfl (lt_b rfl) (fun w hI => H_only hI (qthere1_any ((hI.keep 6).1))) ?_
  refine SL.as ?_
  refine SL.nl ?_
  refine SC.seq ?_
  refine SC.sr ?_
  refine SL.mv ?_
  refine SL.uu (ru_ne (b := (((thereF M.ps1 k) : Int) != 0)) rfl rfl rfl rfl) ?_
  refine SL.nl ?_
  refine SC.both (((thereF M.ps1 k) : Int) != 0) rfl (fun h1 => ?_) (fun h1 => ?_)
  · skip
    refine SC.sr ?_
    refine SL.mv ?_
    refine SL.as ?_
    refine SL.nl ?_
    refine SC.ret ?_
    refine SE.passr ?_
    refine SE.res (.inl rfl) (res1 Try.results44 rfl) fun w1 hI => ?_
    have eT : thereF (S.L true) k = thereF M.ps1 k := by show thereF S.L1 k = _; rw [← hM.l1, there_map]
    have eL : (S.L true).length = M.ps1.length := by show S.L1.length = _; rw [← hM.l1, List.length_map]
    have ew : moveF S true k to = (thereF M.ps1 k, S) := by unfold moveF; simp only [eT]; rw [if_pos h1]
    rw [ew]
    exact ⟨rfl, M, WTo.same (hI.keep 6).1 hM hI.2⟩
  have hth : thereF M.ps1 k = 0 := Classical.byContradiction (fun hc => ne_f h1 hc)
  obtain ⟨hk0, hk1, ⟨⟨vx, x⟩, hx⟩⟩ := there_get hth
  have hk : 0 ≤ k ∧ k < (M.ps1.length : Int) := ⟨hk0, hk1⟩
  obtain ⟨hxb, hxF, xa, xc, hxv⟩ := hM.form1 h _ (List.mem_of_getElem? hx)
  have hxf : M.fs vx x.f := hM.f1 _ (List.mem_of_getElem? hx)
  dsimp only at hxv hxb hxF
  subst hxv
  have ex : (S.L true).getD k.toNat fm0 = x := by show S.L1.getD k.toNat fm0 = x; rw [← hM.l1, List.getD_eq_getElem?_getD, List.getElem?_map, hx]; rfl
  refine SC.skip ?_
  refine SC.of_SE ?_
  refine SC.seq ?_
  refine SC.sr ?_
  refine SL.mv ?_
  refine SL.uu (ru_lt (b := (decide ((to : Int) < 0))) rfl rfl rfl rfl) ?_
  refine SL.mv ?_
  refine SL.join 10 [(0, pt wd 0), (1, iw 1), (2, iw k), (3, iw to), (8, iw 0), (20, iw to), (21, bo (decide ((to : Int) < 0))), (22, bo (decide ((to : Int) < 0))), (32, bo ((decide ((to : Int) < 0)) || (decide (((M.ps1.length : Int) : Int) ≤ to))))] [rB wd d0 d1 M S.now 92, rDv 100 d0 M.fs S.A0, rDv 100 d1 M.fs S.A1, rR0 M 46, rR1 M 46, rZ M.F M.fs] ?_ ?_
  rotate_left
  · intro K hK
    rcases tf (decide ((to : Int) < 0)) with h2 | h2
    · skip
      refine SL.norm [(0, pt wd 0), (1, iw 1), (2, iw k), (3, iw to), (8, iw 0), (20, iw to), (21, bo true), (22, bo true)] _ ⟨rfl, rfl, rfl, rfl, rfl, rfl, (congrArg (fun x => some (Value.bool x)) h2), (congrArg (fun x => some (Value.bool x)) h2), trivial⟩ rfl ?_
      refine SL.oo ?_
      refine SL.oo ?_
      refine SL.oo ?_
      refine SL.oo ?_
      refine SL.oo ?_
      refine SL.oo ?_
      refine SL.oo ?_
      refine SL.oo ?_
      refine SL.oo ?_
      refine SL.pk (bo true) (undef) ?_
      exact SL.joined hK ⟨rfl, rfl, rfl, rfl, rfl, rfl, (congrArg (fun x => some (Value.bool x)) h2.symm), (congrArg (fun x => some (Value.bool x)) h2.symm), (congrArg (fun bx => some (Value.bool (bx || (decide (((M.ps1.length : Int) : Int) ≤ to))))) h2.symm), trivial⟩ rfl
    refine SL.norm [(0, pt wd 0), (1, iw 1), (2, iw k), (3, iw to), (8, iw 0), (20, iw to), (21, bo false), (22, bo false)] _ ⟨rfl, rfl, rfl, rfl, rfl, rfl, (congrArg (fun x => some (Value.bool x)) h2), (congrArg (fun x => some (Value.bool x)) h2), trivial⟩ rfl ?_
    refine SL.gg (ru_move rfl rfl) ?_
    refine SL.gg (ru_move rfl rfl) ?_
    refine SL.gg (ru_move rfl rfl) ?_
    refine SL.gg (ru_nilCheck rfl rfl) ?_
    refine SL.gg (ru_fieldAddr (o2 := 2) fd92_1 rfl rfl rfl) ?_
    refine SL.gg (ru_indexA (o2 := 3) ar75 rfl rfl rfl (by decide) (by decide) rfl) ?_
    refine SL.gg (ru_load (i := 0) ts56 rfl rfl rfl rfl) ?_
    refine SL.gg (ru_len Try.underlying56 rfl rfl) ?_
    refine SL.gg (ru_ge (b := (decide (((M.ps1.length : Int) : Int) ≤ to))) rfl rfl rfl rfl) ?_
    refine SL.pk (bo true) (bo (decide (((M.ps1.length : Int) : Int) ≤ to))) ?_
    exact SL.joined hK ⟨rfl, rfl, rfl, rfl, rfl, rfl, (congrArg (fun x => some (Value.bool x)) h2.symm), (congrArg (fun x => some (Value.bool x)) h2.symm), (congrArg (fun bx => some (Value.bool (bx || (decide (((M.ps1.length : Int) : Int) ≤ to))))) h2.symm), trivial⟩ rfl
  skip
  refine SL.nl ?_
  refine SC.both ((decide ((to : Int) < 0)) || (decide (((M.ps1.length : Int) : Int) ≤ to))) rfl (fun h3 => ?_) (fun h3 => ?_)
  · skip
    refine SC.sr ?_
    refine SL.as ?_
    refine SL.nl ?_
    refine SC.ret ?_
    refine SE.passr ?_
    refine SE.res (.inl rfl) (res1 Try.results44 rfl) fun w1 hI => ?_
    have eT : thereF (S.L true) k = thereF M.ps1 k := by show thereF S.L1 k = _; rw [← hM.l1, there_map]
    have eL : (S.L true).length = M.ps1.length := by show S.L1.length = _; rw [← hM.l1, List.length_map]
    have ew : moveF S true k to = (1, S) := by unfold moveF; simp only [eT, eL]; rw [if_neg (not_t h1), if_pos h3]
    rw [ew]
    exact ⟨rfl, M, WTo.same (hI.keep 6).1 hM hI.2⟩
  have hto : 0 ≤ to ∧ to < (M.ps1.length : Int) := by simp only [Bool.or_eq_false_iff, decide_eq_false_iff_not] at h3; omega
  have hol := out_len hk.1 hk.2
  have hv := hM.sl1 h
  have hone : ∀ (i n : Nat), ∀ r ∈ ((oRows (outF M.ps1 k)).drop i).take n, ∀ u ∈ r, u.oneCell' = true := fun i n r hr => ow_one (fun x hx => hv x (mem_out hx)) r (List.mem_of_mem_drop (List.mem_of_mem_take hr))
  have hrl : (oRows (outF M.ps1 k)).length = M.ps1.length - 1 := by rw [List.length_map]; exact hol
  refine SC.skip ?_
  refine SC.of_SE ?_
  refine SC.sr ?_
  refine SL.mv ?_
  refine SL.mv ?_
  refine SL.nk ?_
  refine SL.fa 2 fd92_1 ?_
  refine SL.ia 3 ar75 ?_
  refine SL.ld 0 ts56 ?_
  refine SL.mv ?_
  refine SL.uu (ru_index_rowN (ri := 4) si56 rfl rfl rfl rfl (by omega) (by omega)) ?_
  refine SL.uu (ru_loada_rowN (ri := 4) (i := k.toNat) (r := [Value.slice xa x.f.length xc, bo x.bad, iw x.tick]) ta46 rfl rfl rfl (by show (M.ps1.map FmV.row)[_]? = _; rw [List.getElem?_map, hx]; rfl) rfl rfl) ?_
  refine SL.alloca rfl rfl (lt_b rfl) ta46 rfl fun b4 hb4 => ?_
  refine SL.storea (i := 6) (vs := [Value.slice xa x.f.length xc, bo x.bad, iw x.tick]) (c' := [Value.slice xa x.f.length xc, bo x.bad, iw x.tick]) rfl rfl ta46 rfl rfl rfl rfl rfl rfl (le_b rfl) (.inr hb4) rfl ?_
  refine SL.nl ?_
  refine SC.sr ?_
  refine SL.mv ?_
  refine SL.mv ?_
  refine SL.nk ?_
  refine SL.fa 2 fd92_1 ?_
  refine SL.ia 3 ar75 ?_
  refine SL.ld 0 ts56 ?_
  refine SL.mv ?_
  refine SL.mk (Mk.rowN ⟨68, w, M.G wd d0 d1⟩ (outF M.ps1 k).length (oRows (outF M.ps1 k)) 46 3) (w_all rfl) rfl co61 rfl rfl rfl (lt_b rfl) (fun l' w hI => (qout_any (ps := M.ps1) (k := k) (hM.sl1 h) (by omega) hk.1 (hI.reo [4] (by decide)).1).mono fun e w2 ⟨q, c, h1, h2, h3, h4⟩ => ⟨_, h1, ⟨q, c, fun b hb => Nat.le_trans hI.2.size (h3 b hb), rfl⟩, hI.add (r := rRowN (.slice q _ c) _ 46 3) h4 h2 h3⟩) ?_
  rintro _ ⟨q5, c6, hq5, rfl⟩
  refine SL.as ?_
  refine SL.nl ?_
  refine SC.seq ?_
  refine SC.rows (rRowN (.slice none 0 0) [] 46 3) (fun b hb => by cases hb) (fun w => rowN_nil w 46 3) ?_
  refine SC.factN (p := (outF M.ps1 k).length ≤ c6) (fun w hI => rowN_cap (hI.1.get (i := 7) rfl)) fun hcq => ?_
  refine SC.region ?_
  refine SL.mv ?_
  refine SL.mv ?_
  refine SL.uu (ru_sliceV (size := 3) (l0 := 0) (h0 := to.toNat) (m0 := c6) rfl si56 rfl rfl rfl (show some (iw to) = some (iw ((to.toNat : Nat) : Int)) by rw [Int.toNat_of_nonneg (by omega)]) rfl (by simp) (by omega) (by omega) (by omega)) ?_
  refine SL.append_rows (ri := 8) (size := 3) (r2 := ((oRows (outF M.ps1 k)).drop 0).take (to.toNat - 0)) (z := Value.agg #[Value.slice none 0 0, bo false, iw 0]) (bytes := 40) rfl rfl (lt_b rfl) rfl (by decide) Try.underlying56 (by kernel_rfl) rfl (hone _ _) rfl rfl rfl (fun w hI => rowN_part (hI.1.get (i := 7) rfl) (by omega) (by omega)) (by simp only [List.length_append, List.length_take, List.length_drop, hrl, List.length_nil, List.length_cons]; omega) (by unfold maxLen; simp only [List.length_append, List.length_take, List.length_drop, hrl, List.length_nil, List.length_cons]; omega) (fun b hb => by simp [Value.ownBlock] at hb) fun q7 c8 hq9 => ?_
  refine SL.as ?_
  refine SL.nl ?_
  refine SC.sr ?_
  refine SL.mv ?_
  refine SL.uu (ru_loada (i := 6) (vs := [Value.slice xa x.f.length xc, bo x.bad, iw x.tick]) ta46 rfl rfl rfl rfl (le_b rfl)) ?_
  refine SL.buildSlice (size := 3) (vals := [(0, Value.agg #[Value.slice xa x.f.length xc, bo x.bad, iw x.tick])]) (z := [Value.slice none 0 0, bo false, iw 0]) (cs := [Value.slice xa x.f.length xc, bo x.bad, iw x.tick]) rfl rfl (lt_b rfl) rfl Try.underlying56 (by kernel_rfl) rfl rfl (by kernel_rfl) fun b10 hb10 => ?_
  refine SL.append_rowN (ri := 8) (rj := 9) (size := 3) (r := [Value.slice xa x.f.length xc, bo x.bad, iw x.tick]) (z := Value.agg #[Value.slice none 0 0, bo false, iw 0]) (bytes := 40) rfl rfl (lt_b rfl) rfl (by decide) Try.underlying56 (by kernel_rfl) rfl rfl rfl rfl rfl rfl rfl (by simp only [List.length_append, List.length_take, List.length_drop, hrl, List.length_nil]; omega) (by unfold maxLen; simp only [List.length_append, List.length_take, List.length_drop, hrl, List.length_nil]; omega) (fun b hb => hq9 b hb) fun q11 c12 hq13 => ?_
  refine SL.as ?_
  refine SL.nl ?_
  refine SC.seq ?_
  refine SC.region_any (by kernel_rfl) ?_
  refine SA.take 0 rfl (by kernel_rfl) (by kernel_rfl) (by kernel_rfl) rfl rfl (lt_b rfl) (fun _ => ru_move rfl rfl) ?_
  refine SA.take 1 rfl (by kernel_rfl) (by kernel_rfl) (by kernel_rfl) rfl rfl (lt_b rfl) (fun _ => ru_move rfl rfl) ?_
  refine SA.take 2 rfl (by kernel_rfl) (by kernel_rfl) (by kernel_rfl) rfl rfl (lt_b rfl) (fun _ => ru_move rfl rfl) ?_
  refine SA.take 3 rfl (by kernel_rfl) (by kernel_rfl) (by kernel_rfl) rfl rfl (lt_b rfl) (fun _ => ru_move rfl rfl) ?_
  refine SA.take 4 rfl (by kernel_rfl) (by kernel_rfl) (by kernel_rfl) rfl rfl (lt_b rfl) (fun _ => ru_move rfl rfl) ?_
  refine SA.take 5 rfl (by kernel_rfl) (by kernel_rfl) (by kernel_rfl) rfl rfl (lt_b rfl) (fun _ => ru_sliceV (size := 3) (l0 := to.toNat) (h0 := (outF M.ps1 k).length) (m0 := c6) rfl si56 rfl rfl rfl rfl (show some (iw to) = some (iw ((to.toNat : Nat) : Int)) by rw [Int.toNat_of_nonneg (by omega)]) (by simp) (by omega) (by omega) (by omega)) ?_
  refine SA.take 7 rfl (by kernel_rfl) (by kernel_rfl) (by kernel_rfl) rfl rfl (lt_b rfl) (fun _ => ru_nilCheck rfl rfl) ?_
  refine SA.take 8 rfl (by kernel_rfl) (by kernel_rfl) (by kernel_rfl) rfl rfl (lt_b rfl) (fun _ => ru_fieldAddr (o2 := 2) fd92_1 rfl rfl rfl) ?_
  refine SA.one 6 rfl (by kernel_rfl) ?_
  refine SL.append_rows (ri := 8) (size := 3) (r2 := ((oRows (outF M.ps1 k)).drop to.toNat).take ((outF M.ps1 k).length - to.toNat)) (z := Value.agg #[Value.slice none 0 0, bo false, iw 0]) (bytes := 40) rfl rfl (lt_b rfl) rfl (by decide) Try.underlying56 (by kernel_rfl) rfl (hone _ _) rfl rfl rfl (fun w hI => rowN_part (hI.1.get (i := 7) rfl) (by omega) (by omega)) (by simp only [List.length_append, List.length_take, List.length_drop, hrl, List.length_nil, List.length_cons]; omega) (by unfold maxLen; simp only [List.length_append, List.length_take, List.length_drop, hrl, List.length_nil, List.length_cons]; omega) (fun b hb => hq13 b hb) fun q14 c15 hq16 => ?_
  refine SL.nil ?_
  refine SA.se ?_
  refine SA.take 9 rfl (by kernel_rfl) (by kernel_rfl) (by kernel_rfl) rfl rfl (lt_b rfl) (fun _ => ru_indexA (o2 := 3) ar75 rfl rfl rfl (by decide) (by decide) rfl) ?_
  refine SA.one 10 rfl (by kernel_rfl) ?_
  refine SL.store (i := 0) (c' := [pt d0 0, pt d1 0, Value.slice M.q0 M.ps0.length M.c0, Value.slice q14 (([] ++ ((oRows (outF M.ps1 k)).drop 0).take (to.toNat - 0) ++ [[Value.slice xa x.f.length xc, bo x.bad, iw x.tick]] ++ ((oRows (outF M.ps1 k)).drop to.toNat).take ((outF M.ps1 k).length - to.toNat)).length) c15, iw S.now]) rfl rfl ts56 rfl rfl rfl rfl rfl (lt_b rfl) (.inl (.inl rfl)) rfl ?_
  refine SL.nil ?_
  refine SA.se ?_
  refine SA.done (by kernel_rfl) ?_
  refine SC.of_SE ?_
  refine SC.nr [rBlk wd [pt d0 0, pt d1 0, Value.slice M.q0 M.ps0.length M.c0, Value.slice q14 (([] ++ ((oRows (outF M.ps1 k)).drop 0).take (to.toNat - 0) ++ [[Value.slice xa x.f.length xc, bo x.bad, iw x.tick]] ++ ((oRows (outF M.ps1 k)).drop to.toNat).take ((outF M.ps1 k).length - to.toNat)).length) c15, iw S.now] 92, rDv 100 d0 M.fs S.A0, rDv 100 d1 M.fs S.A1, rR0 M 46, rR1 M 46, rZ M.F M.fs, rBlk b4 [Value.slice xa x.f.length xc, bo x.bad, iw x.tick] 46, rRowN (.slice q5 ((outF M.ps1 k).length) c6) (oRows (outF M.ps1 k)) 46 3, rRowN (.slice q14 (([] ++ ((oRows (outF M.ps1 k)).drop 0).take (to.toNat - 0) ++ [[Value.slice xa x.f.length xc, bo x.bad, iw x.tick]] ++ ((oRows (outF M.ps1 k)).drop to.toNat).take ((outF M.ps1 k).length - to.toNat)).length) c15) ([] ++ ((oRows (outF M.ps1 k)).drop 0).take (to.toNat - 0) ++ [[Value.slice xa x.f.length xc, bo x.bad, iw x.tick]] ++ ((oRows (outF M.ps1 k)).drop to.toNat).take ((outF M.ps1 k).length - to.toNat)) 46 3, rBlk b10 [Value.slice xa x.f.length xc, bo x.bad, iw x.tick] 46] ?_
  refine SC.sr ?_
  refine SL.as ?_
  refine SL.nl ?_
  refine SC.ret ?_
  refine SE.res (.inl rfl) (res1 Try.results44 rfl) fun w1 hI => ?_
  have eT : thereF (S.L true) k = thereF M.ps1 k := by show thereF S.L1 k = _; rw [← hM.l1, there_map]
  have eL : (S.L true).length = M.ps1.length := by show S.L1.length = _; rw [← hM.l1, List.length_map]
  have ew : moveF S true k to = (0, S.setL true (insF (outF S.L1 k) to x)) := by unfold moveF; simp only [eT, eL, ex]; rw [if_neg (not_t h1), if_neg (not_t h3)]; rfl
  have er : [] ++ ((oRows (outF M.ps1 k)).drop 0).take (to.toNat - 0) ++ [[Value.slice xa x.f.length xc, bo x.bad, iw x.tick]] ++ ((oRows (outF M.ps1 k)).drop to.toNat).take ((outF M.ps1 k).length - to.toNat) = oRows (insF (outF M.ps1 k) to ⟨.slice xa x.f.length xc, x⟩) := (mv_rows (n := (outF M.ps1 k).length) (List.length_map _) (by omega) rfl).trans (map_ins FmV.row (outF M.ps1 k) to (⟨.slice xa x.f.length xc, x⟩ : FmV)).symm
  have el : ([] ++ ((oRows (outF M.ps1 k)).drop 0).take (to.toNat - 0) ++ [[Value.slice xa x.f.length xc, bo x.bad, iw x.tick]] ++ ((oRows (outF M.ps1 k)).drop to.toNat).take ((outF M.ps1 k).length - to.toNat)).length = (insF (outF M.ps1 k) to (⟨.slice xa x.f.length xc, x⟩ : FmV)).length := by rw [er, List.length_map]
  have hI9 : Inv ⟨68, w, M.G wd d0 d1⟩ w1 [rBlk wd [pt d0 0, pt d1 0, Value.slice M.q0 M.ps0.length M.c0, Value.slice q14 (([] ++ ((oRows (outF M.ps1 k)).drop 0).take (to.toNat - 0) ++ [[Value.slice xa x.f.length xc, bo x.bad, iw x.tick]] ++ ((oRows (outF M.ps1 k)).drop to.toNat).take ((outF M.ps1 k).length - to.toNat)).length) c15, iw S.now] 92, rDv 100 d0 M.fs S.A0, rDv 100 d1 M.fs S.A1, rRowN (.slice M.q0 M.ps0.length M.c0) (oRows M.ps0) 46 3, rRowN (.slice q14 (([] ++ ((oRows (outF M.ps1 k)).drop 0).take (to.toNat - 0) ++ [[Value.slice xa x.f.length xc, bo x.bad, iw x.tick]] ++ ((oRows (outF M.ps1 k)).drop to.toNat).take ((outF M.ps1 k).length - to.toNat)).length) c15) ([] ++ ((oRows (outF M.ps1 k)).drop 0).take (to.toNat - 0) ++ [[Value.slice xa x.f.length xc, bo x.bad, iw x.tick]] ++ ((oRows (outF M.ps1 k)).drop to.toNat).take ((outF M.ps1 k).length - to.toNat)) 46 3, rZ M.F M.fs] := hI.reo [0, 1, 2, 3, 8, 5] (by decide)
  rw [el, er] at hI9
  rw [ew]
  have hO := hM.ins1 (y := ⟨.slice xa x.f.length xc, x⟩) q14 c15 hxf k to
  rw [el] at hq16
  exact ⟨rfl, { M with q1 := q14, c1 := c15, ps1 := insF (outF M.ps1 k) to ⟨.slice xa x.f.length xc, x⟩ }, ⟨hI9.1, hO, fun v f h => h, fun b hb => WM.K.new1 hb (fun b hb => .inl hb) hq16, hI.2⟩⟩
theorem qmoveX_any {w : World} {wd : Nat} {dir : Int} {k to : Int} (hd : isD dir = false) : Calls Try.prog 44 #[pt wd 0, iw dir, iw k, iw to] w fun e w' => e = .returned (iw 1) ∧ Only (fun _ => False) w w' := by
  refine calls_sc (l0 := []) (args := [pt wd 0, iw dir, iw k, iw to]) (fun _ => False) Try.func44 rfl 68 Try.ntmps44 (le_b rfl) ⟨⟨by simp, List.Pairwise.nil⟩, Only.refl _ _⟩ ?_
  show SC _ _ _ _ [(0, pt wd 0), (1, iw dir), (2, iw k), (3, iw to)] []
  refine SC.sr ?_
  refine SL.as ?_
  refine SL.nl ?_
  refine SC.sr ?_
  refine SL.mv ?_
  refine SL.mv ?_
  refine SL.mv ?_
  refine SL.callv (iw 1) rfl rfl co60 rfl rfl rfl (lt_b rfl) (fun w hI => H_only hI (qthereX_any hd)) ?_
  refine SL.as ?_
  refine SL.nl ?_
  refine SC.seq ?_
  refine SC.sr ?_
  refine SL.mv ?_
  refine SL.uu (ru_ne (b := true) rfl rfl rfl rfl) ?_
  refine SL.nl ?_
  refine SC.yes rfl ?_
  refine SC.sr ?_
  refine SL.mv ?_
  refine SL.as ?_
  refine SL.nl ?_
  refine SC.ret ?_
  refine SE.passr ?_
  refine SE.res (.inl rfl) (res1 Try.results44 rfl) fun w1 hI => ⟨rfl, hI.2⟩

end Go.Proofs.Ytcilikkljkdceaa

/-
  The document's Deliver.
-/
namespace Go.Proofs.Ytcilikkljkdceaa
open Go.RowKit
set_option maxRecDepth 100000
set_option maxHeartbeats 4000000
theorem qdeliver0_any {w : World} {wd d0 d1 : Nat} {M : WM} {S : Wi} {k : Int} (hM : M.Ok S) (hn : M.ps0.length ≤ 3000000000000) (hn1 : NicOk S.A1) (h : Sep w (WLm 100 92 46 wd d0 d1 M S.A0 S.A1 S.now)) : Calls Try.prog 46 #[pt wd 0, iw 0, iw k] w fun e w' => e = .returned (iw (deliverF S false k).1) ∧ ∃ M', WTo 100 92 46 w wd d0 d1 M M' (deliverF S false k).2 w' := by
  refine calls_sc (l0 := (WLm 100 92 46 wd d0 d1 M S.A0 S.A1 S.now)) (args := [pt wd 0, iw 0, iw k]) (M.G wd d0 d1) Try.func46 rfl 50 Try.ntmps46 (le_b rfl) ⟨h, Only.refl _ _⟩ ?_
  show SC _ _ _ _ [(0, pt wd 0), (1, iw 0), (2, iw k)] (WLm 100 92 46 wd d0 d1 M S.A0 S.A1 S.now)
  refine SC.sr ?_
  refine SL.as ?_
  refine SL.nl ?_
  refine SC.sr ?_
  refine SL.mv ?_
  refine SL.mv ?_
  refine SL.mv ?_
  refine SL.callv (iw (thereF M.ps0 k)) rfl rfl co60 rfl rfl rfl (lt_b rfl) (fun w hI => H_only hI (qthere0_any ((hI.keep 6).1))) ?_
  refine SL.as ?_
  refine SL.nl ?_
  refine SC.seq ?_
  refine SC.sr ?_
  refine SL.mv ?_
  refine SL.uu (ru_ne (b := (((thereF M.ps0 k) : Int) != 0)) rfl rfl rfl rfl) ?_
  refine SL.nl ?_
  refine SC.both (((thereF M.ps0 k) : Int) != 0) rfl (fun h1 => ?_) (fun h1 => ?_)
  · skip
    refine SC.sr ?_
    refine SL.mv ?_
    refine SL.as ?_
    refine SL.nl ?_
    refine SC.ret ?_
    refine SE.passr ?_
    refine SE.res (.inl rfl) (res1 Try.results46 rfl) fun w1 hI => ?_
    have eT : thereF (S.L false) k = thereF M.ps0 k := by show thereF S.L0 k = _; rw [← hM.l0, there_map]
    have ew : deliverF S false k = (thereF M.ps0 k, S) := by unfold deliverF; simp only [eT]; rw [if_pos h1]
    rw [ew]
    exact ⟨rfl, M, WTo.same (hI.keep 6).1 hM hI.2⟩
  have hth : thereF M.ps0 k = 0 := Classical.byContradiction (fun hc => ne_f h1 hc)
  obtain ⟨hk0, hk1, ⟨⟨vx, x⟩, hx⟩⟩ := there_get hth
  have hk : 0 ≤ k ∧ k < (M.ps0.length : Int) := ⟨hk0, hk1⟩
  obtain ⟨hxb, hxF, xa, xc, hxv⟩ := hM.form0 h _ (List.mem_of_getElem? hx)
  have hxf : M.fs vx x.f := hM.f0 _ (List.mem_of_getElem? hx)
  dsimp only at hxv hxb hxF
  subst hxv
  have ex : (S.L false).getD k.toNat fm0 = x := by show S.L0.getD k.toNat fm0 = x; rw [← hM.l0, List.getD_eq_getElem?_getD, List.getElem?_map, hx]; rfl
  refine SC.skip ?_
  refine SC.of_SE ?_
  refine SC.sr ?_
  refine SL.mv ?_
  refine SL.mv ?_
  refine SL.nk ?_
  refine SL.fa 2 fd92_1 ?_
  refine SL.ia 2 ar75 ?_
  refine SL.ld 0 ts56 ?_
  refine SL.mv ?_
  refine SL.uu (ru_index_rowN (ri := 3) si56 rfl rfl rfl rfl (by omega) (by omega)) ?_
  refine SL.uu (ru_loada_rowN (ri := 3) (i := k.toNat) (r := [Value.slice xa x.f.length xc, bo x.bad, iw x.tick]) ta46 rfl rfl rfl (by show (M.ps0.map FmV.row)[_]? = _; rw [List.getElem?_map, hx]; rfl) rfl rfl) ?_
  refine SL.alloca rfl rfl (lt_b rfl) ta46 rfl fun b2 hb2 => ?_
  refine SL.storea (i := 6) (vs := [Value.slice xa x.f.length xc, bo x.bad, iw x.tick]) (c' := [Value.slice xa x.f.length xc, bo x.bad, iw x.tick]) rfl rfl ta46 rfl rfl rfl rfl rfl rfl (le_b rfl) (.inr hb2) rfl ?_
  refine SL.nl ?_
  refine SC.seq ?_
  refine SC.region_mk_tail 12 [(9, Mk.rowN ⟨50, w, M.G wd d0 d1⟩ (outF M.ps0 k).length (oRows (outF M.ps0 k)) 46 3)] [] rfl rfl (by kernel_rfl) (by kernel_rfl) (by kernel_rfl) ?_
  refine SM.uu (ru_move rfl rfl) ?_
  refine SM.uu (ru_move rfl rfl) ?_
  refine SM.uu (ru_move rfl rfl) ?_
  refine SM.uu (ru_move rfl rfl) ?_
  refine SM.uu (ru_nilCheck rfl rfl) ?_
  refine SM.uu (ru_fieldAddr (o2 := 2) fd92_1 rfl rfl rfl) ?_
  refine SM.uu (ru_indexA (o2 := 2) ar75 rfl rfl rfl (by decide) (by decide) rfl) ?_
  refine SM.uu (ru_load (i := 0) ts56 rfl rfl rfl rfl) ?_
  refine SM.uu (ru_move rfl rfl) ?_
  refine SM.mkcall (s := Mk.rowN ⟨50, w, M.G wd d0 d1⟩ (outF M.ps0 k).length (oRows (outF M.ps0 k)) 46 3) rfl rfl rfl rfl (w_all rfl) rfl (lt_b rfl) rfl rfl rfl co61 rfl rfl (fun l' w hI => (qout_any (ps := M.ps0) (k := k) (hM.sl0 h) (by omega) hk.1 (hI.reo [3] (by decide)).1).mono fun e w2 ⟨q, c, h1, h2, h3, h4⟩ => ⟨_, h1, ⟨q, c, fun b hb => Nat.le_trans hI.2.size (h3 b hb), rfl⟩, hI.add (r := rRowN (.slice q _ c) _ 46 3) h4 h2 h3⟩) ?_
  rintro _ ⟨q3, c4, hq3, rfl⟩
  refine SM.uu (ru_nilCheck rfl rfl) ?_
  refine SM.uu (ru_fieldAddr (o2 := 2) fd92_1 rfl rfl rfl) ?_
  refine SM.nilL (l' := [rB wd d0 d1 M S.now 92, rDv 100 d0 M.fs S.A0, rDv 100 d1 M.fs S.A1, rR0 M 46, rR1 M 46, rZ M.F M.fs, rBlk b2 [Value.slice xa x.f.length xc, bo x.bad, iw x.tick] 46, rRowN (.slice q3 ((outF M.ps0 k).length) c4) (oRows (outF M.ps0 k)) 46 3]) rfl ?_
  refine SL.ia 2 ar75 ?_
  refine SL.store (i := 0) (c' := [pt d0 0, pt d1 0, Value.slice q3 ((outF M.ps0 k).length) c4, Value.slice M.q1 M.ps1.length M.c1, iw S.now]) rfl rfl ts56 rfl rfl rfl rfl rfl (lt_b rfl) (.inl (.inl rfl)) rfl ?_
  refine SL.nil ?_
  refine SE.reo [0, 1, 2, 7, 4, 5, 6] [rBlk wd [pt d0 0, pt d1 0, Value.slice q3 ((outF M.ps0 k).length) c4, Value.slice M.q1 M.ps1.length M.c1, iw S.now] 92, rDv 100 d0 M.fs S.A0, rDv 100 d1 M.fs S.A1, rRowN (.slice q3 ((outF M.ps0 k).length) c4) (oRows (outF M.ps0 k)) 46 3, rR1 M 46, rZ M.F M.fs, rBlk b2 [Value.slice xa x.f.length xc, bo x.bad, iw x.tick] 46] (by decide) rfl ?_
  refine SC.of_SE ?_
  refine SC.seq ?_
  refine SC.region_tail 11 (by kernel_rfl) (by kernel_rfl) ?_
  refine SQ.mv ?_
  refine SQ.mv ?_
  refine SQ.uu (ru_sub (r := 1) rfl rfl rfl rfl) ?_
  refine SQ.nk ?_
  refine SQ.fa 0 fd92_0 ?_
  refine SQ.ia 1 ar37 ?_
  refine SQ.ld 0 ts36 ?_
  refine SQ.fa 0 fd46_0 ?_
  refine SQ.ld 6 ts28 ?_
  refine SQ.fa 1 fd46_1 ?_
  refine SQ.ld 6 ts4 ?_
  refine SQ.nilL ?_
  refine SL.call (ζ := (Nat → Prop) × (Value → List UInt8 → Prop)) (fun z => iw ((giveF S.A1 x.f x.bad).1)) (fun z => [rBlk wd [pt d0 0, pt d1 0, Value.slice q3 ((outF M.ps0 k).length) c4, Value.slice M.q1 M.ps1.length M.c1, iw S.now] 92, rDv 100 d0 z.2 S.A0, rDv 100 d1 z.2 ((giveF S.A1 x.f x.bad).2), rRowN (.slice q3 ((outF M.ps0 k).length) c4) (oRows (outF M.ps0 k)) 46 3, rR1 M 46, rZ z.1 z.2, rBlk b2 [Value.slice xa x.f.length xc, bo x.bad, iw x.tick] 46]) (fun z => (∀ v f, M.fs v f ∨ False → z.2 v f) ∧ ∀ b, z.1 b → M.F b ∨ w.heap.size ≤ b) rfl rfl co62 rfl rfl rfl (lt_b rfl) (fun w5 hI => (q_give hn1 (WL.nic1 (l := [rBlk b2 [Value.slice xa x.f.length xc, bo x.bad, iw x.tick] 46]) hI) (((hI.1.get (i := 5) rfl).2 _ _ hxf).1) (fun b9 o9 n9 c9 e9 h9 e => List.pairwise_iff_getElem.1 hI.1.2 2 5 (by simp) (by simp) (by decide) b9 e (((hI.1.get (i := 5) rfl).2 _ _ hxf).2 b9 o9 n9 c9 e9 h9)) x.bad).mono fun e w2 ⟨h1, F1, k1, k2, k3⟩ => by obtain ⟨F', fs', q1, q2, q3⟩ := WL.turn1 (g := fun _ _ => False) (l := [rBlk b2 [Value.slice xa x.f.length xc, bo x.bad, iw x.tick] 46]) hI (.inl (.inr (.inr (.inl rfl)))) k1 k2 k3 (fun _ _ h => h.elim); exact ⟨(F', fs'), h1, q2, q1, fun b hb => (q3 b hb).imp id (Nat.le_trans hI.2.size)⟩) ?_
  rintro ⟨Fn, fsn⟩ ⟨hfn, hFn⟩
  dsimp only at hfn hFn
  refine SL.as ?_
  refine SL.nn [(6, iw ((giveF S.A1 x.f x.bad).1))] [rBlk wd [pt d0 0, pt d1 0, Value.slice q3 ((outF M.ps0 k).length) c4, Value.slice M.q1 M.ps1.length M.c1, iw S.now] 92, rDv 100 d0 fsn S.A0, rDv 100 d1 fsn ((giveF S.A1 x.f x.bad).2), rRowN (.slice q3 ((outF M.ps0 k).length) c4) (oRows (outF M.ps0 k)) 46 3, rR1 M 46, rZ Fn fsn, rBlk b2 [Value.slice xa x.f.length xc, bo x.bad, iw x.tick] 46] ⟨rfl, trivial⟩ ?_
  refine SC.ret ?_
  refine SE.res (.inl rfl) (res1 Try.results46 rfl) fun w1 hI => ?_
  have eT : thereF (S.L false) k = thereF M.ps0 k := by show thereF S.L0 k = _; rw [← hM.l0, there_map]
  have ew : deliverF S false k = ((giveF S.A1 x.f x.bad).1, (S.setL false (outF S.L0 k)).setA true (giveF S.A1 x.f x.bad).2) := by unfold deliverF; simp only [eT]; rw [if_neg (not_t h1), ex]; rfl
  rw [ew]
  exact ⟨rfl, { M with F := Fn, fs := fsn, q0 := q3, c0 := c4, ps0 := outF M.ps0 k }, ⟨(hI.keep 6).1, ⟨fun y hy => hfn _ _ (.inl ((hM.out0 k).f0 y hy)), fun y hy => hfn _ _ (.inl ((hM.out0 k).f1 y hy)), (hM.out0 k).l0, (hM.out0 k).l1⟩, fun v f h => hfn v f (.inl h), fun b hb => WM.K.new0 hb hFn (fun b hb => .inr (hq3 b hb)), hI.2⟩⟩
theorem qdeliver1_any {w : World} {wd d0 d1 : Nat} {M : WM} {S : Wi} {k : Int} (hM : M.Ok S) (hn : M.ps1.length ≤ 3000000000000) (hn0 : NicOk S.A0) (h : Sep w (WLm 100 92 46 wd d0 d1 M S.A0 S.A1 S.now)) : Calls Try.prog 46 #[pt wd 0, iw 1, iw k] w fun e w' => e = .returned (iw (deliverF S true k).1) ∧ ∃ M', WTo 100 92 46 w wd d0 d1 M M' (deliverF S true k).2 w' := by
  refine calls_sc (l0 := (WLm 100 92 46 wd d0 d1 M S.A0 S.A1 S.now)) (args := [pt wd 0, iw 1, iw k]) (M.G wd d0 d1) Try.func46 rfl 50 Try.ntmps46 (le_b rfl) ⟨h, Only.refl _ _⟩ ?_
  show SC _ _ _ _ [(0, pt wd 0), (1, iw 1), (2, iw k)] (WLm 100 92 46 wd d0 d1 M S.A0 S.A1 S.now)
  refine SC.sr ?_
  refine SL.as ?_
  refine SL.nl ?_
  refine SC.sr ?_
  refine SL.mv ?_
  refine SL.mv ?_
  refine SL.mv ?_
  refine SL.callv (iw (thereF M.ps1 k)) rfl rfl co60 rfl rfl rfl (lt_b rfl) (fun w hI => H_only hI (qthere1_any ((hI.keep 6).1))) ?_
  refine SL.as ?_
  refine SL.nl ?_
  refine SC.seq ?_
  refine SC.sr ?_
  refine SL.mv ?_
  refine SL.uu (ru_ne (b := (((thereF M.ps1 k) : Int) != 0)) rfl rfl rfl rfl) ?_
  refine SL.nl ?_
  refine SC.both (((thereF M.ps1 k) : Int) != 0) rfl (fun h1 => ?_) (fun h1 => ?_)
  · skip
    refine SC.sr ?_
    refine SL.mv ?_
    refine SL.as ?_
    refine SL.nl ?_
    refine SC.ret ?_
    refine SE.passr ?_
    refine SE.res (.inl rfl) (res1 Try.results46 rfl) fun w1 hI => ?_
    have eT : thereF (S.L true) k = thereF M.ps1 k := by show thereF S.L1 k = _; rw [← hM.l1, there_map]
    have ew : deliverF S true k = (thereF M.ps1 k, S) := by unfold deliverF; simp only [eT]; rw [if_pos h1]
    rw [ew]
    exact ⟨rfl, M, WTo.same (hI.keep 6).1 hM hI.2⟩
  have hth : thereF M.ps1 k = 0 := Classical.byContradiction (fun hc => ne_f h1 hc)
  obtain ⟨hk0, hk1, ⟨⟨vx, x⟩, hx⟩⟩ := there_get hth
  have hk : 0 ≤ k ∧ k < (M.ps1.length : Int) := ⟨hk0, hk1⟩
  obtain ⟨hxb, hxF, xa, xc, hxv⟩ := hM.form1 h _ (List.mem_of_getElem? hx)
  have hxf : M.fs vx x.f := hM.f1 _ (List.mem_of_getElem? hx)
  dsimp only at hxv hxb hxF
  subst hxv
  have ex : (S.L true).getD k.toNat fm0 = x := by show S.L1.getD k.toNat fm0 = x; rw [← hM.l1, List.getD_eq_getElem?_getD, List.getElem?_map, hx]; rfl
  refine SC.skip ?_
  refine SC.of_SE ?_
  refine SC.sr ?_
  refine SL.mv ?_
  refine SL.mv ?_
  refine SL.nk ?_
  refine SL.fa 2 fd92_1 ?_
  refine SL.ia 3 ar75 ?_
  refine SL.ld 0 ts56 ?_
  refine SL.mv ?_
  refine SL.uu (ru_index_rowN (ri := 4) si56 rfl rfl rfl rfl (by omega) (by omega)) ?_
  refine SL.uu (ru_loada_rowN (ri := 4) (i := k.toNat) (r := [Value.slice xa x.f.length xc, bo x.bad, iw x.tick]) ta46 rfl rfl rfl (by show (M.ps1.map FmV.row)[_]? = _; rw [List.getElem?_map, hx]; rfl) rfl rfl) ?_
  refine SL.alloca rfl rfl (lt_b rfl) ta46 rfl fun b2 hb2 => ?_
  refine SL.storea (i := 6) (vs := [Value.slice xa x.f.length xc, bo x.bad, iw x.tick]) (c' := [Value.slice xa x.f.length xc, bo x.bad, iw x.tick]) rfl rfl ta46 rfl rfl rfl rfl rfl rfl (le_b rfl) (.inr hb2) rfl ?_
  refine SL.nl ?_
  refine SC.seq ?_
  refine SC.region_mk_tail 12 [(9, Mk.rowN ⟨50, w, M.G wd d0 d1⟩ (outF M.ps1 k).length (oRows (outF M.ps1 k)) 46 3)] [] rfl rfl (by kernel_rfl) (by kernel_rfl) (by kernel_rfl) ?_
  refine SM.uu (ru_move rfl rfl) ?_
  refine SM.uu (ru_move rfl rfl) ?_
  refine SM.uu (ru_move rfl rfl) ?_
  refine SM.uu (ru_move rfl rfl) ?_
  refine SM.uu (ru_nilCheck rfl rfl) ?_
  refine SM.uu (ru_fieldAddr (o2 := 2) fd92_1 rfl rfl rfl) ?_
  refine SM.uu (ru_indexA (o2 := 3) ar75 rfl rfl rfl (by decide) (by decide) rfl) ?_
  refine SM.uu (ru_load (i := 0) ts56 rfl rfl rfl rfl) ?_
  refine SM.uu (ru_move rfl rfl) ?_
  refine SM.mkcall (s := Mk.rowN ⟨50, w, M.G wd d0 d1⟩ (outF M.ps1 k).length (oRows (outF M.ps1 k)) 46 3) rfl rfl rfl rfl (w_all rfl) rfl (lt_b rfl) rfl rfl rfl co61 rfl rfl (fun l' w hI => (qout_any (ps := M.ps1) (k := k) (hM.sl1 h) (by omega) hk.1 (hI.reo [4] (by decide)).1).mono fun e w2 ⟨q, c, h1, h2, h3, h4⟩ => ⟨_, h1, ⟨q, c, fun b hb => Nat.le_trans hI.2.size (h3 b hb), rfl⟩, hI.add (r := rRowN (.slice q _ c) _ 46 3) h4 h2 h3⟩) ?_
  rintro _ ⟨q3, c4, hq3, rfl⟩
  refine SM.uu (ru_nilCheck rfl rfl) ?_
  refine SM.uu (ru_fieldAddr (o2 := 2) fd92_1 rfl rfl rfl) ?_
  refine SM.nilL (l' := [rB wd d0 d1 M S.now 92, rDv 100 d0 M.fs S.A0, rDv 100 d1 M.fs S.A1, rR0 M 46, rR1 M 46, rZ M.F M.fs, rBlk b2 [Value.slice xa x.f.length xc, bo x.bad, iw x.tick] 46, rRowN (.slice q3 ((outF M.ps1 k).length) c4) (oRows (outF M.ps1 k)) 46 3]) rfl ?_
  refine SL.ia 3 ar75 ?_
  refine SL.store (i := 0) (c' := [pt d0 0, pt d1 0, Value.slice M.q0 M.ps0.length M.c0, Value.slice q3 ((outF M.ps1 k).length) c4, iw S.now]) rfl rfl ts56 rfl rfl rfl rfl rfl (lt_b rfl) (.inl (.inl rfl)) rfl ?_
  refine SL.nil ?_
  refine SE.reo [0, 1, 2, 3, 7, 5, 6] [rBlk wd [pt d0 0, pt d1 0, Value.slice M.q0 M.ps0.length M.c0, Value.slice q3 ((outF M.ps1 k).length) c4, iw S.now] 92, rDv 100 d0 M.fs S.A0, rDv 100 d1 M.fs S.A1, rR0 M 46, rRowN (.slice q3 ((outF M.ps1 k).length) c4) (oRows (outF M.ps1 k)) 46 3, rZ M.F M.fs, rBlk b2 [Value.slice xa x.f.length xc, bo x.bad, iw x.tick] 46] (by decide) rfl ?_
  refine SC.of_SE ?_
  refine SC.seq ?_
  refine SC.region_tail 11 (by kernel_rfl) (by kernel_rfl) ?_
  refine SQ.mv ?_
  refine SQ.mv ?_
  refine SQ.uu (ru_sub (r := 0) rfl rfl rfl rfl) ?_
  refine SQ.nk ?_
  refine SQ.fa 0 fd92_0 ?_
  refine SQ.ia 0 ar37 ?_
  refine SQ.ld 0 ts36 ?_
  refine SQ.fa 0 fd46_0 ?_
  refine SQ.ld 6 ts28 ?_
  refine SQ.fa 1 fd46_1 ?_
  refine SQ.ld 6 ts4 ?_
  refine SQ.nilL ?_
  refine SL.call (ζ := (Nat → Prop) × (Value → List UInt8 → Prop)) (fun z => iw ((giveF S.A0 x.f x.bad).1)) (fun z => [rBlk wd [pt d0 0, pt d1 0, Value.slice M.q0 M.ps0.length M.c0, Value.slice q3 ((outF M.ps1 k).length) c4, iw S.now] 92, rDv 100 d0 z.2 ((giveF S.A0 x.f x.bad).2), rDv 100 d1 z.2 S.A1, rR0 M 46, rRowN (.slice q3 ((outF M.ps1 k).length) c4) (oRows (outF M.ps1 k)) 46 3, rZ z.1 z.2, rBlk b2 [Value.slice xa x.f.length xc, bo x.bad, iw x.tick] 46]) (fun z => (∀ v f, M.fs v f ∨ False → z.2 v f) ∧ ∀ b, z.1 b → M.F b ∨ w.heap.size ≤ b) rfl rfl co62 rfl rfl rfl (lt_b rfl) (fun w5 hI => (q_give hn0 (WL.nic0 (l := [rBlk b2 [Value.slice xa x.f.length xc, bo x.bad, iw x.tick] 46]) hI) (((hI.1.get (i := 5) rfl).2 _ _ hxf).1) (fun b9 o9 n9 c9 e9 h9 e => List.pairwise_iff_getElem.1 hI.1.2 1 5 (by simp) (by simp) (by decide) b9 e (((hI.1.get (i := 5) rfl).2 _ _ hxf).2 b9 o9 n9 c9 e9 h9)) x.bad).mono fun e w2 ⟨h1, F1, k1, k2, k3⟩ => by obtain ⟨F', fs', q1, q2, q3⟩ := WL.turn0 (g := fun _ _ => False) (l := [rBlk b2 [Value.slice xa x.f.length xc, bo x.bad, iw x.tick] 46]) hI (.inl (.inr (.inl rfl))) k1 k2 k3 (fun _ _ h => h.elim); exact ⟨(F', fs'), h1, q2, q1, fun b hb => (q3 b hb).imp id (Nat.le_trans hI.2.size)⟩) ?_
  rintro ⟨Fn, fsn⟩ ⟨hfn, hFn⟩
  dsimp only at hfn hFn
  refine SL.as ?_
  refine SL.nn [(6, iw ((giveF S.A0 x.f x.bad).1))] [rBlk wd [pt d0 0, pt d1 0, Value.slice M.q0 M.ps0.length M.c0, Value.slice q3 ((outF M.ps1 k).length) c4, iw S.now] 92, rDv 100 d0 fsn ((giveF S.A0 x.f x.bad).2), rDv 100 d1 fsn S.A1, rR0 M 46, rRowN (.slice q3 ((outF M.ps1 k).length) c4) (oRows (outF M.ps1 k)) 46 3, rZ Fn fsn, rBlk b2 [Value.slice xa x.f.length xc, bo x.bad, iw x.tick] 46] ⟨rfl, trivial⟩ ?_
  refine SC.ret ?_
  refine SE.res (.inl rfl) (res1 Try.results46 rfl) fun w1 hI => ?_
  have eT : thereF (S.L true) k = thereF M.ps1 k := by show thereF S.L1 k = _; rw [← hM.l1, there_map]
  have ew : deliverF S true k = ((giveF S.A0 x.f x.bad).1, (S.setL true (outF S.L1 k)).setA false (giveF S.A0 x.f x.bad).2) := by unfold deliverF; simp only [eT]; rw [if_neg (not_t h1), ex]; rfl
  rw [ew]
  exact ⟨rfl, { M with F := Fn, fs := fsn, q1 := q3, c1 := c4, ps1 := outF M.ps1 k }, ⟨(hI.keep 6).1, ⟨fun y hy => hfn _ _ (.inl ((hM.out1 k).f0 y hy)), fun y hy => hfn _ _ (.inl ((hM.out1 k).f1 y hy)), (hM.out1 k).l0, (hM.out1 k).l1⟩, fun v f h => hfn v f (.inl h), fun b hb => WM.K.new1 hb hFn (fun b hb => .inr (hq3 b hb)), hI.2⟩⟩
theorem qdeliverX_any {w : World} {wd : Nat} {dir : Int} {k : Int} (hd : isD dir = false) : Calls Try.prog 46 #[pt wd 0, iw dir, iw k] w fun e w' => e = .returned (iw 1) ∧ Only (fun _ => False) w w' := by
  refine calls_sc (l0 := []) (args := [pt wd 0, iw dir, iw k]) (fun _ => False) Try.func46 rfl 50 Try.ntmps46 (le_b rfl) ⟨⟨by simp, List.Pairwise.nil⟩, Only.refl _ _⟩ ?_
  show SC _ _ _ _ [(0, pt wd 0), (1, iw dir), (2, iw k)] []
  refine SC.sr ?_
  refine SL.as ?_
  refine SL.nl ?_
  refine SC.sr ?_
  refine SL.mv ?_
  refine SL.mv ?_
  refine SL.mv ?_
  refine SL.callv (iw 1) rfl rfl co60 rfl rfl rfl (lt_b rfl) (fun w hI => H_only hI (qthereX_any hd)) ?_
  refine SL.as ?_
  refine SL.nl ?_
  refine SC.seq ?_
  refine SC.sr ?_
  refine SL.mv ?_
  refine SL.uu (ru_ne (b := true) rfl rfl rfl rfl) ?_
  refine SL.nl ?_
  refine SC.yes rfl ?_
  refine SC.sr ?_
  refine SL.mv ?_
  refine SL.as ?_
  refine SL.nl ?_
  refine SC.ret ?_
  refine SE.passr ?_
  refine SE.res (.inl rfl) (res1 Try.results46 rfl) fun w1 hI => ⟨rfl, hI.2⟩

end Go.Proofs.Ytcilikkljkdceaa

/-
  The document's Drop.
-/
namespace Go.Proofs.Ytcilikkljkdceaa
open Go.RowKit
set_option maxRecDepth 100000
set_option maxHeartbeats 4000000
theorem qdrop0_any {w : World} {wd d0 d1 : Nat} {M : WM} {S : Wi} {k : Int} (hM : M.Ok S) (hn : M.ps0.length ≤ 3000000000000) (h : Sep w (WLm 100 92 46 wd d0 d1 M S.A0 S.A1 S.now)) : Calls Try.prog 42 #[pt wd 0, iw 0, iw k] w fun e w' => e = .returned (iw (dropF S false k).1) ∧ ∃ M', WTo 100 92 46 w wd d0 d1 M M' (dropF S false k).2 w' := by
  refine calls_sc (l0 := (WLm 100 92 46 wd d0 d1 M S.A0 S.A1 S.now)) (args := [pt wd 0, iw 0, iw k]) (M.G wd d0 d1) Try.func42 rfl 28 Try.ntmps42 (le_b rfl) ⟨h, Only.refl _ _⟩ ?_
  show SC _ _ _ _ [(0, pt wd 0), (1, iw 0), (2, iw k)] (WLm 100 92 46 wd d0 d1 M S.A0 S.A1 S.now)
  refine SC.sr ?_
  refine SL.as ?_
  refine SL.nl ?_
  refine SC.sr ?_
  refine SL.mv ?_
  refine SL.mv ?_
  refine SL.mv ?_
  refine SL.callv (iw (thereF M.ps0 k)) rfl rfl co60 rfl rfl rfl (lt_b rfl) (fun w hI => H_only hI (qthere0_any ((hI.keep 6).1))) ?_
  refine SL.as ?_
  refine SL.nl ?_
  refine SC.seq ?_
  refine SC.sr ?_
  refine SL.mv ?_
  refine SL.uu (ru_eq (b := (((thereF M.ps0 k) : Int) == 0)) rfl rfl rfl rfl) ?_
  refine SL.nl ?_
  refine SC.both (((thereF M.ps0 k) : Int) == 0) rfl (fun h1 => ?_) (fun h1 => ?_)
  · skip
    have hth : thereF M.ps0 k = 0 := eq_t h1
    obtain ⟨hk0, hk1, ⟨⟨vx, x⟩, hx⟩⟩ := there_get hth
    have hk : 0 ≤ k ∧ k < (M.ps0.length : Int) := ⟨hk0, hk1⟩
    obtain ⟨hxb, hxF, xa, xc, hxv⟩ := hM.form0 h _ (List.mem_of_getElem? hx)
    have hxf : M.fs vx x.f := hM.f0 _ (List.mem_of_getElem? hx)
    dsimp only at hxv hxb hxF
    subst hxv
    have ex : (S.L false).getD k.toNat fm0 = x := by show S.L0.getD k.toNat fm0 = x; rw [← hM.l0, List.getD_eq_getElem?_getD, List.getElem?_map, hx]; rfl
    refine SC.region_mk_tail 12 [(9, Mk.rowN ⟨28, w, M.G wd d0 d1⟩ (outF M.ps0 k).length (oRows (outF M.ps0 k)) 46 3)] [] rfl rfl (by kernel_rfl) (by kernel_rfl) (by kernel_rfl) ?_
    refine SM.uu (ru_move rfl rfl) ?_
    refine SM.uu (ru_move rfl rfl) ?_
    refine SM.uu (ru_move rfl rfl) ?_
    refine SM.uu (ru_move rfl rfl) ?_
    refine SM.uu (ru_nilCheck rfl rfl) ?_
    refine SM.uu (ru_fieldAddr (o2 := 2) fd92_1 rfl rfl rfl) ?_
    refine SM.uu (ru_indexA (o2 := 2) ar75 rfl rfl rfl (by decide) (by decide) rfl) ?_
    refine SM.uu (ru_load (i := 0) ts56 rfl rfl rfl rfl) ?_
    refine SM.uu (ru_move rfl rfl) ?_
    refine SM.mkcall (s := Mk.rowN ⟨28, w, M.G wd d0 d1⟩ (outF M.ps0 k).length (oRows (outF M.ps0 k)) 46 3) rfl rfl rfl rfl (w_all rfl) rfl (lt_b rfl) rfl rfl rfl co61 rfl rfl (fun l' w hI => (qout_any (ps := M.ps0) (k := k) (hM.sl0 h) (by omega) hk.1 (hI.reo [3] (by decide)).1).mono fun e w2 ⟨q, c, h1, h2, h3, h4⟩ => ⟨_, h1, ⟨q, c, fun b hb => Nat.le_trans hI.2.size (h3 b hb), rfl⟩, hI.add (r := rRowN (.slice q _ c) _ 46 3) h4 h2 h3⟩) ?_
    rintro _ ⟨q2, c3, hq2, rfl⟩
    refine SM.uu (ru_nilCheck rfl rfl) ?_
    refine SM.uu (ru_fieldAddr (o2 := 2) fd92_1 rfl rfl rfl) ?_
    refine SM.nilL (l' := [rB wd d0 d1 M S.now 92, rDv 100 d0 M.fs S.A0, rDv 100 d1 M.fs S.A1, rR0 M 46, rR1 M 46, rZ M.F M.fs, rRowN (.slice q2 ((outF M.ps0 k).length) c3) (oRows (outF M.ps0 k)) 46 3]) rfl ?_
    refine SL.ia 2 ar75 ?_
    refine SL.store (i := 0) (c' := [pt d0 0, pt d1 0, Value.slice q2 ((outF M.ps0 k).length) c3, Value.slice M.q1 M.ps1.length M.c1, iw S.now]) rfl rfl ts56 rfl rfl rfl rfl rfl (lt_b rfl) (.inl (.inl rfl)) rfl ?_
    refine SL.nil ?_
    refine SE.reo [0, 1, 2, 6, 4, 5] [rBlk wd [pt d0 0, pt d1 0, Value.slice q2 ((outF M.ps0 k).length) c3, Value.slice M.q1 M.ps1.length M.c1, iw S.now] 92, rDv 100 d0 M.fs S.A0, rDv 100 d1 M.fs S.A1, rRowN (.slice q2 ((outF M.ps0 k).length) c3) (oRows (outF M.ps0 k)) 46 3, rR1 M 46, rZ M.F M.fs] (by decide) rfl ?_
    refine SC.of_SE ?_
    refine SC.sr ?_
    refine SL.mv ?_
    refine SL.as ?_
    refine SL.nl ?_
    refine SC.ret ?_
    refine SE.res (.inl rfl) (res1 Try.results42 rfl) fun w1 hI => ?_
    have eT : thereF (S.L false) k = thereF M.ps0 k := by show thereF S.L0 k = _; rw [← hM.l0, there_map]
    have ew : dropF S false k = (thereF M.ps0 k, S.setL false (outF S.L0 k)) := by unfold dropF; simp only [eT]; rw [if_pos h1]; rfl
    rw [ew]
    exact ⟨rfl, { M with q0 := q2, c0 := c3, ps0 := outF M.ps0 k }, ⟨(hI.keep 6).1, ⟨(hM.out0 k).f0, (hM.out0 k).f1, (hM.out0 k).l0, (hM.out0 k).l1⟩, fun v f h => h, fun b hb => WM.K.new0 hb (fun b hb => .inl hb) (fun b hb => .inr (hq2 b hb)), hI.2⟩⟩
  refine SC.skip ?_
  refine SC.of_SE ?_
  refine SC.sr ?_
  refine SL.mv ?_
  refine SL.as ?_
  refine SL.nl ?_
  refine SC.ret ?_
  refine SE.res (.inl rfl) (res1 Try.results42 rfl) fun w1 hI => ?_
  have eT : thereF (S.L false) k = thereF M.ps0 k := by show thereF S.L0 k = _; rw [← hM.l0, there_map]
  have ew : dropF S false k = (thereF M.ps0 k, S) := by unfold dropF; simp only [eT]; rw [if_neg (not_t h1)]
  rw [ew]
  exact ⟨rfl, M, WTo.same (hI.keep 6).1 hM hI.2⟩
theorem qdrop1_any {w : World} {wd d0 d1 : Nat} {M : WM} {S : Wi} {k : Int} (hM : M.Ok S) (hn : M.ps1.length ≤ 3000000000000) (h : Sep w (WLm 100 92 46 wd d0 d1 M S.A0 S.A1 S.now)) : Calls Try.prog 42 #[pt wd 0, iw 1, iw k] w fun e w' => e = .returned (iw (dropF S true k).1) ∧ ∃ M', WTo 100 92 46 w wd d0 d1 M M' (dropF S true k).2 w' := by
  refine calls_sc (l0 := (WLm 100 92 46 wd d0 d1 M S.A0 S.A1 S.now)) (args := [pt wd 0, iw 1, iw k]) (M.G wd d0 d1) Try.func42 rfl 28 Try.ntmps42 (le_b rfl) ⟨h, Only.refl _ _⟩ ?_
  show SC _ _ _ _ [(0, pt wd 0), (1, iw 1), (2, iw k)] (WLm 100 92 46 wd d0 d1 M S.A0 S.A1 S.now)
  refine SC.sr ?_
  refine SL.as ?_
  refine SL.nl ?_
  refine SC.sr ?_
  refine SL.mv ?_
  refine SL.mv ?_
  refine SL.mv ?_
  refine SL.callv (iw (thereF M.ps1 k)) rfl rfl co60 rfl rfl rfl (lt_b rfl) (fun w hI => H_only hI (qthere1_any ((hI.keep 6).1))) ?_
  refine SL.as ?_
  refine SL.nl ?_
  refine SC.seq ?_
  refine SC.sr ?_
  refine SL.mv ?_
  refine SL.uu (ru_eq (b := (((thereF M.ps1 k) : Int) == 0)) rfl rfl rfl rfl) ?_
  refine SL.nl ?_
  refine SC.both (((thereF M.ps1 k) : Int) == 0) rfl (fun h1 => ?_) (fun h1 => ?_)
  · skip
    have hth : thereF M.ps1 k = 0 := eq_t h1
    obtain ⟨hk0, hk1, ⟨⟨vx, x⟩, hx⟩⟩ := there_get hth
    have hk : 0 ≤ k ∧ k < (M.ps1.length : Int) := ⟨hk0, hk1⟩
    obtain ⟨hxb, hxF, xa, xc, hxv⟩ := hM.form1 h _ (List.mem_of_getElem? hx)
    have hxf : M.fs vx x.f := hM.f1 _ (List.mem_of_getElem? hx)
    dsimp only at hxv hxb hxF
    subst hxv
    have ex : (S.L true).getD k.toNat fm0 = x := by show S.L1.getD k.toNat fm0 = x; rw [← hM.l1, List.getD_eq_getElem?_getD, List.getElem?_map, hx]; rfl
    refine SC.region_mk_tail 12 [(9, Mk.rowN ⟨28, w, M.G wd d0 d1⟩ (outF M.ps1 k).length (oRows (outF M.ps1 k)) 46 3)] [] rfl rfl (by kernel_rfl) (by kernel_rfl) (by kernel_rfl) ?_
    refine SM.uu (ru_move rfl rfl) ?_
    refine SM.uu (ru_move rfl rfl) ?_
    refine SM.uu (ru_move rfl rfl) ?_
    refine SM.uu (ru_move rfl rfl) ?_
    refine SM.uu (ru_nilCheck rfl rfl) ?_
    refine SM.uu (ru_fieldAddr (o2 := 2) fd92_1 rfl rfl rfl) ?_
    refine SM.uu (ru_indexA (o2 := 3) ar75 rfl rfl rfl (by decide) (by decide) rfl) ?_
    refine SM.uu (ru_load (i := 0) ts56 rfl rfl rfl rfl) ?_
    refine SM.uu (ru_move rfl rfl) ?_
    refine SM.mkcall (s := Mk.rowN ⟨28, w, M.G wd d0 d1⟩ (outF M.ps1 k).length (oRows (outF M.ps1 k)) 46 3) rfl rfl rfl rfl (w_all rfl) rfl (lt_b rfl) rfl rfl rfl co61 rfl rfl (fun l' w hI => (qout_any (ps := M.ps1) (k := k) (hM.sl1 h) (by omega) hk.1 (hI.reo [4] (by decide)).1).mono fun e w2 ⟨q, c, h1, h2, h3, h4⟩ => ⟨_, h1, ⟨q, c, fun b hb => Nat.le_trans hI.2.size (h3 b hb), rfl⟩, hI.add (r := rRowN (.slice q _ c) _ 46 3) h4 h2 h3⟩) ?_
    rintro _ ⟨q2, c3, hq2, rfl⟩
    refine SM.uu (ru_nilCheck rfl rfl) ?_
    refine SM.uu (ru_fieldAddr (o2 := 2) fd92_1 rfl rfl rfl) ?_
    refine SM.nilL (l' := [rB wd d0 d1 M S.now 92, rDv 100 d0 M.fs S.A0, rDv 100 d1 M.fs S.A1, rR0 M 46, rR1 M 46, rZ M.F M.fs, rRowN (.slice q2 ((outF M.ps1 k).length) c3) (oRows (outF M.ps1 k)) 46 3]) rfl ?_
    refine SL.ia 3 ar75 ?_
    refine SL.store (i := 0) (c' := [pt d0 0, pt d1 0, Value.slice M.q0 M.ps0.length M.c0, Value.slice q2 ((outF M.ps1 k).length) c3, iw S.now]) rfl rfl ts56 rfl rfl rfl rfl rfl (lt_b rfl) (.inl (.inl rfl)) rfl ?_
    refine SL.nil ?_
    refine SE.reo [0, 1, 2, 3, 6, 5] [rBlk wd [pt d0 0, pt d1 0, Value.slice M.q0 M.ps0.length M.c0, Value.slice q2 ((outF M.ps1 k).length) c3, iw S.now] 92, rDv 100 d0 M.fs S.A0, rDv 100 d1 M.fs S.A1, rR0 M 46, rRowN (.slice q2 ((outF M.ps1 k).length) c3) (oRows (outF M.ps1 k)) 46 3, rZ M.F M.fs] (by decide) rfl ?_
    refine SC.of_SE ?_
    refine SC.sr ?_
    refine SL.mv ?_
    refine SL.as ?_
    refine SL.nl ?_
    refine SC.ret ?_
    refine SE.res (.inl rfl) (res1 Try.results42 rfl) fun w1 hI => ?_
    have eT : thereF (S.L true) k = thereF M.ps1 k := by show thereF S.L1 k = _; rw [← hM.l1, there_map]
    have ew : dropF S true k = (thereF M.ps1 k, S.setL true (outF S.L1 k)) := by unfold dropF; simp only [eT]; rw [if_pos h1]; rfl
    rw [ew]
    exact ⟨rfl, { M with q1 := q2, c1 := c3, ps1 := outF M.ps1 k }, ⟨(hI.keep 6).1, ⟨(hM.out1 k).f0, (hM.out1 k).f1, (hM.out1 k).l0, (hM.out1 k).l1⟩, fun v f h => h, fun b hb => WM.K.new1 hb (fun b hb => .inl hb) (fun b hb => .inr (hq2 b hb)), hI.2⟩⟩
  refine SC.skip ?_
  refine SC.of_SE ?_
  refine SC.sr ?_
  refine SL.mv ?_
  refine SL.as ?_
  refine SL.nl ?_
  refine SC.ret ?_
  refine SE.res (.inl rfl) (res1 Try.results42 rfl) fun w1 hI => ?_
  have eT : thereF (S.L true) k = thereF M.ps1 k := by show thereF S.L1 k = _; rw [← hM.l1, there_map]
  have ew : dropF S true k = (thereF M.ps1 k, S) := by unfold dropF; simp only [eT]; rw [if_neg (not_t h1)]
  rw [ew]
  exact ⟨rfl, M, WTo.same (hI.keep 6).1 hM hI.2⟩
theorem qdropX_any {w : World} {wd : Nat} {dir : Int} {k : Int} (hd : isD dir = false) : Calls Try.prog 42 #[pt wd 0, iw dir, iw k] w fun e w' => e = .returned (iw 1) ∧ Only (fun _ => False) w w' := by
  refine calls_sc (l0 := []) (args := [pt wd 0, iw dir, iw k]) (fun _ => False) Try.func42 rfl 28 Try.ntmps42 (le_b rfl) ⟨⟨by simp, List.Pairwise.nil⟩, Only.refl _ _⟩ ?_
  show SC _ _ _ _ [(0, pt wd 0), (1, iw dir), (2, iw k)] []
  refine SC.sr ?_
  refine SL.as ?_
  refine SL.nl ?_
  refine SC.sr ?_
  refine SL.mv ?_
  refine SL.mv ?_
  refine SL.mv ?_
  refine SL.callv (iw 1) rfl rfl co60 rfl rfl rfl (lt_b rfl) (fun w hI => H_only hI (qthereX_any hd)) ?_
  refine SL.as ?_
  refine SL.nl ?_
  refine SC.seq ?_
  refine SC.sr ?_
  refine SL.mv ?_
  refine SL.uu (ru_eq (b := false) rfl rfl rfl rfl) ?_
  refine SL.nl ?_
  refine SC.no rfl ?_
  refine SC.skip ?_
  refine SC.of_SE ?_
  refine SC.sr ?_
  refine SL.mv ?_
  refine SL.as ?_
  refine SL.nl ?_
  refine SC.ret ?_
  refine SE.res (.inl rfl) (res1 Try.results42 rfl) fun w1 hI => ⟨rfl, hI.2⟩

end Go.Proofs.Ytcilikkljkdceaa

/-
  The document's Double.
-/
namespace Go.Proofs.Ytcilikkljkdceaa
open Go.RowKit
set_option maxRecDepth 100000
set_option maxHeartbeats 4000000
theorem qdouble0_any {w : World} {wd d0 d1 : Nat} {M : WM} {S : Wi} {k : Int} (hM : M.Ok S) (hn : M.ps0.length ≤ 3000000000000) (h : Sep w (WLm 100 92 46 wd d0 d1 M S.A0 S.A1 S.now)) : Calls Try.prog 43 #[pt wd 0, iw 0, iw k] w fun e w' => e = .returned (iw (doubleF S false k).1) ∧ ∃ M', WTo 100 92 46 w wd d0 d1 M M' (doubleF S false k).2 w' := by
  refine calls_sc (l0 := (WLm 100 92 46 wd d0 d1 M S.A0 S.A1 S.now)) (args := [pt wd 0, iw 0, iw k]) (M.G wd d0 d1) Try.func43 rfl 37 Try.ntmps43 (le_b rfl) ⟨h, Only.refl _ _⟩ ?_
  show SC _ _ _ _ [(0, pt wd 0), (1, iw 0), (2, iw k)] (WLm 100 92 46 wd d0 d1 M S.A0 S.A1 S.now)
  refine SC.sr ?_
  refine SL.as ?_
  refine SL.nl ?_
  refine SC.sr ?_
  refine SL.mv ?_
  refine SL.mv ?_
  refine SL.mv ?_
  refine SL.callv (iw (thereF M.ps0 k)) rfl rfl co60 rfl rfl rfl (lt_b rfl) (fun w hI => H_only hI (qthere0_any ((hI.keep 6).1))) ?_
  refine SL.as ?_
  refine SL.nl ?_
  refine SC.seq ?_
  refine SC.sr ?_
  refine SL.mv ?_
  refine SL.uu (ru_eq (b := (((thereF M.ps0 k) : Int) == 0)) rfl rfl rfl rfl) ?_
  refine SL.nl ?_
  refine SC.both (((thereF M.ps0 k) : Int) == 0) rfl (fun h1 => ?_) (fun h1 => ?_)
  · skip
    have hth : thereF M.ps0 k = 0 := eq_t h1
    obtain ⟨hk0, hk1, ⟨⟨vx, x⟩, hx⟩⟩ := there_get hth
    have hk : 0 ≤ k ∧ k < (M.ps0.length : Int) := ⟨hk0, hk1⟩
    obtain ⟨hxb, hxF, xa, xc, hxv⟩ := hM.form0 h _ (List.mem_of_getElem? hx)
    have hxf : M.fs vx x.f := hM.f0 _ (List.mem_of_getElem? hx)
    dsimp only at hxv hxb hxF
    subst hxv
    have ex : (S.L false).getD k.toNat fm0 = x := by show S.L0.getD k.toNat fm0 = x; rw [← hM.l0, List.getD_eq_getElem?_getD, List.getElem?_map, hx]; rfl
    refine SC.region_any (by kernel_rfl) ?_
    refine SA.take 0 rfl (by kernel_rfl) (by kernel_rfl) (by kernel_rfl) rfl rfl (lt_b rfl) (fun _ => ru_move rfl rfl) ?_
    refine SA.take 1 rfl (by kernel_rfl) (by kernel_rfl) (by kernel_rfl) rfl rfl (lt_b rfl) (fun _ => ru_move rfl rfl) ?_
    refine SA.take 2 rfl (by kernel_rfl) (by kernel_rfl) (by kernel_rfl) rfl rfl (lt_b rfl) (fun _ => ru_move rfl rfl) ?_
    refine SA.take 3 rfl (by kernel_rfl) (by kernel_rfl) (by kernel_rfl) rfl rfl (lt_b rfl) (fun _ => ru_move rfl rfl) ?_
    refine SA.take 4 rfl (by kernel_rfl) (by kernel_rfl) (by kernel_rfl) rfl rfl (lt_b rfl) (fun _ => ru_nilCheck rfl rfl) ?_
    refine SA.take 5 rfl (by kernel_rfl) (by kernel_rfl) (by kernel_rfl) rfl rfl (lt_b rfl) (fun _ => ru_fieldAddr (o2 := 2) fd92_1 rfl rfl rfl) ?_
    refine SA.take 6 rfl (by kernel_rfl) (by kernel_rfl) (by kernel_rfl) rfl rfl (lt_b rfl) (fun _ => ru_indexA (o2 := 2) ar75 rfl rfl rfl (by decide) (by decide) rfl) ?_
    refine SA.take 8 rfl (by kernel_rfl) (by kernel_rfl) (by kernel_rfl) rfl rfl (lt_b rfl) (fun _ => ru_move rfl rfl) ?_
    refine SA.take 9 rfl (by kernel_rfl) (by kernel_rfl) (by kernel_rfl) rfl rfl (lt_b rfl) (fun _ => ru_move rfl rfl) ?_
    refine SA.take 10 rfl (by kernel_rfl) (by kernel_rfl) (by kernel_rfl) rfl rfl (lt_b rfl) (fun _ => ru_nilCheck rfl rfl) ?_
    refine SA.take 11 rfl (by kernel_rfl) (by kernel_rfl) (by kernel_rfl) rfl rfl (lt_b rfl) (fun _ => ru_fieldAddr (o2 := 2) fd92_1 rfl rfl rfl) ?_
    refine SA.take 12 rfl (by kernel_rfl) (by kernel_rfl) (by kernel_rfl) rfl rfl (lt_b rfl) (fun _ => ru_indexA (o2 := 2) ar75 rfl rfl rfl (by decide) (by decide) rfl) ?_
    refine SA.take 14 rfl (by kernel_rfl) (by kernel_rfl) (by kernel_rfl) rfl rfl (lt_b rfl) (fun _ => ru_move rfl rfl) ?_
    refine SA.take 19 rfl (by kernel_rfl) (by kernel_rfl) (by kernel_rfl) rfl rfl (lt_b rfl) (fun _ => ru_nilCheck rfl rfl) ?_
    refine SA.take 20 rfl (by kernel_rfl) (by kernel_rfl) (by kernel_rfl) rfl rfl (lt_b rfl) (fun _ => ru_fieldAddr (o2 := 2) fd92_1 rfl rfl rfl) ?_
    refine SA.lets (ζ := Nat) (fun b2 => [(6, iw 0), (7, iw (thereF M.ps0 k)), (14, pt wd 0), (15, iw 0), (16, pt wd 0), (17, iw 0), (18, pt wd 0), (19, pt wd 2), (20, pt wd 2), (21, Value.slice M.q0 M.ps0.length M.c0), (22, pt wd 0), (23, iw 0), (24, pt wd 0), (25, pt wd 2), (26, pt wd 2), (27, Value.slice M.q0 M.ps0.length M.c0), (28, iw k), (29, Value.pointer (some ⟨rowB M.q0, k.toNat * 3, none⟩)), (30, Value.agg #[Value.slice xa x.f.length xc, bo x.bad, iw x.tick]), (31, sl b2 0 1 1), (33, pt wd 0), (34, pt wd 2)]) (fun b2 => [rB wd d0 d1 M S.now 92, rDv 100 d0 M.fs S.A0, rDv 100 d1 M.fs S.A1, rR0 M 46, rR1 M 46, rZ M.F M.fs, rBlk b2 [Value.slice xa x.f.length xc, bo x.bad, iw x.tick] 46]) (fun b2 => w.heap.size ≤ b2) 3 #[true, true, true, true, true, true, true, true, true, true, true, true, true, true, true, true, true, true, false, true, true, false, false] ?_ ?_
    · intro b2 hb2
      refine SA.one 18 rfl (by kernel_rfl) ?_
      refine SL.append_rowN (ri := 3) (rj := 6) (size := 3) (r := [Value.slice xa x.f.length xc, bo x.bad, iw x.tick]) (z := Value.agg #[Value.slice none 0 0, bo false, iw 0]) (bytes := 40) rfl rfl (lt_b rfl) rfl (by decide) Try.underlying56 (by kernel_rfl) rfl rfl rfl rfl rfl rfl rfl (by rw [List.length_map]; omega) (by unfold maxLen; rw [List.length_map]; omega) (fun b hb => .inl (.inr (.inr (.inr (.inl hb))))) fun q3 c4 hq5 => ?_
      refine SL.nil ?_
      refine SA.se ?_
      refine SA.take 21 rfl (by kernel_rfl) (by kernel_rfl) (by kernel_rfl) rfl rfl (lt_b rfl) (fun _ => ru_indexA (o2 := 2) ar75 rfl rfl rfl (by decide) (by decide) rfl) ?_
      refine SA.one 22 rfl (by kernel_rfl) ?_
      refine SL.store (i := 0) (c' := [pt d0 0, pt d1 0, Value.slice q3 (M.ps0.length + 1) c4, Value.slice M.q1 M.ps1.length M.c1, iw S.now]) rfl rfl ts56 rfl rfl rfl rfl rfl (lt_b rfl) (.inl (.inl rfl)) rfl ?_
      refine SL.nil ?_
      refine SA.se ?_
      refine SA.done (by kernel_rfl) ?_
      refine SC.of_SE ?_
      refine SC.sr ?_
      refine SL.mv ?_
      refine SL.as ?_
      refine SL.nl ?_
      refine SC.ret ?_
      have er : oRows (M.ps0 ++ [⟨.slice xa x.f.length xc, x⟩]) = oRows M.ps0 ++ [[Value.slice xa x.f.length xc, bo x.bad, iw x.tick]] := List.map_append
      have el : (M.ps0 ++ [(⟨.slice xa x.f.length xc, x⟩ : FmV)]).length = M.ps0.length + 1 := by rw [List.length_append]; rfl
      refine SE.res (.inl rfl) (res1 Try.results43 rfl) fun w1 hI => ?_
      have eT : thereF (S.L false) k = thereF M.ps0 k := by show thereF S.L0 k = _; rw [← hM.l0, there_map]
      have ew : doubleF S false k = (thereF M.ps0 k, S.setL false (S.L0 ++ [x])) := by unfold doubleF; simp only [eT]; rw [if_pos h1, ex]; rfl
      rw [← er, ← el] at hI
      rw [ew]
      exact ⟨rfl, { M with q0 := q3, c0 := c4, ps0 := M.ps0 ++ [⟨.slice xa x.f.length xc, x⟩] }, ⟨(hI.keep 6).1, hM.app0 (y := ⟨.slice xa x.f.length xc, x⟩) (fun _ _ h => h) _ _ hxf, fun v f h => h, fun b hb => WM.K.new0 hb (fun b hb => .inl hb) hq5, hI.2⟩⟩
    · intro hj2
      refine SA.two 7 13 rfl rfl (by kernel_rfl) ?_ ?_
      · skip
        refine SL.ld 0 ts56 ?_
        refine SL.nil ?_
        refine SA.se ?_
        refine SA.one 13 rfl (by kernel_rfl) ?_
        refine SL.ld 0 ts56 ?_
        refine SL.nil ?_
        refine SA.se ?_
        refine SA.one 15 rfl (by kernel_rfl) ?_
        refine SL.uu (ru_index_rowN (ri := 3) si56 rfl rfl rfl rfl (by omega) (by omega)) ?_
        refine SL.nil ?_
        refine SA.se ?_
        refine SA.one 16 rfl (by kernel_rfl) ?_
        refine SL.uu (ru_loada_rowN (ri := 3) (i := k.toNat) (r := [Value.slice xa x.f.length xc, bo x.bad, iw x.tick]) ta46 rfl rfl rfl (by show (M.ps0.map FmV.row)[_]? = _; rw [List.getElem?_map, hx]; rfl) rfl rfl) ?_
        refine SL.nil ?_
        refine SA.se ?_
        refine SA.one 17 rfl (by kernel_rfl) ?_
        refine SL.buildSlice (size := 3) (vals := [(0, Value.agg #[Value.slice xa x.f.length xc, bo x.bad, iw x.tick])]) (z := [Value.slice none 0 0, bo false, iw 0]) (cs := [Value.slice xa x.f.length xc, bo x.bad, iw x.tick]) rfl rfl (lt_b rfl) rfl Try.underlying56 (by kernel_rfl) rfl rfl (by kernel_rfl) fun b6 hb6 => ?_
        refine SL.nil ?_
        refine SA.se ?_
        exact SA.norm [(6, iw 0), (7, iw (thereF M.ps0 k)), (14, pt wd 0), (15, iw 0), (16, pt wd 0), (17, iw 0), (18, pt wd 0), (19, pt wd 2), (20, pt wd 2), (21, Value.slice M.q0 M.ps0.length M.c0), (22, pt wd 0), (23, iw 0), (24, pt wd 0), (25, pt wd 2), (26, pt wd 2), (27, Value.slice M.q0 M.ps0.length M.c0), (28, iw k), (29, Value.pointer (some ⟨rowB M.q0, k.toNat * 3, none⟩)), (30, Value.agg #[Value.slice xa x.f.length xc, bo x.bad, iw x.tick]), (31, sl b6 0 1 1), (33, pt wd 0), (34, pt wd 2)] [rBlk wd [pt d0 0, pt d1 0, Value.slice M.q0 M.ps0.length M.c0, Value.slice M.q1 M.ps1.length M.c1, iw S.now] 92, rDv 100 d0 M.fs S.A0, rDv 100 d1 M.fs S.A1, rRowN (.slice M.q0 M.ps0.length M.c0) (oRows M.ps0) 46 3, rRowN (.slice M.q1 M.ps1.length M.c1) (oRows M.ps1) 46 3, rZ M.F M.fs, rBlk b6 [Value.slice xa x.f.length xc, bo x.bad, iw x.tick] 46] ⟨rfl, rfl, rfl, rfl, rfl, rfl, rfl, rfl, rfl, rfl, rfl, rfl, rfl, rfl, rfl, rfl, rfl, rfl, rfl, rfl, rfl, rfl, trivial⟩ rfl (SA.same (by kernel_rfl) (hj2 b6 hb6))
      refine SL.ld 0 ts56 ?_
      refine SL.nil ?_
      refine SA.se ?_
      refine SA.two 7 15 rfl rfl (by kernel_rfl) ?_ ?_
      · skip
        refine SL.ld 0 ts56 ?_
        refine SL.nil ?_
        refine SA.se ?_
        refine SA.one 15 rfl (by kernel_rfl) ?_
        refine SL.uu (ru_index_rowN (ri := 3) si56 rfl rfl rfl rfl (by omega) (by omega)) ?_
        refine SL.nil ?_
        refine SA.se ?_
        refine SA.one 16 rfl (by kernel_rfl) ?_
        refine SL.uu (ru_loada_rowN (ri := 3) (i := k.toNat) (r := [Value.slice xa x.f.length xc, bo x.bad, iw x.tick]) ta46 rfl rfl rfl (by show (M.ps0.map FmV.row)[_]? = _; rw [List.getElem?_map, hx]; rfl) rfl rfl) ?_
        refine SL.nil ?_
        refine SA.se ?_
        refine SA.one 17 rfl (by kernel_rfl) ?_
        refine SL.buildSlice (size := 3) (vals := [(0, Value.agg #[Value.slice xa x.f.length xc, bo x.bad, iw x.tick])]) (z := [Value.slice none 0 0, bo false, iw 0]) (cs := [Value.slice xa x.f.length xc, bo x.bad, iw x.tick]) rfl rfl (lt_b rfl) rfl Try.underlying56 (by kernel_rfl) rfl rfl (by kernel_rfl) fun b7 hb7 => ?_
        refine SL.nil ?_
        refine SA.se ?_
        exact SA.norm [(6, iw 0), (7, iw (thereF M.ps0 k)), (14, pt wd 0), (15, iw 0), (16, pt wd 0), (17, iw 0), (18, pt wd 0), (19, pt wd 2), (20, pt wd 2), (21, Value.slice M.q0 M.ps0.length M.c0), (22, pt wd 0), (23, iw 0), (24, pt wd 0), (25, pt wd 2), (26, pt wd 2), (27, Value.slice M.q0 M.ps0.length M.c0), (28, iw k), (29, Value.pointer (some ⟨rowB M.q0, k.toNat * 3, none⟩)), (30, Value.agg #[Value.slice xa x.f.length xc, bo x.bad, iw x.tick]), (31, sl b7 0 1 1), (33, pt wd 0), (34, pt wd 2)] [rBlk wd [pt d0 0, pt d1 0, Value.slice M.q0 M.ps0.length M.c0, Value.slice M.q1 M.ps1.length M.c1, iw S.now] 92, rDv 100 d0 M.fs S.A0, rDv 100 d1 M.fs S.A1, rRowN (.slice M.q0 M.ps0.length M.c0) (oRows M.ps0) 46 3, rRowN (.slice M.q1 M.ps1.length M.c1) (oRows M.ps1) 46 3, rZ M.F M.fs, rBlk b7 [Value.slice xa x.f.length xc, bo x.bad, iw x.tick] 46] ⟨rfl, rfl, rfl, rfl, rfl, rfl, rfl, rfl, rfl, rfl, rfl, rfl, rfl, rfl, rfl, rfl, rfl, rfl, rfl, rfl, rfl, rfl, trivial⟩ rfl (SA.same (by kernel_rfl) (hj2 b7 hb7))
      refine SL.uu (ru_index_rowN (ri := 3) si56 rfl rfl rfl rfl (by omega) (by omega)) ?_
      refine SL.nil ?_
      refine SA.se ?_
      refine SA.two 7 16 rfl rfl (by kernel_rfl) ?_ ?_
      · skip
        refine SL.ld 0 ts56 ?_
        refine SL.nil ?_
        refine SA.se ?_
        refine SA.one 16 rfl (by kernel_rfl) ?_
        refine SL.uu (ru_loada_rowN (ri := 3) (i := k.toNat) (r := [Value.slice xa x.f.length xc, bo x.bad, iw x.tick]) ta46 rfl rfl rfl (by show (M.ps0.map FmV.row)[_]? = _; rw [List.getElem?_map, hx]; rfl) rfl rfl) ?_
        refine SL.nil ?_
        refine SA.se ?_
        refine SA.one 17 rfl (by kernel_rfl) ?_
        refine SL.buildSlice (size := 3) (vals := [(0, Value.agg #[Value.slice xa x.f.length xc, bo x.bad, iw x.tick])]) (z := [Value.slice none 0 0, bo false, iw 0]) (cs := [Value.slice xa x.f.length xc, bo x.bad, iw x.tick]) rfl rfl (lt_b rfl) rfl Try.underlying56 (by kernel_rfl) rfl rfl (by kernel_rfl) fun b8 hb8 => ?_
        refine SL.nil ?_
        refine SA.se ?_
        exact SA.norm [(6, iw 0), (7, iw (thereF M.ps0 k)), (14, pt wd 0), (15, iw 0), (16, pt wd 0), (17, iw 0), (18, pt wd 0), (19, pt wd 2), (20, pt wd 2), (21, Value.slice M.q0 M.ps0.length M.c0), (22, pt wd 0), (23, iw 0), (24, pt wd 0), (25, pt wd 2), (26, pt wd 2), (27, Value.slice M.q0 M.ps0.length M.c0), (28, iw k), (29, Value.pointer (some ⟨rowB M.q0, k.toNat * 3, none⟩)), (30, Value.agg #[Value.slice xa x.f.length xc, bo x.bad, iw x.tick]), (31, sl b8 0 1 1), (33, pt wd 0), (34, pt wd 2)] [rBlk wd [pt d0 0, pt d1 0, Value.slice M.q0 M.ps0.length M.c0, Value.slice M.q1 M.ps1.length M.c1, iw S.now] 92, rDv 100 d0 M.fs S.A0, rDv 100 d1 M.fs S.A1, rRowN (.slice M.q0 M.ps0.length M.c0) (oRows M.ps0) 46 3, rRowN (.slice M.q1 M.ps1.length M.c1) (oRows M.ps1) 46 3, rZ M.F M.fs, rBlk b8 [Value.slice xa x.f.length xc, bo x.bad, iw x.tick] 46] ⟨rfl, rfl, rfl, rfl, rfl, rfl, rfl, rfl, rfl, rfl, rfl, rfl, rfl, rfl, rfl, rfl, rfl, rfl, rfl, rfl, rfl, rfl, trivial⟩ rfl (SA.same (by kernel_rfl) (hj2 b8 hb8))
      refine SL.uu (ru_loada_rowN (ri := 3) (i := k.toNat) (r := [Value.slice xa x.f.length xc, bo x.bad, iw x.tick]) ta46 rfl rfl rfl (by show (M.ps0.map FmV.row)[_]? = _; rw [List.getElem?_map, hx]; rfl) rfl rfl) ?_
      refine SL.nil ?_
      refine SA.se ?_
      refine SA.two 7 17 rfl rfl (by kernel_rfl) ?_ ?_
      · skip
        refine SL.ld 0 ts56 ?_
        refine SL.nil ?_
        refine SA.se ?_
        refine SA.one 17 rfl (by kernel_rfl) ?_
        refine SL.buildSlice (size := 3) (vals := [(0, Value.agg #[Value.slice xa x.f.length xc, bo x.bad, iw x.tick])]) (z := [Value.slice none 0 0, bo false, iw 0]) (cs := [Value.slice xa x.f.length xc, bo x.bad, iw x.tick]) rfl rfl (lt_b rfl) rfl Try.underlying56 (by kernel_rfl) rfl rfl (by kernel_rfl) fun b9 hb9 => ?_
        refine SL.nil ?_
        refine SA.se ?_
        exact SA.norm [(6, iw 0), (7, iw (thereF M.ps0 k)), (14, pt wd 0), (15, iw 0), (16, pt wd 0), (17, iw 0), (18, pt wd 0), (19, pt wd 2), (20, pt wd 2), (21, Value.slice M.q0 M.ps0.length M.c0), (22, pt wd 0), (23, iw 0), (24, pt wd 0), (25, pt wd 2), (26, pt wd 2), (27, Value.slice M.q0 M.ps0.length M.c0), (28, iw k), (29, Value.pointer (some ⟨rowB M.q0, k.toNat * 3, none⟩)), (30, Value.agg #[Value.slice xa x.f.length xc, bo x.bad, iw x.tick]), (31, sl b9 0 1 1), (33, pt wd 0), (34, pt wd 2)] [rBlk wd [pt d0 0, pt d1 0, Value.slice M.q0 M.ps0.length M.c0, Value.slice M.q1 M.ps1.length M.c1, iw S.now] 92, rDv 100 d0 M.fs S.A0, rDv 100 d1 M.fs S.A1, rRowN (.slice M.q0 M.ps0.length M.c0) (oRows M.ps0) 46 3, rRowN (.slice M.q1 M.ps1.length M.c1) (oRows M.ps1) 46 3, rZ M.F M.fs, rBlk b9 [Value.slice xa x.f.length xc, bo x.bad, iw x.tick] 46] ⟨rfl, rfl, rfl, rfl, rfl, rfl, rfl, rfl, rfl, rfl, rfl, rfl, rfl, rfl, rfl, rfl, rfl, rfl, rfl, rfl, rfl, rfl, trivial⟩ rfl (SA.same (by kernel_rfl) (hj2 b9 hb9))
      refine SL.buildSlice (size := 3) (vals := [(0, Value.agg #[Value.slice xa x.f.length xc, bo x.bad, iw x.tick])]) (z := [Value.slice none 0 0, bo false, iw 0]) (cs := [Value.slice xa x.f.length xc, bo x.bad, iw x.tick]) rfl rfl (lt_b rfl) rfl Try.underlying56 (by kernel_rfl) rfl rfl (by kernel_rfl) fun b10 hb10 => ?_
      refine SL.nil ?_
      refine SA.se ?_
      refine SA.one 7 rfl (by kernel_rfl) ?_
      refine SL.ld 0 ts56 ?_
      refine SL.nil ?_
      refine SA.se ?_
      exact SA.norm [(6, iw 0), (7, iw (thereF M.ps0 k)), (14, pt wd 0), (15, iw 0), (16, pt wd 0), (17, iw 0), (18, pt wd 0), (19, pt wd 2), (20, pt wd 2), (21, Value.slice M.q0 M.ps0.length M.c0), (22, pt wd 0), (23, iw 0), (24, pt wd 0), (25, pt wd 2), (26, pt wd 2), (27, Value.slice M.q0 M.ps0.length M.c0), (28, iw k), (29, Value.pointer (some ⟨rowB M.q0, k.toNat * 3, none⟩)), (30, Value.agg #[Value.slice xa x.f.length xc, bo x.bad, iw x.tick]), (31, sl b10 0 1 1), (33, pt wd 0), (34, pt wd 2)] [rBlk wd [pt d0 0, pt d1 0, Value.slice M.q0 M.ps0.length M.c0, Value.slice M.q1 M.ps1.length M.c1, iw S.now] 92, rDv 100 d0 M.fs S.A0, rDv 100 d1 M.fs S.A1, rRowN (.slice M.q0 M.ps0.length M.c0) (oRows M.ps0) 46 3, rRowN (.slice M.q1 M.ps1.length M.c1) (oRows M.ps1) 46 3, rZ M.F M.fs, rBlk b10 [Value.slice xa x.f.length xc, bo x.bad, iw x.tick] 46] ⟨rfl, rfl, rfl, rfl, rfl, rfl, rfl, rfl, rfl, rfl, rfl, rfl, rfl, rfl, rfl, rfl, rfl, rfl, rfl, rfl, rfl, rfl, trivial⟩ rfl (SA.same (by kernel_rfl) (hj2 b10 hb10))
  refine SC.skip ?_
  refine SC.of_SE ?_
  refine SC.sr ?_
  refine SL.mv ?_
  refine SL.as ?_
  refine SL.nl ?_
  refine SC.ret ?_
  refine SE.res (.inl rfl) (res1 Try.results43 rfl) fun w1 hI => ?_
  have eT : thereF (S.L false) k = thereF M.ps0 k := by show thereF S.L0 k = _; rw [← hM.l0, there_map]
  have ew : doubleF S false k = (thereF M.ps0 k, S) := by unfold doubleF; simp only [eT]; rw [if_neg (not_t h1)]
  rw [ew]
  exact ⟨rfl, M, WTo.same (hI.keep 6).1 hM hI.2⟩
theorem qdouble1_any {w : World} {wd d0 d1 : Nat} {M : WM} {S : Wi} {k : Int} (hM : M.Ok S) (hn : M.ps1.length ≤ 3000000000000) (h : Sep w (WLm 100 92 46 wd d0 d1 M S.A0 S.A1 S.now)) : Calls Try.prog 43 #[pt wd 0, iw 1, iw k] w fun e w' => e = .returned (iw (doubleF S true k).1) ∧ ∃ M', WTo 100 92 46 w wd d0 d1 M M' (doubleF S true k).2 w' := by
  refine calls_sc (l0 := (WLm 100 92 46 wd d0 d1 M S.A0 S.A1 S.now)) (args := [pt wd 0, iw 1, iw k]) (M.G wd d0 d1) Try.func43 rfl 37 Try.ntmps43 (le_b rfl) ⟨h, Only.refl _ _⟩ ?_
  show SC _ _ _ _ [(0, pt wd 0), (1, iw 1), (2, iw k)] (WLm 100 92 46 wd d0 d1 M S.A0 S.A1 S.now)
  refine SC.sr ?_
  refine SL.as ?_
  refine SL.nl ?_
  refine SC.sr ?_
  refine SL.mv ?_
  refine SL.mv ?_
  refine SL.mv ?_
  refine SL.callv (iw (thereF M.ps1 k)) rfl rfl co60 rfl rfl rfl (lt_b rfl) (fun w hI => H_only hI (qthere1_any ((hI.keep 6).1))) ?_
  refine SL.as ?_
  refine SL.nl ?_
  refine SC.seq ?_
  refine SC.sr ?_
  refine SL.mv ?_
  refine SL.uu (ru_eq (b := (((thereF M.ps1 k) : Int) == 0)) rfl rfl rfl rfl) ?_
  refine SL.nl ?_
  refine SC.both (((thereF M.ps1 k) : Int) == 0) rfl (fun h1 => ?_) (fun h1 => ?_)
  · skip
    have hth : thereF M.ps1 k = 0 := eq_t h1
    obtain ⟨hk0, hk1, ⟨⟨vx, x⟩, hx⟩⟩ := there_get hth
    have hk : 0 ≤ k ∧ k < (M.ps1.length : Int) := ⟨hk0, hk1⟩
    obtain ⟨hxb, hxF, xa, xc, hxv⟩ := hM.form1 h _ (List.mem_of_getElem? hx)
    have hxf : M.fs vx x.f := hM.f1 _ (List.mem_of_getElem? hx)
    dsimp only at hxv hxb hxF
    subst hxv
    have ex : (S.L true).getD k.toNat fm0 = x := by show S.L1.getD k.toNat fm0 = x; rw [← hM.l1, List.getD_eq_getElem?_getD, List.getElem?_map, hx]; rfl
    refine SC.region_any (by kernel_rfl) ?_
    refine SA.take 0 rfl (by kernel_rfl) (by kernel_rfl) (by kernel_rfl) rfl rfl (lt_b rfl) (fun _ => ru_move rfl rfl) ?_
    refine SA.take 1 rfl (by kernel_rfl) (by kernel_rfl) (by kernel_rfl) rfl rfl (lt_b rfl) (fun _ => ru_move rfl rfl) ?_
    refine SA.take 2 rfl (by kernel_rfl) (by kernel_rfl) (by kernel_rfl) rfl rfl (lt_b rfl) (fun _ => ru_move rfl rfl) ?_
    refine SA.take 3 rfl (by kernel_rfl) (by kernel_rfl) (by kernel_rfl) rfl rfl (lt_b rfl) (fun _ => ru_move rfl rfl) ?_
    refine SA.take 4 rfl (by kernel_rfl) (by kernel_rfl) (by kernel_rfl) rfl rfl (lt_b rfl) (fun _ => ru_nilCheck rfl rfl) ?_
    refine SA.take 5 rfl (by kernel_rfl) (by kernel_rfl) (by kernel_rfl) rfl rfl (lt_b rfl) (fun _ => ru_fieldAddr (o2 := 2) fd92_1 rfl rfl rfl) ?_
    refine SA.take 6 rfl (by kernel_rfl) (by kernel_rfl) (by kernel_rfl) rfl rfl (lt_b rfl) (fun _ => ru_indexA (o2 := 3) ar75 rfl rfl rfl (by decide) (by decide) rfl) ?_
    refine SA.take 8 rfl (by kernel_rfl) (by kernel_rfl) (by kernel_rfl) rfl rfl (lt_b rfl) (fun _ => ru_move rfl rfl) ?_
    refine SA.take 9 rfl (by kernel_rfl) (by kernel_rfl) (by kernel_rfl) rfl rfl (lt_b rfl) (fun _ => ru_move rfl rfl) ?_
    refine SA.take 10 rfl (by kernel_rfl) (by kernel_rfl) (by kernel_rfl) rfl rfl (lt_b rfl) (fun _ => ru_nilCheck rfl rfl) ?_
    refine SA.take 11 rfl (by kernel_rfl) (by kernel_rfl) (by kernel_rfl) rfl rfl (lt_b rfl) (fun _ => ru_fieldAddr (o2 := 2) fd92_1 rfl rfl rfl) ?_
    refine SA.take 12 rfl (by kernel_rfl) (by kernel_rfl) (by kernel_rfl) rfl rfl (lt_b rfl) (fun _ => ru_indexA (o2 := 3) ar75 rfl rfl rfl (by decide) (by decide) rfl) ?_
    refine SA.take 14 rfl (by kernel_rfl) (by kernel_rfl) (by kernel_rfl) rfl rfl (lt_b rfl) (fun _ => ru_move rfl rfl) ?_
    refine SA.take 19 rfl (by kernel_rfl) (by kernel_rfl) (by kernel_rfl) rfl rfl (lt_b rfl) (fun _ => ru_nilCheck rfl rfl) ?_
    refine SA.take 20 rfl (by kernel_rfl) (by kernel_rfl) (by kernel_rfl) rfl rfl (lt_b rfl) (fun _ => ru_fieldAddr (o2 := 2) fd92_1 rfl rfl rfl) ?_
    refine SA.lets (ζ := Nat) (fun b2 => [(6, iw 0), (7, iw (thereF M.ps1 k)), (14, pt wd 0), (15, iw 1), (16, pt wd 0), (17, iw 1), (18, pt wd 0), (19, pt wd 2), (20, pt wd 3), (21, Value.slice M.q1 M.ps1.length M.c1), (22, pt wd 0), (23, iw 1), (24, pt wd 0), (25, pt wd 2), (26, pt wd 3), (27, Value.slice M.q1 M.ps1.length M.c1), (28, iw k), (29, Value.pointer (some ⟨rowB M.q1, k.toNat * 3, none⟩)), (30, Value.agg #[Value.slice xa x.f.length xc, bo x.bad, iw x.tick]), (31, sl b2 0 1 1), (33, pt wd 0), (34, pt wd 2)]) (fun b2 => [rB wd d0 d1 M S.now 92, rDv 100 d0 M.fs S.A0, rDv 100 d1 M.fs S.A1, rR0 M 46, rR1 M 46, rZ M.F M.fs, rBlk b2 [Value.slice xa x.f.length xc, bo x.bad, iw x.tick] 46]) (fun b2 => w.heap.size ≤ b2) 3 #[true, true, true, true, true, true, true, true, true, true, true, true, true, true, true, true, true, true, false, true, true, false, false] ?_ ?_
    · intro b2 hb2
      refine SA.one 18 rfl (by kernel_rfl) ?_
      refine SL.append_rowN (ri := 4) (rj := 6) (size := 3) (r := [Value.slice xa x.f.length xc, bo x.bad, iw x.tick]) (z := Value.agg #[Value.slice none 0 0, bo false, iw 0]) (bytes := 40) rfl rfl (lt_b rfl) rfl (by decide) Try.underlying56 (by kernel_rfl) rfl rfl rfl rfl rfl rfl rfl (by rw [List.length_map]; omega) (by unfold maxLen; rw [List.length_map]; omega) (fun b hb => .inl (.inr (.inr (.inr (.inr hb))))) fun q3 c4 hq5 => ?_
      refine SL.nil ?_
      refine SA.se ?_
      refine SA.take 21 rfl (by kernel_rfl) (by kernel_rfl) (by kernel_rfl) rfl rfl (lt_b rfl) (fun _ => ru_indexA (o2 := 3) ar75 rfl rfl rfl (by decide) (by decide) rfl) ?_
      refine SA.one 22 rfl (by kernel_rfl) ?_
      refine SL.store (i := 0) (c' := [pt d0 0, pt d1 0, Value.slice M.q0 M.ps0.length M.c0, Value.slice q3 (M.ps1.length + 1) c4, iw S.now]) rfl rfl ts56 rfl rfl rfl rfl rfl (lt_b rfl) (.inl (.inl rfl)) rfl ?_
      refine SL.nil ?_
      refine SA.se ?_
      refine SA.done (by kernel_rfl) ?_
      refine SC.of_SE ?_
      refine SC.sr ?_
      refine SL.mv ?_
      refine SL.as ?_
      refine SL.nl ?_
      refine SC.ret ?_
      have er : oRows (M.ps1 ++ [⟨.slice xa x.f.length xc, x⟩]) = oRows M.ps1 ++ [[Value.slice xa x.f.length xc, bo x.bad, iw x.tick]] := List.map_append
      have el : (M.ps1 ++ [(⟨.slice xa x.f.length xc, x⟩ : FmV)]).length = M.ps1.length + 1 := by rw [List.length_append]; rfl
      refine SE.res (.inl rfl) (res1 Try.results43 rfl) fun w1 hI => ?_
      have eT : thereF (S.L true) k = thereF M.ps1 k := by show thereF S.L1 k = _; rw [← hM.l1, there_map]
      have ew : doubleF S true k = (thereF M.ps1 k, S.setL true (S.L1 ++ [x])) := by unfold doubleF; simp only [eT]; rw [if_pos h1, ex]; rfl
      rw [← er, ← el] at hI
      rw [ew]
      exact ⟨rfl, { M with q1 := q3, c1 := c4, ps1 := M.ps1 ++ [⟨.slice xa x.f.length xc, x⟩] }, ⟨(hI.keep 6).1, hM.app1 (y := ⟨.slice xa x.f.length xc, x⟩) (fun _ _ h => h) _ _ hxf, fun v f h => h, fun b hb => WM.K.new1 hb (fun b hb => .inl hb) hq5, hI.2⟩⟩
    · intro hj2
      refine SA.two 7 13 rfl rfl (by kernel_rfl) ?_ ?_
      · skip
        refine SL.ld 0 ts56 ?_
        refine SL.nil ?_
        refine SA.se ?_
        refine SA.one 13 rfl (by kernel_rfl) ?_
        refine SL.ld 0 ts56 ?_
        refine SL.nil ?_
        refine SA.se ?_
        refine SA.one 15 rfl (by kernel_rfl) ?_
        refine SL.uu (ru_index_rowN (ri := 4) si56 rfl rfl rfl rfl (by omega) (by omega)) ?_
        refine SL.nil ?_
        refine SA.se ?_
        refine SA.one 16 rfl (by kernel_rfl) ?_
        refine SL.uu (ru_loada_rowN (ri := 4) (i := k.toNat) (r := [Value.slice xa x.f.length xc, bo x.bad, iw x.tick]) ta46 rfl rfl rfl (by show (M.ps1.map FmV.row)[_]? = _; rw [List.getElem?_map, hx]; rfl) rfl rfl) ?_
        refine SL.nil ?_
        refine SA.se ?_
        refine SA.one 17 rfl (by kernel_rfl) ?_
        refine SL.buildSlice (size := 3) (vals := [(0, Value.agg #[Value.slice xa x.f.length xc, bo x.bad, iw x.tick])]) (z := [Value.slice none 0 0, bo false, iw 0]) (cs := [Value.slice xa x.f.length xc, bo x.bad, iw x.tick]) rfl rfl (lt_b rfl) rfl Try.underlying56 (by kernel_rfl) rfl rfl (by kernel_rfl) fun b6 hb6 => ?_
        refine SL.nil ?_
        refine SA.se ?_
        exact SA.norm [(6, iw 0), (7, iw (thereF M.ps1 k)), (14, pt wd 0), (15, iw 1), (16, pt wd 0), (17, iw 1), (18, pt wd 0), (19, pt wd 2), (20, pt wd 3), (21, Value.slice M.q1 M.ps1.length M.c1), (22, pt wd 0), (23, iw 1), (24, pt wd 0), (25, pt wd 2), (26, pt wd 3), (27, Value.slice M.q1 M.ps1.length M.c1), (28, iw k), (29, Value.pointer (some ⟨rowB M.q1, k.toNat * 3, none⟩)), (30, Value.agg #[Value.slice xa x.f.length xc, bo x.bad, iw x.tick]), (31, sl b6 0 1 1), (33, pt wd 0), (34, pt wd 2)] [rBlk wd [pt d0 0, pt d1 0, Value.slice M.q0 M.ps0.length M.c0, Value.slice M.q1 M.ps1.length M.c1, iw S.now] 92, rDv 100 d0 M.fs S.A0, rDv 100 d1 M.fs S.A1, rRowN (.slice M.q0 M.ps0.length M.c0) (oRows M.ps0) 46 3, rRowN (.slice M.q1 M.ps1.length M.c1) (oRows M.ps1) 46 3, rZ M.F M.fs, rBlk b6 [Value.slice xa x.f.length xc, bo x.bad, iw x.tick] 46] ⟨rfl, rfl, rfl, rfl, rfl, rfl, rfl, rfl, rfl, rfl, rfl, rfl, rfl, rfl, rfl, rfl, rfl, rfl, rfl, rfl, rfl, rfl, trivial⟩ rfl (SA.same (by kernel_rfl) (hj2 b6 hb6))
      refine SL.ld 0 ts56 ?_
      refine SL.nil ?_
      refine SA.se ?_
      refine SA.two 7 15 rfl rfl (by kernel_rfl) ?_ ?_
      · skip
        refine SL.ld 0 ts56 ?_
        refine SL.nil ?_
        refine SA.se ?_
        refine SA.one 15 rfl (by kernel_rfl) ?_
        refine SL.uu (ru_index_rowN (ri := 4) si56 rfl rfl rfl rfl (by omega) (by omega)) ?_
        refine SL.nil ?_
        refine SA.se ?_
        refine SA.one 16 rfl (by kernel_rfl) ?_
        refine SL.uu (ru_loada_rowN (ri := 4) (i := k.toNat) (r := [Value.slice xa x.f.length xc, bo x.bad, iw x.tick]) ta46 rfl rfl rfl (by show (M.ps1.map FmV.row)[_]? = _; rw [List.getElem?_map, hx]; rfl) rfl rfl) ?_
        refine SL.nil ?_
        refine SA.se ?_
        refine SA.one 17 rfl (by kernel_rfl) ?_
        refine SL.buildSlice (size := 3) (vals := [(0, Value.agg #[Value.slice xa x.f.length xc, bo x.bad, iw x.tick])]) (z := [Value.slice none 0 0, bo false, iw 0]) (cs := [Value.slice xa x.f.length xc, bo x.bad, iw x.tick]) rfl rfl (lt_b rfl) rfl Try.underlying56 (by kernel_rfl) rfl rfl (by kernel_rfl) fun b7 hb7 => ?_
        refine SL.nil ?_
        refine SA.se ?_
        exact SA.norm [(6, iw 0), (7, iw (thereF M.ps1 k)), (14, pt wd 0), (15, iw 1), (16, pt wd 0), (17, iw 1), (18, pt wd 0), (19, pt wd 2), (20, pt wd 3), (21, Value.slice M.q1 M.ps1.length M.c1), (22, pt wd 0), (23, iw 1), (24, pt wd 0), (25, pt wd 2), (26, pt wd 3), (27, Value.slice M.q1 M.ps1.length M.c1), (28, iw k), (29, Value.pointer (some ⟨rowB M.q1, k.toNat * 3, none⟩)), (30, Value.agg #[Value.slice xa x.f.length xc, bo x.bad, iw x.tick]), (31, sl b7 0 1 1), (33, pt wd 0), (34, pt wd 2)] [rBlk wd [pt d0 0, pt d1 0, Value.slice M.q0 M.ps0.length M.c0, Value.slice M.q1 M.ps1.length M.c1, iw S.now] 92, rDv 100 d0 M.fs S.A0, rDv 100 d1 M.fs S.A1, rRowN (.slice M.q0 M.ps0.length M.c0) (oRows M.ps0) 46 3, rRowN (.slice M.q1 M.ps1.length M.c1) (oRows M.ps1) 46 3, rZ M.F M.fs, rBlk b7 [Value.slice xa x.f.length xc, bo x.bad, iw x.tick] 46] ⟨rfl, rfl, rfl, rfl, rfl, rfl, rfl, rfl, rfl, rfl, rfl, rfl, rfl, rfl, rfl, rfl, rfl, rfl, rfl, rfl, rfl, rfl, trivial⟩ rfl (SA.same (by kernel_rfl) (hj2 b7 hb7))
      refine SL.uu (ru_index_rowN (ri := 4) si56 rfl rfl rfl rfl (by omega) (by omega)) ?_
      refine SL.nil ?_
      refine SA.se ?_
      refine SA.two 7 16 rfl rfl (by kernel_rfl) ?_ ?_
      · skip
        refine SL.ld 0 ts56 ?_
        refine SL.nil ?_
        refine SA.se ?_
        refine SA.one 16 rfl (by kernel_rfl) ?_
        refine SL.uu (ru_loada_rowN (ri := 4) (i := k.toNat) (r := [Value.slice xa x.f.length xc, bo x.bad, iw x.tick]) ta46 rfl rfl rfl (by show (M.ps1.map FmV.row)[_]? = _; rw [List.getElem?_map, hx]; rfl) rfl rfl) ?_
        refine SL.nil ?_
        refine SA.se ?_
        refine SA.one 17 rfl (by kernel_rfl) ?_
        refine SL.buildSlice (size := 3) (vals := [(0, Value.agg #[Value.slice xa x.f.length xc, bo x.bad, iw x.tick])]) (z := [Value.slice none 0 0, bo false, iw 0]) (cs := [Value.slice xa x.f.length xc, bo x.bad, iw x.tick]) rfl rfl (lt_b rfl) rfl Try.underlying56 (by kernel_rfl) rfl rfl (by kernel_rfl) fun b8 hb8 => ?_
        refine SL.nil ?_
        refine SA.se ?_
        exact SA.norm [(6, iw 0), (7, iw (thereF M.ps1 k)), (14, pt wd 0), (15, iw 1), (16, pt wd 0), (17, iw 1), (18, pt wd 0), (19, pt wd 2), (20, pt wd 3), (21, Value.slice M.q1 M.ps1.length M.c1), (22, pt wd 0), (23, iw 1), (24, pt wd 0), (25, pt wd 2), (26, pt wd 3), (27, Value.slice M.q1 M.ps1.length M.c1), (28, iw k), (29, Value.pointer (some ⟨rowB M.q1, k.toNat * 3, none⟩)), (30, Value.agg #[Value.slice xa x.f.length xc, bo x.bad, iw x.tick]), (31, sl b8 0 1 1), (33, pt wd 0), (34, pt wd 2)] [rBlk wd [pt d0 0, pt d1 0, Value.slice M.q0 M.ps0.length M.c0, Value.slice M.q1 M.ps1.length M.c1, iw S.now] 92, rDv 100 d0 M.fs S.A0, rDv 100 d1 M.fs S.A1, rRowN (.slice M.q0 M.ps0.length M.c0) (oRows M.ps0) 46 3, rRowN (.slice M.q1 M.ps1.length M.c1) (oRows M.ps1) 46 3, rZ M.F M.fs, rBlk b8 [Value.slice xa x.f.length xc, bo x.bad, iw x.tick] 46] ⟨rfl, rfl, rfl, rfl, rfl, rfl, rfl, rfl, rfl, rfl, rfl, rfl, rfl, rfl, rfl, rfl, rfl, rfl, rfl, rfl, rfl, rfl, trivial⟩ rfl (SA.same (by kernel_rfl) (hj2 b8 hb8))
      refine SL.uu (ru_loada_rowN (ri := 4) (i := k.toNat) (r := [Value.slice xa x.f.length xc, bo x.bad, iw x.tick]) ta46 rfl rfl rfl (by show (M.ps1.map FmV.row)[_]? = _; rw [List.getElem?_map, hx]; rfl) rfl rfl) ?_
      refine SL.nil ?_
      refine SA.se ?_
      refine SA.two 7 17 rfl rfl (by kernel_rfl) ?_ ?_
      · skip
        refine SL.ld 0 ts56 ?_
        refine SL.nil ?_
        refine SA.se ?_
        refine SA.one 17 rfl (by kernel_rfl) ?_
        refine SL.buildSlice (size := 3) (vals := [(0, Value.agg #[Value.slice xa x.f.length xc, bo x.bad, iw x.tick])]) (z := [Value.slice none 0 0, bo false, iw 0]) (cs := [Value.slice xa x.f.length xc, bo x.bad, iw x.tick]) rfl rfl (lt_b rfl) rfl Try.underlying56 (by kernel_rfl) rfl rfl (by kernel_rfl) fun b9 hb9 => ?_
        refine SL.nil ?_
        refine SA.se ?_
        exact SA.norm [(6, iw 0), (7, iw (thereF M.ps1 k)), (14, pt wd 0), (15, iw 1), (16, pt wd 0), (17, iw 1), (18, pt wd 0), (19, pt wd 2), (20, pt wd 3), (21, Value.slice M.q1 M.ps1.length M.c1), (22, pt wd 0), (23, iw 1), (24, pt wd 0), (25, pt wd 2), (26, pt wd 3), (27, Value.slice M.q1 M.ps1.length M.c1), (28, iw k), (29, Value.pointer (some ⟨rowB M.q1, k.toNat * 3, none⟩)), (30, Value.agg #[Value.slice xa x.f.length xc, bo x.bad, iw x.tick]), (31, sl b9 0 1 1), (33, pt wd 0), (34, pt wd 2)] [rBlk wd [pt d0 0, pt d1 0, Value.slice M.q0 M.ps0.length M.c0, Value.slice M.q1 M.ps1.length M.c1, iw S.now] 92, rDv 100 d0 M.fs S.A0, rDv 100 d1 M.fs S.A1, rRowN (.slice M.q0 M.ps0.length M.c0) (oRows M.ps0) 46 3, rRowN (.slice M.q1 M.ps1.length M.c1) (oRows M.ps1) 46 3, rZ M.F M.fs, rBlk b9 [Value.slice xa x.f.length xc, bo x.bad, iw x.tick] 46] ⟨rfl, rfl, rfl, rfl, rfl, rfl, rfl, rfl, rfl, rfl, rfl, rfl, rfl, rfl, rfl, rfl, rfl, rfl, rfl, rfl, rfl, rfl, trivial⟩ rfl (SA.same (by kernel_rfl) (hj2 b9 hb9))
      refine SL.buildSlice (size := 3) (vals := [(0, Value.agg #[Value.slice xa x.f.length xc, bo x.bad, iw x.tick])]) (z := [Value.slice none 0 0, bo false, iw 0]) (cs := [Value.slice xa x.f.length xc, bo x.bad, iw x.tick]) rfl rfl (lt_b rfl) rfl Try.underlying56 (by kernel_rfl) rfl rfl (by kernel_rfl) fun b10 hb10 => ?_
      refine SL.nil ?_
      refine SA.se ?_
      refine SA.one 7 rfl (by kernel_rfl) ?_
      refine SL.ld 0 ts56 ?_
      refine SL.nil ?_
      refine SA.se ?_
      exact SA.norm [(6, iw 0), (7, iw (thereF M.ps1 k)), (14, pt wd 0), (15, iw 1), (16, pt wd 0), (17, iw 1), (18, pt wd 0), (19, pt wd 2), (20, pt wd 3), (21, Value.slice M.q1 M.ps1.length M.c1), (22, pt wd 0), (23, iw 1), (24, pt wd 0), (25, pt wd 2), (26, pt wd 3), (27, Value.slice M.q1 M.ps1.length M.c1), (28, iw k), (29, Value.pointer (some ⟨rowB M.q1, k.toNat * 3, none⟩)), (30, Value.agg #[Value.slice xa x.f.length xc, bo x.bad, iw x.tick]), (31, sl b10 0 1 1), (33, pt wd 0), (34, pt wd 2)] [rBlk wd [pt d0 0, pt d1 0, Value.slice M.q0 M.ps0.length M.c0, Value.slice M.q1 M.ps1.length M.c1, iw S.now] 92, rDv 100 d0 M.fs S.A0, rDv 100 d1 M.fs S.A1, rRowN (.slice M.q0 M.ps0.length M.c0) (oRows M.ps0) 46 3, rRowN (.slice M.q1 M.ps1.length M.c1) (oRows M.ps1) 46 3, rZ M.F M.fs, rBlk b10 [Value.slice xa x.f.length xc, bo x.bad, iw x.tick] 46] ⟨rfl, rfl, rfl, rfl, rfl, rfl, rfl, rfl, rfl, rfl, rfl, rfl, rfl, rfl, rfl, rfl, rfl, rfl, rfl, rfl, rfl, rfl, trivial⟩ rfl (SA.same (by kernel_rfl) (hj2 b10 hb10))
  refine SC.skip ?_
  refine SC.of_SE ?_
  refine SC.sr ?_
  refine SL.mv ?_
  refine SL.as ?_
  refine SL.nl ?_
  refine SC.ret ?_
  refine SE.res (.inl rfl) (res1 Try.results43 rfl) fun w1 hI => ?_
  have eT : thereF (S.L true) k = thereF M.ps1 k := by show thereF S.L1 k = _; rw [← hM.l1, there_map]
  have ew : doubleF S true k = (thereF M.ps1 k, S) := by unfold doubleF; simp only [eT]; rw [if_neg (not_t h1)]
  rw [ew]
  exact ⟨rfl, M, WTo.same (hI.keep 6).1 hM hI.2⟩
theorem qdoubleX_any {w : World} {wd : Nat} {dir : Int} {k : Int} (hd : isD dir = false) : Calls Try.prog 43 #[pt wd 0, iw dir, iw k] w fun e w' => e = .returned (iw 1) ∧ Only (fun _ => False) w w' := by
  refine calls_sc (l0 := []) (args := [pt wd 0, iw dir, iw k]) (fun _ => False) Try.func43 rfl 37 Try.ntmps43 (le_b rfl) ⟨⟨by simp, List.Pairwise.nil⟩, Only.refl _ _⟩ ?_
  show SC _ _ _ _ [(0, pt wd 0), (1, iw dir), (2, iw k)] []
  refine SC.sr ?_
  refine SL.as ?_
  refine SL.nl ?_
  refine SC.sr ?_
  refine SL.mv ?_
  refine SL.mv ?_
  refine SL.mv ?_
  refine SL.callv (iw 1) rfl rfl co60 rfl rfl rfl (lt_b rfl) (fun w hI => H_only hI (qthereX_any hd)) ?_
  refine SL.as ?_
  refine SL.nl ?_
  refine SC.seq ?_
  refine SC.sr ?_
  refine SL.mv ?_
  refine SL.uu (ru_eq (b := false) rfl rfl rfl rfl) ?_
  refine SL.nl ?_
  refine SC.no rfl ?_
  refine SC.skip ?_
  refine SC.of_SE ?_
  refine SC.sr ?_
  refine SL.mv ?_
  refine SL.as ?_
  refine SL.nl ?_
  refine SC.ret ?_
  refine SE.res (.inl rfl) (res1 Try.results43 rfl) fun w1 hI => ⟨rfl, hI.2⟩

end Go.Proofs.Ytcilikkljkdceaa

/-
  The document's wire, as one thing.
-/
namespace Go.Proofs.Ytcilikkljkdceaa
open Go.RowKit
set_option maxRecDepth 100000
set_option maxHeartbeats 4000000
theorem rv_pull {n : Nat} {w : World} {wd d0 d1 : Nat} {G : Nat → Prop} {S : Wi} (hB : Wb n S) (hn : n ≤ 3000000000000) (h : (rWq wd d0 d1 G S).ok w) (dir : Int) : Calls Try.prog 40 #[pt wd 0, iw dir] w fun e w' => e = .returned (iw (pullD S dir).1) ∧ RTo 100 92 46 w wd d0 d1 G (pullD S dir).2 w' := by
  have h9 := h
  obtain ⟨⟨M, hM, hs, hg⟩, hlt⟩ := h
  rcases dirC dir with rfl | rfl | hd
  · exact (qpull0_any hM (by rw [hM.n0]; have := hB.l0.1; omega) hB.d0.ok ⟨hB.now.1, by have := hB.now.2; omega⟩ (takeR_fr hB.d0 hB.now.1).2 hs).mono fun e w2 ⟨h1, M2, k⟩ => ⟨h1, RTo.of hg k⟩
  · exact (qpull1_any hM (by rw [hM.n1]; have := hB.l1.1; omega) hB.d1.ok ⟨hB.now.1, by have := hB.now.2; omega⟩ (takeR_fr hB.d1 hB.now.1).2 hs).mono fun e w2 ⟨h1, M2, k⟩ => ⟨h1, RTo.of hg k⟩
  · rw [show pullD S dir = (1, S) from dirX hd _ _]
    exact (qpullX_any hd).mono fun e w2 ⟨h1, h2⟩ => ⟨h1, RTo.same h9 h2⟩
theorem rv_drop {n : Nat} {w : World} {wd d0 d1 : Nat} {G : Nat → Prop} {S : Wi} (hB : Wb n S) (hn : n ≤ 3000000000000) (h : (rWq wd d0 d1 G S).ok w) (dir k : Int) : Calls Try.prog 42 #[pt wd 0, iw dir, iw k] w fun e w' => e = .returned (iw (dropD S dir k).1) ∧ RTo 100 92 46 w wd d0 d1 G (dropD S dir k).2 w' := by
  have h9 := h
  obtain ⟨⟨M, hM, hs, hg⟩, hlt⟩ := h
  rcases dirC dir with rfl | rfl | hd
  · exact (qdrop0_any hM (by rw [hM.n0]; have := hB.l0.1; omega) hs).mono fun e w2 ⟨h1, M2, k⟩ => ⟨h1, RTo.of hg k⟩
  · exact (qdrop1_any hM (by rw [hM.n1]; have := hB.l1.1; omega) hs).mono fun e w2 ⟨h1, M2, k⟩ => ⟨h1, RTo.of hg k⟩
  · rw [show dropD S dir k = (1, S) from dirX hd _ _]
    exact (qdropX_any hd).mono fun e w2 ⟨h1, h2⟩ => ⟨h1, RTo.same h9 h2⟩
theorem rv_double {n : Nat} {w : World} {wd d0 d1 : Nat} {G : Nat → Prop} {S : Wi} (hB : Wb n S) (hn : n ≤ 3000000000000) (h : (rWq wd d0 d1 G S).ok w) (dir k : Int) : Calls Try.prog 43 #[pt wd 0, iw dir, iw k] w fun e w' => e = .returned (iw (doubleD S dir k).1) ∧ RTo 100 92 46 w wd d0 d1 G (doubleD S dir k).2 w' := by
  have h9 := h
  obtain ⟨⟨M, hM, hs, hg⟩, hlt⟩ := h
  rcases dirC dir with rfl | rfl | hd
  · exact (qdouble0_any hM (by rw [hM.n0]; have := hB.l0.1; omega) hs).mono fun e w2 ⟨h1, M2, k⟩ => ⟨h1, RTo.of hg k⟩
  · exact (qdouble1_any hM (by rw [hM.n1]; have := hB.l1.1; omega) hs).mono fun e w2 ⟨h1, M2, k⟩ => ⟨h1, RTo.of hg k⟩
  · rw [show doubleD S dir k = (1, S) from dirX hd _ _]
    exact (qdoubleX_any hd).mono fun e w2 ⟨h1, h2⟩ => ⟨h1, RTo.same h9 h2⟩
theorem rv_move {n : Nat} {w : World} {wd d0 d1 : Nat} {G : Nat → Prop} {S : Wi} (hB : Wb n S) (hn : n ≤ 3000000000000) (h : (rWq wd d0 d1 G S).ok w) (dir k to : Int) : Calls Try.prog 44 #[pt wd 0, iw dir, iw k, iw to] w fun e w' => e = .returned (iw (moveD S dir k to).1) ∧ RTo 100 92 46 w wd d0 d1 G (moveD S dir k to).2 w' := by
  have h9 := h
  obtain ⟨⟨M, hM, hs, hg⟩, hlt⟩ := h
  rcases dirC dir with rfl | rfl | hd
  · exact (qmove0_any hM (by rw [hM.n0]; have := hB.l0.1; omega) hs).mono fun e w2 ⟨h1, M2, k⟩ => ⟨h1, RTo.of hg k⟩
  · exact (qmove1_any hM (by rw [hM.n1]; have := hB.l1.1; omega) hs).mono fun e w2 ⟨h1, M2, k⟩ => ⟨h1, RTo.of hg k⟩
  · rw [show moveD S dir k to = (1, S) from dirX hd _ _]
    exact (qmoveX_any hd).mono fun e w2 ⟨h1, h2⟩ => ⟨h1, RTo.same h9 h2⟩
theorem rv_damage {n : Nat} {w : World} {wd d0 d1 : Nat} {G : Nat → Prop} {S : Wi} (hB : Wb n S) (hn : n ≤ 3000000000000) (h : (rWq wd d0 d1 G S).ok w) (dir k bit : Int) (hbit : bit ≤ 9223372036854775807) : Calls Try.prog 45 #[pt wd 0, iw dir, iw k, iw bit] w fun e w' => e = .returned (iw (damageD S dir k bit).1) ∧ RTo 100 92 46 w wd d0 d1 G (damageD S dir k bit).2 w' := by
  have h9 := h
  obtain ⟨⟨M, hM, hs, hg⟩, hlt⟩ := h
  rcases dirC dir with rfl | rfl | hd
  · exact (qdamage0_any hM (by rw [hM.n0]; have := hB.l0.1; omega) hbit (fun x hx => (hB.l0.2 x hx).1) hs).mono fun e w2 ⟨h1, M2, k⟩ => ⟨h1, RTo.of hg k⟩
  · exact (qdamage1_any hM (by rw [hM.n1]; have := hB.l1.1; omega) hbit (fun x hx => (hB.l1.2 x hx).1) hs).mono fun e w2 ⟨h1, M2, k⟩ => ⟨h1, RTo.of hg k⟩
  · rw [show damageD S dir k bit = (1, S) from dirX hd _ _]
    exact (qdamageX_any hd).mono fun e w2 ⟨h1, h2⟩ => ⟨h1, RTo.same h9 h2⟩
theorem rv_deliver {n : Nat} {w : World} {wd d0 d1 : Nat} {G : Nat → Prop} {S : Wi} (hB : Wb n S) (hn : n ≤ 3000000000000) (h : (rWq wd d0 d1 G S).ok w) (dir k : Int) : Calls Try.prog 46 #[pt wd 0, iw dir, iw k] w fun e w' => e = .returned (iw (deliverD S dir k).1) ∧ RTo 100 92 46 w wd d0 d1 G (deliverD S dir k).2 w' := by
  have h9 := h
  obtain ⟨⟨M, hM, hs, hg⟩, hlt⟩ := h
  rcases dirC dir with rfl | rfl | hd
  · exact (qdeliver0_any hM (by rw [hM.n0]; have := hB.l0.1; omega) hB.d1.ok hs).mono fun e w2 ⟨h1, M2, k⟩ => ⟨h1, RTo.of hg k⟩
  · exact (qdeliver1_any hM (by rw [hM.n1]; have := hB.l1.1; omega) hB.d0.ok hs).mono fun e w2 ⟨h1, M2, k⟩ => ⟨h1, RTo.of hg k⟩
  · rw [show deliverD S dir k = (1, S) from dirX hd _ _]
    exact (qdeliverX_any hd).mono fun e w2 ⟨h1, h2⟩ => ⟨h1, RTo.same h9 h2⟩
theorem rv_tick {n : Nat} {w : World} {wd d0 d1 : Nat} {G : Nat → Prop} {S : Wi} (hB : Wb n S) (hn : n < 3000000000000) (h : (rWq wd d0 d1 G S).ok w) : Calls Try.prog 47 #[pt wd 0] w fun e w' => e = .returned (.tuple #[]) ∧ RTo 100 92 46 w wd d0 d1 G (tickW S) w' := by
  obtain ⟨⟨M, hM, hs, hg⟩, hlt⟩ := h
  exact (qtick_any hM (hB.tb hn) hs).mono fun e w2 ⟨h1, M2, k⟩ => ⟨h1, RTo.of hg k⟩

end Go.Proofs.Ytcilikkljkdceaa

/-
  What the law's calls keep of two wires that say the same: plain.
-/
namespace Go.Proofs.Ytcilikkljkdceaa
open Go.RowKit
def onA' (A : NicA) : Prop := A.r 0 = 1 ∧ A.r 1 = 1
def onW (S : Wi) : Prop := onA' S.A0 ∧ onA' S.A1
structure Rn (n : Nat) (S : Wi) (t0 t1 f0 f1 : Int) : Prop where
  wb : Wb n S
  t0 : 0 ≤ t0 ∧ t0 < 16
  t1 : 0 ≤ t1 ∧ t1 < 16
  f0 : 0 ≤ f0 ∧ f0 < 16
  f1 : 0 ≤ f1 ∧ f1 < 16
def DoTo (w : World) (g wd d0 d1 vd e0 e1 : Nat) (G1 G2 : Nat → Prop) (n : Nat) (S : Wi) (kind : Int) (w' : World) : Prop :=
  ∃ S' t0' t1' f0' f1', RgTo w g wd d0 d1 vd e0 e1 G1 G2 ⟨S', S', t0', t1', f0', f1'⟩ w' ∧ Rn (n + 1) S' t0' t1' f0' f1' ∧ (kind ≠ 9 → kind ≠ 10 → onW S → onW S')
theorem on_set {S : Wi} {A : NicA} (b : Bool) (h : onW S) (hA : onA' (S.A b) → onA' A) : onW (S.setA b A) := by
  cases b
  · exact ⟨hA h.1, h.2⟩
  · exact ⟨h.1, hA h.2⟩
theorem on_setL {S : Wi} {l : List Fm} (b : Bool) (h : onW S) : onW (S.setL b l) := by cases b <;> exact h
theorem on_write {A : NicA} {reg v : Int} (hr : reg = 3 ∨ reg = 5) (h : onA' A) : onA' (writeF A reg v).2 := by
  unfold writeF
  rw [if_neg (by omega), if_neg (by omega)]
  split
  · exact h
  · rcases hr with rfl | rfl
    · rw [if_neg (by decide), if_pos rfl]; exact ⟨by simpa [up] using h.1, by simpa [up] using h.2⟩
    · rw [if_pos rfl]; exact ⟨by simpa [up] using h.1, by simpa [up] using h.2⟩
theorem on_tx {A : NicA} {i : Int} {f : List UInt8} (h : onA' A) : onA' (setTxF A i f).2 := by unfold onA'; rw [(setTx_same A i f).2.2]; exact h
theorem on_rx {A : NicA} {i r : Int} (h : onA' A) : onA' (setRxF A i r).2 := by unfold onA'; rw [(setRx_same A i r).2.2.1]; exact h
theorem on_take {A : NicA} (h : onA' A) : onA' (takeR A).2 := ⟨(takeR_same A).2.2.2.1.trans h.1, (takeR_same A).2.2.2.2.1.trans h.2⟩
theorem on_give {A : NicA} {f : List UInt8} {b : Bool} (h : onA' A) : onA' (giveF A f b).2 := ⟨(give_same A f b).2.2.2.1.trans h.1, (give_same A f b).2.2.2.2.1.trans h.2⟩
theorem on_drain {now : Int} : ∀ (m : Nat) {A : NicA}, onA' A → onA' (drainF now m A)
  | 0, _, h => h
  | m + 1, A, h => by
    unfold drainF
    split
    · split
      · exact on_take h
      · exact on_drain m (on_take h)
    · exact h
theorem on_tick {S : Wi} (h : onW S) : onW (tickW S) :=
  ⟨show onA' (drainF (inc S.now) 16 (tickF S.A0)) from on_drain 16 h.1, show onA' (drainF (inc S.now) 16 (tickF S.A1)) from on_drain 16 h.2⟩
theorem on_dir {S : Wi} {f : Bool → Int × Wi} (h : onW S) (hf : ∀ b, onW (f b).2) (dir : Int) : onW (dirF dir f (1, S)).2 := by
  unfold dirF
  split
  · exact hf _
  · split
    · exact hf _
    · exact h
theorem on_at {S : Wi} (h : onW S) (b : Bool) : onA' (S.A b) := by cases b; exact h.1; exact h.2
theorem on_pull {S : Wi} (h : onW S) (dir : Int) : onW (pullD S dir).2 := on_dir h (fun b => by
  unfold pullF
  simp only
  split
  · exact on_setL b (on_set b h on_take)
  · exact on_set b h on_take) dir
theorem on_drop {S : Wi} (h : onW S) (dir k : Int) : onW (dropD S dir k).2 := on_dir h (fun b => by unfold dropF; split; exact on_setL b h; exact h) dir
theorem on_double {S : Wi} (h : onW S) (dir k : Int) : onW (doubleD S dir k).2 := on_dir h (fun b => by unfold doubleF; split; exact on_setL b h; exact h) dir
theorem on_move {S : Wi} (h : onW S) (dir k to : Int) : onW (moveD S dir k to).2 := on_dir h (fun b => by
  unfold moveF
  split
  · exact h
  · split
    · exact h
    · exact on_setL b h) dir
theorem on_damage {S : Wi} (h : onW S) (dir k bit : Int) : onW (damageD S dir k bit).2 := on_dir h (fun b => by
  unfold damageF
  split
  · exact h
  · split
    · exact h
    · exact on_setL b h) dir
theorem on_deliver {S : Wi} (h : onW S) (dir k : Int) : onW (deliverD S dir k).2 := on_dir h (fun b => by
  unfold deliverF
  split
  · exact h
  · exact on_set (!b) (on_setL b h) (fun _ => on_give (on_at h _))) dir
theorem on_post {S : Wi} {b : Bool} {t : Int} {f : List UInt8} (h : onW S) : onW (postF S b t f).1 := by
  unfold postF
  split
  · exact on_set b h on_tx
  · exact on_set b h (fun h => on_write (.inr rfl) (on_tx h))
def roomF' (S : Wi) (b : Bool) (t r : Int) : Wi × Int :=
  if ((setRxF (S.A b) t r).1 != 0) = true then (S.setA b (setRxF (S.A b) t r).2, t) else (S.setA b (writeF (setRxF (S.A b) t r).2 3 (nx t)).2, nx t)
theorem Wb.room {n : Nat} {S : Wi} (h : Wb n S) (b : Bool) (t r : Int) : Wb n (roomF' S b t r).1 := by
  unfold roomF'
  split
  · exact h.setA b ((h.d b).setRx t r)
  · refine h.setA b ?_
    have := ((h.d b).setRx t r).write h.now.1 3 (nx t)
    exact this
theorem room_t {S : Wi} {b : Bool} {t r : Int} (h : 0 ≤ t ∧ t < 16) : 0 ≤ (roomF' S b t r).2 ∧ (roomF' S b t r).2 < 16 := by
  unfold roomF'
  split
  · exact h
  · exact nx_bd
theorem on_room {S : Wi} {b : Bool} {t r : Int} (h : onW S) : onW (roomF' S b t r).1 := by
  unfold roomF'
  split
  · exact on_set b h on_rx
  · exact on_set b h (fun h => on_write (.inl rfl) (on_rx h))
theorem zero16 : (0 : Int) ≤ 0 ∧ (0 : Int) < 16 := by decide
end Go.Proofs.Ytcilikkljkdceaa

/-
  room, side.
-/
namespace Go.Proofs.Ytcilikkljkdceaa
open Go.RowKit
set_option maxRecDepth 100000
set_option maxHeartbeats 4000000
theorem room0_any {n : Nat} {w : World} {g wd d0 d1 vd e0 e1 : Nat} {G1 G2 : Nat → Prop} {S : Wi} {t0 t1 f0 f1 : Int} {r : Int} (hB : Wb n S) (ht : 0 ≤ f0 ∧ f0 < 16) (h : Sep w (RgL g wd d0 d1 vd e0 e1 G1 G2 ⟨S, S, t0, t1, f0, f1⟩)) : Calls Try.prog 66 #[pt g 0, iw 0, iw r] w fun e w' => e = .returned (bo true) ∧ RgTo w g wd d0 d1 vd e0 e1 G1 G2 ⟨(roomF' S false f0 r).1, (roomF' S false f0 r).1, t0, t1, (roomF' S false f0 r).2, f1⟩ w' := by
  have hG1 : ∀ b, G1 b → RgZ g G1 G2 b ∨ w.heap.size ≤ b := fun b hb => .inl (.inr (.inl hb))
  have hG2 : ∀ b, G2 b → RgZ g G1 G2 b ∨ w.heap.size ≤ b := fun b hb => .inl (.inr (.inr hb))
  refine calls_sc (l0 := (RgL g wd d0 d1 vd e0 e1 G1 G2 ⟨S, S, t0, t1, f0, f1⟩)) (args := [pt g 0, iw 0, iw r]) (RgZ g G1 G2) Try.func66 rfl 82 Try.ntmps66 (le_b rfl) ⟨h, Only.refl _ _⟩ ?_
  show SC _ _ _ _ [(0, pt g 0), (1, iw 0), (2, iw r)] (RgL g wd d0 d1 vd e0 e1 G1 G2 ⟨S, S, t0, t1, f0, f1⟩)
  refine SC.sr ?_
  refine SL.as ?_
  refine SL.nl ?_
  refine SC.seq ?_
  refine SC.region_tail 13 (by kernel_rfl) (by kernel_rfl) ?_
  refine SQ.mv ?_
  refine SQ.mv ?_
  refine SQ.nk ?_
  refine SQ.fa 0 fd41_0 ?_
  refine SQ.ia 0 ar34 ?_
  refine SQ.ld 0 ts33 ?_
  refine SQ.mv ?_
  refine SQ.mv ?_
  refine SQ.nk ?_
  refine SQ.fa 8 fd41_5 ?_
  refine SQ.ia 8 ar39 ?_
  refine SQ.ld 0 ts3 ?_
  refine SQ.mv ?_
  refine SQ.nilL ?_
  have hB2 := hB.setA false ((hB.d0).setRx f0 r)
  refine SL.call (ζ := Nat → Prop) (fun Gw1 => iw ((setRxF S.A0 f0 r).1)) (fun Gw1 => [rG g d0 d1 wd e0 e1 vd t0 t1 f0 f1 41, rWp wd d0 d1 Gw1 (S.setA false (setRxF S.A0 f0 r).2), rWq vd e0 e1 G2 S]) (fun Gw1 => ∀ b, Gw1 b → RgZ g G1 G2 b ∨ w.heap.size ≤ b) rfl rfl co37 rfl rfl rfl (lt_b rfl) (fun w5 hI => (rw_setrx0 (hI.1.get (i := 1) rfl) hB.d0.ok f0 r).mono fun e w2 ⟨h1, kz⟩ => by obtain ⟨G9, k1, k2⟩ := hI.rto (i := 1) rfl hG1 kz; exact ⟨G9, h1, k1, k2⟩) ?_
  intro Gw1 hGw1
  refine SL.as ?_
  refine SL.nl ?_
  refine SC.seq ?_
  refine SC.region_tail 13 (by kernel_rfl) (by kernel_rfl) ?_
  refine SQ.mv ?_
  refine SQ.mv ?_
  refine SQ.nk ?_
  refine SQ.fa 3 fd41_2 ?_
  refine SQ.ia 3 ar37 ?_
  refine SQ.ld 0 ts36 ?_
  refine SQ.mv ?_
  refine SQ.mv ?_
  refine SQ.nk ?_
  refine SQ.fa 8 fd41_5 ?_
  refine SQ.ia 8 ar39 ?_
  refine SQ.ld 0 ts3 ?_
  refine SQ.mv ?_
  refine SQ.nilL ?_
  have hB4 := hB.setA false ((hB.d0).setRx f0 r)
  refine SL.call (ζ := Nat → Prop) (fun Gw3 => iw ((setRxF S.A0 f0 r).1)) (fun Gw3 => [rG g d0 d1 wd e0 e1 vd t0 t1 f0 f1 41, rWp wd d0 d1 Gw1 (S.setA false (setRxF S.A0 f0 r).2), rWq vd e0 e1 Gw3 (S.setA false (setRxF S.A0 f0 r).2)]) (fun Gw3 => ∀ b, Gw3 b → RgZ g G1 G2 b ∨ w.heap.size ≤ b) rfl rfl co75 rfl rfl rfl (lt_b rfl) (fun w5 hI => (rv_setrx0 (hI.1.get (i := 2) rfl) hB.d0.ok f0 r).mono fun e w2 ⟨h1, kz⟩ => by obtain ⟨G9, k1, k2⟩ := hI.rto (i := 2) rfl hG2 kz; exact ⟨G9, h1, k1, k2⟩) ?_
  intro Gw3 hGw3
  refine SL.as ?_
  refine SL.nl ?_
  refine SC.seq ?_
  refine SC.sr ?_
  refine SL.mv ?_
  refine SL.mv ?_
  refine SL.uu (ru_ne (b := false) rfl rfl rfl (by simp)) ?_
  refine SL.nl ?_
  refine SC.no rfl ?_
  refine SC.skip ?_
  refine SC.of_SE ?_
  refine SC.seq ?_
  refine SC.sr ?_
  refine SL.mv ?_
  refine SL.uu (ru_ne (b := ((((setRxF S.A0 f0 r).1) : Int) != 0)) rfl rfl rfl rfl) ?_
  refine SL.nl ?_
  refine SC.both ((((setRxF S.A0 f0 r).1) : Int) != 0) rfl (fun h5 => ?_) (fun h5 => ?_)
  · skip
    refine SC.sr ?_
    refine SL.as ?_
    refine SL.nl ?_
    refine SC.ret ?_
    refine SE.passr ?_
    refine SE.res (.inl rfl) (res1 Try.results66 rfl) fun w1 hI => ⟨rfl, ?_⟩
    have ew : roomF' S false f0 r = (S.setA false (setRxF S.A0 f0 r).2, f0) := by unfold roomF'; exact if_pos h5
    rw [ew]
    exact RgTo.of (l := []) hI hGw1 hGw3
  refine SC.skip ?_
  refine SC.of_SE ?_
  refine SC.seq ?_
  refine SC.region_tail 13 (by kernel_rfl) (by kernel_rfl) ?_
  refine SQ.mv ?_
  refine SQ.mv ?_
  refine SQ.mv ?_
  refine SQ.mv ?_
  refine SQ.nk ?_
  refine SQ.fa 8 fd41_5 ?_
  refine SQ.ia 8 ar39 ?_
  refine SQ.ld 0 ts3 ?_
  refine SQ.uu (ru_add (r := (f0 + 1)) rfl rfl rfl ((by rw [IntKind.wrap_i64]; omega))) ?_
  refine SQ.uu (ru_rem (r := (nx f0)) rfl rfl rfl (by decide) ((by rw [Int.tmod_eq_emod_of_nonneg (by omega)]; rfl))) ?_
  refine SQ.nk ?_
  refine SQ.fa 8 fd41_5 ?_
  refine SQ.ia 8 ar39 ?_
  refine SQ.nilL ?_
  refine SL.store (i := 0) (c' := [pt d0 0, pt d1 0, pt wd 0, pt e0 0, pt e1 0, pt vd 0, iw t0, iw t1, iw (nx f0), iw f1]) rfl rfl ts3 rfl rfl rfl rfl rfl (lt_b rfl) (.inl (.inl rfl)) rfl ?_
  refine SL.nn [(0, pt g 0), (1, iw 0), (6, bo false)] _ ⟨rfl, rfl, rfl, trivial⟩ ?_
  refine SC.seq ?_
  have hB7 := hB2.setA false ((hB2.d0).write hB2.now.1 3 (nx f0))
  have hcb8 := CU.base (X := ⟨82, w, RgZ g G1 G2⟩) (l := [rBlk g [pt d0 0, pt d1 0, pt wd 0, pt e0 0, pt e1 0, pt vd 0, iw t0, iw t1, iw (nx f0), iw f1] 41, rWp wd d0 d1 Gw1 (S.setA false (setRxF S.A0 f0 r).2), rWq vd e0 e1 Gw3 (S.setA false (setRxF S.A0 f0 r).2)]) (l2 := fun (Gw6 : Nat → Prop) => [rBlk g [pt d0 0, pt d1 0, pt wd 0, pt e0 0, pt e1 0, pt vd 0, iw t0, iw t1, iw (nx f0), iw f1] 41, rWp wd d0 d1 Gw6 ((S.setA false (setRxF S.A0 f0 r).2).setA false (writeF (S.setA false (setRxF S.A0 f0 r).2).A0 3 (nx f0)).2), rWq vd e0 e1 Gw3 (S.setA false (setRxF S.A0 f0 r).2)]) (p := fun (Gw6 : Nat → Prop) => ∀ b, Gw6 b → RgZ g G1 G2 b ∨ w.heap.size ≤ b) (k := 12) (lb := [rBlk g [pt d0 0, pt d1 0, pt wd 0, pt e0 0, pt e1 0, pt vd 0, iw t0, iw t1, iw (nx f0), iw f1] 41, rNone, rWq vd e0 e1 Gw3 (S.setA false (setRxF S.A0 f0 r).2)]) (fun w hI => hI.weak (i := 1) (r' := rNone) rfl (fun _ => trivial) (fun b hb => hb.elim)) (fun z w hI => hI.weak (i := 1) (r' := rNone) rfl (fun _ => trivial) (fun b hb => hb.elim))
  refine SC.region_turn (ζ := Nat → Prop) 25 12 (fun Gw6 => [rG g d0 d1 wd e0 e1 vd t0 t1 (nx f0) f1 41, rWp wd d0 d1 Gw6 ((S.setA false (setRxF S.A0 f0 r).2).setA false (writeF (S.setA false (setRxF S.A0 f0 r).2).A0 3 (nx f0)).2), rWq vd e0 e1 Gw3 (S.setA false (setRxF S.A0 f0 r).2)]) (fun Gw6 => ∀ b, Gw6 b → RgZ g G1 G2 b ∨ w.heap.size ≤ b) (by kernel_rfl) (by kernel_rfl) rfl ?_
  refine SS.uu hcb8 (ru_move rfl rfl) ?_
  refine SS.uu hcb8 (ru_move rfl rfl) ?_
  refine SS.uu hcb8 (ru_nilCheck rfl rfl) ?_
  refine SS.uu hcb8 (ru_fieldAddr (o2 := 0) fd41_0 rfl rfl rfl) ?_
  refine SS.uu hcb8 (ru_indexA (o2 := 0) ar34 rfl rfl rfl (by decide) (by decide) rfl) ?_
  refine SS.uu hcb8 (ru_load (i := 0) ts33 rfl rfl rfl rfl) ?_
  refine SS.uu hcb8 (ru_move rfl rfl) ?_
  refine SS.uu hcb8 (ru_move rfl rfl) ?_
  refine SS.uu hcb8 (ru_nilCheck rfl rfl) ?_
  refine SS.uu hcb8 (ru_fieldAddr (o2 := 8) fd41_5 rfl rfl rfl) ?_
  refine SS.uu hcb8 (ru_indexA (o2 := 8) ar39 rfl rfl rfl (by decide) (by decide) rfl) ?_
  refine SS.uu hcb8 (ru_load (i := 0) ts3 rfl rfl rfl rfl) ?_
  refine SS.turnc (iw ((writeF (S.setA false (setRxF S.A0 f0 r).2).A0 3 (nx f0)).1)) rfl rfl co11 rfl rfl rfl (lt_b rfl) (fun w5 hI => (rw_write0 (hI.1.get (i := 1) rfl) hB2.d0.ok 3 (nx f0)).mono fun e w2 ⟨h1, kz⟩ => by obtain ⟨G9, k1, k2⟩ := hI.rto (i := 1) rfl hGw1 kz; exact ⟨G9, h1, k1, k2⟩) ?_
  refine SS.uu hcb8 (ru_move rfl rfl) ?_
  refine SS.uu hcb8 (ru_move rfl rfl) ?_
  refine SS.uu hcb8 (ru_nilCheck rfl rfl) ?_
  refine SS.uu hcb8 (ru_fieldAddr (o2 := 3) fd41_2 rfl rfl rfl) ?_
  refine SS.uu hcb8 (ru_indexA (o2 := 3) ar37 rfl rfl rfl (by decide) (by decide) rfl) ?_
  refine SS.uu hcb8 (ru_load (i := 0) ts36 rfl rfl rfl rfl) ?_
  refine SS.uu hcb8 (ru_move rfl rfl) ?_
  refine SS.uu hcb8 (ru_move rfl rfl) ?_
  refine SS.uu hcb8 (ru_nilCheck rfl rfl) ?_
  refine SS.uu hcb8 (ru_fieldAddr (o2 := 8) fd41_5 rfl rfl rfl) ?_
  refine SS.uu hcb8 (ru_indexA (o2 := 8) ar39 rfl rfl rfl (by decide) (by decide) rfl) ?_
  refine SS.uu hcb8 (ru_load (i := 0) ts3 rfl rfl rfl rfl) ?_
  refine SS.nilU ?_
  intro Gw6 hGw6
  have hB10 := hB4.setA false ((hB4.d0).write hB4.now.1 3 (nx f0))
  refine SL.call (ζ := Nat → Prop) (fun Gw9 => iw ((writeF (S.setA false (setRxF S.A0 f0 r).2).A0 3 (nx f0)).1)) (fun Gw9 => [rG g d0 d1 wd e0 e1 vd t0 t1 (nx f0) f1 41, rWp wd d0 d1 Gw6 ((S.setA false (setRxF S.A0 f0 r).2).setA false (writeF (S.setA false (setRxF S.A0 f0 r).2).A0 3 (nx f0)).2), rWq vd e0 e1 Gw9 ((S.setA false (setRxF S.A0 f0 r).2).setA false (writeF (S.setA false (setRxF S.A0 f0 r).2).A0 3 (nx f0)).2)]) (fun Gw9 => ∀ b, Gw9 b → RgZ g G1 G2 b ∨ w.heap.size ≤ b) rfl rfl co28 rfl rfl rfl (lt_b rfl) (fun w5 hI => (rv_write0 (hI.1.get (i := 2) rfl) hB4.d0.ok 3 (nx f0)).mono fun e w2 ⟨h1, kz⟩ => by obtain ⟨G9, k1, k2⟩ := hI.rto (i := 2) rfl hGw3 kz; exact ⟨G9, h1, k1, k2⟩) ?_
  intro Gw9 hGw9
  refine SL.uu (ru_eq (b := true) rfl rfl rfl (by simp)) ?_
  refine SL.as ?_
  refine SL.nr [rG g d0 d1 wd e0 e1 vd t0 t1 (nx f0) f1 41, rWp wd d0 d1 Gw6 ((S.setA false (setRxF S.A0 f0 r).2).setA false (writeF (S.setA false (setRxF S.A0 f0 r).2).A0 3 (nx f0)).2), rWq vd e0 e1 Gw9 ((S.setA false (setRxF S.A0 f0 r).2).setA false (writeF (S.setA false (setRxF S.A0 f0 r).2).A0 3 (nx f0)).2)] ?_
  refine SC.ret ?_
  refine SE.res (.inl rfl) (res1 Try.results66 rfl) fun w1 hI => ⟨rfl, ?_⟩
  have ew : roomF' S false f0 r = (S.setA false (writeF (setRxF S.A0 f0 r).2 3 (nx f0)).2, nx f0) := by unfold roomF'; exact if_neg (not_t h5)
  rw [ew]
  exact RgTo.of (l := []) hI hGw6 hGw9
theorem room1_any {n : Nat} {w : World} {g wd d0 d1 vd e0 e1 : Nat} {G1 G2 : Nat → Prop} {S : Wi} {t0 t1 f0 f1 : Int} {r : Int} (hB : Wb n S) (ht : 0 ≤ f1 ∧ f1 < 16) (h : Sep w (RgL g wd d0 d1 vd e0 e1 G1 G2 ⟨S, S, t0, t1, f0, f1⟩)) : Calls Try.prog 66 #[pt g 0, iw 1, iw r] w fun e w' => e = .returned (bo true) ∧ RgTo w g wd d0 d1 vd e0 e1 G1 G2 ⟨(roomF' S true f1 r).1, (roomF' S true f1 r).1, t0, t1, f0, (roomF' S true f1 r).2⟩ w' := by
  have hG1 : ∀ b, G1 b → RgZ g G1 G2 b ∨ w.heap.size ≤ b := fun b hb => .inl (.inr (.inl hb))
  have hG2 : ∀ b, G2 b → RgZ g G1 G2 b ∨ w.heap.size ≤ b := fun b hb => .inl (.inr (.inr hb))
  refine calls_sc (l0 := (RgL g wd d0 d1 vd e0 e1 G1 G2 ⟨S, S, t0, t1, f0, f1⟩)) (args := [pt g 0, iw 1, iw r]) (RgZ g G1 G2) Try.func66 rfl 82 Try.ntmps66 (le_b rfl) ⟨h, Only.refl _ _⟩ ?_
  show SC _ _ _ _ [(0, pt g 0), (1, iw 1), (2, iw r)] (RgL g wd d0 d1 vd e0 e1 G1 G2 ⟨S, S, t0, t1, f0, f1⟩)
  refine SC.sr ?_
  refine SL.as ?_
  refine SL.nl ?_
  refine SC.seq ?_
  refine SC.region_tail 13 (by kernel_rfl) (by kernel_rfl) ?_
  refine SQ.mv ?_
  refine SQ.mv ?_
  refine SQ.nk ?_
  refine SQ.fa 0 fd41_0 ?_
  refine SQ.ia 1 ar34 ?_
  refine SQ.ld 0 ts33 ?_
  refine SQ.mv ?_
  refine SQ.mv ?_
  refine SQ.nk ?_
  refine SQ.fa 8 fd41_5 ?_
  refine SQ.ia 9 ar39 ?_
  refine SQ.ld 0 ts3 ?_
  refine SQ.mv ?_
  refine SQ.nilL ?_
  have hB2 := hB.setA true ((hB.d1).setRx f1 r)
  refine SL.call (ζ := Nat → Prop) (fun Gw1 => iw ((setRxF S.A1 f1 r).1)) (fun Gw1 => [rG g d0 d1 wd e0 e1 vd t0 t1 f0 f1 41, rWp wd d0 d1 Gw1 (S.setA true (setRxF S.A1 f1 r).2), rWq vd e0 e1 G2 S]) (fun Gw1 => ∀ b, Gw1 b → RgZ g G1 G2 b ∨ w.heap.size ≤ b) rfl rfl co37 rfl rfl rfl (lt_b rfl) (fun w5 hI => (rw_setrx1 (hI.1.get (i := 1) rfl) hB.d1.ok f1 r).mono fun e w2 ⟨h1, kz⟩ => by obtain ⟨G9, k1, k2⟩ := hI.rto (i := 1) rfl hG1 kz; exact ⟨G9, h1, k1, k2⟩) ?_
  intro Gw1 hGw1
  refine SL.as ?_
  refine SL.nl ?_
  refine SC.seq ?_
  refine SC.region_tail 13 (by kernel_rfl) (by kernel_rfl) ?_
  refine SQ.mv ?_
  refine SQ.mv ?_
  refine SQ.nk ?_
  refine SQ.fa 3 fd41_2 ?_
  refine SQ.ia 4 ar37 ?_
  refine SQ.ld 0 ts36 ?_
  refine SQ.mv ?_
  refine SQ.mv ?_
  refine SQ.nk ?_
  refine SQ.fa 8 fd41_5 ?_
  refine SQ.ia 9 ar39 ?_
  refine SQ.ld 0 ts3 ?_
  refine SQ.mv ?_
  refine SQ.nilL ?_
  have hB4 := hB.setA true ((hB.d1).setRx f1 r)
  refine SL.call (ζ := Nat → Prop) (fun Gw3 => iw ((setRxF S.A1 f1 r).1)) (fun Gw3 => [rG g d0 d1 wd e0 e1 vd t0 t1 f0 f1 41, rWp wd d0 d1 Gw1 (S.setA true (setRxF S.A1 f1 r).2), rWq vd e0 e1 Gw3 (S.setA true (setRxF S.A1 f1 r).2)]) (fun Gw3 => ∀ b, Gw3 b → RgZ g G1 G2 b ∨ w.heap.size ≤ b) rfl rfl co75 rfl rfl rfl (lt_b rfl) (fun w5 hI => (rv_setrx1 (hI.1.get (i := 2) rfl) hB.d1.ok f1 r).mono fun e w2 ⟨h1, kz⟩ => by obtain ⟨G9, k1, k2⟩ := hI.rto (i := 2) rfl hG2 kz; exact ⟨G9, h1, k1, k2⟩) ?_
  intro Gw3 hGw3
  refine SL.as ?_
  refine SL.nl ?_
  refine SC.seq ?_
  refine SC.sr ?_
  refine SL.mv ?_
  refine SL.mv ?_
  refine SL.uu (ru_ne (b := false) rfl rfl rfl (by simp)) ?_
  refine SL.nl ?_
  refine SC.no rfl ?_
  refine SC.skip ?_
  refine SC.of_SE ?_
  refine SC.seq ?_
  refine SC.sr ?_
  refine SL.mv ?_
  refine SL.uu (ru_ne (b := ((((setRxF S.A1 f1 r).1) : Int) != 0)) rfl rfl rfl rfl) ?_
  refine SL.nl ?_
  refine SC.both ((((setRxF S.A1 f1 r).1) : Int) != 0) rfl (fun h5 => ?_) (fun h5 => ?_)
  · skip
    refine SC.sr ?_
    refine SL.as ?_
    refine SL.nl ?_
    refine SC.ret ?_
    refine SE.passr ?_
    refine SE.res (.inl rfl) (res1 Try.results66 rfl) fun w1 hI => ⟨rfl, ?_⟩
    have ew : roomF' S true f1 r = (S.setA true (setRxF S.A1 f1 r).2, f1) := by unfold roomF'; exact if_pos h5
    rw [ew]
    exact RgTo.of (l := []) hI hGw1 hGw3
  refine SC.skip ?_
  refine SC.of_SE ?_
  refine SC.seq ?_
  refine SC.region_tail 13 (by kernel_rfl) (by kernel_rfl) ?_
  refine SQ.mv ?_
  refine SQ.mv ?_
  refine SQ.mv ?_
  refine SQ.mv ?_
  refine SQ.nk ?_
  refine SQ.fa 8 fd41_5 ?_
  refine SQ.ia 9 ar39 ?_
  refine SQ.ld 0 ts3 ?_
  refine SQ.uu (ru_add (r := (f1 + 1)) rfl rfl rfl ((by rw [IntKind.wrap_i64]; omega))) ?_
  refine SQ.uu (ru_rem (r := (nx f1)) rfl rfl rfl (by decide) ((by rw [Int.tmod_eq_emod_of_nonneg (by omega)]; rfl))) ?_
  refine SQ.nk ?_
  refine SQ.fa 8 fd41_5 ?_
  refine SQ.ia 9 ar39 ?_
  refine SQ.nilL ?_
  refine SL.store (i := 0) (c' := [pt d0 0, pt d1 0, pt wd 0, pt e0 0, pt e1 0, pt vd 0, iw t0, iw t1, iw f0, iw (nx f1)]) rfl rfl ts3 rfl rfl rfl rfl rfl (lt_b rfl) (.inl (.inl rfl)) rfl ?_
  refine SL.nn [(0, pt g 0), (1, iw 1), (6, bo false)] _ ⟨rfl, rfl, rfl, trivial⟩ ?_
  refine SC.seq ?_
  have hB7 := hB2.setA true ((hB2.d1).write hB2.now.1 3 (nx f1))
  have hcb8 := CU.base (X := ⟨82, w, RgZ g G1 G2⟩) (l := [rBlk g [pt d0 0, pt d1 0, pt wd 0, pt e0 0, pt e1 0, pt vd 0, iw t0, iw t1, iw f0, iw (nx f1)] 41, rWp wd d0 d1 Gw1 (S.setA true (setRxF S.A1 f1 r).2), rWq vd e0 e1 Gw3 (S.setA true (setRxF S.A1 f1 r).2)]) (l2 := fun (Gw6 : Nat → Prop) => [rBlk g [pt d0 0, pt d1 0, pt wd 0, pt e0 0, pt e1 0, pt vd 0, iw t0, iw t1, iw f0, iw (nx f1)] 41, rWp wd d0 d1 Gw6 ((S.setA true (setRxF S.A1 f1 r).2).setA true (writeF (S.setA true (setRxF S.A1 f1 r).2).A1 3 (nx f1)).2), rWq vd e0 e1 Gw3 (S.setA true (setRxF S.A1 f1 r).2)]) (p := fun (Gw6 : Nat → Prop) => ∀ b, Gw6 b → RgZ g G1 G2 b ∨ w.heap.size ≤ b) (k := 12) (lb := [rBlk g [pt d0 0, pt d1 0, pt wd 0, pt e0 0, pt e1 0, pt vd 0, iw t0, iw t1, iw f0, iw (nx f1)] 41, rNone, rWq vd e0 e1 Gw3 (S.setA true (setRxF S.A1 f1 r).2)]) (fun w hI => hI.weak (i := 1) (r' := rNone) rfl (fun _ => trivial) (fun b hb => hb.elim)) (fun z w hI => hI.weak (i := 1) (r' := rNone) rfl (fun _ => trivial) (fun b hb => hb.elim))
  refine SC.region_turn (ζ := Nat → Prop) 25 12 (fun Gw6 => [rG g d0 d1 wd e0 e1 vd t0 t1 f0 (nx f1) 41, rWp wd d0 d1 Gw6 ((S.setA true (setRxF S.A1 f1 r).2).setA true (writeF (S.setA true (setRxF S.A1 f1 r).2).A1 3 (nx f1)).2), rWq vd e0 e1 Gw3 (S.setA true (setRxF S.A1 f1 r).2)]) (fun Gw6 => ∀ b, Gw6 b → RgZ g G1 G2 b ∨ w.heap.size ≤ b) (by kernel_rfl) (by kernel_rfl) rfl ?_
  refine SS.uu hcb8 (ru_move rfl rfl) ?_
  refine SS.uu hcb8 (ru_move rfl rfl) ?_
  refine SS.uu hcb8 (ru_nilCheck rfl rfl) ?_
  refine SS.uu hcb8 (ru_fieldAddr (o2 := 0) fd41_0 rfl rfl rfl) ?_
  refine SS.uu hcb8 (ru_indexA (o2 := 1) ar34 rfl rfl rfl (by decide) (by decide) rfl) ?_
  refine SS.uu hcb8 (ru_load (i := 0) ts33 rfl rfl rfl rfl) ?_
  refine SS.uu hcb8 (ru_move rfl rfl) ?_
  refine SS.uu hcb8 (ru_move rfl rfl) ?_
  refine SS.uu hcb8 (ru_nilCheck rfl rfl) ?_
  refine SS.uu hcb8 (ru_fieldAddr (o2 := 8) fd41_5 rfl rfl rfl) ?_
  refine SS.uu hcb8 (ru_indexA (o2 := 9) ar39 rfl rfl rfl (by decide) (by decide) rfl) ?_
  refine SS.uu hcb8 (ru_load (i := 0) ts3 rfl rfl rfl rfl) ?_
  refine SS.turnc (iw ((writeF (S.setA true (setRxF S.A1 f1 r).2).A1 3 (nx f1)).1)) rfl rfl co11 rfl rfl rfl (lt_b rfl) (fun w5 hI => (rw_write1 (hI.1.get (i := 1) rfl) hB2.d1.ok 3 (nx f1)).mono fun e w2 ⟨h1, kz⟩ => by obtain ⟨G9, k1, k2⟩ := hI.rto (i := 1) rfl hGw1 kz; exact ⟨G9, h1, k1, k2⟩) ?_
  refine SS.uu hcb8 (ru_move rfl rfl) ?_
  refine SS.uu hcb8 (ru_move rfl rfl) ?_
  refine SS.uu hcb8 (ru_nilCheck rfl rfl) ?_
  refine SS.uu hcb8 (ru_fieldAddr (o2 := 3) fd41_2 rfl rfl rfl) ?_
  refine SS.uu hcb8 (ru_indexA (o2 := 4) ar37 rfl rfl rfl (by decide) (by decide) rfl) ?_
  refine SS.uu hcb8 (ru_load (i := 0) ts36 rfl rfl rfl rfl) ?_
  refine SS.uu hcb8 (ru_move rfl rfl) ?_
  refine SS.uu hcb8 (ru_move rfl rfl) ?_
  refine SS.uu hcb8 (ru_nilCheck rfl rfl) ?_
  refine SS.uu hcb8 (ru_fieldAddr (o2 := 8) fd41_5 rfl rfl rfl) ?_
  refine SS.uu hcb8 (ru_indexA (o2 := 9) ar39 rfl rfl rfl (by decide) (by decide) rfl) ?_
  refine SS.uu hcb8 (ru_load (i := 0) ts3 rfl rfl rfl rfl) ?_
  refine SS.nilU ?_
  intro Gw6 hGw6
  have hB10 := hB4.setA true ((hB4.d1).write hB4.now.1 3 (nx f1))
  refine SL.call (ζ := Nat → Prop) (fun Gw9 => iw ((writeF (S.setA true (setRxF S.A1 f1 r).2).A1 3 (nx f1)).1)) (fun Gw9 => [rG g d0 d1 wd e0 e1 vd t0 t1 f0 (nx f1) 41, rWp wd d0 d1 Gw6 ((S.setA true (setRxF S.A1 f1 r).2).setA true (writeF (S.setA true (setRxF S.A1 f1 r).2).A1 3 (nx f1)).2), rWq vd e0 e1 Gw9 ((S.setA true (setRxF S.A1 f1 r).2).setA true (writeF (S.setA true (setRxF S.A1 f1 r).2).A1 3 (nx f1)).2)]) (fun Gw9 => ∀ b, Gw9 b → RgZ g G1 G2 b ∨ w.heap.size ≤ b) rfl rfl co28 rfl rfl rfl (lt_b rfl) (fun w5 hI => (rv_write1 (hI.1.get (i := 2) rfl) hB4.d1.ok 3 (nx f1)).mono fun e w2 ⟨h1, kz⟩ => by obtain ⟨G9, k1, k2⟩ := hI.rto (i := 2) rfl hGw3 kz; exact ⟨G9, h1, k1, k2⟩) ?_
  intro Gw9 hGw9
  refine SL.uu (ru_eq (b := true) rfl rfl rfl (by simp)) ?_
  refine SL.as ?_
  refine SL.nr [rG g d0 d1 wd e0 e1 vd t0 t1 f0 (nx f1) 41, rWp wd d0 d1 Gw6 ((S.setA true (setRxF S.A1 f1 r).2).setA true (writeF (S.setA true (setRxF S.A1 f1 r).2).A1 3 (nx f1)).2), rWq vd e0 e1 Gw9 ((S.setA true (setRxF S.A1 f1 r).2).setA true (writeF (S.setA true (setRxF S.A1 f1 r).2).A1 3 (nx f1)).2)] ?_
  refine SC.ret ?_
  refine SE.res (.inl rfl) (res1 Try.results66 rfl) fun w1 hI => ⟨rfl, ?_⟩
  have ew : roomF' S true f1 r = (S.setA true (writeF (setRxF S.A1 f1 r).2 3 (nx f1)).2, nx f1) := by unfold roomF'; exact if_neg (not_t h5)
  rw [ew]
  exact RgTo.of (l := []) hI hGw6 hGw9
theorem side_r (n : Int) : -1 ≤ Int.tmod n 2 ∧ Int.tmod n 2 ≤ 1 ∧ (Int.tmod n 2 + 2) % 2 = n % 2 := by
  have h := Int.tmod_add_mul_tdiv n 2
  have h1 : Int.tmod n 2 < 2 := Int.tmod_lt_of_pos n (by decide)
  have h2 : -2 < Int.tmod n 2 := by
    have h3 := Int.tmod_lt_of_pos (-n) (b := 2) (by decide)
    rw [Int.neg_tmod] at h3
    omega
  omega
theorem side_w (n : Int) : IntKind.i64.wrap (Int.tmod n 2 + 2) = Int.tmod n 2 + 2 := by have := side_r n; rw [IntKind.wrap_i64]; omega
theorem side_m (n : Int) : Int.tmod (Int.tmod n 2 + 2) 2 = n % 2 := by have := side_r n; rw [Int.tmod_eq_emod_of_nonneg (by omega)]; exact this.2.2
theorem side_any {w : World} (n : Int) : Calls Try.prog 9 #[iw n] w fun e w' => e = .returned (iw (n % 2)) ∧ Only (fun _ => False) w w' := by
  refine calls_sc (l0 := []) (args := [iw n]) (fun _ => False) Try.func9 rfl 7 Try.ntmps9 (le_b rfl) ⟨⟨by simp, List.Pairwise.nil⟩, Only.refl _ _⟩ ?_
  show SC _ _ _ _ [(0, iw n)] []
  refine SC.sr ?_
  refine SL.as ?_
  refine SL.nl ?_
  refine SC.sr ?_
  refine SL.mv ?_
  refine SL.uu (ru_rem (r := (Int.tmod n 2)) rfl rfl rfl (by decide) rfl) ?_
  refine SL.uu (ru_add (r := (Int.tmod n 2 + 2)) rfl rfl rfl ((side_w n))) ?_
  refine SL.uu (ru_rem (r := (n % 2)) rfl rfl rfl (by decide) ((side_m n))) ?_
  refine SL.as ?_
  refine SL.nl ?_
  refine SC.ret ?_
  refine SE.res (.inl rfl) (res1 Try.results9 rfl) fun w1 hI => ⟨rfl, hI.2⟩

end Go.Proofs.Ytcilikkljkdceaa

/-
  device.
-/
namespace Go.Proofs.Ytcilikkljkdceaa
open Go.RowKit
set_option maxRecDepth 100000
set_option maxHeartbeats 4000000
theorem device0_any {n : Nat} {w : World} {g wd d0 d1 vd e0 e1 : Nat} {G1 G2 : Nat → Prop} {S : Wi} {t0 t1 f0 f1 : Int} {k dir kk to : Int} (hsd : dir % 2 = 0) (hR : Rn n S t0 t1 f0 f1) {va : Option Addr} {vc : Nat} {f : List UInt8} (hb : BytesAt w (.slice va f.length vc) f) (hv : sliceIn (.slice va f.length vc) (fun b => ¬ RgZ g G1 G2 b ∧ b < w.heap.size)) (h : Sep w (RgL g wd d0 d1 vd e0 e1 G1 G2 ⟨S, S, t0, t1, f0, f1⟩)) : Calls Try.prog 48 #[pt g 0, Value.agg #[iw k, iw dir, iw kk, iw to, Value.slice va f.length vc]] w fun e w' => e = .returned (bo true) ∧ DoTo w g wd d0 d1 vd e0 e1 G1 G2 n S k w' := by
  have hG1 : ∀ b, G1 b → RgZ g G1 G2 b ∨ w.heap.size ≤ b := fun b hb => .inl (.inr (.inl hb))
  have hG2 : ∀ b, G2 b → RgZ g G1 G2 b ∨ w.heap.size ≤ b := fun b hb => .inl (.inr (.inr hb))
  refine calls_sc (l0 := (RgL g wd d0 d1 vd e0 e1 G1 G2 ⟨S, S, t0, t1, f0, f1⟩)) (args := [pt g 0, Value.agg #[iw k, iw dir, iw kk, iw to, Value.slice va f.length vc]]) (RgZ g G1 G2) Try.func48 rfl 83 Try.ntmps48 (le_b rfl) ⟨h, Only.refl _ _⟩ ?_
  show SC _ _ _ _ [(0, pt g 0), (1, Value.agg #[iw k, iw dir, iw kk, iw to, Value.slice va f.length vc])] (RgL g wd d0 d1 vd e0 e1 G1 G2 ⟨S, S, t0, t1, f0, f1⟩)
  refine SC.sr ?_
  refine SL.box (c := [iw k, iw dir, iw kk, iw to, Value.slice va f.length vc]) rfl rfl (lt_b rfl) rfl rfl rfl fun b1 hb1 => ?_
  refine SL.as ?_
  refine SL.nl ?_
  refine SC.sr ?_
  refine SL.fa 1 fd30_1 ?_
  refine SL.ld 3 ts3 ?_
  refine SL.callv (iw 0) rfl rfl co9 rfl rfl rfl (lt_b rfl) (fun w hI => H_only hI ((side_any dir).mono fun e w2 ⟨h1, h2⟩ => ⟨h1.trans (by rw [hsd]), h2⟩)) ?_
  refine SL.as ?_
  refine SL.nl ?_
  refine SC.seq ?_
  refine SC.sr ?_
  refine SL.fa 0 fd30_0 ?_
  refine SL.ld 3 ts3 ?_
  refine SL.nl ?_
  refine SC.block ?_
  refine SC.sr ?_
  refine SL.uu (ru_eq (b := ((k : Int) == 0)) rfl rfl rfl rfl) ?_
  refine SL.as ?_
  refine SL.nl ?_
  refine SC.both ((k : Int) == 0) rfl (fun h2 => ?_) (fun h2 => ?_)
  · skip
    refine SC.sr ?_
    refine SL.mv ?_
    refine SL.mv ?_
    refine SL.fa 4 fd30_4 ?_
    refine SL.ld 3 ts28 ?_
    have hB5 := hR.wb.post false t0 f
    refine SL.call (ζ := (Nat → Prop) × (Nat → Prop)) (fun z => bo true) (fun z => [rG g d0 d1 wd e0 e1 vd ((postF S false t0 f).2) t1 f0 f1 41, rWp wd d0 d1 z.1 ((postF S false t0 f).1), rWq vd e0 e1 z.2 ((postF S false t0 f).1), rBlk b1 [iw k, iw dir, iw kk, iw to, Value.slice va f.length vc] 30]) (fun z => (∀ b, z.1 b → RgZ g G1 G2 b ∨ w.heap.size ≤ b) ∧ ∀ b, z.2 b → RgZ g G1 G2 b ∨ w.heap.size ≤ b) rfl rfl co25 rfl rfl rfl (lt_b rfl) (fun w5 hI => (post0_any (f := f) hR.wb hR.t0 (hb.only hI.2 (fun b o n c e hn => (hv b o n c e hn).1)) (fun b o n c e hn => by have h9 := hv b o n c e hn; exact ⟨fun hz => hz.elim (fun e1 => h9.1 (.inl e1)) (fun h => h.elim (fun h => (hG1 b h).elim h9.1 (fun e9 => by omega)) (fun h => (hG2 b h).elim h9.1 (fun e9 => by omega))), Nat.lt_of_lt_of_le h9.2 hI.2.size⟩) ((hI.keep 3).1)).mono fun e w2 ⟨h1, kz⟩ => by obtain ⟨I1, I2, k1, k2, k3⟩ := Inv.rgto (X := ⟨83, w, RgZ g G1 G2⟩) (g := g) (wd := wd) (d0 := d0) (d1 := d1) (vd := vd) (e0 := e0) (e1 := e1) (R := ⟨S, S, t0, t1, f0, f1⟩) (G1 := G1) (G2 := G2) (l := [rBlk b1 [iw k, iw dir, iw kk, iw to, Value.slice va f.length vc] 30]) hI (fun b hb => hb.elim (fun e => by rw [e]; exact .inl (.inl rfl)) (fun e => e.elim (hG1 b) (hG2 b))) kz; exact ⟨(I1, I2), h1, k1, k2, k3⟩) ?_
    rintro ⟨Gp3, Gq4⟩ ⟨hGp3, hGq4⟩
    refine SL.as ?_
    refine SL.nl ?_
    refine SC.ret ?_
    refine SE.blkr ?_
    refine SE.passr ?_
    refine SE.res (.inl rfl) (res1 Try.results48 rfl) fun w1 hI => ⟨rfl, ((postF S false t0 f).1), ((postF S false t0 f).2), t1, f0, f1, RgTo.of (l := [rBlk b1 [iw k, iw dir, iw kk, iw to, Value.slice va f.length vc] 30]) hI hGp3 hGq4, ⟨hB5.le (by omega), (by first | exact hR.t0 | exact hR.t1 | exact hR.f0 | exact hR.f1 | exact zero16 | exact post_t hR.t0 | exact post_t hR.t1 | exact room_t hR.f0 | exact room_t hR.f1), (by first | exact hR.t0 | exact hR.t1 | exact hR.f0 | exact hR.f1 | exact zero16 | exact post_t hR.t0 | exact post_t hR.t1 | exact room_t hR.f0 | exact room_t hR.f1), (by first | exact hR.t0 | exact hR.t1 | exact hR.f0 | exact hR.f1 | exact zero16 | exact post_t hR.t0 | exact post_t hR.t1 | exact room_t hR.f0 | exact room_t hR.f1), (by first | exact hR.t0 | exact hR.t1 | exact hR.f0 | exact hR.f1 | exact zero16 | exact post_t hR.t0 | exact post_t hR.t1 | exact room_t hR.f0 | exact room_t hR.f1)⟩, fun h9 h10 h => on_post h⟩
  refine SC.sr ?_
  refine SL.uu (ru_eq (b := ((k : Int) == 9)) rfl rfl rfl rfl) ?_
  refine SL.as ?_
  refine SL.nl ?_
  refine SC.both ((k : Int) == 9) rfl (fun h6 => ?_) (fun h6 => ?_)
  · skip
    refine SC.seq ?_
    refine SC.region_tail 10 (by kernel_rfl) (by kernel_rfl) ?_
    refine SQ.mv ?_
    refine SQ.mv ?_
    refine SQ.nk ?_
    refine SQ.fa 0 fd41_0 ?_
    refine SQ.ia 0 ar34 ?_
    refine SQ.ld 0 ts33 ?_
    refine SQ.fa 2 fd30_2 ?_
    refine SQ.ld 3 ts3 ?_
    refine SQ.uu (ru_rem (r := (Int.tmod kk 2)) rfl rfl rfl (by decide) rfl) ?_
    refine SQ.uu (ru_eq (b := (((Int.tmod kk 2) : Int) == 0)) rfl rfl rfl rfl) ?_
    refine SQ.nilL ?_
    have hB8 := hR.wb.setA false ((hR.wb.d0).link (((Int.tmod kk 2) : Int) == 0))
    refine SL.call (ζ := Nat → Prop) (fun Gw7 => Value.tuple #[]) (fun Gw7 => [rG g d0 d1 wd e0 e1 vd t0 t1 f0 f1 41, rWp wd d0 d1 Gw7 (S.setA false (linkF S.A0 (((Int.tmod kk 2) : Int) == 0))), rWq vd e0 e1 G2 S, rBlk b1 [iw k, iw dir, iw kk, iw to, Value.slice va f.length vc] 30]) (fun Gw7 => ∀ b, Gw7 b → RgZ g G1 G2 b ∨ w.heap.size ≤ b) rfl rfl co64 rfl rfl rfl (lt_b rfl) (fun w5 hI => (rw_link0 (hI.1.get (i := 1) rfl) hR.wb.d0.ok (((Int.tmod kk 2) : Int) == 0)).mono fun e w2 ⟨h1, kz⟩ => by obtain ⟨G9, k1, k2⟩ := hI.rto (i := 1) rfl hG1 kz; exact ⟨G9, h1, k1, k2⟩) ?_
    intro Gw7 hGw7
    refine SL.nl ?_
    refine SC.region_tail 10 (by kernel_rfl) (by kernel_rfl) ?_
    refine SQ.mv ?_
    refine SQ.mv ?_
    refine SQ.nk ?_
    refine SQ.fa 3 fd41_2 ?_
    refine SQ.ia 3 ar37 ?_
    refine SQ.ld 0 ts36 ?_
    refine SQ.fa 2 fd30_2 ?_
    refine SQ.ld 3 ts3 ?_
    refine SQ.uu (ru_rem (r := (Int.tmod kk 2)) rfl rfl rfl (by decide) rfl) ?_
    refine SQ.uu (ru_eq (b := (((Int.tmod kk 2) : Int) == 0)) rfl rfl rfl rfl) ?_
    refine SQ.nilL ?_
    have hB10 := hR.wb.setA false ((hR.wb.d0).link (((Int.tmod kk 2) : Int) == 0))
    refine SL.call (ζ := Nat → Prop) (fun Gw9 => Value.tuple #[]) (fun Gw9 => [rG g d0 d1 wd e0 e1 vd t0 t1 f0 f1 41, rWp wd d0 d1 Gw7 (S.setA false (linkF S.A0 (((Int.tmod kk 2) : Int) == 0))), rWq vd e0 e1 Gw9 (S.setA false (linkF S.A0 (((Int.tmod kk 2) : Int) == 0))), rBlk b1 [iw k, iw dir, iw kk, iw to, Value.slice va f.length vc] 30]) (fun Gw9 => ∀ b, Gw9 b → RgZ g G1 G2 b ∨ w.heap.size ≤ b) rfl rfl co65 rfl rfl rfl (lt_b rfl) (fun w5 hI => (rv_link0 (hI.1.get (i := 2) rfl) hR.wb.d0.ok (((Int.tmod kk 2) : Int) == 0)).mono fun e w2 ⟨h1, kz⟩ => by obtain ⟨G9, k1, k2⟩ := hI.rto (i := 2) rfl hG2 kz; exact ⟨G9, h1, k1, k2⟩) ?_
    intro Gw9 hGw9
    refine SL.nil ?_
    refine SE.blkn ?_
    refine SC.of_SE ?_
    refine SC.nr [rG g d0 d1 wd e0 e1 vd t0 t1 f0 f1 41, rWp wd d0 d1 Gw7 (S.setA false (linkF S.A0 (((Int.tmod kk 2) : Int) == 0))), rWq vd e0 e1 Gw9 (S.setA false (linkF S.A0 (((Int.tmod kk 2) : Int) == 0))), rBlk b1 [iw k, iw dir, iw kk, iw to, Value.slice va f.length vc] 30] ?_
    refine SC.sr ?_
    refine SL.as ?_
    refine SL.nl ?_
    refine SC.ret ?_
    refine SE.res (.inl rfl) (res1 Try.results48 rfl) fun w1 hI => ⟨rfl, (S.setA false (linkF S.A0 (((Int.tmod kk 2) : Int) == 0))), t0, t1, f0, f1, RgTo.of (l := [rBlk b1 [iw k, iw dir, iw kk, iw to, Value.slice va f.length vc] 30]) hI hGw7 hGw9, ⟨hB8.le (by omega), (by first | exact hR.t0 | exact hR.t1 | exact hR.f0 | exact hR.f1 | exact zero16 | exact post_t hR.t0 | exact post_t hR.t1 | exact room_t hR.f0 | exact room_t hR.f1), (by first | exact hR.t0 | exact hR.t1 | exact hR.f0 | exact hR.f1 | exact zero16 | exact post_t hR.t0 | exact post_t hR.t1 | exact room_t hR.f0 | exact room_t hR.f1), (by first | exact hR.t0 | exact hR.t1 | exact hR.f0 | exact hR.f1 | exact zero16 | exact post_t hR.t0 | exact post_t hR.t1 | exact room_t hR.f0 | exact room_t hR.f1), (by first | exact hR.t0 | exact hR.t1 | exact hR.f0 | exact hR.f1 | exact zero16 | exact post_t hR.t0 | exact post_t hR.t1 | exact room_t hR.f0 | exact room_t hR.f1)⟩, fun h9 h10 h => absurd (eq_t h6) h9⟩
  refine SC.sr ?_
  refine SL.uu (ru_eq (b := ((k : Int) == 10)) rfl rfl rfl rfl) ?_
  refine SL.as ?_
  refine SL.nn [(0, pt g 0), (3, pt b1 0), (4, bo false), (5, iw 0), (10, iw k), (42, bo ((k : Int) == 10))] _ ⟨rfl, rfl, rfl, rfl, rfl, rfl, trivial⟩ ?_
  refine SC.both ((k : Int) == 10) rfl (fun h11 => ?_) (fun h11 => ?_)
  · skip
    refine SC.seq ?_
    refine SC.sr ?_
    refine SL.fa 2 fd30_2 ?_
    refine SL.ld 3 ts3 ?_
    refine SL.uu (ru_eq (b := ((kk : Int) == 2)) rfl rfl rfl rfl) ?_
    refine SL.nl ?_
    refine SC.both ((kk : Int) == 2) rfl (fun h12 => ?_) (fun h12 => ?_)
    · skip
      refine SC.sr ?_
      refine SL.mv ?_
      refine SL.mv ?_
      refine SL.nk ?_
      refine SL.fa 6 fd41_4 ?_
      refine SL.ia 6 ar39 ?_
      refine SL.store (i := 0) (c' := [pt d0 0, pt d1 0, pt wd 0, pt e0 0, pt e1 0, pt vd 0, iw 0, iw t1, iw f0, iw f1]) rfl rfl ts3 rfl rfl rfl rfl rfl (lt_b rfl) (.inl (.inl rfl)) rfl ?_
      refine SL.nl ?_
      refine SC.region ?_
      refine SL.mv ?_
      refine SL.mv ?_
      refine SL.nk ?_
      refine SL.fa 8 fd41_5 ?_
      refine SL.ia 8 ar39 ?_
      refine SL.store (i := 0) (c' := [pt d0 0, pt d1 0, pt wd 0, pt e0 0, pt e1 0, pt vd 0, iw 0, iw t1, iw 0, iw f1]) rfl rfl ts3 rfl rfl rfl rfl rfl (lt_b rfl) (.inl (.inl rfl)) rfl ?_
      refine SL.nl ?_
      refine SC.seq ?_
      have hB14 := hR.wb.setA false ((hR.wb.d0).write hR.wb.now.1 0 kk)
      have hcb15 := CU.base (X := ⟨83, w, RgZ g G1 G2⟩) (l := [rBlk g [pt d0 0, pt d1 0, pt wd 0, pt e0 0, pt e1 0, pt vd 0, iw 0, iw t1, iw 0, iw f1] 41, rWp wd d0 d1 G1 S, rWq vd e0 e1 G2 S, rBlk b1 [iw k, iw dir, iw kk, iw to, Value.slice va f.length vc] 30]) (l2 := fun (Gw13 : Nat → Prop) => [rBlk g [pt d0 0, pt d1 0, pt wd 0, pt e0 0, pt e1 0, pt vd 0, iw 0, iw t1, iw 0, iw f1] 41, rWp wd d0 d1 Gw13 (S.setA false (writeF S.A0 0 kk).2), rWq vd e0 e1 G2 S, rBlk b1 [iw k, iw dir, iw kk, iw to, Value.slice va f.length vc] 30]) (p := fun (Gw13 : Nat → Prop) => ∀ b, Gw13 b → RgZ g G1 G2 b ∨ w.heap.size ≤ b) (k := 8) (lb := [rBlk g [pt d0 0, pt d1 0, pt wd 0, pt e0 0, pt e1 0, pt vd 0, iw 0, iw t1, iw 0, iw f1] 41, rNone, rWq vd e0 e1 G2 S, rBlk b1 [iw k, iw dir, iw kk, iw to, Value.slice va f.length vc] 30]) (fun w hI => hI.weak (i := 1) (r' := rNone) rfl (fun _ => trivial) (fun b hb => hb.elim)) (fun z w hI => hI.weak (i := 1) (r' := rNone) rfl (fun _ => trivial) (fun b hb => hb.elim))
      refine SC.region_turn (ζ := Nat → Prop) 17 8 (fun Gw13 => [rG g d0 d1 wd e0 e1 vd 0 t1 0 f1 41, rWp wd d0 d1 Gw13 (S.setA false (writeF S.A0 0 kk).2), rWq vd e0 e1 G2 S, rBlk b1 [iw k, iw dir, iw kk, iw to, Value.slice va f.length vc] 30]) (fun Gw13 => ∀ b, Gw13 b → RgZ g G1 G2 b ∨ w.heap.size ≤ b) (by kernel_rfl) (by kernel_rfl) rfl ?_
      refine SS.uu hcb15 (ru_move rfl rfl) ?_
      refine SS.uu hcb15 (ru_move rfl rfl) ?_
      refine SS.uu hcb15 (ru_nilCheck rfl rfl) ?_
      refine SS.uu hcb15 (ru_fieldAddr (o2 := 0) fd41_0 rfl rfl rfl) ?_
      refine SS.uu hcb15 (ru_indexA (o2 := 0) ar34 rfl rfl rfl (by decide) (by decide) rfl) ?_
      refine SS.uu hcb15 (ru_load (i := 0) ts33 rfl rfl rfl rfl) ?_
      refine SS.uu hcb15 (ru_fieldAddr (o2 := 2) fd30_2 rfl rfl rfl) ?_
      refine SS.uu hcb15 (ru_load (i := 3) ts3 rfl rfl rfl rfl) ?_
      refine SS.turnc (iw ((writeF S.A0 0 kk).1)) rfl rfl co11 rfl rfl rfl (lt_b rfl) (fun w5 hI => (rw_write0 (hI.1.get (i := 1) rfl) hR.wb.d0.ok 0 kk).mono fun e w2 ⟨h1, kz⟩ => by obtain ⟨G9, k1, k2⟩ := hI.rto (i := 1) rfl hG1 kz; exact ⟨G9, h1, k1, k2⟩) ?_
      refine SS.uu hcb15 (ru_move rfl rfl) ?_
      refine SS.uu hcb15 (ru_move rfl rfl) ?_
      refine SS.uu hcb15 (ru_nilCheck rfl rfl) ?_
      refine SS.uu hcb15 (ru_fieldAddr (o2 := 3) fd41_2 rfl rfl rfl) ?_
      refine SS.uu hcb15 (ru_indexA (o2 := 3) ar37 rfl rfl rfl (by decide) (by decide) rfl) ?_
      refine SS.uu hcb15 (ru_load (i := 0) ts36 rfl rfl rfl rfl) ?_
      refine SS.uu hcb15 (ru_fieldAddr (o2 := 2) fd30_2 rfl rfl rfl) ?_
      refine SS.uu hcb15 (ru_load (i := 3) ts3 rfl rfl rfl rfl) ?_
      refine SS.nilU ?_
      intro Gw13 hGw13
      have hB17 := hR.wb.setA false ((hR.wb.d0).write hR.wb.now.1 0 kk)
      refine SL.call (ζ := Nat → Prop) (fun Gw16 => iw ((writeF S.A0 0 kk).1)) (fun Gw16 => [rG g d0 d1 wd e0 e1 vd 0 t1 0 f1 41, rWp wd d0 d1 Gw13 (S.setA false (writeF S.A0 0 kk).2), rWq vd e0 e1 Gw16 (S.setA false (writeF S.A0 0 kk).2), rBlk b1 [iw k, iw dir, iw kk, iw to, Value.slice va f.length vc] 30]) (fun Gw16 => ∀ b, Gw16 b → RgZ g G1 G2 b ∨ w.heap.size ≤ b) rfl rfl co28 rfl rfl rfl (lt_b rfl) (fun w5 hI => (rv_write0 (hI.1.get (i := 2) rfl) hR.wb.d0.ok 0 kk).mono fun e w2 ⟨h1, kz⟩ => by obtain ⟨G9, k1, k2⟩ := hI.rto (i := 2) rfl hG2 kz; exact ⟨G9, h1, k1, k2⟩) ?_
      intro Gw16 hGw16
      refine SL.uu (ru_eq (b := true) rfl rfl rfl (by simp)) ?_
      refine SL.as ?_
      refine SL.nl ?_
      refine SC.ret ?_
      refine SE.blkr ?_
      refine SE.passr ?_
      refine SE.res (.inl rfl) (res1 Try.results48 rfl) fun w1 hI => ⟨rfl, (S.setA false (writeF S.A0 0 kk).2), 0, t1, 0, f1, RgTo.of (l := [rBlk b1 [iw k, iw dir, iw kk, iw to, Value.slice va f.length vc] 30]) hI hGw13 hGw16, ⟨hB14.le (by omega), (by first | exact hR.t0 | exact hR.t1 | exact hR.f0 | exact hR.f1 | exact zero16 | exact post_t hR.t0 | exact post_t hR.t1 | exact room_t hR.f0 | exact room_t hR.f1), (by first | exact hR.t0 | exact hR.t1 | exact hR.f0 | exact hR.f1 | exact zero16 | exact post_t hR.t0 | exact post_t hR.t1 | exact room_t hR.f0 | exact room_t hR.f1), (by first | exact hR.t0 | exact hR.t1 | exact hR.f0 | exact hR.f1 | exact zero16 | exact post_t hR.t0 | exact post_t hR.t1 | exact room_t hR.f0 | exact room_t hR.f1), (by first | exact hR.t0 | exact hR.t1 | exact hR.f0 | exact hR.f1 | exact zero16 | exact post_t hR.t0 | exact post_t hR.t1 | exact room_t hR.f0 | exact room_t hR.f1)⟩, fun h9 h10 h => absurd (eq_t h11) h10⟩
    refine SC.skip ?_
    refine SC.of_SE ?_
    refine SC.seq ?_
    have hB19 := hR.wb.setA false ((hR.wb.d0).write hR.wb.now.1 0 kk)
    have hcb20 := CU.base (X := ⟨83, w, RgZ g G1 G2⟩) (l := [rBlk g [pt d0 0, pt d1 0, pt wd 0, pt e0 0, pt e1 0, pt vd 0, iw t0, iw t1, iw f0, iw f1] 41, rWp wd d0 d1 G1 S, rWq vd e0 e1 G2 S, rBlk b1 [iw k, iw dir, iw kk, iw to, Value.slice va f.length vc] 30]) (l2 := fun (Gw18 : Nat → Prop) => [rBlk g [pt d0 0, pt d1 0, pt wd 0, pt e0 0, pt e1 0, pt vd 0, iw t0, iw t1, iw f0, iw f1] 41, rWp wd d0 d1 Gw18 (S.setA false (writeF S.A0 0 kk).2), rWq vd e0 e1 G2 S, rBlk b1 [iw k, iw dir, iw kk, iw to, Value.slice va f.length vc] 30]) (p := fun (Gw18 : Nat → Prop) => ∀ b, Gw18 b → RgZ g G1 G2 b ∨ w.heap.size ≤ b) (k := 8) (lb := [rBlk g [pt d0 0, pt d1 0, pt wd 0, pt e0 0, pt e1 0, pt vd 0, iw t0, iw t1, iw f0, iw f1] 41, rNone, rWq vd e0 e1 G2 S, rBlk b1 [iw k, iw dir, iw kk, iw to, Value.slice va f.length vc] 30]) (fun w hI => hI.weak (i := 1) (r' := rNone) rfl (fun _ => trivial) (fun b hb => hb.elim)) (fun z w hI => hI.weak (i := 1) (r' := rNone) rfl (fun _ => trivial) (fun b hb => hb.elim))
    refine SC.region_turn (ζ := Nat → Prop) 17 8 (fun Gw18 => [rG g d0 d1 wd e0 e1 vd t0 t1 f0 f1 41, rWp wd d0 d1 Gw18 (S.setA false (writeF S.A0 0 kk).2), rWq vd e0 e1 G2 S, rBlk b1 [iw k, iw dir, iw kk, iw to, Value.slice va f.length vc] 30]) (fun Gw18 => ∀ b, Gw18 b → RgZ g G1 G2 b ∨ w.heap.size ≤ b) (by kernel_rfl) (by kernel_rfl) rfl ?_
    refine SS.uu hcb20 (ru_move rfl rfl) ?_
    refine SS.uu hcb20 (ru_move rfl rfl) ?_
    refine SS.uu hcb20 (ru_nilCheck rfl rfl) ?_
    refine SS.uu hcb20 (ru_fieldAddr (o2 := 0) fd41_0 rfl rfl rfl) ?_
    refine SS.uu hcb20 (ru_indexA (o2 := 0) ar34 rfl rfl rfl (by decide) (by decide) rfl) ?_
    refine SS.uu hcb20 (ru_load (i := 0) ts33 rfl rfl rfl rfl) ?_
    refine SS.uu hcb20 (ru_fieldAddr (o2 := 2) fd30_2 rfl rfl rfl) ?_
    refine SS.uu hcb20 (ru_load (i := 3) ts3 rfl rfl rfl rfl) ?_
    refine SS.turnc (iw ((writeF S.A0 0 kk).1)) rfl rfl co11 rfl rfl rfl (lt_b rfl) (fun w5 hI => (rw_write0 (hI.1.get (i := 1) rfl) hR.wb.d0.ok 0 kk).mono fun e w2 ⟨h1, kz⟩ => by obtain ⟨G9, k1, k2⟩ := hI.rto (i := 1) rfl hG1 kz; exact ⟨G9, h1, k1, k2⟩) ?_
    refine SS.uu hcb20 (ru_move rfl rfl) ?_
    refine SS.uu hcb20 (ru_move rfl rfl) ?_
    refine SS.uu hcb20 (ru_nilCheck rfl rfl) ?_
    refine SS.uu hcb20 (ru_fieldAddr (o2 := 3) fd41_2 rfl rfl rfl) ?_
    refine SS.uu hcb20 (ru_indexA (o2 := 3) ar37 rfl rfl rfl (by decide) (by decide) rfl) ?_
    refine SS.uu hcb20 (ru_load (i := 0) ts36 rfl rfl rfl rfl) ?_
    refine SS.uu hcb20 (ru_fieldAddr (o2 := 2) fd30_2 rfl rfl rfl) ?_
    refine SS.uu hcb20 (ru_load (i := 3) ts3 rfl rfl rfl rfl) ?_
    refine SS.nilU ?_
    intro Gw18 hGw18
    have hB22 := hR.wb.setA false ((hR.wb.d0).write hR.wb.now.1 0 kk)
    refine SL.call (ζ := Nat → Prop) (fun Gw21 => iw ((writeF S.A0 0 kk).1)) (fun Gw21 => [rG g d0 d1 wd e0 e1 vd t0 t1 f0 f1 41, rWp wd d0 d1 Gw18 (S.setA false (writeF S.A0 0 kk).2), rWq vd e0 e1 Gw21 (S.setA false (writeF S.A0 0 kk).2), rBlk b1 [iw k, iw dir, iw kk, iw to, Value.slice va f.length vc] 30]) (fun Gw21 => ∀ b, Gw21 b → RgZ g G1 G2 b ∨ w.heap.size ≤ b) rfl rfl co28 rfl rfl rfl (lt_b rfl) (fun w5 hI => (rv_write0 (hI.1.get (i := 2) rfl) hR.wb.d0.ok 0 kk).mono fun e w2 ⟨h1, kz⟩ => by obtain ⟨G9, k1, k2⟩ := hI.rto (i := 2) rfl hG2 kz; exact ⟨G9, h1, k1, k2⟩) ?_
    intro Gw21 hGw21
    refine SL.uu (ru_eq (b := true) rfl rfl rfl (by simp)) ?_
    refine SL.as ?_
    refine SL.nn [(4, bo true)] [rG g d0 d1 wd e0 e1 vd t0 t1 f0 f1 41, rWp wd d0 d1 Gw18 (S.setA false (writeF S.A0 0 kk).2), rWq vd e0 e1 Gw21 (S.setA false (writeF S.A0 0 kk).2), rBlk b1 [iw k, iw dir, iw kk, iw to, Value.slice va f.length vc] 30] ⟨rfl, trivial⟩ ?_
    refine SC.ret ?_
    refine SE.blkr ?_
    refine SE.passr ?_
    refine SE.res (.inl rfl) (res1 Try.results48 rfl) fun w1 hI => ⟨rfl, (S.setA false (writeF S.A0 0 kk).2), t0, t1, f0, f1, RgTo.of (l := [rBlk b1 [iw k, iw dir, iw kk, iw to, Value.slice va f.length vc] 30]) hI hGw18 hGw21, ⟨hB19.le (by omega), (by first | exact hR.t0 | exact hR.t1 | exact hR.f0 | exact hR.f1 | exact zero16 | exact post_t hR.t0 | exact post_t hR.t1 | exact room_t hR.f0 | exact room_t hR.f1), (by first | exact hR.t0 | exact hR.t1 | exact hR.f0 | exact hR.f1 | exact zero16 | exact post_t hR.t0 | exact post_t hR.t1 | exact room_t hR.f0 | exact room_t hR.f1), (by first | exact hR.t0 | exact hR.t1 | exact hR.f0 | exact hR.f1 | exact zero16 | exact post_t hR.t0 | exact post_t hR.t1 | exact room_t hR.f0 | exact room_t hR.f1), (by first | exact hR.t0 | exact hR.t1 | exact hR.f0 | exact hR.f1 | exact zero16 | exact post_t hR.t0 | exact post_t hR.t1 | exact room_t hR.f0 | exact room_t hR.f1)⟩, fun h9 h10 h => absurd (eq_t h11) h10⟩
  refine SC.sr ?_
  refine SL.uu (ru_eq (b := ((k : Int) == 11)) rfl rfl rfl rfl) ?_
  refine SL.as ?_
  refine SL.nl ?_
  refine SC.both ((k : Int) == 11) rfl (fun h23 => ?_) (fun h23 => ?_)
  · skip
    refine SC.sr ?_
    refine SL.mv ?_
    refine SL.mv ?_
    refine SL.fa 3 fd30_3 ?_
    refine SL.ld 3 ts3 ?_
    have hB26 := hR.wb.room false f0 to
    refine SL.call (ζ := (Nat → Prop) × (Nat → Prop)) (fun z => bo true) (fun z => [rG g d0 d1 wd e0 e1 vd t0 t1 ((roomF' S false f0 to).2) f1 41, rWp wd d0 d1 z.1 ((roomF' S false f0 to).1), rWq vd e0 e1 z.2 ((roomF' S false f0 to).1), rBlk b1 [iw k, iw dir, iw kk, iw to, Value.slice va f.length vc] 30]) (fun z => (∀ b, z.1 b → RgZ g G1 G2 b ∨ w.heap.size ≤ b) ∧ ∀ b, z.2 b → RgZ g G1 G2 b ∨ w.heap.size ≤ b) rfl rfl co66 rfl rfl rfl (lt_b rfl) (fun w5 hI => (room0_any hR.wb hR.f0 ((hI.keep 3).1)).mono fun e w2 ⟨h1, kz⟩ => by obtain ⟨I1, I2, k1, k2, k3⟩ := Inv.rgto (X := ⟨83, w, RgZ g G1 G2⟩) (g := g) (wd := wd) (d0 := d0) (d1 := d1) (vd := vd) (e0 := e0) (e1 := e1) (R := ⟨S, S, t0, t1, f0, f1⟩) (G1 := G1) (G2 := G2) (l := [rBlk b1 [iw k, iw dir, iw kk, iw to, Value.slice va f.length vc] 30]) hI (fun b hb => hb.elim (fun e => by rw [e]; exact .inl (.inl rfl)) (fun e => e.elim (hG1 b) (hG2 b))) kz; exact ⟨(I1, I2), h1, k1, k2, k3⟩) ?_
    rintro ⟨Gp24, Gq25⟩ ⟨hGp24, hGq25⟩
    refine SL.as ?_
    refine SL.nl ?_
    refine SC.ret ?_
    refine SE.blkr ?_
    refine SE.passr ?_
    refine SE.res (.inl rfl) (res1 Try.results48 rfl) fun w1 hI => ⟨rfl, ((roomF' S false f0 to).1), t0, t1, ((roomF' S false f0 to).2), f1, RgTo.of (l := [rBlk b1 [iw k, iw dir, iw kk, iw to, Value.slice va f.length vc] 30]) hI hGp24 hGq25, ⟨hB26.le (by omega), (by first | exact hR.t0 | exact hR.t1 | exact hR.f0 | exact hR.f1 | exact zero16 | exact post_t hR.t0 | exact post_t hR.t1 | exact room_t hR.f0 | exact room_t hR.f1), (by first | exact hR.t0 | exact hR.t1 | exact hR.f0 | exact hR.f1 | exact zero16 | exact post_t hR.t0 | exact post_t hR.t1 | exact room_t hR.f0 | exact room_t hR.f1), (by first | exact hR.t0 | exact hR.t1 | exact hR.f0 | exact hR.f1 | exact zero16 | exact post_t hR.t0 | exact post_t hR.t1 | exact room_t hR.f0 | exact room_t hR.f1), (by first | exact hR.t0 | exact hR.t1 | exact hR.f0 | exact hR.f1 | exact zero16 | exact post_t hR.t0 | exact post_t hR.t1 | exact room_t hR.f0 | exact room_t hR.f1)⟩, fun h9 h10 h => on_room h⟩
  refine SC.skip ?_
  refine SE.blkn ?_
  refine SC.of_SE ?_
  refine SC.sr ?_
  refine SL.as ?_
  refine SL.nl ?_
  refine SC.ret ?_
  refine SE.res (.inl rfl) (res1 Try.results48 rfl) fun w1 hI => ⟨rfl, S, t0, t1, f0, f1, RgTo.of (l := [rBlk b1 [iw k, iw dir, iw kk, iw to, Value.slice va f.length vc] 30]) hI hG1 hG2, ⟨hR.wb.le (by omega), (by first | exact hR.t0 | exact hR.t1 | exact hR.f0 | exact hR.f1 | exact zero16 | exact post_t hR.t0 | exact post_t hR.t1 | exact room_t hR.f0 | exact room_t hR.f1), (by first | exact hR.t0 | exact hR.t1 | exact hR.f0 | exact hR.f1 | exact zero16 | exact post_t hR.t0 | exact post_t hR.t1 | exact room_t hR.f0 | exact room_t hR.f1), (by first | exact hR.t0 | exact hR.t1 | exact hR.f0 | exact hR.f1 | exact zero16 | exact post_t hR.t0 | exact post_t hR.t1 | exact room_t hR.f0 | exact room_t hR.f1), (by first | exact hR.t0 | exact hR.t1 | exact hR.f0 | exact hR.f1 | exact zero16 | exact post_t hR.t0 | exact post_t hR.t1 | exact room_t hR.f0 | exact room_t hR.f1)⟩, fun h9 h10 h => h⟩
theorem device1_any {n : Nat} {w : World} {g wd d0 d1 vd e0 e1 : Nat} {G1 G2 : Nat → Prop} {S : Wi} {t0 t1 f0 f1 : Int} {k dir kk to : Int} (hsd : dir % 2 = 1) (hR : Rn n S t0 t1 f0 f1) {va : Option Addr} {vc : Nat} {f : List UInt8} (hb : BytesAt w (.slice va f.length vc) f) (hv : sliceIn (.slice va f.length vc) (fun b => ¬ RgZ g G1 G2 b ∧ b < w.heap.size)) (h : Sep w (RgL g wd d0 d1 vd e0 e1 G1 G2 ⟨S, S, t0, t1, f0, f1⟩)) : Calls Try.prog 48 #[pt g 0, Value.agg #[iw k, iw dir, iw kk, iw to, Value.slice va f.length vc]] w fun e w' => e = .returned (bo true) ∧ DoTo w g wd d0 d1 vd e0 e1 G1 G2 n S k w' := by
  have hG1 : ∀ b, G1 b → RgZ g G1 G2 b ∨ w.heap.size ≤ b := fun b hb => .inl (.inr (.inl hb))
  have hG2 : ∀ b, G2 b → RgZ g G1 G2 b ∨ w.heap.size ≤ b := fun b hb => .inl (.inr (.inr hb))
  refine calls_sc (l0 := (RgL g wd d0 d1 vd e0 e1 G1 G2 ⟨S, S, t0, t1, f0, f1⟩)) (args := [pt g 0, Value.agg #[iw k, iw dir, iw kk, iw to, Value.slice va f.length vc]]) (RgZ g G1 G2) Try.func48 rfl 83 Try.ntmps48 (le_b rfl) ⟨h, Only.refl _ _⟩ ?_
  show SC _ _ _ _ [(0, pt g 0), (1, Value.agg #[iw k, iw dir, iw kk, iw to, Value.slice va f.length vc])] (RgL g wd d0 d1 vd e0 e1 G1 G2 ⟨S, S, t0, t1, f0, f1⟩)
  refine SC.sr ?_
  refine SL.box (c := [iw k, iw dir, iw kk, iw to, Value.slice va f.length vc]) rfl rfl (lt_b rfl) rfl rfl rfl fun b1 hb1 => ?_
  refine SL.as ?_
  refine SL.nl ?_
  refine SC.sr ?_
  refine SL.fa 1 fd30_1 ?_
  refine SL.ld 3 ts3 ?_
  refine SL.callv (iw 1) rfl rfl co9 rfl rfl rfl (lt_b rfl) (fun w hI => H_only hI ((side_any dir).mono fun e w2 ⟨h1, h2⟩ => ⟨h1.trans (by rw [hsd]), h2⟩)) ?_
  refine SL.as ?_
  refine SL.nl ?_
  refine SC.seq ?_
  refine SC.sr ?_
  refine SL.fa 0 fd30_0 ?_
  refine SL.ld 3 ts3 ?_
  refine SL.nl ?_
  refine SC.block ?_
  refine SC.sr ?_
  refine SL.uu (ru_eq (b := ((k : Int) == 0)) rfl rfl rfl rfl) ?_
  refine SL.as ?_
  refine SL.nl ?_
  refine SC.both ((k : Int) == 0) rfl (fun h2 => ?_) (fun h2 => ?_)
  · skip
    refine SC.sr ?_
    refine SL.mv ?_
    refine SL.mv ?_
    refine SL.fa 4 fd30_4 ?_
    refine SL.ld 3 ts28 ?_
    have hB5 := hR.wb.post true t1 f
    refine SL.call (ζ := (Nat → Prop) × (Nat → Prop)) (fun z => bo true) (fun z => [rG g d0 d1 wd e0 e1 vd t0 ((postF S true t1 f).2) f0 f1 41, rWp wd d0 d1 z.1 ((postF S true t1 f).1), rWq vd e0 e1 z.2 ((postF S true t1 f).1), rBlk b1 [iw k, iw dir, iw kk, iw to, Value.slice va f.length vc] 30]) (fun z => (∀ b, z.1 b → RgZ g G1 G2 b ∨ w.heap.size ≤ b) ∧ ∀ b, z.2 b → RgZ g G1 G2 b ∨ w.heap.size ≤ b) rfl rfl co25 rfl rfl rfl (lt_b rfl) (fun w5 hI => (post1_any (f := f) hR.wb hR.t1 (hb.only hI.2 (fun b o n c e hn => (hv b o n c e hn).1)) (fun b o n c e hn => by have h9 := hv b o n c e hn; exact ⟨fun hz => hz.elim (fun e1 => h9.1 (.inl e1)) (fun h => h.elim (fun h => (hG1 b h).elim h9.1 (fun e9 => by omega)) (fun h => (hG2 b h).elim h9.1 (fun e9 => by omega))), Nat.lt_of_lt_of_le h9.2 hI.2.size⟩) ((hI.keep 3).1)).mono fun e w2 ⟨h1, kz⟩ => by obtain ⟨I1, I2, k1, k2, k3⟩ := Inv.rgto (X := ⟨83, w, RgZ g G1 G2⟩) (g := g) (wd := wd) (d0 := d0) (d1 := d1) (vd := vd) (e0 := e0) (e1 := e1) (R := ⟨S, S, t0, t1, f0, f1⟩) (G1 := G1) (G2 := G2) (l := [rBlk b1 [iw k, iw dir, iw kk, iw to, Value.slice va f.length vc] 30]) hI (fun b hb => hb.elim (fun e => by rw [e]; exact .inl (.inl rfl)) (fun e => e.elim (hG1 b) (hG2 b))) kz; exact ⟨(I1, I2), h1, k1, k2, k3⟩) ?_
    rintro ⟨Gp3, Gq4⟩ ⟨hGp3, hGq4⟩
    refine SL.as ?_
    refine SL.nl ?_
    refine SC.ret ?_
    refine SE.blkr ?_
    refine SE.passr ?_
    refine SE.res (.inl rfl) (res1 Try.results48 rfl) fun w1 hI => ⟨rfl, ((postF S true t1 f).1), t0, ((postF S true t1 f).2), f0, f1, RgTo.of (l := [rBlk b1 [iw k, iw dir, iw kk, iw to, Value.slice va f.length vc] 30]) hI hGp3 hGq4, ⟨hB5.le (by omega), (by first | exact hR.t0 | exact hR.t1 | exact hR.f0 | exact hR.f1 | exact zero16 | exact post_t hR.t0 | exact post_t hR.t1 | exact room_t hR.f0 | exact room_t hR.f1), (by first | exact hR.t0 | exact hR.t1 | exact hR.f0 | exact hR.f1 | exact zero16 | exact post_t hR.t0 | exact post_t hR.t1 | exact room_t hR.f0 | exact room_t hR.f1), (by first | exact hR.t0 | exact hR.t1 | exact hR.f0 | exact hR.f1 | exact zero16 | exact post_t hR.t0 | exact post_t hR.t1 | exact room_t hR.f0 | exact room_t hR.f1), (by first | exact hR.t0 | exact hR.t1 | exact hR.f0 | exact hR.f1 | exact zero16 | exact post_t hR.t0 | exact post_t hR.t1 | exact room_t hR.f0 | exact room_t hR.f1)⟩, fun h9 h10 h => on_post h⟩
  refine SC.sr ?_
  refine SL.uu (ru_eq (b := ((k : Int) == 9)) rfl rfl rfl rfl) ?_
  refine SL.as ?_
  refine SL.nl ?_
  refine SC.both ((k : Int) == 9) rfl (fun h6 => ?_) (fun h6 => ?_)
  · skip
    refine SC.seq ?_
    refine SC.region_tail 10 (by kernel_rfl) (by kernel_rfl) ?_
    refine SQ.mv ?_
    refine SQ.mv ?_
    refine SQ.nk ?_
    refine SQ.fa 0 fd41_0 ?_
    refine SQ.ia 1 ar34 ?_
    refine SQ.ld 0 ts33 ?_
    refine SQ.fa 2 fd30_2 ?_
    refine SQ.ld 3 ts3 ?_
    refine SQ.uu (ru_rem (r := (Int.tmod kk 2)) rfl rfl rfl (by decide) rfl) ?_
    refine SQ.uu (ru_eq (b := (((Int.tmod kk 2) : Int) == 0)) rfl rfl rfl rfl) ?_
    refine SQ.nilL ?_
    have hB8 := hR.wb.setA true ((hR.wb.d1).link (((Int.tmod kk 2) : Int) == 0))
    refine SL.call (ζ := Nat → Prop) (fun Gw7 => Value.tuple #[]) (fun Gw7 => [rG g d0 d1 wd e0 e1 vd t0 t1 f0 f1 41, rWp wd d0 d1 Gw7 (S.setA true (linkF S.A1 (((Int.tmod kk 2) : Int) == 0))), rWq vd e0 e1 G2 S, rBlk b1 [iw k, iw dir, iw kk, iw to, Value.slice va f.length vc] 30]) (fun Gw7 => ∀ b, Gw7 b → RgZ g G1 G2 b ∨ w.heap.size ≤ b) rfl rfl co64 rfl rfl rfl (lt_b rfl) (fun w5 hI => (rw_link1 (hI.1.get (i := 1) rfl) hR.wb.d1.ok (((Int.tmod kk 2) : Int) == 0)).mono fun e w2 ⟨h1, kz⟩ => by obtain ⟨G9, k1, k2⟩ := hI.rto (i := 1) rfl hG1 kz; exact ⟨G9, h1, k1, k2⟩) ?_
    intro Gw7 hGw7
    refine SL.nl ?_
    refine SC.region_tail 10 (by kernel_rfl) (by kernel_rfl) ?_
    refine SQ.mv ?_
    refine SQ.mv ?_
    refine SQ.nk ?_
    refine SQ.fa 3 fd41_2 ?_
    refine SQ.ia 4 ar37 ?_
    refine SQ.ld 0 ts36 ?_
    refine SQ.fa 2 fd30_2 ?_
    refine SQ.ld 3 ts3 ?_
    refine SQ.uu (ru_rem (r := (Int.tmod kk 2)) rfl rfl rfl (by decide) rfl) ?_
    refine SQ.uu (ru_eq (b := (((Int.tmod kk 2) : Int) == 0)) rfl rfl rfl rfl) ?_
    refine SQ.nilL ?_
    have hB10 := hR.wb.setA true ((hR.wb.d1).link (((Int.tmod kk 2) : Int) == 0))
    refine SL.call (ζ := Nat → Prop) (fun Gw9 => Value.tuple #[]) (fun Gw9 => [rG g d0 d1 wd e0 e1 vd t0 t1 f0 f1 41, rWp wd d0 d1 Gw7 (S.setA true (linkF S.A1 (((Int.tmod kk 2) : Int) == 0))), rWq vd e0 e1 Gw9 (S.setA true (linkF S.A1 (((Int.tmod kk 2) : Int) == 0))), rBlk b1 [iw k, iw dir, iw kk, iw to, Value.slice va f.length vc] 30]) (fun Gw9 => ∀ b, Gw9 b → RgZ g G1 G2 b ∨ w.heap.size ≤ b) rfl rfl co65 rfl rfl rfl (lt_b rfl) (fun w5 hI => (rv_link1 (hI.1.get (i := 2) rfl) hR.wb.d1.ok (((Int.tmod kk 2) : Int) == 0)).mono fun e w2 ⟨h1, kz⟩ => by obtain ⟨G9, k1, k2⟩ := hI.rto (i := 2) rfl hG2 kz; exact ⟨G9, h1, k1, k2⟩) ?_
    intro Gw9 hGw9
    refine SL.nil ?_
    refine SE.blkn ?_
    refine SC.of_SE ?_
    refine SC.nr [rG g d0 d1 wd e0 e1 vd t0 t1 f0 f1 41, rWp wd d0 d1 Gw7 (S.setA true (linkF S.A1 (((Int.tmod kk 2) : Int) == 0))), rWq vd e0 e1 Gw9 (S.setA true (linkF S.A1 (((Int.tmod kk 2) : Int) == 0))), rBlk b1 [iw k, iw dir, iw kk, iw to, Value.slice va f.length vc] 30] ?_
    refine SC.sr ?_
    refine SL.as ?_
    refine SL.nl ?_
    refine SC.ret ?_
    refine SE.res (.inl rfl) (res1 Try.results48 rfl) fun w1 hI => ⟨rfl, (S.setA true (linkF S.A1 (((Int.tmod kk 2) : Int) == 0))), t0, t1, f0, f1, RgTo.of (l := [rBlk b1 [iw k, iw dir, iw kk, iw to, Value.slice va f.length vc] 30]) hI hGw7 hGw9, ⟨hB8.le (by omega), (by first | exact hR.t0 | exact hR.t1 | exact hR.f0 | exact hR.f1 | exact zero16 | exact post_t hR.t0 | exact post_t hR.t1 | exact room_t hR.f0 | exact room_t hR.f1), (by first | exact hR.t0 | exact hR.t1 | exact hR.f0 | exact hR.f1 | exact zero16 | exact post_t hR.t0 | exact post_t hR.t1 | exact room_t hR.f0 | exact room_t hR.f1), (by first | exact hR.t0 | exact hR.t1 | exact hR.f0 | exact hR.f1 | exact zero16 | exact post_t hR.t0 | exact post_t hR.t1 | exact room_t hR.f0 | exact room_t hR.f1), (by first | exact hR.t0 | exact hR.t1 | exact hR.f0 | exact hR.f1 | exact zero16 | exact post_t hR.t0 | exact post_t hR.t1 | exact room_t hR.f0 | exact room_t hR.f1)⟩, fun h9 h10 h => absurd (eq_t h6) h9⟩
  refine SC.sr ?_
  refine SL.uu (ru_eq (b := ((k : Int) == 10)) rfl rfl rfl rfl) ?_
  refine SL.as ?_
  refine SL.nn [(0, pt g 0), (3, pt b1 0), (4, bo false), (5, iw 1), (10, iw k), (42, bo ((k : Int) == 10))] _ ⟨rfl, rfl, rfl, rfl, rfl, rfl, trivial⟩ ?_
  refine SC.both ((k : Int) == 10) rfl (fun h11 => ?_) (fun h11 => ?_)
  · skip
    refine SC.seq ?_
    refine SC.sr ?_
    refine SL.fa 2 fd30_2 ?_
    refine SL.ld 3 ts3 ?_
    refine SL.uu (ru_eq (b := ((kk : Int) == 2)) rfl rfl rfl rfl) ?_
    refine SL.nl ?_
    refine SC.both ((kk : Int) == 2) rfl (fun h12 => ?_) (fun h12 => ?_)
    · skip
      refine SC.sr ?_
      refine SL.mv ?_
      refine SL.mv ?_
      refine SL.nk ?_
      refine SL.fa 6 fd41_4 ?_
      refine SL.ia 7 ar39 ?_
      refine SL.store (i := 0) (c' := [pt d0 0, pt d1 0, pt wd 0, pt e0 0, pt e1 0, pt vd 0, iw t0, iw 0, iw f0, iw f1]) rfl rfl ts3 rfl rfl rfl rfl rfl (lt_b rfl) (.inl (.inl rfl)) rfl ?_
      refine SL.nl ?_
      refine SC.region ?_
      refine SL.mv ?_
      refine SL.mv ?_
      refine SL.nk ?_
      refine SL.fa 8 fd41_5 ?_
      refine SL.ia 9 ar39 ?_
      refine SL.store (i := 0) (c' := [pt d0 0, pt d1 0, pt wd 0, pt e0 0, pt e1 0, pt vd 0, iw t0, iw 0, iw f0, iw 0]) rfl rfl ts3 rfl rfl rfl rfl rfl (lt_b rfl) (.inl (.inl rfl)) rfl ?_
      refine SL.nl ?_
      refine SC.seq ?_
      have hB14 := hR.wb.setA true ((hR.wb.d1).write hR.wb.now.1 0 kk)
      have hcb15 := CU.base (X := ⟨83, w, RgZ g G1 G2⟩) (l := [rBlk g [pt d0 0, pt d1 0, pt wd 0, pt e0 0, pt e1 0, pt vd 0, iw t0, iw 0, iw f0, iw 0] 41, rWp wd d0 d1 G1 S, rWq vd e0 e1 G2 S, rBlk b1 [iw k, iw dir, iw kk, iw to, Value.slice va f.length vc] 30]) (l2 := fun (Gw13 : Nat → Prop) => [rBlk g [pt d0 0, pt d1 0, pt wd 0, pt e0 0, pt e1 0, pt vd 0, iw t0, iw 0, iw f0, iw 0] 41, rWp wd d0 d1 Gw13 (S.setA true (writeF S.A1 0 kk).2), rWq vd e0 e1 G2 S, rBlk b1 [iw k, iw dir, iw kk, iw to, Value.slice va f.length vc] 30]) (p := fun (Gw13 : Nat → Prop) => ∀ b, Gw13 b → RgZ g G1 G2 b ∨ w.heap.size ≤ b) (k := 8) (lb := [rBlk g [pt d0 0, pt d1 0, pt wd 0, pt e0 0, pt e1 0, pt vd 0, iw t0, iw 0, iw f0, iw 0] 41, rNone, rWq vd e0 e1 G2 S, rBlk b1 [iw k, iw dir, iw kk, iw to, Value.slice va f.length vc] 30]) (fun w hI => hI.weak (i := 1) (r' := rNone) rfl (fun _ => trivial) (fun b hb => hb.elim)) (fun z w hI => hI.weak (i := 1) (r' := rNone) rfl (fun _ => trivial) (fun b hb => hb.elim))
      refine SC.region_turn (ζ := Nat → Prop) 17 8 (fun Gw13 => [rG g d0 d1 wd e0 e1 vd t0 0 f0 0 41, rWp wd d0 d1 Gw13 (S.setA true (writeF S.A1 0 kk).2), rWq vd e0 e1 G2 S, rBlk b1 [iw k, iw dir, iw kk, iw to, Value.slice va f.length vc] 30]) (fun Gw13 => ∀ b, Gw13 b → RgZ g G1 G2 b ∨ w.heap.size ≤ b) (by kernel_rfl) (by kernel_rfl) rfl ?_
      refine SS.uu hcb15 (ru_move rfl rfl) ?_
      refine SS.uu hcb15 (ru_move rfl rfl) ?_
      refine SS.uu hcb15 (ru_nilCheck rfl rfl) ?_
      refine SS.uu hcb15 (ru_fieldAddr (o2 := 0) fd41_0 rfl rfl rfl) ?_
      refine SS.uu hcb15 (ru_indexA (o2 := 1) ar34 rfl rfl rfl (by decide) (by decide) rfl) ?_
      refine SS.uu hcb15 (ru_load (i := 0) ts33 rfl rfl rfl rfl) ?_
      refine SS.uu hcb15 (ru_fieldAddr (o2 := 2) fd30_2 rfl rfl rfl) ?_
      refine SS.uu hcb15 (ru_load (i := 3) ts3 rfl rfl rfl rfl) ?_
      refine SS.turnc (iw ((writeF S.A1 0 kk).1)) rfl rfl co11 rfl rfl rfl (lt_b rfl) (fun w5 hI => (rw_write1 (hI.1.get (i := 1) rfl) hR.wb.d1.ok 0 kk).mono fun e w2 ⟨h1, kz⟩ => by obtain ⟨G9, k1, k2⟩ := hI.rto (i := 1) rfl hG1 kz; exact ⟨G9, h1, k1, k2⟩) ?_
      refine SS.uu hcb15 (ru_move rfl rfl) ?_
      refine SS.uu hcb15 (ru_move rfl rfl) ?_
      refine SS.uu hcb15 (ru_nilCheck rfl rfl) ?_
      refine SS.uu hcb15 (ru_fieldAddr (o2 := 3) fd41_2 rfl rfl rfl) ?_
      refine SS.uu hcb15 (ru_indexA (o2 := 4) ar37 rfl rfl rfl (by decide) (by decide) rfl) ?_
      refine SS.uu hcb15 (ru_load (i := 0) ts36 rfl rfl rfl rfl) ?_
      refine SS.uu hcb15 (ru_fieldAddr (o2 := 2) fd30_2 rfl rfl rfl) ?_
      refine SS.uu hcb15 (ru_load (i := 3) ts3 rfl rfl rfl rfl) ?_
      refine SS.nilU ?_
      intro Gw13 hGw13
      have hB17 := hR.wb.setA true ((hR.wb.d1).write hR.wb.now.1 0 kk)
      refine SL.call (ζ := Nat → Prop) (fun Gw16 => iw ((writeF S.A1 0 kk).1)) (fun Gw16 => [rG g d0 d1 wd e0 e1 vd t0 0 f0 0 41, rWp wd d0 d1 Gw13 (S.setA true (writeF S.A1 0 kk).2), rWq vd e0 e1 Gw16 (S.setA true (writeF S.A1 0 kk).2), rBlk b1 [iw k, iw dir, iw kk, iw to, Value.slice va f.length vc] 30]) (fun Gw16 => ∀ b, Gw16 b → RgZ g G1 G2 b ∨ w.heap.size ≤ b) rfl rfl co28 rfl rfl rfl (lt_b rfl) (fun w5 hI => (rv_write1 (hI.1.get (i := 2) rfl) hR.wb.d1.ok 0 kk).mono fun e w2 ⟨h1, kz⟩ => by obtain ⟨G9, k1, k2⟩ := hI.rto (i := 2) rfl hG2 kz; exact ⟨G9, h1, k1, k2⟩) ?_
      intro Gw16 hGw16
      refine SL.uu (ru_eq (b := true) rfl rfl rfl (by simp)) ?_
      refine SL.as ?_
      refine SL.nl ?_
      refine SC.ret ?_
      refine SE.blkr ?_
      refine SE.passr ?_
      refine SE.res (.inl rfl) (res1 Try.results48 rfl) fun w1 hI => ⟨rfl, (S.setA true (writeF S.A1 0 kk).2), t0, 0, f0, 0, RgTo.of (l := [rBlk b1 [iw k, iw dir, iw kk, iw to, Value.slice va f.length vc] 30]) hI hGw13 hGw16, ⟨hB14.le (by omega), (by first | exact hR.t0 | exact hR.t1 | exact hR.f0 | exact hR.f1 | exact zero16 | exact post_t hR.t0 | exact post_t hR.t1 | exact room_t hR.f0 | exact room_t hR.f1), (by first | exact hR.t0 | exact hR.t1 | exact hR.f0 | exact hR.f1 | exact zero16 | exact post_t hR.t0 | exact post_t hR.t1 | exact room_t hR.f0 | exact room_t hR.f1), (by first | exact hR.t0 | exact hR.t1 | exact hR.f0 | exact hR.f1 | exact zero16 | exact post_t hR.t0 | exact post_t hR.t1 | exact room_t hR.f0 | exact room_t hR.f1), (by first | exact hR.t0 | exact hR.t1 | exact hR.f0 | exact hR.f1 | exact zero16 | exact post_t hR.t0 | exact post_t hR.t1 | exact room_t hR.f0 | exact room_t hR.f1)⟩, fun h9 h10 h => absurd (eq_t h11) h10⟩
    refine SC.skip ?_
    refine SC.of_SE ?_
    refine SC.seq ?_
    have hB19 := hR.wb.setA true ((hR.wb.d1).write hR.wb.now.1 0 kk)
    have hcb20 := CU.base (X := ⟨83, w, RgZ g G1 G2⟩) (l := [rBlk g [pt d0 0, pt d1 0, pt wd 0, pt e0 0, pt e1 0, pt vd 0, iw t0, iw t1, iw f0, iw f1] 41, rWp wd d0 d1 G1 S, rWq vd e0 e1 G2 S, rBlk b1 [iw k, iw dir, iw kk, iw to, Value.slice va f.length vc] 30]) (l2 := fun (Gw18 : Nat → Prop) => [rBlk g [pt d0 0, pt d1 0, pt wd 0, pt e0 0, pt e1 0, pt vd 0, iw t0, iw t1, iw f0, iw f1] 41, rWp wd d0 d1 Gw18 (S.setA true (writeF S.A1 0 kk).2), rWq vd e0 e1 G2 S, rBlk b1 [iw k, iw dir, iw kk, iw to, Value.slice va f.length vc] 30]) (p := fun (Gw18 : Nat → Prop) => ∀ b, Gw18 b → RgZ g G1 G2 b ∨ w.heap.size ≤ b) (k := 8) (lb := [rBlk g [pt d0 0, pt d1 0, pt wd 0, pt e0 0, pt e1 0, pt vd 0, iw t0, iw t1, iw f0, iw f1] 41, rNone, rWq vd e0 e1 G2 S, rBlk b1 [iw k, iw dir, iw kk, iw to, Value.slice va f.length vc] 30]) (fun w hI => hI.weak (i := 1) (r' := rNone) rfl (fun _ => trivial) (fun b hb => hb.elim)) (fun z w hI => hI.weak (i := 1) (r' := rNone) rfl (fun _ => trivial) (fun b hb => hb.elim))
    refine SC.region_turn (ζ := Nat → Prop) 17 8 (fun Gw18 => [rG g d0 d1 wd e0 e1 vd t0 t1 f0 f1 41, rWp wd d0 d1 Gw18 (S.setA true (writeF S.A1 0 kk).2), rWq vd e0 e1 G2 S, rBlk b1 [iw k, iw dir, iw kk, iw to, Value.slice va f.length vc] 30]) (fun Gw18 => ∀ b, Gw18 b → RgZ g G1 G2 b ∨ w.heap.size ≤ b) (by kernel_rfl) (by kernel_rfl) rfl ?_
    refine SS.uu hcb20 (ru_move rfl rfl) ?_
    refine SS.uu hcb20 (ru_move rfl rfl) ?_
    refine SS.uu hcb20 (ru_nilCheck rfl rfl) ?_
    refine SS.uu hcb20 (ru_fieldAddr (o2 := 0) fd41_0 rfl rfl rfl) ?_
    refine SS.uu hcb20 (ru_indexA (o2 := 1) ar34 rfl rfl rfl (by decide) (by decide) rfl) ?_
    refine SS.uu hcb20 (ru_load (i := 0) ts33 rfl rfl rfl rfl) ?_
    refine SS.uu hcb20 (ru_fieldAddr (o2 := 2) fd30_2 rfl rfl rfl) ?_
    refine SS.uu hcb20 (ru_load (i := 3) ts3 rfl rfl rfl rfl) ?_
    refine SS.turnc (iw ((writeF S.A1 0 kk).1)) rfl rfl co11 rfl rfl rfl (lt_b rfl) (fun w5 hI => (rw_write1 (hI.1.get (i := 1) rfl) hR.wb.d1.ok 0 kk).mono fun e w2 ⟨h1, kz⟩ => by obtain ⟨G9, k1, k2⟩ := hI.rto (i := 1) rfl hG1 kz; exact ⟨G9, h1, k1, k2⟩) ?_
    refine SS.uu hcb20 (ru_move rfl rfl) ?_
    refine SS.uu hcb20 (ru_move rfl rfl) ?_
    refine SS.uu hcb20 (ru_nilCheck rfl rfl) ?_
    refine SS.uu hcb20 (ru_fieldAddr (o2 := 3) fd41_2 rfl rfl rfl) ?_
    refine SS.uu hcb20 (ru_indexA (o2 := 4) ar37 rfl rfl rfl (by decide) (by decide) rfl) ?_
    refine SS.uu hcb20 (ru_load (i := 0) ts36 rfl rfl rfl rfl) ?_
    refine SS.uu hcb20 (ru_fieldAddr (o2 := 2) fd30_2 rfl rfl rfl) ?_
    refine SS.uu hcb20 (ru_load (i := 3) ts3 rfl rfl rfl rfl) ?_
    refine SS.nilU ?_
    intro Gw18 hGw18
    have hB22 := hR.wb.setA true ((hR.wb.d1).write hR.wb.now.1 0 kk)
    refine SL.call (ζ := Nat → Prop) (fun Gw21 => iw ((writeF S.A1 0 kk).1)) (fun Gw21 => [rG g d0 d1 wd e0 e1 vd t0 t1 f0 f1 41, rWp wd d0 d1 Gw18 (S.setA true (writeF S.A1 0 kk).2), rWq vd e0 e1 Gw21 (S.setA true (writeF S.A1 0 kk).2), rBlk b1 [iw k, iw dir, iw kk, iw to, Value.slice va f.length vc] 30]) (fun Gw21 => ∀ b, Gw21 b → RgZ g G1 G2 b ∨ w.heap.size ≤ b) rfl rfl co28 rfl rfl rfl (lt_b rfl) (fun w5 hI => (rv_write1 (hI.1.get (i := 2) rfl) hR.wb.d1.ok 0 kk).mono fun e w2 ⟨h1, kz⟩ => by obtain ⟨G9, k1, k2⟩ := hI.rto (i := 2) rfl hG2 kz; exact ⟨G9, h1, k1, k2⟩) ?_
    intro Gw21 hGw21
    refine SL.uu (ru_eq (b := true) rfl rfl rfl (by simp)) ?_
    refine SL.as ?_
    refine SL.nn [(4, bo true)] [rG g d0 d1 wd e0 e1 vd t0 t1 f0 f1 41, rWp wd d0 d1 Gw18 (S.setA true (writeF S.A1 0 kk).2), rWq vd e0 e1 Gw21 (S.setA true (writeF S.A1 0 kk).2), rBlk b1 [iw k, iw dir, iw kk, iw to, Value.slice va f.length vc] 30] ⟨rfl, trivial⟩ ?_
    refine SC.ret ?_
    refine SE.blkr ?_
    refine SE.passr ?_
    refine SE.res (.inl rfl) (res1 Try.results48 rfl) fun w1 hI => ⟨rfl, (S.setA true (writeF S.A1 0 kk).2), t0, t1, f0, f1, RgTo.of (l := [rBlk b1 [iw k, iw dir, iw kk, iw to, Value.slice va f.length vc] 30]) hI hGw18 hGw21, ⟨hB19.le (by omega), (by first | exact hR.t0 | exact hR.t1 | exact hR.f0 | exact hR.f1 | exact zero16 | exact post_t hR.t0 | exact post_t hR.t1 | exact room_t hR.f0 | exact room_t hR.f1), (by first | exact hR.t0 | exact hR.t1 | exact hR.f0 | exact hR.f1 | exact zero16 | exact post_t hR.t0 | exact post_t hR.t1 | exact room_t hR.f0 | exact room_t hR.f1), (by first | exact hR.t0 | exact hR.t1 | exact hR.f0 | exact hR.f1 | exact zero16 | exact post_t hR.t0 | exact post_t hR.t1 | exact room_t hR.f0 | exact room_t hR.f1), (by first | exact hR.t0 | exact hR.t1 | exact hR.f0 | exact hR.f1 | exact zero16 | exact post_t hR.t0 | exact post_t hR.t1 | exact room_t hR.f0 | exact room_t hR.f1)⟩, fun h9 h10 h => absurd (eq_t h11) h10⟩
  refine SC.sr ?_
  refine SL.uu (ru_eq (b := ((k : Int) == 11)) rfl rfl rfl rfl) ?_
  refine SL.as ?_
  refine SL.nl ?_
  refine SC.both ((k : Int) == 11) rfl (fun h23 => ?_) (fun h23 => ?_)
  · skip
    refine SC.sr ?_
    refine SL.mv ?_
    refine SL.mv ?_
    refine SL.fa 3 fd30_3 ?_
    refine SL.ld 3 ts3 ?_
    have hB26 := hR.wb.room true f1 to
    refine SL.call (ζ := (Nat → Prop) × (Nat → Prop)) (fun z => bo true) (fun z => [rG g d0 d1 wd e0 e1 vd t0 t1 f0 ((roomF' S true f1 to).2) 41, rWp wd d0 d1 z.1 ((roomF' S true f1 to).1), rWq vd e0 e1 z.2 ((roomF' S true f1 to).1), rBlk b1 [iw k, iw dir, iw kk, iw to, Value.slice va f.length vc] 30]) (fun z => (∀ b, z.1 b → RgZ g G1 G2 b ∨ w.heap.size ≤ b) ∧ ∀ b, z.2 b → RgZ g G1 G2 b ∨ w.heap.size ≤ b) rfl rfl co66 rfl rfl rfl (lt_b rfl) (fun w5 hI => (room1_any hR.wb hR.f1 ((hI.keep 3).1)).mono fun e w2 ⟨h1, kz⟩ => by obtain ⟨I1, I2, k1, k2, k3⟩ := Inv.rgto (X := ⟨83, w, RgZ g G1 G2⟩) (g := g) (wd := wd) (d0 := d0) (d1 := d1) (vd := vd) (e0 := e0) (e1 := e1) (R := ⟨S, S, t0, t1, f0, f1⟩) (G1 := G1) (G2 := G2) (l := [rBlk b1 [iw k, iw dir, iw kk, iw to, Value.slice va f.length vc] 30]) hI (fun b hb => hb.elim (fun e => by rw [e]; exact .inl (.inl rfl)) (fun e => e.elim (hG1 b) (hG2 b))) kz; exact ⟨(I1, I2), h1, k1, k2, k3⟩) ?_
    rintro ⟨Gp24, Gq25⟩ ⟨hGp24, hGq25⟩
    refine SL.as ?_
    refine SL.nl ?_
    refine SC.ret ?_
    refine SE.blkr ?_
    refine SE.passr ?_
    refine SE.res (.inl rfl) (res1 Try.results48 rfl) fun w1 hI => ⟨rfl, ((roomF' S true f1 to).1), t0, t1, f0, ((roomF' S true f1 to).2), RgTo.of (l := [rBlk b1 [iw k, iw dir, iw kk, iw to, Value.slice va f.length vc] 30]) hI hGp24 hGq25, ⟨hB26.le (by omega), (by first | exact hR.t0 | exact hR.t1 | exact hR.f0 | exact hR.f1 | exact zero16 | exact post_t hR.t0 | exact post_t hR.t1 | exact room_t hR.f0 | exact room_t hR.f1), (by first | exact hR.t0 | exact hR.t1 | exact hR.f0 | exact hR.f1 | exact zero16 | exact post_t hR.t0 | exact post_t hR.t1 | exact room_t hR.f0 | exact room_t hR.f1), (by first | exact hR.t0 | exact hR.t1 | exact hR.f0 | exact hR.f1 | exact zero16 | exact post_t hR.t0 | exact post_t hR.t1 | exact room_t hR.f0 | exact room_t hR.f1), (by first | exact hR.t0 | exact hR.t1 | exact hR.f0 | exact hR.f1 | exact zero16 | exact post_t hR.t0 | exact post_t hR.t1 | exact room_t hR.f0 | exact room_t hR.f1)⟩, fun h9 h10 h => on_room h⟩
  refine SC.skip ?_
  refine SE.blkn ?_
  refine SC.of_SE ?_
  refine SC.sr ?_
  refine SL.as ?_
  refine SL.nl ?_
  refine SC.ret ?_
  refine SE.res (.inl rfl) (res1 Try.results48 rfl) fun w1 hI => ⟨rfl, S, t0, t1, f0, f1, RgTo.of (l := [rBlk b1 [iw k, iw dir, iw kk, iw to, Value.slice va f.length vc] 30]) hI hG1 hG2, ⟨hR.wb.le (by omega), (by first | exact hR.t0 | exact hR.t1 | exact hR.f0 | exact hR.f1 | exact zero16 | exact post_t hR.t0 | exact post_t hR.t1 | exact room_t hR.f0 | exact room_t hR.f1), (by first | exact hR.t0 | exact hR.t1 | exact hR.f0 | exact hR.f1 | exact zero16 | exact post_t hR.t0 | exact post_t hR.t1 | exact room_t hR.f0 | exact room_t hR.f1), (by first | exact hR.t0 | exact hR.t1 | exact hR.f0 | exact hR.f1 | exact zero16 | exact post_t hR.t0 | exact post_t hR.t1 | exact room_t hR.f0 | exact room_t hR.f1), (by first | exact hR.t0 | exact hR.t1 | exact hR.f0 | exact hR.f1 | exact zero16 | exact post_t hR.t0 | exact post_t hR.t1 | exact room_t hR.f0 | exact room_t hR.f1)⟩, fun h9 h10 h => h⟩
theorem device_any {n : Nat} {w : World} {g wd d0 d1 vd e0 e1 : Nat} {G1 G2 : Nat → Prop} {S : Wi} {t0 t1 f0 f1 : Int} {k dir kk to : Int} (hR : Rn n S t0 t1 f0 f1) {va : Option Addr} {vc : Nat} {f : List UInt8} (hb : BytesAt w (.slice va f.length vc) f) (hv : sliceIn (.slice va f.length vc) (fun b => ¬ RgZ g G1 G2 b ∧ b < w.heap.size)) (h : Sep w (RgL g wd d0 d1 vd e0 e1 G1 G2 ⟨S, S, t0, t1, f0, f1⟩)) : Calls Try.prog 48 #[pt g 0, Value.agg #[iw k, iw dir, iw kk, iw to, Value.slice va f.length vc]] w fun e w' => e = .returned (bo true) ∧ DoTo w g wd d0 d1 vd e0 e1 G1 G2 n S k w' := by
  rcases (show dir % 2 = 0 ∨ dir % 2 = 1 by omega) with hsd | hsd
  · exact device0_any hsd hR hb hv h
  · exact device1_any hsd hR hb hv h

end Go.Proofs.Ytcilikkljkdceaa

/-
  The rig, with the document's wire opened.
-/
namespace Go.Proofs.Ytcilikkljkdceaa
open Go.RowKit
section
variable {w : World} {g wd d0 d1 vd e0 e1 : Nat} {G1 G2 : Nat → Prop} {R : Rg}
abbrev RgO (g wd d0 d1 vd e0 e1 : Nat) (G1 : Nat → Prop) (M : WM) (R : Rg) : List Res := [rBlk g [pt d0 0, pt d1 0, pt wd 0, pt e0 0, pt e1 0, pt vd 0, iw R.t0, iw R.t1, iw R.f0, iw R.f1] 41, rWp wd d0 d1 G1 R.S] ++ WLm 100 92 46 vd e0 e1 M R.V.A0 R.V.A1 R.V.now
theorem rg_open (h : Sep w (RgL g wd d0 d1 vd e0 e1 G1 G2 R)) : ∃ M, M.Ok R.V ∧ Sep w (RgO g wd d0 d1 vd e0 e1 G1 M R) := by
  obtain ⟨⟨M, hM, hs, hg⟩, hlt⟩ := h.get (i := 2) rfl
  refine ⟨M, hM, fun r hr => ?_, List.pairwise_append.2 ⟨?_, hs.2, fun s hs1 r hr b hb hc => ?_⟩⟩
  · rcases List.mem_append.1 hr with hr | hr
    · exact h.1 r (by simp only [List.mem_cons, List.not_mem_nil, or_false] at hr ⊢; rcases hr with hr | hr; exact .inl hr; exact .inr (.inl hr))
    · exact hs.1 r hr
  · have h9 := h.2.sublist (List.take_sublist 2 (RgL g wd d0 d1 vd e0 e1 G1 G2 R))
    exact h9
  · have hG : G2 b := hg b (wl_fp.1 ⟨r, hr, hc⟩)
    obtain ⟨p0, p1⟩ := List.pairwise_cons.1 h.2
    obtain ⟨p2, _⟩ := List.pairwise_cons.1 p1
    simp only [List.mem_cons, List.not_mem_nil, or_false] at hs1
    rcases hs1 with rfl | rfl
    · exact p0 (rWq vd e0 e1 G2 R.V) (by simp) b hb hG
    · exact p2 (rWq vd e0 e1 G2 R.V) (by simp) b hb hG
end
theorem byte_inc (y : UInt8) : IntKind.u8.wrap ((y.toNat : Int) + 1) = ((y + 1).toNat : Int) := by
  have e : IntKind.u8.wrap ((y.toNat : Int) + 1) = ((y.toNat : Int) + 1) % 256 := by simp [IntKind.wrap, IntKind.bits, IntKind.signed]
  rw [e, UInt8.toNat_add]
  show _ = (((y.toNat + 1) % 256 : Nat) : Int)
  omega
theorem rw_see_at {n : Nat} {S : Wi} {x : Fm} {er : Int} (hB : Wb n S) {w : World} {wd d0 d1 : Nat} {G : Nat → Prop} (h : (rWp wd d0 d1 G S).ok w) {dir k : Int} (es : seeD S dir k = (x, er)) : Calls Try.prog 13 #[pt wd 0, iw dir, iw k] w fun e w' => ∃ q c, e = .returned (.tuple #[.agg #[.slice q x.f.length c, bo x.bad, iw x.tick], iw er]) ∧ OwnBytes w' 0 5 (.slice q x.f.length c) x.f ∧ (∀ b, (Value.slice q x.f.length c).ownBlock = some b → w.heap.size ≤ b) ∧ Only (fun _ => False) w w' := by
  have := rw_see hB h dir k
  rw [es] at this
  exact this
theorem see_in {S : Wi} {b : Bool} {k : Int} {x : Fm} (h0 : 0 ≤ k) (hx : (S.L b)[k.toNat]? = some x) : (seeW S b k, thereF (S.L b) k) = (x, 0) := by
  have hl : k.toNat < (S.L b).length := (List.getElem?_eq_some_iff.1 hx).1
  have e : thereF (S.L b) k = 0 := by unfold thereF; rw [if_neg (by simp; omega)]
  unfold seeW
  rw [e, if_pos rfl, List.getD_eq_getElem?_getD, hx]; rfl
theorem see_out {S : Wi} {b : Bool} {k : Int} (h : k < 0 ∨ ((S.L b).length : Int) ≤ k) : (seeW S b k, thereF (S.L b) k) = (fm0, 7) := by
  have e : thereF (S.L b) k = 7 := by unfold thereF; rw [if_pos (by simp; omega)]
  unfold seeW
  rw [e, if_neg (by decide)]
section
variable {P : Program} {X : Cx} {Q : Exit → Act → World → Prop} {m : List (Nat × Value)} {l : List Res}
theorem SC.weakN {c : Code} {r : Res} (i : Nat) (r' : Res) (hi : l[i]? = some r) (hr : ∀ w, r.ok w → r'.ok w) (hf : ∀ b, r'.fp b → r.fp b) (h : SC P X c Q m (l.set i r')) : SC P X c Q m l := fun a w hf' hI => h a w hf' (hI.weak hi (hr w) hf)
end
end Go.Proofs.Ytcilikkljkdceaa

/-
  sees.
-/
namespace Go.Proofs.Ytcilikkljkdceaa
open Go.RowKit
set_option maxRecDepth 100000
set_option maxHeartbeats 4000000
theorem psx {ps : List FmV} {l : List Fm} (h : ps.map FmV.fr = l) {i : Nat} {x : Fm} (hx : l[i]? = some x) : ∃ v, ps[i]? = some ⟨v, x⟩ := by
  rw [← h, List.getElem?_map] at hx
  cases hp : ps[i]? with
  | none => rw [hp] at hx; cases hx
  | some p =>
    rw [hp] at hx
    simp only [Option.map_some, Option.some.injEq] at hx
    exact ⟨p.v, by rw [← hx]⟩
theorem sees0_in {n : Nat} {w : World} {g wd d0 d1 vd e0 e1 : Nat} {G1 G2 : Nat → Prop} {S : Wi} {t0 t1 f0 f1 : Int} {k : Int} {x : Fm} (hk0 : 0 ≤ k) (hx : S.L0[k.toNat]? = some x) (hB : Wb n S) (h : Sep w (RgL g wd d0 d1 vd e0 e1 G1 G2 ⟨S, S, t0, t1, f0, f1⟩)) : Calls Try.prog 41 #[pt g 0, iw 0, iw k] w fun e w' => e = .returned (bo true) ∧ Only (fun _ => False) w w' := by
  obtain ⟨M, hM, ho⟩ := rg_open h
  dsimp only at hM ho
  have hsq : Sep w (WLm 100 92 46 vd e0 e1 M S.A0 S.A1 S.now) := ⟨fun r hr => ho.1 r (List.mem_append_right _ hr), (List.pairwise_append.1 ho.2).2.1⟩
  obtain ⟨v, hpx⟩ : ∃ v, M.ps0[k.toNat]? = some ⟨v, x⟩ := psx hM.l0 hx
  obtain ⟨_, _, xa, xc, hxv⟩ := hM.form0 hsq _ (List.mem_of_getElem? hpx)
  have hxf : M.fs v x.f := hM.f0 _ (List.mem_of_getElem? hpx)
  dsimp only at hxv
  subst hxv
  have hk1 : k < (M.ps0.length : Int) := by have := (List.getElem?_eq_some_iff.1 hpx).1; omega
  have hxl : x.f.length ≤ 274 := (hB.l0.2 x (List.mem_of_getElem? hx)).1
  have es : seeD S 0 k = (x, 0) := see_in (b := false) hk0 hx
  refine calls_sc (l0 := (RgO g wd d0 d1 vd e0 e1 G1 M ⟨S, S, t0, t1, f0, f1⟩)) (args := [pt g 0, iw 0, iw k]) (fun _ => False) Try.func41 rfl 101 Try.ntmps41 (le_b rfl) ⟨ho, Only.refl _ _⟩ ?_
  show SC _ _ _ _ [(0, pt g 0), (1, iw 0), (2, iw k)] (RgO g wd d0 d1 vd e0 e1 G1 M ⟨S, S, t0, t1, f0, f1⟩)
  refine SC.sr ?_
  refine SL.as ?_
  refine SL.nl ?_
  refine SC.sr ?_
  refine SL.mv ?_
  refine SL.nk ?_
  refine SL.fa 2 fd41_1 ?_
  refine SL.ld 0 ts35 ?_
  refine SL.mv ?_
  refine SL.mv ?_
  refine SL.mk (Mk.take ⟨101, w, fun _ => False⟩ x.f x.bad x.tick 0 5) (w_all rfl) rfl co13 rfl rfl rfl (lt_b rfl) (fun l' w hI => (rw_see_at hB (hI.1.get (i := 1) rfl) es).mono fun e w2 ⟨q, c, h1, h2, h3, h4⟩ => ⟨_, h1, ⟨q, c, fun b hb => Nat.le_trans hI.2.size (h3 b hb), rfl⟩, hI.add (r := rMine (.slice q _ c) _ 5) h4 h2 h3⟩) ?_
  rintro _ ⟨q1, c2, hoq1, rfl⟩
  refine SL.mv ?_
  refine SL.uu (ru_extract rfl rfl rfl) ?_
  refine SL.uu (ru_extract rfl rfl rfl) ?_
  refine SL.alloca rfl rfl (lt_b rfl) ta46 rfl fun b3 hb3 => ?_
  refine SL.storea (i := 9) (vs := [Value.slice q1 x.f.length c2, bo x.bad, iw x.tick]) (c' := [Value.slice q1 x.f.length c2, bo x.bad, iw x.tick]) rfl rfl ta46 rfl rfl rfl rfl rfl rfl (le_b rfl) (.inr hb3) rfl ?_
  refine SL.as ?_
  refine SL.nl ?_
  refine SC.sr ?_
  refine SL.as ?_
  refine SL.nl ?_
  refine SC.sr ?_
  refine SL.alloca rfl rfl (lt_b rfl) ta46 rfl fun b4 hb4 => ?_
  refine SL.nl ?_
  refine SC.seq ?_
  refine SC.sr ?_
  refine SL.mv ?_
  refine SL.uu (ru_eq (b := true) rfl rfl rfl rfl) ?_
  refine SL.mv ?_
  refine SL.oo ?_
  refine SL.oo ?_
  refine SL.pk (bo true) (undef) ?_
  refine SL.nl ?_
  refine SC.yes rfl ?_
  refine SC.sr ?_
  refine SL.as ?_
  refine SL.nl ?_
  refine SC.sr ?_
  refine SL.mv ?_
  refine SL.uu (ru_ge (b := true) rfl rfl rfl (decide_eq_true hk0)) ?_
  refine SL.mv ?_
  refine SL.gg (ru_move rfl rfl) ?_
  refine SL.gg (ru_move rfl rfl) ?_
  refine SL.gg (ru_nilCheck rfl rfl) ?_
  refine SL.gg (ru_fieldAddr (o2 := 5) fd41_3 rfl rfl rfl) ?_
  refine SL.gg (ru_load (i := 0) ts38 rfl rfl rfl rfl) ?_
  refine SL.gg (ru_move rfl rfl) ?_
  refine SL.gg (ru_nilCheck rfl rfl) ?_
  refine SL.gg (ru_fieldAddr (o2 := 2) fd92_1 rfl rfl rfl) ?_
  refine SL.gg (ru_indexA (o2 := 2) ar75 rfl rfl rfl (by decide) (by decide) rfl) ?_
  refine SL.gg (ru_load (i := 2) ts56 rfl rfl rfl rfl) ?_
  refine SL.gg (ru_len Try.underlying56 rfl rfl) ?_
  refine SL.gg (ru_lt (b := true) rfl rfl rfl (decide_eq_true hk1)) ?_
  refine SL.pk (bo true) (bo false) ?_
  refine SL.nl ?_
  refine SC.yes rfl ?_
  refine SC.sr ?_
  refine SL.mv ?_
  refine SL.nk ?_
  refine SL.fa 5 fd41_3 ?_
  refine SL.ld 0 ts38 ?_
  refine SL.mv ?_
  refine SL.nk ?_
  refine SL.fa 2 fd92_1 ?_
  refine SL.ia 2 ar75 ?_
  refine SL.ld 2 ts56 ?_
  refine SL.mv ?_
  refine SL.uu (ru_index_rowN (ri := 5) si56 rfl rfl rfl rfl (by omega) (by omega)) ?_
  refine SL.uu (ru_loada_rowN (ri := 5) (i := k.toNat) (r := [Value.slice xa x.f.length xc, bo x.bad, iw x.tick]) ta46 rfl rfl rfl (by show (M.ps0.map FmV.row)[_]? = _; rw [List.getElem?_map, hpx]; rfl) rfl rfl) ?_
  refine SL.storea (i := 10) (vs := [Value.slice xa x.f.length xc, bo x.bad, iw x.tick]) (c' := [Value.slice xa x.f.length xc, bo x.bad, iw x.tick]) rfl rfl ta46 rfl rfl rfl rfl rfl rfl (le_b rfl) (.inr hb4) rfl ?_
  refine SL.nn [(6, bo false), (7, pt b3 0), (8, iw 0), (9, iw 7), (10, pt b4 0)] _ ⟨rfl, rfl, rfl, rfl, rfl, trivial⟩ ?_
  refine SC.region ?_
  refine SL.as ?_
  refine SL.nl ?_
  refine SC.sr ?_
  refine SL.fa 0 fd46_0 ?_
  refine SL.ld 9 ts28 ?_
  refine SL.uu (ru_str (f := x.f) Try.underlying28 Try.underlying5 Try.underlying9 rfl rfl (fun w hI => mine_bytesw hI (j := 8) rfl (by have := hxl; omega))) ?_
  refine SL.fa 0 fd46_0 ?_
  refine SL.ld 10 ts28 ?_
  refine SL.uu (ru_str (f := x.f) Try.underlying28 Try.underlying5 Try.underlying9 rfl rfl (fun w hI => ((hI.1.get (i := 7) rfl).2 _ _ hxf).1)) ?_
  refine SL.uu (ru_streq (f := x.f) (h := x.f) (b := true) Try.underlying9 rfl rfl rfl (by simp)) ?_
  refine SL.mv ?_
  refine SL.gg (ru_fieldAddr (o2 := 1) fd46_1 rfl rfl rfl) ?_
  refine SL.gg (ru_load (i := 9) ts4 rfl rfl rfl rfl) ?_
  refine SL.gg (ru_fieldAddr (o2 := 1) fd46_1 rfl rfl rfl) ?_
  refine SL.gg (ru_load (i := 10) ts4 rfl rfl rfl rfl) ?_
  refine SL.gg (ru_eqb (b := true) Try.underlying4 rfl rfl rfl (by simp)) ?_
  refine SL.pk (bo true) (bo false) ?_
  refine SL.mv ?_
  refine SL.gg (ru_fieldAddr (o2 := 2) fd46_2 rfl rfl rfl) ?_
  refine SL.gg (ru_load (i := 9) ts3 rfl rfl rfl rfl) ?_
  refine SL.gg (ru_fieldAddr (o2 := 2) fd46_2 rfl rfl rfl) ?_
  refine SL.gg (ru_load (i := 10) ts3 rfl rfl rfl rfl) ?_
  refine SL.gg (ru_eq (b := true) rfl rfl rfl (by simp)) ?_
  refine SL.pk (bo true) (bo false) ?_
  refine SL.mv ?_
  refine SL.gg (ru_move rfl rfl) ?_
  refine SL.gg (ru_move rfl rfl) ?_
  refine SL.gg (ru_eq (b := true) rfl rfl rfl rfl) ?_
  refine SL.pk (bo true) (bo false) ?_
  refine SL.as ?_
  refine SL.nl ?_
  refine SC.seq ?_
  refine SC.sr ?_
  refine SL.as ?_
  refine SL.nl ?_
  refine SC.block ?_
  refine SC.weakN 8 (rRowN (.slice q1 x.f.length c2) (bRows x.f) 5 1) rfl (fun w h => mine_rows.1 h) (fun b hb => hb) ?_
  refine SC.loop (γ := Nat × List UInt8) (fun n z => [(6, bo false), (7, pt b3 0), (11, bo true), (12, iw (z.1 : Int))]) (fun n z => [rG g d0 d1 wd e0 e1 vd t0 t1 f0 f1 41, rWp wd d0 d1 G1 S, rB vd e0 e1 M S.now 92, rDv 100 e0 M.fs S.A0, rDv 100 e1 M.fs S.A1, rR0 M 46, rR1 M 46, rZ M.F M.fs, rRowN (.slice q1 x.f.length c2) (bRows z.2) 5 1, rBlk b3 [Value.slice q1 x.f.length c2, bo x.bad, iw x.tick] 46, rBlk b4 [Value.slice xa x.f.length xc, bo x.bad, iw x.tick] 46]) (fun n z => n + z.1 = x.f.length ∧ z.2.length = x.f.length) x.f.length (0, x.f) ⟨rfl, rfl⟩ ⟨rfl, rfl, rfl, rfl, trivial⟩ rfl ?_
  rintro N ⟨i, f9⟩ ⟨hn9, hf9⟩
  dsimp only at hn9 hf9
  rcases N with _ | N
  · skip
    refine SC.seq ?_
    refine SC.sr ?_
    refine SL.mv ?_
    refine SL.fa 0 fd46_0 ?_
    refine SL.ld 9 ts28 ?_
    refine SL.uu (ru_len Try.underlying28 rfl rfl) ?_
    refine SL.uu (ru_lt (b := (decide (((i : Int) : Int) < (x.f.length : Int)))) rfl rfl rfl rfl) ?_
    refine SL.nl ?_
    refine SC.no (show some (Value.bool (decide (((i : Int) : Int) < (x.f.length : Int)))) = some (Value.bool false) from congrArg (fun x => some (Value.bool x)) (decide_eq_false (by omega))) ?_
    refine SC.exit ?_
    refine SE.passe ?_
    refine SE.passe ?_
    refine SE.blke ?_
    refine SC.of_SE ?_
    refine SC.sr ?_
    refine SL.mv ?_
    refine SL.as ?_
    refine SL.nl ?_
    refine SC.ret ?_
    refine SE.res (.inl rfl) (res1 Try.results41 rfl) fun w1 hI => ⟨rfl, hI.2⟩
  obtain ⟨y, hy⟩ : ∃ y, f9[i]? = some y := ⟨_, List.getElem?_eq_getElem (by omega)⟩
  refine SC.seq ?_
  refine SC.sr ?_
  refine SL.mv ?_
  refine SL.fa 0 fd46_0 ?_
  refine SL.ld 9 ts28 ?_
  refine SL.uu (ru_len Try.underlying28 rfl rfl) ?_
  refine SL.uu (ru_lt (b := (decide (((i : Int) : Int) < (x.f.length : Int)))) rfl rfl rfl rfl) ?_
  refine SL.nl ?_
  refine SC.yes (show some (Value.bool (decide (((i : Int) : Int) < (x.f.length : Int)))) = some (Value.bool true) from congrArg (fun x => some (Value.bool x)) (decide_eq_true (by omega))) ?_
  refine SC.skip ?_
  refine SC.of_SE ?_
  refine SC.seq ?_
  refine SC.block ?_
  refine SC.region_tail 10 (by kernel_rfl) (by kernel_rfl) ?_
  refine SQ.fa 0 fd46_0 ?_
  refine SQ.ld 9 ts28 ?_
  refine SQ.mv ?_
  refine SQ.fa 0 fd46_0 ?_
  refine SQ.ld 9 ts28 ?_
  refine SQ.mv ?_
  refine SQ.uu (ru_index_rowN (ri := 8) si28 rfl rfl rfl rfl (by omega) (by omega)) ?_
  refine SQ.uu (ru_load_rowN (ri := 8) (i := (i : Int).toNat) (k := 0) (r := [bv y]) ts5 rfl rfl rfl (by rw [Int.toNat_natCast]; show (List.map _ f9)[_]? = _; rw [List.getElem?_map, hy]; rfl) (by decide) rfl) ?_
  refine SQ.uu (ru_add (r := ((y + 1).toNat : Int)) rfl rfl rfl (byte_inc y)) ?_
  refine SQ.uu (ru_index_rowN (ri := 8) si28 rfl rfl rfl rfl (by omega) (by omega)) ?_
  refine SQ.nilL ?_
  refine SL.store_rowN (ri := 8) (i := (i : Int).toNat) (k := 0) (r := [bv y]) rfl rfl ts5 rfl rfl rfl rfl rfl (by rw [Int.toNat_natCast]; show (List.map _ f9)[_]? = _; rw [List.getElem?_map, hy]; rfl) (by decide) (fun b hb => .inr (hoq1 b hb)) ?_
  refine SL.nil ?_
  refine SE.blkn ?_
  refine SC.of_SE ?_
  refine SC.region ?_
  refine SL.mv ?_
  refine SL.uu (ru_add (r := (IntKind.i64.wrap ((i : Int) + 1))) rfl rfl rfl rfl) ?_
  refine SL.as ?_
  refine SL.nil ?_
  have eb : (bRows f9).set ((i : Int).toNat) ([bv y].set 0 (bv (y + 1))) = bRows (f9.set i (y + 1)) := by rw [Int.toNat_natCast]; exact bRows_set _ _ _
  refine SE.keep 11 ?_
  refine SE.again N (i + 1, f9.set i (y + 1)) (by omega) ⟨by omega, by rw [List.length_set]; exact hf9⟩ ⟨rfl, rfl, rfl, (congrArg (fun x => some (iw x)) (show IntKind.i64.wrap ((i : Int) + 1) = ((i + 1 : Nat) : Int) by rw [IntKind.wrap_i64]; omega)), trivial⟩ (by dsimp only; rw [← eb]; rfl)
theorem sees0_neg {n : Nat} {w : World} {g wd d0 d1 vd e0 e1 : Nat} {G1 G2 : Nat → Prop} {S : Wi} {t0 t1 f0 f1 : Int} {k : Int} (hk : k < 0) (hB : Wb n S) (h : Sep w (RgL g wd d0 d1 vd e0 e1 G1 G2 ⟨S, S, t0, t1, f0, f1⟩)) : Calls Try.prog 41 #[pt g 0, iw 0, iw k] w fun e w' => e = .returned (bo true) ∧ Only (fun _ => False) w w' := by
  obtain ⟨M, hM, ho⟩ := rg_open h
  dsimp only at hM ho
  have hxl : fm0.f.length ≤ 274 := by decide
  have hl9 : M.ps0.length = S.L0.length := by rw [← hM.l0, List.length_map]
  have es : seeD S 0 k = (fm0, 7) := see_out (b := false) (.inl hk)
  refine calls_sc (l0 := (RgO g wd d0 d1 vd e0 e1 G1 M ⟨S, S, t0, t1, f0, f1⟩)) (args := [pt g 0, iw 0, iw k]) (fun _ => False) Try.func41 rfl 101 Try.ntmps41 (le_b rfl) ⟨ho, Only.refl _ _⟩ ?_
  show SC _ _ _ _ [(0, pt g 0), (1, iw 0), (2, iw k)] (RgO g wd d0 d1 vd e0 e1 G1 M ⟨S, S, t0, t1, f0, f1⟩)
  refine SC.sr ?_
  refine SL.as ?_
  refine SL.nl ?_
  refine SC.sr ?_
  refine SL.mv ?_
  refine SL.nk ?_
  refine SL.fa 2 fd41_1 ?_
  refine SL.ld 0 ts35 ?_
  refine SL.mv ?_
  refine SL.mv ?_
  refine SL.mk (Mk.take ⟨101, w, fun _ => False⟩ fm0.f fm0.bad fm0.tick 7 5) (w_all rfl) rfl co13 rfl rfl rfl (lt_b rfl) (fun l' w hI => (rw_see_at hB (hI.1.get (i := 1) rfl) es).mono fun e w2 ⟨q, c, h1, h2, h3, h4⟩ => ⟨_, h1, ⟨q, c, fun b hb => Nat.le_trans hI.2.size (h3 b hb), rfl⟩, hI.add (r := rMine (.slice q _ c) _ 5) h4 h2 h3⟩) ?_
  rintro _ ⟨q1, c2, hoq1, rfl⟩
  refine SL.mv ?_
  refine SL.uu (ru_extract rfl rfl rfl) ?_
  refine SL.uu (ru_extract rfl rfl rfl) ?_
  refine SL.alloca rfl rfl (lt_b rfl) ta46 rfl fun b3 hb3 => ?_
  refine SL.storea (i := 9) (vs := [Value.slice q1 fm0.f.length c2, bo false, iw 0]) (c' := [Value.slice q1 fm0.f.length c2, bo false, iw 0]) rfl rfl ta46 rfl rfl rfl rfl rfl rfl (le_b rfl) (.inr hb3) rfl ?_
  refine SL.as ?_
  refine SL.nl ?_
  refine SC.sr ?_
  refine SL.as ?_
  refine SL.nl ?_
  refine SC.sr ?_
  refine SL.alloca rfl rfl (lt_b rfl) ta46 rfl fun b4 hb4 => ?_
  refine SL.nl ?_
  refine SC.seq ?_
  refine SC.sr ?_
  refine SL.mv ?_
  refine SL.uu (ru_eq (b := true) rfl rfl rfl rfl) ?_
  refine SL.mv ?_
  refine SL.oo ?_
  refine SL.oo ?_
  refine SL.pk (bo true) (undef) ?_
  refine SL.nl ?_
  refine SC.yes rfl ?_
  refine SC.sr ?_
  refine SL.as ?_
  refine SL.nl ?_
  refine SC.sr ?_
  refine SL.mv ?_
  refine SL.uu (ru_ge (b := false) rfl rfl rfl (decide_eq_false (by omega))) ?_
  refine SL.mv ?_
  refine SL.oo ?_
  refine SL.oo ?_
  refine SL.oo ?_
  refine SL.oo ?_
  refine SL.oo ?_
  refine SL.oo ?_
  refine SL.oo ?_
  refine SL.oo ?_
  refine SL.oo ?_
  refine SL.oo ?_
  refine SL.oo ?_
  refine SL.oo ?_
  refine SL.pk (undef) (bo false) ?_
  refine SL.nl ?_
  refine SC.no rfl ?_
  refine SC.skip ?_
  refine SC.of_SE ?_
  refine SC.sr ?_
  refine SL.fa 0 fd46_0 ?_
  refine SL.ld 9 ts28 ?_
  refine SL.uu (ru_str (f := fm0.f) Try.underlying28 Try.underlying5 Try.underlying9 rfl rfl (fun w hI => mine_bytesw hI (j := 8) rfl (by decide))) ?_
  refine SL.fa 0 fd46_0 ?_
  refine SL.ld 10 ts28 ?_
  refine SL.uu (ru_str (f := fm0.f) Try.underlying28 Try.underlying5 Try.underlying9 rfl rfl (fun w hI => BytesAt.nil _)) ?_
  refine SL.uu (ru_streq (f := fm0.f) (h := fm0.f) (b := true) Try.underlying9 rfl rfl rfl (by simp)) ?_
  refine SL.mv ?_
  refine SL.gg (ru_fieldAddr (o2 := 1) fd46_1 rfl rfl rfl) ?_
  refine SL.gg (ru_load (i := 9) ts4 rfl rfl rfl rfl) ?_
  refine SL.gg (ru_fieldAddr (o2 := 1) fd46_1 rfl rfl rfl) ?_
  refine SL.gg (ru_load (i := 10) ts4 rfl rfl rfl rfl) ?_
  refine SL.gg (ru_eqb (b := true) Try.underlying4 rfl rfl rfl rfl) ?_
  refine SL.pk (bo true) (bo false) ?_
  refine SL.mv ?_
  refine SL.gg (ru_fieldAddr (o2 := 2) fd46_2 rfl rfl rfl) ?_
  refine SL.gg (ru_load (i := 9) ts3 rfl rfl rfl rfl) ?_
  refine SL.gg (ru_fieldAddr (o2 := 2) fd46_2 rfl rfl rfl) ?_
  refine SL.gg (ru_load (i := 10) ts3 rfl rfl rfl rfl) ?_
  refine SL.gg (ru_eq (b := true) rfl rfl rfl rfl) ?_
  refine SL.pk (bo true) (bo false) ?_
  refine SL.mv ?_
  refine SL.gg (ru_move rfl rfl) ?_
  refine SL.gg (ru_move rfl rfl) ?_
  refine SL.gg (ru_eq (b := true) rfl rfl rfl rfl) ?_
  refine SL.pk (bo true) (bo false) ?_
  refine SL.as ?_
  refine SL.nn [(6, bo false), (7, pt b3 0), (11, bo true)] _ ⟨rfl, rfl, rfl, trivial⟩ ?_
  refine SC.seq ?_
  refine SC.sr ?_
  refine SL.as ?_
  refine SL.nl ?_
  refine SC.block ?_
  refine SC.weakN 8 (rRowN (.slice q1 fm0.f.length c2) (bRows fm0.f) 5 1) rfl (fun w h => mine_rows.1 h) (fun b hb => hb) ?_
  refine SC.loop (γ := Nat × List UInt8) (fun n z => [(6, bo false), (7, pt b3 0), (11, bo true), (12, iw (z.1 : Int))]) (fun n z => [rG g d0 d1 wd e0 e1 vd t0 t1 f0 f1 41, rWp wd d0 d1 G1 S, rB vd e0 e1 M S.now 92, rDv 100 e0 M.fs S.A0, rDv 100 e1 M.fs S.A1, rR0 M 46, rR1 M 46, rZ M.F M.fs, rRowN (.slice q1 fm0.f.length c2) (bRows z.2) 5 1, rBlk b3 [Value.slice q1 fm0.f.length c2, bo false, iw 0] 46, rBlk b4 [Value.slice none 0 0, bo false, iw 0] 46]) (fun n z => n + z.1 = fm0.f.length ∧ z.2.length = fm0.f.length) fm0.f.length (0, fm0.f) ⟨rfl, rfl⟩ ⟨rfl, rfl, rfl, rfl, trivial⟩ rfl ?_
  rintro N ⟨i, f9⟩ ⟨hn9, hf9⟩
  dsimp only at hn9 hf9
  rcases N with _ | N
  · skip
    refine SC.seq ?_
    refine SC.sr ?_
    refine SL.mv ?_
    refine SL.fa 0 fd46_0 ?_
    refine SL.ld 9 ts28 ?_
    refine SL.uu (ru_len Try.underlying28 rfl rfl) ?_
    refine SL.uu (ru_lt (b := (decide (((i : Int) : Int) < (fm0.f.length : Int)))) rfl rfl rfl rfl) ?_
    refine SL.nl ?_
    refine SC.no (show some (Value.bool (decide (((i : Int) : Int) < (fm0.f.length : Int)))) = some (Value.bool false) from congrArg (fun x => some (Value.bool x)) (decide_eq_false (by omega))) ?_
    refine SC.exit ?_
    refine SE.passe ?_
    refine SE.passe ?_
    refine SE.blke ?_
    refine SC.of_SE ?_
    refine SC.sr ?_
    refine SL.mv ?_
    refine SL.as ?_
    refine SL.nl ?_
    refine SC.ret ?_
    refine SE.res (.inl rfl) (res1 Try.results41 rfl) fun w1 hI => ⟨rfl, hI.2⟩
  obtain ⟨y, hy⟩ : ∃ y, f9[i]? = some y := ⟨_, List.getElem?_eq_getElem (by omega)⟩
  refine SC.seq ?_
  refine SC.sr ?_
  refine SL.mv ?_
  refine SL.fa 0 fd46_0 ?_
  refine SL.ld 9 ts28 ?_
  refine SL.uu (ru_len Try.underlying28 rfl rfl) ?_
  refine SL.uu (ru_lt (b := (decide (((i : Int) : Int) < (fm0.f.length : Int)))) rfl rfl rfl rfl) ?_
  refine SL.nl ?_
  refine SC.yes (show some (Value.bool (decide (((i : Int) : Int) < (fm0.f.length : Int)))) = some (Value.bool true) from congrArg (fun x => some (Value.bool x)) (decide_eq_true (by omega))) ?_
  refine SC.skip ?_
  refine SC.of_SE ?_
  refine SC.seq ?_
  refine SC.block ?_
  refine SC.region_tail 10 (by kernel_rfl) (by kernel_rfl) ?_
  refine SQ.fa 0 fd46_0 ?_
  refine SQ.ld 9 ts28 ?_
  refine SQ.mv ?_
  refine SQ.fa 0 fd46_0 ?_
  refine SQ.ld 9 ts28 ?_
  refine SQ.mv ?_
  refine SQ.uu (ru_index_rowN (ri := 8) si28 rfl rfl rfl rfl (by omega) (by omega)) ?_
  refine SQ.uu (ru_load_rowN (ri := 8) (i := (i : Int).toNat) (k := 0) (r := [bv y]) ts5 rfl rfl rfl (by rw [Int.toNat_natCast]; show (List.map _ f9)[_]? = _; rw [List.getElem?_map, hy]; rfl) (by decide) rfl) ?_
  refine SQ.uu (ru_add (r := ((y + 1).toNat : Int)) rfl rfl rfl (byte_inc y)) ?_
  refine SQ.uu (ru_index_rowN (ri := 8) si28 rfl rfl rfl rfl (by omega) (by omega)) ?_
  refine SQ.nilL ?_
  refine SL.store_rowN (ri := 8) (i := (i : Int).toNat) (k := 0) (r := [bv y]) rfl rfl ts5 rfl rfl rfl rfl rfl (by rw [Int.toNat_natCast]; show (List.map _ f9)[_]? = _; rw [List.getElem?_map, hy]; rfl) (by decide) (fun b hb => .inr (hoq1 b hb)) ?_
  refine SL.nil ?_
  refine SE.blkn ?_
  refine SC.of_SE ?_
  refine SC.region ?_
  refine SL.mv ?_
  refine SL.uu (ru_add (r := (IntKind.i64.wrap ((i : Int) + 1))) rfl rfl rfl rfl) ?_
  refine SL.as ?_
  refine SL.nil ?_
  have eb : (bRows f9).set ((i : Int).toNat) ([bv y].set 0 (bv (y + 1))) = bRows (f9.set i (y + 1)) := by rw [Int.toNat_natCast]; exact bRows_set _ _ _
  refine SE.keep 11 ?_
  refine SE.again N (i + 1, f9.set i (y + 1)) (by omega) ⟨by omega, by rw [List.length_set]; exact hf9⟩ ⟨rfl, rfl, rfl, (congrArg (fun x => some (iw x)) (show IntKind.i64.wrap ((i : Int) + 1) = ((i + 1 : Nat) : Int) by rw [IntKind.wrap_i64]; omega)), trivial⟩ (by dsimp only; rw [← eb]; rfl)
theorem sees0_out {n : Nat} {w : World} {g wd d0 d1 vd e0 e1 : Nat} {G1 G2 : Nat → Prop} {S : Wi} {t0 t1 f0 f1 : Int} {k : Int} (hk0 : 0 ≤ k) (hk : (S.L0.length : Int) ≤ k) (hB : Wb n S) (h : Sep w (RgL g wd d0 d1 vd e0 e1 G1 G2 ⟨S, S, t0, t1, f0, f1⟩)) : Calls Try.prog 41 #[pt g 0, iw 0, iw k] w fun e w' => e = .returned (bo true) ∧ Only (fun _ => False) w w' := by
  obtain ⟨M, hM, ho⟩ := rg_open h
  dsimp only at hM ho
  have hxl : fm0.f.length ≤ 274 := by decide
  have hl9 : M.ps0.length = S.L0.length := by rw [← hM.l0, List.length_map]
  have es : seeD S 0 k = (fm0, 7) := see_out (b := false) (.inr hk)
  refine calls_sc (l0 := (RgO g wd d0 d1 vd e0 e1 G1 M ⟨S, S, t0, t1, f0, f1⟩)) (args := [pt g 0, iw 0, iw k]) (fun _ => False) Try.func41 rfl 101 Try.ntmps41 (le_b rfl) ⟨ho, Only.refl _ _⟩ ?_
  show SC _ _ _ _ [(0, pt g 0), (1, iw 0), (2, iw k)] (RgO g wd d0 d1 vd e0 e1 G1 M ⟨S, S, t0, t1, f0, f1⟩)
  refine SC.sr ?_
  refine SL.as ?_
  refine SL.nl ?_
  refine SC.sr ?_
  refine SL.mv ?_
  refine SL.nk ?_
  refine SL.fa 2 fd41_1 ?_
  refine SL.ld 0 ts35 ?_
  refine SL.mv ?_
  refine SL.mv ?_
  refine SL.mk (Mk.take ⟨101, w, fun _ => False⟩ fm0.f fm0.bad fm0.tick 7 5) (w_all rfl) rfl co13 rfl rfl rfl (lt_b rfl) (fun l' w hI => (rw_see_at hB (hI.1.get (i := 1) rfl) es).mono fun e w2 ⟨q, c, h1, h2, h3, h4⟩ => ⟨_, h1, ⟨q, c, fun b hb => Nat.le_trans hI.2.size (h3 b hb), rfl⟩, hI.add (r := rMine (.slice q _ c) _ 5) h4 h2 h3⟩) ?_
  rintro _ ⟨q1, c2, hoq1, rfl⟩
  refine SL.mv ?_
  refine SL.uu (ru_extract rfl rfl rfl) ?_
  refine SL.uu (ru_extract rfl rfl rfl) ?_
  refine SL.alloca rfl rfl (lt_b rfl) ta46 rfl fun b3 hb3 => ?_
  refine SL.storea (i := 9) (vs := [Value.slice q1 fm0.f.length c2, bo false, iw 0]) (c' := [Value.slice q1 fm0.f.length c2, bo false, iw 0]) rfl rfl ta46 rfl rfl rfl rfl rfl rfl (le_b rfl) (.inr hb3) rfl ?_
  refine SL.as ?_
  refine SL.nl ?_
  refine SC.sr ?_
  refine SL.as ?_
  refine SL.nl ?_
  refine SC.sr ?_
  refine SL.alloca rfl rfl (lt_b rfl) ta46 rfl fun b4 hb4 => ?_
  refine SL.nl ?_
  refine SC.seq ?_
  refine SC.sr ?_
  refine SL.mv ?_
  refine SL.uu (ru_eq (b := true) rfl rfl rfl rfl) ?_
  refine SL.mv ?_
  refine SL.oo ?_
  refine SL.oo ?_
  refine SL.pk (bo true) (undef) ?_
  refine SL.nl ?_
  refine SC.yes rfl ?_
  refine SC.sr ?_
  refine SL.as ?_
  refine SL.nl ?_
  refine SC.sr ?_
  refine SL.mv ?_
  refine SL.uu (ru_ge (b := true) rfl rfl rfl (decide_eq_true hk0)) ?_
  refine SL.mv ?_
  refine SL.gg (ru_move rfl rfl) ?_
  refine SL.gg (ru_move rfl rfl) ?_
  refine SL.gg (ru_nilCheck rfl rfl) ?_
  refine SL.gg (ru_fieldAddr (o2 := 5) fd41_3 rfl rfl rfl) ?_
  refine SL.gg (ru_load (i := 0) ts38 rfl rfl rfl rfl) ?_
  refine SL.gg (ru_move rfl rfl) ?_
  refine SL.gg (ru_nilCheck rfl rfl) ?_
  refine SL.gg (ru_fieldAddr (o2 := 2) fd92_1 rfl rfl rfl) ?_
  refine SL.gg (ru_indexA (o2 := 2) ar75 rfl rfl rfl (by decide) (by decide) rfl) ?_
  refine SL.gg (ru_load (i := 2) ts56 rfl rfl rfl rfl) ?_
  refine SL.gg (ru_len Try.underlying56 rfl rfl) ?_
  refine SL.gg (ru_lt (b := false) rfl rfl rfl (decide_eq_false (by omega))) ?_
  refine SL.pk (bo false) (bo false) ?_
  refine SL.nl ?_
  refine SC.no rfl ?_
  refine SC.skip ?_
  refine SC.of_SE ?_
  refine SC.sr ?_
  refine SL.fa 0 fd46_0 ?_
  refine SL.ld 9 ts28 ?_
  refine SL.uu (ru_str (f := fm0.f) Try.underlying28 Try.underlying5 Try.underlying9 rfl rfl (fun w hI => mine_bytesw hI (j := 8) rfl (by decide))) ?_
  refine SL.fa 0 fd46_0 ?_
  refine SL.ld 10 ts28 ?_
  refine SL.uu (ru_str (f := fm0.f) Try.underlying28 Try.underlying5 Try.underlying9 rfl rfl (fun w hI => BytesAt.nil _)) ?_
  refine SL.uu (ru_streq (f := fm0.f) (h := fm0.f) (b := true) Try.underlying9 rfl rfl rfl (by simp)) ?_
  refine SL.mv ?_
  refine SL.gg (ru_fieldAddr (o2 := 1) fd46_1 rfl rfl rfl) ?_
  refine SL.gg (ru_load (i := 9) ts4 rfl rfl rfl rfl) ?_
  refine SL.gg (ru_fieldAddr (o2 := 1) fd46_1 rfl rfl rfl) ?_
  refine SL.gg (ru_load (i := 10) ts4 rfl rfl rfl rfl) ?_
  refine SL.gg (ru_eqb (b := true) Try.underlying4 rfl rfl rfl rfl) ?_
  refine SL.pk (bo true) (bo false) ?_
  refine SL.mv ?_
  refine SL.gg (ru_fieldAddr (o2 := 2) fd46_2 rfl rfl rfl) ?_
  refine SL.gg (ru_load (i := 9) ts3 rfl rfl rfl rfl) ?_
  refine SL.gg (ru_fieldAddr (o2 := 2) fd46_2 rfl rfl rfl) ?_
  refine SL.gg (ru_load (i := 10) ts3 rfl rfl rfl rfl) ?_
  refine SL.gg (ru_eq (b := true) rfl rfl rfl rfl) ?_
  refine SL.pk (bo true) (bo false) ?_
  refine SL.mv ?_
  refine SL.gg (ru_move rfl rfl) ?_
  refine SL.gg (ru_move rfl rfl) ?_
  refine SL.gg (ru_eq (b := true) rfl rfl rfl rfl) ?_
  refine SL.pk (bo true) (bo false) ?_
  refine SL.as ?_
  refine SL.nn [(6, bo false), (7, pt b3 0), (11, bo true)] _ ⟨rfl, rfl, rfl, trivial⟩ ?_
  refine SC.seq ?_
  refine SC.sr ?_
  refine SL.as ?_
  refine SL.nl ?_
  refine SC.block ?_
  refine SC.weakN 8 (rRowN (.slice q1 fm0.f.length c2) (bRows fm0.f) 5 1) rfl (fun w h => mine_rows.1 h) (fun b hb => hb) ?_
  refine SC.loop (γ := Nat × List UInt8) (fun n z => [(6, bo false), (7, pt b3 0), (11, bo true), (12, iw (z.1 : Int))]) (fun n z => [rG g d0 d1 wd e0 e1 vd t0 t1 f0 f1 41, rWp wd d0 d1 G1 S, rB vd e0 e1 M S.now 92, rDv 100 e0 M.fs S.A0, rDv 100 e1 M.fs S.A1, rR0 M 46, rR1 M 46, rZ M.F M.fs, rRowN (.slice q1 fm0.f.length c2) (bRows z.2) 5 1, rBlk b3 [Value.slice q1 fm0.f.length c2, bo false, iw 0] 46, rBlk b4 [Value.slice none 0 0, bo false, iw 0] 46]) (fun n z => n + z.1 = fm0.f.length ∧ z.2.length = fm0.f.length) fm0.f.length (0, fm0.f) ⟨rfl, rfl⟩ ⟨rfl, rfl, rfl, rfl, trivial⟩ rfl ?_
  rintro N ⟨i, f9⟩ ⟨hn9, hf9⟩
  dsimp only at hn9 hf9
  rcases N with _ | N
  · skip
    refine SC.seq ?_
    refine SC.sr ?_
    refine SL.mv ?_
    refine SL.fa 0 fd46_0 ?_
    refine SL.ld 9 ts28 ?_
    refine SL.uu (ru_len Try.underlying28 rfl rfl) ?_
    refine SL.uu (ru_lt (b := (decide (((i : Int) : Int) < (fm0.f.length : Int)))) rfl rfl rfl rfl) ?_
    refine SL.nl ?_
    refine SC.no (show some (Value.bool (decide (((i : Int) : Int) < (fm0.f.length : Int)))) = some (Value.bool false) from congrArg (fun x => some (Value.bool x)) (decide_eq_false (by omega))) ?_
    refine SC.exit ?_
    refine SE.passe ?_
    refine SE.passe ?_
    refine SE.blke ?_
    refine SC.of_SE ?_
    refine SC.sr ?_
    refine SL.mv ?_
    refine SL.as ?_
    refine SL.nl ?_
    refine SC.ret ?_
    refine SE.res (.inl rfl) (res1 Try.results41 rfl) fun w1 hI => ⟨rfl, hI.2⟩
  obtain ⟨y, hy⟩ : ∃ y, f9[i]? = some y := ⟨_, List.getElem?_eq_getElem (by omega)⟩
  refine SC.seq ?_
  refine SC.sr ?_
  refine SL.mv ?_
  refine SL.fa 0 fd46_0 ?_
  refine SL.ld 9 ts28 ?_
  refine SL.uu (ru_len Try.underlying28 rfl rfl) ?_
  refine SL.uu (ru_lt (b := (decide (((i : Int) : Int) < (fm0.f.length : Int)))) rfl rfl rfl rfl) ?_
  refine SL.nl ?_
  refine SC.yes (show some (Value.bool (decide (((i : Int) : Int) < (fm0.f.length : Int)))) = some (Value.bool true) from congrArg (fun x => some (Value.bool x)) (decide_eq_true (by omega))) ?_
  refine SC.skip ?_
  refine SC.of_SE ?_
  refine SC.seq ?_
  refine SC.block ?_
  refine SC.region_tail 10 (by kernel_rfl) (by kernel_rfl) ?_
  refine SQ.fa 0 fd46_0 ?_
  refine SQ.ld 9 ts28 ?_
  refine SQ.mv ?_
  refine SQ.fa 0 fd46_0 ?_
  refine SQ.ld 9 ts28 ?_
  refine SQ.mv ?_
  refine SQ.uu (ru_index_rowN (ri := 8) si28 rfl rfl rfl rfl (by omega) (by omega)) ?_
  refine SQ.uu (ru_load_rowN (ri := 8) (i := (i : Int).toNat) (k := 0) (r := [bv y]) ts5 rfl rfl rfl (by rw [Int.toNat_natCast]; show (List.map _ f9)[_]? = _; rw [List.getElem?_map, hy]; rfl) (by decide) rfl) ?_
  refine SQ.uu (ru_add (r := ((y + 1).toNat : Int)) rfl rfl rfl (byte_inc y)) ?_
  refine SQ.uu (ru_index_rowN (ri := 8) si28 rfl rfl rfl rfl (by omega) (by omega)) ?_
  refine SQ.nilL ?_
  refine SL.store_rowN (ri := 8) (i := (i : Int).toNat) (k := 0) (r := [bv y]) rfl rfl ts5 rfl rfl rfl rfl rfl (by rw [Int.toNat_natCast]; show (List.map _ f9)[_]? = _; rw [List.getElem?_map, hy]; rfl) (by decide) (fun b hb => .inr (hoq1 b hb)) ?_
  refine SL.nil ?_
  refine SE.blkn ?_
  refine SC.of_SE ?_
  refine SC.region ?_
  refine SL.mv ?_
  refine SL.uu (ru_add (r := (IntKind.i64.wrap ((i : Int) + 1))) rfl rfl rfl rfl) ?_
  refine SL.as ?_
  refine SL.nil ?_
  have eb : (bRows f9).set ((i : Int).toNat) ([bv y].set 0 (bv (y + 1))) = bRows (f9.set i (y + 1)) := by rw [Int.toNat_natCast]; exact bRows_set _ _ _
  refine SE.keep 11 ?_
  refine SE.again N (i + 1, f9.set i (y + 1)) (by omega) ⟨by omega, by rw [List.length_set]; exact hf9⟩ ⟨rfl, rfl, rfl, (congrArg (fun x => some (iw x)) (show IntKind.i64.wrap ((i : Int) + 1) = ((i + 1 : Nat) : Int) by rw [IntKind.wrap_i64]; omega)), trivial⟩ (by dsimp only; rw [← eb]; rfl)
theorem sees1_in {n : Nat} {w : World} {g wd d0 d1 vd e0 e1 : Nat} {G1 G2 : Nat → Prop} {S : Wi} {t0 t1 f0 f1 : Int} {k : Int} {x : Fm} (hk0 : 0 ≤ k) (hx : S.L1[k.toNat]? = some x) (hB : Wb n S) (h : Sep w (RgL g wd d0 d1 vd e0 e1 G1 G2 ⟨S, S, t0, t1, f0, f1⟩)) : Calls Try.prog 41 #[pt g 0, iw 1, iw k] w fun e w' => e = .returned (bo true) ∧ Only (fun _ => False) w w' := by
  obtain ⟨M, hM, ho⟩ := rg_open h
  dsimp only at hM ho
  have hsq : Sep w (WLm 100 92 46 vd e0 e1 M S.A0 S.A1 S.now) := ⟨fun r hr => ho.1 r (List.mem_append_right _ hr), (List.pairwise_append.1 ho.2).2.1⟩
  obtain ⟨v, hpx⟩ : ∃ v, M.ps1[k.toNat]? = some ⟨v, x⟩ := psx hM.l1 hx
  obtain ⟨_, _, xa, xc, hxv⟩ := hM.form1 hsq _ (List.mem_of_getElem? hpx)
  have hxf : M.fs v x.f := hM.f1 _ (List.mem_of_getElem? hpx)
  dsimp only at hxv
  subst hxv
  have hk1 : k < (M.ps1.length : Int) := by have := (List.getElem?_eq_some_iff.1 hpx).1; omega
  have hxl : x.f.length ≤ 274 := (hB.l1.2 x (List.mem_of_getElem? hx)).1
  have es : seeD S 1 k = (x, 0) := see_in (b := true) hk0 hx
  refine calls_sc (l0 := (RgO g wd d0 d1 vd e0 e1 G1 M ⟨S, S, t0, t1, f0, f1⟩)) (args := [pt g 0, iw 1, iw k]) (fun _ => False) Try.func41 rfl 101 Try.ntmps41 (le_b rfl) ⟨ho, Only.refl _ _⟩ ?_
  show SC _ _ _ _ [(0, pt g 0), (1, iw 1), (2, iw k)] (RgO g wd d0 d1 vd e0 e1 G1 M ⟨S, S, t0, t1, f0, f1⟩)
  refine SC.sr ?_
  refine SL.as ?_
  refine SL.nl ?_
  refine SC.sr ?_
  refine SL.mv ?_
  refine SL.nk ?_
  refine SL.fa 2 fd41_1 ?_
  refine SL.ld 0 ts35 ?_
  refine SL.mv ?_
  refine SL.mv ?_
  refine SL.mk (Mk.take ⟨101, w, fun _ => False⟩ x.f x.bad x.tick 0 5) (w_all rfl) rfl co13 rfl rfl rfl (lt_b rfl) (fun l' w hI => (rw_see_at hB (hI.1.get (i := 1) rfl) es).mono fun e w2 ⟨q, c, h1, h2, h3, h4⟩ => ⟨_, h1, ⟨q, c, fun b hb => Nat.le_trans hI.2.size (h3 b hb), rfl⟩, hI.add (r := rMine (.slice q _ c) _ 5) h4 h2 h3⟩) ?_
  rintro _ ⟨q1, c2, hoq1, rfl⟩
  refine SL.mv ?_
  refine SL.uu (ru_extract rfl rfl rfl) ?_
  refine SL.uu (ru_extract rfl rfl rfl) ?_
  refine SL.alloca rfl rfl (lt_b rfl) ta46 rfl fun b3 hb3 => ?_
  refine SL.storea (i := 9) (vs := [Value.slice q1 x.f.length c2, bo x.bad, iw x.tick]) (c' := [Value.slice q1 x.f.length c2, bo x.bad, iw x.tick]) rfl rfl ta46 rfl rfl rfl rfl rfl rfl (le_b rfl) (.inr hb3) rfl ?_
  refine SL.as ?_
  refine SL.nl ?_
  refine SC.sr ?_
  refine SL.as ?_
  refine SL.nl ?_
  refine SC.sr ?_
  refine SL.alloca rfl rfl (lt_b rfl) ta46 rfl fun b4 hb4 => ?_
  refine SL.nl ?_
  refine SC.seq ?_
  refine SC.sr ?_
  refine SL.mv ?_
  refine SL.uu (ru_eq (b := false) rfl rfl rfl rfl) ?_
  refine SL.mv ?_
  refine SL.gg (ru_move rfl rfl) ?_
  refine SL.gg (ru_eq (b := true) rfl rfl rfl rfl) ?_
  refine SL.pk (bo true) (bo true) ?_
  refine SL.nl ?_
  refine SC.yes rfl ?_
  refine SC.sr ?_
  refine SL.as ?_
  refine SL.nl ?_
  refine SC.sr ?_
  refine SL.mv ?_
  refine SL.uu (ru_ge (b := true) rfl rfl rfl (decide_eq_true hk0)) ?_
  refine SL.mv ?_
  refine SL.gg (ru_move rfl rfl) ?_
  refine SL.gg (ru_move rfl rfl) ?_
  refine SL.gg (ru_nilCheck rfl rfl) ?_
  refine SL.gg (ru_fieldAddr (o2 := 5) fd41_3 rfl rfl rfl) ?_
  refine SL.gg (ru_load (i := 0) ts38 rfl rfl rfl rfl) ?_
  refine SL.gg (ru_move rfl rfl) ?_
  refine SL.gg (ru_nilCheck rfl rfl) ?_
  refine SL.gg (ru_fieldAddr (o2 := 2) fd92_1 rfl rfl rfl) ?_
  refine SL.gg (ru_indexA (o2 := 3) ar75 rfl rfl rfl (by decide) (by decide) rfl) ?_
  refine SL.gg (ru_load (i := 2) ts56 rfl rfl rfl rfl) ?_
  refine SL.gg (ru_len Try.underlying56 rfl rfl) ?_
  refine SL.gg (ru_lt (b := true) rfl rfl rfl (decide_eq_true hk1)) ?_
  refine SL.pk (bo true) (bo false) ?_
  refine SL.nl ?_
  refine SC.yes rfl ?_
  refine SC.sr ?_
  refine SL.mv ?_
  refine SL.nk ?_
  refine SL.fa 5 fd41_3 ?_
  refine SL.ld 0 ts38 ?_
  refine SL.mv ?_
  refine SL.nk ?_
  refine SL.fa 2 fd92_1 ?_
  refine SL.ia 3 ar75 ?_
  refine SL.ld 2 ts56 ?_
  refine SL.mv ?_
  refine SL.uu (ru_index_rowN (ri := 6) si56 rfl rfl rfl rfl (by omega) (by omega)) ?_
  refine SL.uu (ru_loada_rowN (ri := 6) (i := k.toNat) (r := [Value.slice xa x.f.length xc, bo x.bad, iw x.tick]) ta46 rfl rfl rfl (by show (M.ps1.map FmV.row)[_]? = _; rw [List.getElem?_map, hpx]; rfl) rfl rfl) ?_
  refine SL.storea (i := 10) (vs := [Value.slice xa x.f.length xc, bo x.bad, iw x.tick]) (c' := [Value.slice xa x.f.length xc, bo x.bad, iw x.tick]) rfl rfl ta46 rfl rfl rfl rfl rfl rfl (le_b rfl) (.inr hb4) rfl ?_
  refine SL.nn [(6, bo false), (7, pt b3 0), (8, iw 0), (9, iw 7), (10, pt b4 0)] _ ⟨rfl, rfl, rfl, rfl, rfl, trivial⟩ ?_
  refine SC.region ?_
  refine SL.as ?_
  refine SL.nl ?_
  refine SC.sr ?_
  refine SL.fa 0 fd46_0 ?_
  refine SL.ld 9 ts28 ?_
  refine SL.uu (ru_str (f := x.f) Try.underlying28 Try.underlying5 Try.underlying9 rfl rfl (fun w hI => mine_bytesw hI (j := 8) rfl (by have := hxl; omega))) ?_
  refine SL.fa 0 fd46_0 ?_
  refine SL.ld 10 ts28 ?_
  refine SL.uu (ru_str (f := x.f) Try.underlying28 Try.underlying5 Try.underlying9 rfl rfl (fun w hI => ((hI.1.get (i := 7) rfl).2 _ _ hxf).1)) ?_
  refine SL.uu (ru_streq (f := x.f) (h := x.f) (b := true) Try.underlying9 rfl rfl rfl (by simp)) ?_
  refine SL.mv ?_
  refine SL.gg (ru_fieldAddr (o2 := 1) fd46_1 rfl rfl rfl) ?_
  refine SL.gg (ru_load (i := 9) ts4 rfl rfl rfl rfl) ?_
  refine SL.gg (ru_fieldAddr (o2 := 1) fd46_1 rfl rfl rfl) ?_
  refine SL.gg (ru_load (i := 10) ts4 rfl rfl rfl rfl) ?_
  refine SL.gg (ru_eqb (b := true) Try.underlying4 rfl rfl rfl (by simp)) ?_
  refine SL.pk (bo true) (bo false) ?_
  refine SL.mv ?_
  refine SL.gg (ru_fieldAddr (o2 := 2) fd46_2 rfl rfl rfl) ?_
  refine SL.gg (ru_load (i := 9) ts3 rfl rfl rfl rfl) ?_
  refine SL.gg (ru_fieldAddr (o2 := 2) fd46_2 rfl rfl rfl) ?_
  refine SL.gg (ru_load (i := 10) ts3 rfl rfl rfl rfl) ?_
  refine SL.gg (ru_eq (b := true) rfl rfl rfl (by simp)) ?_
  refine SL.pk (bo true) (bo false) ?_
  refine SL.mv ?_
  refine SL.gg (ru_move rfl rfl) ?_
  refine SL.gg (ru_move rfl rfl) ?_
  refine SL.gg (ru_eq (b := true) rfl rfl rfl rfl) ?_
  refine SL.pk (bo true) (bo false) ?_
  refine SL.as ?_
  refine SL.nl ?_
  refine SC.seq ?_
  refine SC.sr ?_
  refine SL.as ?_
  refine SL.nl ?_
  refine SC.block ?_
  refine SC.weakN 8 (rRowN (.slice q1 x.f.length c2) (bRows x.f) 5 1) rfl (fun w h => mine_rows.1 h) (fun b hb => hb) ?_
  refine SC.loop (γ := Nat × List UInt8) (fun n z => [(6, bo false), (7, pt b3 0), (11, bo true), (12, iw (z.1 : Int))]) (fun n z => [rG g d0 d1 wd e0 e1 vd t0 t1 f0 f1 41, rWp wd d0 d1 G1 S, rB vd e0 e1 M S.now 92, rDv 100 e0 M.fs S.A0, rDv 100 e1 M.fs S.A1, rR0 M 46, rR1 M 46, rZ M.F M.fs, rRowN (.slice q1 x.f.length c2) (bRows z.2) 5 1, rBlk b3 [Value.slice q1 x.f.length c2, bo x.bad, iw x.tick] 46, rBlk b4 [Value.slice xa x.f.length xc, bo x.bad, iw x.tick] 46]) (fun n z => n + z.1 = x.f.length ∧ z.2.length = x.f.length) x.f.length (0, x.f) ⟨rfl, rfl⟩ ⟨rfl, rfl, rfl, rfl, trivial⟩ rfl ?_
  rintro N ⟨i, f9⟩ ⟨hn9, hf9⟩
  dsimp only at hn9 hf9
  rcases N with _ | N
  · skip
    refine SC.seq ?_
    refine SC.sr ?_
    refine SL.mv ?_
    refine SL.fa 0 fd46_0 ?_
    refine SL.ld 9 ts28 ?_
    refine SL.uu (ru_len Try.underlying28 rfl rfl) ?_
    refine SL.uu (ru_lt (b := (decide (((i : Int) : Int) < (x.f.length : Int)))) rfl rfl rfl rfl) ?_
    refine SL.nl ?_
    refine SC.no (show some (Value.bool (decide (((i : Int) : Int) < (x.f.length : Int)))) = some (Value.bool false) from congrArg (fun x => some (Value.bool x)) (decide_eq_false (by omega))) ?_
    refine SC.exit ?_
    refine SE.passe ?_
    refine SE.passe ?_
    refine SE.blke ?_
    refine SC.of_SE ?_
    refine SC.sr ?_
    refine SL.mv ?_
    refine SL.as ?_
    refine SL.nl ?_
    refine SC.ret ?_
    refine SE.res (.inl rfl) (res1 Try.results41 rfl) fun w1 hI => ⟨rfl, hI.2⟩
  obtain ⟨y, hy⟩ : ∃ y, f9[i]? = some y := ⟨_, List.getElem?_eq_getElem (by omega)⟩
  refine SC.seq ?_
  refine SC.sr ?_
  refine SL.mv ?_
  refine SL.fa 0 fd46_0 ?_
  refine SL.ld 9 ts28 ?_
  refine SL.uu (ru_len Try.underlying28 rfl rfl) ?_
  refine SL.uu (ru_lt (b := (decide (((i : Int) : Int) < (x.f.length : Int)))) rfl rfl rfl rfl) ?_
  refine SL.nl ?_
  refine SC.yes (show some (Value.bool (decide (((i : Int) : Int) < (x.f.length : Int)))) = some (Value.bool true) from congrArg (fun x => some (Value.bool x)) (decide_eq_true (by omega))) ?_
  refine SC.skip ?_
  refine SC.of_SE ?_
  refine SC.seq ?_
  refine SC.block ?_
  refine SC.region_tail 10 (by kernel_rfl) (by kernel_rfl) ?_
  refine SQ.fa 0 fd46_0 ?_
  refine SQ.ld 9 ts28 ?_
  refine SQ.mv ?_
  refine SQ.fa 0 fd46_0 ?_
  refine SQ.ld 9 ts28 ?_
  refine SQ.mv ?_
  refine SQ.uu (ru_index_rowN (ri := 8) si28 rfl rfl rfl rfl (by omega) (by omega)) ?_
  refine SQ.uu (ru_load_rowN (ri := 8) (i := (i : Int).toNat) (k := 0) (r := [bv y]) ts5 rfl rfl rfl (by rw [Int.toNat_natCast]; show (List.map _ f9)[_]? = _; rw [List.getElem?_map, hy]; rfl) (by decide) rfl) ?_
  refine SQ.uu (ru_add (r := ((y + 1).toNat : Int)) rfl rfl rfl (byte_inc y)) ?_
  refine SQ.uu (ru_index_rowN (ri := 8) si28 rfl rfl rfl rfl (by omega) (by omega)) ?_
  refine SQ.nilL ?_
  refine SL.store_rowN (ri := 8) (i := (i : Int).toNat) (k := 0) (r := [bv y]) rfl rfl ts5 rfl rfl rfl rfl rfl (by rw [Int.toNat_natCast]; show (List.map _ f9)[_]? = _; rw [List.getElem?_map, hy]; rfl) (by decide) (fun b hb => .inr (hoq1 b hb)) ?_
  refine SL.nil ?_
  refine SE.blkn ?_
  refine SC.of_SE ?_
  refine SC.region ?_
  refine SL.mv ?_
  refine SL.uu (ru_add (r := (IntKind.i64.wrap ((i : Int) + 1))) rfl rfl rfl rfl) ?_
  refine SL.as ?_
  refine SL.nil ?_
  have eb : (bRows f9).set ((i : Int).toNat) ([bv y].set 0 (bv (y + 1))) = bRows (f9.set i (y + 1)) := by rw [Int.toNat_natCast]; exact bRows_set _ _ _
  refine SE.keep 11 ?_
  refine SE.again N (i + 1, f9.set i (y + 1)) (by omega) ⟨by omega, by rw [List.length_set]; exact hf9⟩ ⟨rfl, rfl, rfl, (congrArg (fun x => some (iw x)) (show IntKind.i64.wrap ((i : Int) + 1) = ((i + 1 : Nat) : Int) by rw [IntKind.wrap_i64]; omega)), trivial⟩ (by dsimp only; rw [← eb]; rfl)
theorem sees1_neg {n : Nat} {w : World} {g wd d0 d1 vd e0 e1 : Nat} {G1 G2 : Nat → Prop} {S : Wi} {t0 t1 f0 f1 : Int} {k : Int} (hk : k < 0) (hB : Wb n S) (h : Sep w (RgL g wd d0 d1 vd e0 e1 G1 G2 ⟨S, S, t0, t1, f0, f1⟩)) : Calls Try.prog 41 #[pt g 0, iw 1, iw k] w fun e w' => e = .returned (bo true) ∧ Only (fun _ => False) w w' := by
  obtain ⟨M, hM, ho⟩ := rg_open h
  dsimp only at hM ho
  have hxl : fm0.f.length ≤ 274 := by decide
  have hl9 : M.ps1.length = S.L1.length := by rw [← hM.l1, List.length_map]
  have es : seeD S 1 k = (fm0, 7) := see_out (b := true) (.inl hk)
  refine calls_sc (l0 := (RgO g wd d0 d1 vd e0 e1 G1 M ⟨S, S, t0, t1, f0, f1⟩)) (args := [pt g 0, iw 1, iw k]) (fun _ => False) Try.func41 rfl 101 Try.ntmps41 (le_b rfl) ⟨ho, Only.refl _ _⟩ ?_
  show SC _ _ _ _ [(0, pt g 0), (1, iw 1), (2, iw k)] (RgO g wd d0 d1 vd e0 e1 G1 M ⟨S, S, t0, t1, f0, f1⟩)
  refine SC.sr ?_
  refine SL.as ?_
  refine SL.nl ?_
  refine SC.sr ?_
  refine SL.mv ?_
  refine SL.nk ?_
  refine SL.fa 2 fd41_1 ?_
  refine SL.ld 0 ts35 ?_
  refine SL.mv ?_
  refine SL.mv ?_
  refine SL.mk (Mk.take ⟨101, w, fun _ => False⟩ fm0.f fm0.bad fm0.tick 7 5) (w_all rfl) rfl co13 rfl rfl rfl (lt_b rfl) (fun l' w hI => (rw_see_at hB (hI.1.get (i := 1) rfl) es).mono fun e w2 ⟨q, c, h1, h2, h3, h4⟩ => ⟨_, h1, ⟨q, c, fun b hb => Nat.le_trans hI.2.size (h3 b hb), rfl⟩, hI.add (r := rMine (.slice q _ c) _ 5) h4 h2 h3⟩) ?_
  rintro _ ⟨q1, c2, hoq1, rfl⟩
  refine SL.mv ?_
  refine SL.uu (ru_extract rfl rfl rfl) ?_
  refine SL.uu (ru_extract rfl rfl rfl) ?_
  refine SL.alloca rfl rfl (lt_b rfl) ta46 rfl fun b3 hb3 => ?_
  refine SL.storea (i := 9) (vs := [Value.slice q1 fm0.f.length c2, bo false, iw 0]) (c' := [Value.slice q1 fm0.f.length c2, bo false, iw 0]) rfl rfl ta46 rfl rfl rfl rfl rfl rfl (le_b rfl) (.inr hb3) rfl ?_
  refine SL.as ?_
  refine SL.nl ?_
  refine SC.sr ?_
  refine SL.as ?_
  refine SL.nl ?_
  refine SC.sr ?_
  refine SL.alloca rfl rfl (lt_b rfl) ta46 rfl fun b4 hb4 => ?_
  refine SL.nl ?_
  refine SC.seq ?_
  refine SC.sr ?_
  refine SL.mv ?_
  refine SL.uu (ru_eq (b := false) rfl rfl rfl rfl) ?_
  refine SL.mv ?_
  refine SL.gg (ru_move rfl rfl) ?_
  refine SL.gg (ru_eq (b := true) rfl rfl rfl rfl) ?_
  refine SL.pk (bo true) (bo true) ?_
  refine SL.nl ?_
  refine SC.yes rfl ?_
  refine SC.sr ?_
  refine SL.as ?_
  refine SL.nl ?_
  refine SC.sr ?_
  refine SL.mv ?_
  refine SL.uu (ru_ge (b := false) rfl rfl rfl (decide_eq_false (by omega))) ?_
  refine SL.mv ?_
  refine SL.oo ?_
  refine SL.oo ?_
  refine SL.oo ?_
  refine SL.oo ?_
  refine SL.oo ?_
  refine SL.oo ?_
  refine SL.oo ?_
  refine SL.oo ?_
  refine SL.oo ?_
  refine SL.oo ?_
  refine SL.oo ?_
  refine SL.oo ?_
  refine SL.pk (undef) (bo false) ?_
  refine SL.nl ?_
  refine SC.no rfl ?_
  refine SC.skip ?_
  refine SC.of_SE ?_
  refine SC.sr ?_
  refine SL.fa 0 fd46_0 ?_
  refine SL.ld 9 ts28 ?_
  refine SL.uu (ru_str (f := fm0.f) Try.underlying28 Try.underlying5 Try.underlying9 rfl rfl (fun w hI => mine_bytesw hI (j := 8) rfl (by decide))) ?_
  refine SL.fa 0 fd46_0 ?_
  refine SL.ld 10 ts28 ?_
  refine SL.uu (ru_str (f := fm0.f) Try.underlying28 Try.underlying5 Try.underlying9 rfl rfl (fun w hI => BytesAt.nil _)) ?_
  refine SL.uu (ru_streq (f := fm0.f) (h := fm0.f) (b := true) Try.underlying9 rfl rfl rfl (by simp)) ?_
  refine SL.mv ?_
  refine SL.gg (ru_fieldAddr (o2 := 1) fd46_1 rfl rfl rfl) ?_
  refine SL.gg (ru_load (i := 9) ts4 rfl rfl rfl rfl) ?_
  refine SL.gg (ru_fieldAddr (o2 := 1) fd46_1 rfl rfl rfl) ?_
  refine SL.gg (ru_load (i := 10) ts4 rfl rfl rfl rfl) ?_
  refine SL.gg (ru_eqb (b := true) Try.underlying4 rfl rfl rfl rfl) ?_
  refine SL.pk (bo true) (bo false) ?_
  refine SL.mv ?_
  refine SL.gg (ru_fieldAddr (o2 := 2) fd46_2 rfl rfl rfl) ?_
  refine SL.gg (ru_load (i := 9) ts3 rfl rfl rfl rfl) ?_
  refine SL.gg (ru_fieldAddr (o2 := 2) fd46_2 rfl rfl rfl) ?_
  refine SL.gg (ru_load (i := 10) ts3 rfl rfl rfl rfl) ?_
  refine SL.gg (ru_eq (b := true) rfl rfl rfl rfl) ?_
  refine SL.pk (bo true) (bo false) ?_
  refine SL.mv ?_
  refine SL.gg (ru_move rfl rfl) ?_
  refine SL.gg (ru_move rfl rfl) ?_
  refine SL.gg (ru_eq (b := true) rfl rfl rfl rfl) ?_
  refine SL.pk (bo true) (bo false) ?_
  refine SL.as ?_
  refine SL.nn [(6, bo false), (7, pt b3 0), (11, bo true)] _ ⟨rfl, rfl, rfl, trivial⟩ ?_
  refine SC.seq ?_
  refine SC.sr ?_
  refine SL.as ?_
  refine SL.nl ?_
  refine SC.block ?_
  refine SC.weakN 8 (rRowN (.slice q1 fm0.f.length c2) (bRows fm0.f) 5 1) rfl (fun w h => mine_rows.1 h) (fun b hb => hb) ?_
  refine SC.loop (γ := Nat × List UInt8) (fun n z => [(6, bo false), (7, pt b3 0), (11, bo true), (12, iw (z.1 : Int))]) (fun n z => [rG g d0 d1 wd e0 e1 vd t0 t1 f0 f1 41, rWp wd d0 d1 G1 S, rB vd e0 e1 M S.now 92, rDv 100 e0 M.fs S.A0, rDv 100 e1 M.fs S.A1, rR0 M 46, rR1 M 46, rZ M.F M.fs, rRowN (.slice q1 fm0.f.length c2) (bRows z.2) 5 1, rBlk b3 [Value.slice q1 fm0.f.length c2, bo false, iw 0] 46, rBlk b4 [Value.slice none 0 0, bo false, iw 0] 46]) (fun n z => n + z.1 = fm0.f.length ∧ z.2.length = fm0.f.length) fm0.f.length (0, fm0.f) ⟨rfl, rfl⟩ ⟨rfl, rfl, rfl, rfl, trivial⟩ rfl ?_
  rintro N ⟨i, f9⟩ ⟨hn9, hf9⟩
  dsimp only at hn9 hf9
  rcases N with _ | N
  · skip
    refine SC.seq ?_
    refine SC.sr ?_
    refine SL.mv ?_
    refine SL.fa 0 fd46_0 ?_
    refine SL.ld 9 ts28 ?_
    refine SL.uu (ru_len Try.underlying28 rfl rfl) ?_
    refine SL.uu (ru_lt (b := (decide (((i : Int) : Int) < (fm0.f.length : Int)))) rfl rfl rfl rfl) ?_
    refine SL.nl ?_
    refine SC.no (show some (Value.bool (decide (((i : Int) : Int) < (fm0.f.length : Int)))) = some (Value.bool false) from congrArg (fun x => some (Value.bool x)) (decide_eq_false (by omega))) ?_
    refine SC.exit ?_
    refine SE.passe ?_
    refine SE.passe ?_
    refine SE.blke ?_
    refine SC.of_SE ?_
    refine SC.sr ?_
    refine SL.mv ?_
    refine SL.as ?_
    refine SL.nl ?_
    refine SC.ret ?_
    refine SE.res (.inl rfl) (res1 Try.results41 rfl) fun w1 hI => ⟨rfl, hI.2⟩
  obtain ⟨y, hy⟩ : ∃ y, f9[i]? = some y := ⟨_, List.getElem?_eq_getElem (by omega)⟩
  refine SC.seq ?_
  refine SC.sr ?_
  refine SL.mv ?_
  refine SL.fa 0 fd46_0 ?_
  refine SL.ld 9 ts28 ?_
  refine SL.uu (ru_len Try.underlying28 rfl rfl) ?_
  refine SL.uu (ru_lt (b := (decide (((i : Int) : Int) < (fm0.f.length : Int)))) rfl rfl rfl rfl) ?_
  refine SL.nl ?_
  refine SC.yes (show some (Value.bool (decide (((i : Int) : Int) < (fm0.f.length : Int)))) = some (Value.bool true) from congrArg (fun x => some (Value.bool x)) (decide_eq_true (by omega))) ?_
  refine SC.skip ?_
  refine SC.of_SE ?_
  refine SC.seq ?_
  refine SC.block ?_
  refine SC.region_tail 10 (by kernel_rfl) (by kernel_rfl) ?_
  refine SQ.fa 0 fd46_0 ?_
  refine SQ.ld 9 ts28 ?_
  refine SQ.mv ?_
  refine SQ.fa 0 fd46_0 ?_
  refine SQ.ld 9 ts28 ?_
  refine SQ.mv ?_
  refine SQ.uu (ru_index_rowN (ri := 8) si28 rfl rfl rfl rfl (by omega) (by omega)) ?_
  refine SQ.uu (ru_load_rowN (ri := 8) (i := (i : Int).toNat) (k := 0) (r := [bv y]) ts5 rfl rfl rfl (by rw [Int.toNat_natCast]; show (List.map _ f9)[_]? = _; rw [List.getElem?_map, hy]; rfl) (by decide) rfl) ?_
  refine SQ.uu (ru_add (r := ((y + 1).toNat : Int)) rfl rfl rfl (byte_inc y)) ?_
  refine SQ.uu (ru_index_rowN (ri := 8) si28 rfl rfl rfl rfl (by omega) (by omega)) ?_
  refine SQ.nilL ?_
  refine SL.store_rowN (ri := 8) (i := (i : Int).toNat) (k := 0) (r := [bv y]) rfl rfl ts5 rfl rfl rfl rfl rfl (by rw [Int.toNat_natCast]; show (List.map _ f9)[_]? = _; rw [List.getElem?_map, hy]; rfl) (by decide) (fun b hb => .inr (hoq1 b hb)) ?_
  refine SL.nil ?_
  refine SE.blkn ?_
  refine SC.of_SE ?_
  refine SC.region ?_
  refine SL.mv ?_
  refine SL.uu (ru_add (r := (IntKind.i64.wrap ((i : Int) + 1))) rfl rfl rfl rfl) ?_
  refine SL.as ?_
  refine SL.nil ?_
  have eb : (bRows f9).set ((i : Int).toNat) ([bv y].set 0 (bv (y + 1))) = bRows (f9.set i (y + 1)) := by rw [Int.toNat_natCast]; exact bRows_set _ _ _
  refine SE.keep 11 ?_
  refine SE.again N (i + 1, f9.set i (y + 1)) (by omega) ⟨by omega, by rw [List.length_set]; exact hf9⟩ ⟨rfl, rfl, rfl, (congrArg (fun x => some (iw x)) (show IntKind.i64.wrap ((i : Int) + 1) = ((i + 1 : Nat) : Int) by rw [IntKind.wrap_i64]; omega)), trivial⟩ (by dsimp only; rw [← eb]; rfl)
theorem sees1_out {n : Nat} {w : World} {g wd d0 d1 vd e0 e1 : Nat} {G1 G2 : Nat → Prop} {S : Wi} {t0 t1 f0 f1 : Int} {k : Int} (hk0 : 0 ≤ k) (hk : (S.L1.length : Int) ≤ k) (hB : Wb n S) (h : Sep w (RgL g wd d0 d1 vd e0 e1 G1 G2 ⟨S, S, t0, t1, f0, f1⟩)) : Calls Try.prog 41 #[pt g 0, iw 1, iw k] w fun e w' => e = .returned (bo true) ∧ Only (fun _ => False) w w' := by
  obtain ⟨M, hM, ho⟩ := rg_open h
  dsimp only at hM ho
  have hxl : fm0.f.length ≤ 274 := by decide
  have hl9 : M.ps1.length = S.L1.length := by rw [← hM.l1, List.length_map]
  have es : seeD S 1 k = (fm0, 7) := see_out (b := true) (.inr hk)
  refine calls_sc (l0 := (RgO g wd d0 d1 vd e0 e1 G1 M ⟨S, S, t0, t1, f0, f1⟩)) (args := [pt g 0, iw 1, iw k]) (fun _ => False) Try.func41 rfl 101 Try.ntmps41 (le_b rfl) ⟨ho, Only.refl _ _⟩ ?_
  show SC _ _ _ _ [(0, pt g 0), (1, iw 1), (2, iw k)] (RgO g wd d0 d1 vd e0 e1 G1 M ⟨S, S, t0, t1, f0, f1⟩)
  refine SC.sr ?_
  refine SL.as ?_
  refine SL.nl ?_
  refine SC.sr ?_
  refine SL.mv ?_
  refine SL.nk ?_
  refine SL.fa 2 fd41_1 ?_
  refine SL.ld 0 ts35 ?_
  refine SL.mv ?_
  refine SL.mv ?_
  refine SL.mk (Mk.take ⟨101, w, fun _ => False⟩ fm0.f fm0.bad fm0.tick 7 5) (w_all rfl) rfl co13 rfl rfl rfl (lt_b rfl) (fun l' w hI => (rw_see_at hB (hI.1.get (i := 1) rfl) es).mono fun e w2 ⟨q, c, h1, h2, h3, h4⟩ => ⟨_, h1, ⟨q, c, fun b hb => Nat.le_trans hI.2.size (h3 b hb), rfl⟩, hI.add (r := rMine (.slice q _ c) _ 5) h4 h2 h3⟩) ?_
  rintro _ ⟨q1, c2, hoq1, rfl⟩
  refine SL.mv ?_
  refine SL.uu (ru_extract rfl rfl rfl) ?_
  refine SL.uu (ru_extract rfl rfl rfl) ?_
  refine SL.alloca rfl rfl (lt_b rfl) ta46 rfl fun b3 hb3 => ?_
  refine SL.storea (i := 9) (vs := [Value.slice q1 fm0.f.length c2, bo false, iw 0]) (c' := [Value.slice q1 fm0.f.length c2, bo false, iw 0]) rfl rfl ta46 rfl rfl rfl rfl rfl rfl (le_b rfl) (.inr hb3) rfl ?_
  refine SL.as ?_
  refine SL.nl ?_
  refine SC.sr ?_
  refine SL.as ?_
  refine SL.nl ?_
  refine SC.sr ?_
  refine SL.alloca rfl rfl (lt_b rfl) ta46 rfl fun b4 hb4 => ?_
  refine SL.nl ?_
  refine SC.seq ?_
  refine SC.sr ?_
  refine SL.mv ?_
  refine SL.uu (ru_eq (b := false) rfl rfl rfl rfl) ?_
  refine SL.mv ?_
  refine SL.gg (ru_move rfl rfl) ?_
  refine SL.gg (ru_eq (b := true) rfl rfl rfl rfl) ?_
  refine SL.pk (bo true) (bo true) ?_
  refine SL.nl ?_
  refine SC.yes rfl ?_
  refine SC.sr ?_
  refine SL.as ?_
  refine SL.nl ?_
  refine SC.sr ?_
  refine SL.mv ?_
  refine SL.uu (ru_ge (b := true) rfl rfl rfl (decide_eq_true hk0)) ?_
  refine SL.mv ?_
  refine SL.gg (ru_move rfl rfl) ?_
  refine SL.gg (ru_move rfl rfl) ?_
  refine SL.gg (ru_nilCheck rfl rfl) ?_
  refine SL.gg (ru_fieldAddr (o2 := 5) fd41_3 rfl rfl rfl) ?_
  refine SL.gg (ru_load (i := 0) ts38 rfl rfl rfl rfl) ?_
  refine SL.gg (ru_move rfl rfl) ?_
  refine SL.gg (ru_nilCheck rfl rfl) ?_
  refine SL.gg (ru_fieldAddr (o2 := 2) fd92_1 rfl rfl rfl) ?_
  refine SL.gg (ru_indexA (o2 := 3) ar75 rfl rfl rfl (by decide) (by decide) rfl) ?_
  refine SL.gg (ru_load (i := 2) ts56 rfl rfl rfl rfl) ?_
  refine SL.gg (ru_len Try.underlying56 rfl rfl) ?_
  refine SL.gg (ru_lt (b := false) rfl rfl rfl (decide_eq_false (by omega))) ?_
  refine SL.pk (bo false) (bo false) ?_
  refine SL.nl ?_
  refine SC.no rfl ?_
  refine SC.skip ?_
  refine SC.of_SE ?_
  refine SC.sr ?_
  refine SL.fa 0 fd46_0 ?_
  refine SL.ld 9 ts28 ?_
  refine SL.uu (ru_str (f := fm0.f) Try.underlying28 Try.underlying5 Try.underlying9 rfl rfl (fun w hI => mine_bytesw hI (j := 8) rfl (by decide))) ?_
  refine SL.fa 0 fd46_0 ?_
  refine SL.ld 10 ts28 ?_
  refine SL.uu (ru_str (f := fm0.f) Try.underlying28 Try.underlying5 Try.underlying9 rfl rfl (fun w hI => BytesAt.nil _)) ?_
  refine SL.uu (ru_streq (f := fm0.f) (h := fm0.f) (b := true) Try.underlying9 rfl rfl rfl (by simp)) ?_
  refine SL.mv ?_
  refine SL.gg (ru_fieldAddr (o2 := 1) fd46_1 rfl rfl rfl) ?_
  refine SL.gg (ru_load (i := 9) ts4 rfl rfl rfl rfl) ?_
  refine SL.gg (ru_fieldAddr (o2 := 1) fd46_1 rfl rfl rfl) ?_
  refine SL.gg (ru_load (i := 10) ts4 rfl rfl rfl rfl) ?_
  refine SL.gg (ru_eqb (b := true) Try.underlying4 rfl rfl rfl rfl) ?_
  refine SL.pk (bo true) (bo false) ?_
  refine SL.mv ?_
  refine SL.gg (ru_fieldAddr (o2 := 2) fd46_2 rfl rfl rfl) ?_
  refine SL.gg (ru_load (i := 9) ts3 rfl rfl rfl rfl) ?_
  refine SL.gg (ru_fieldAddr (o2 := 2) fd46_2 rfl rfl rfl) ?_
  refine SL.gg (ru_load (i := 10) ts3 rfl rfl rfl rfl) ?_
  refine SL.gg (ru_eq (b := true) rfl rfl rfl rfl) ?_
  refine SL.pk (bo true) (bo false) ?_
  refine SL.mv ?_
  refine SL.gg (ru_move rfl rfl) ?_
  refine SL.gg (ru_move rfl rfl) ?_
  refine SL.gg (ru_eq (b := true) rfl rfl rfl rfl) ?_
  refine SL.pk (bo true) (bo false) ?_
  refine SL.as ?_
  refine SL.nn [(6, bo false), (7, pt b3 0), (11, bo true)] _ ⟨rfl, rfl, rfl, trivial⟩ ?_
  refine SC.seq ?_
  refine SC.sr ?_
  refine SL.as ?_
  refine SL.nl ?_
  refine SC.block ?_
  refine SC.weakN 8 (rRowN (.slice q1 fm0.f.length c2) (bRows fm0.f) 5 1) rfl (fun w h => mine_rows.1 h) (fun b hb => hb) ?_
  refine SC.loop (γ := Nat × List UInt8) (fun n z => [(6, bo false), (7, pt b3 0), (11, bo true), (12, iw (z.1 : Int))]) (fun n z => [rG g d0 d1 wd e0 e1 vd t0 t1 f0 f1 41, rWp wd d0 d1 G1 S, rB vd e0 e1 M S.now 92, rDv 100 e0 M.fs S.A0, rDv 100 e1 M.fs S.A1, rR0 M 46, rR1 M 46, rZ M.F M.fs, rRowN (.slice q1 fm0.f.length c2) (bRows z.2) 5 1, rBlk b3 [Value.slice q1 fm0.f.length c2, bo false, iw 0] 46, rBlk b4 [Value.slice none 0 0, bo false, iw 0] 46]) (fun n z => n + z.1 = fm0.f.length ∧ z.2.length = fm0.f.length) fm0.f.length (0, fm0.f) ⟨rfl, rfl⟩ ⟨rfl, rfl, rfl, rfl, trivial⟩ rfl ?_
  rintro N ⟨i, f9⟩ ⟨hn9, hf9⟩
  dsimp only at hn9 hf9
  rcases N with _ | N
  · skip
    refine SC.seq ?_
    refine SC.sr ?_
    refine SL.mv ?_
    refine SL.fa 0 fd46_0 ?_
    refine SL.ld 9 ts28 ?_
    refine SL.uu (ru_len Try.underlying28 rfl rfl) ?_
    refine SL.uu (ru_lt (b := (decide (((i : Int) : Int) < (fm0.f.length : Int)))) rfl rfl rfl rfl) ?_
    refine SL.nl ?_
    refine SC.no (show some (Value.bool (decide (((i : Int) : Int) < (fm0.f.length : Int)))) = some (Value.bool false) from congrArg (fun x => some (Value.bool x)) (decide_eq_false (by omega))) ?_
    refine SC.exit ?_
    refine SE.passe ?_
    refine SE.passe ?_
    refine SE.blke ?_
    refine SC.of_SE ?_
    refine SC.sr ?_
    refine SL.mv ?_
    refine SL.as ?_
    refine SL.nl ?_
    refine SC.ret ?_
    refine SE.res (.inl rfl) (res1 Try.results41 rfl) fun w1 hI => ⟨rfl, hI.2⟩
  obtain ⟨y, hy⟩ : ∃ y, f9[i]? = some y := ⟨_, List.getElem?_eq_getElem (by omega)⟩
  refine SC.seq ?_
  refine SC.sr ?_
  refine SL.mv ?_
  refine SL.fa 0 fd46_0 ?_
  refine SL.ld 9 ts28 ?_
  refine SL.uu (ru_len Try.underlying28 rfl rfl) ?_
  refine SL.uu (ru_lt (b := (decide (((i : Int) : Int) < (fm0.f.length : Int)))) rfl rfl rfl rfl) ?_
  refine SL.nl ?_
  refine SC.yes (show some (Value.bool (decide (((i : Int) : Int) < (fm0.f.length : Int)))) = some (Value.bool true) from congrArg (fun x => some (Value.bool x)) (decide_eq_true (by omega))) ?_
  refine SC.skip ?_
  refine SC.of_SE ?_
  refine SC.seq ?_
  refine SC.block ?_
  refine SC.region_tail 10 (by kernel_rfl) (by kernel_rfl) ?_
  refine SQ.fa 0 fd46_0 ?_
  refine SQ.ld 9 ts28 ?_
  refine SQ.mv ?_
  refine SQ.fa 0 fd46_0 ?_
  refine SQ.ld 9 ts28 ?_
  refine SQ.mv ?_
  refine SQ.uu (ru_index_rowN (ri := 8) si28 rfl rfl rfl rfl (by omega) (by omega)) ?_
  refine SQ.uu (ru_load_rowN (ri := 8) (i := (i : Int).toNat) (k := 0) (r := [bv y]) ts5 rfl rfl rfl (by rw [Int.toNat_natCast]; show (List.map _ f9)[_]? = _; rw [List.getElem?_map, hy]; rfl) (by decide) rfl) ?_
  refine SQ.uu (ru_add (r := ((y + 1).toNat : Int)) rfl rfl rfl (byte_inc y)) ?_
  refine SQ.uu (ru_index_rowN (ri := 8) si28 rfl rfl rfl rfl (by omega) (by omega)) ?_
  refine SQ.nilL ?_
  refine SL.store_rowN (ri := 8) (i := (i : Int).toNat) (k := 0) (r := [bv y]) rfl rfl ts5 rfl rfl rfl rfl rfl (by rw [Int.toNat_natCast]; show (List.map _ f9)[_]? = _; rw [List.getElem?_map, hy]; rfl) (by decide) (fun b hb => .inr (hoq1 b hb)) ?_
  refine SL.nil ?_
  refine SE.blkn ?_
  refine SC.of_SE ?_
  refine SC.region ?_
  refine SL.mv ?_
  refine SL.uu (ru_add (r := (IntKind.i64.wrap ((i : Int) + 1))) rfl rfl rfl rfl) ?_
  refine SL.as ?_
  refine SL.nil ?_
  have eb : (bRows f9).set ((i : Int).toNat) ([bv y].set 0 (bv (y + 1))) = bRows (f9.set i (y + 1)) := by rw [Int.toNat_natCast]; exact bRows_set _ _ _
  refine SE.keep 11 ?_
  refine SE.again N (i + 1, f9.set i (y + 1)) (by omega) ⟨by omega, by rw [List.length_set]; exact hf9⟩ ⟨rfl, rfl, rfl, (congrArg (fun x => some (iw x)) (show IntKind.i64.wrap ((i : Int) + 1) = ((i + 1 : Nat) : Int) by rw [IntKind.wrap_i64]; omega)), trivial⟩ (by dsimp only; rw [← eb]; rfl)
theorem seesX {n : Nat} {w : World} {g wd d0 d1 vd e0 e1 : Nat} {G1 G2 : Nat → Prop} {S : Wi} {t0 t1 f0 f1 : Int} {dir k : Int} (hd : isD dir = false) (hB : Wb n S) (h : Sep w (RgL g wd d0 d1 vd e0 e1 G1 G2 ⟨S, S, t0, t1, f0, f1⟩)) : Calls Try.prog 41 #[pt g 0, iw dir, iw k] w fun e w' => e = .returned (bo true) ∧ Only (fun _ => False) w w' := by
  have hxl : fm0.f.length ≤ 274 := by decide
  have es : seeD S dir k = (fm0, 1) := dirX hd _ _
  refine calls_sc (l0 := (RgL g wd d0 d1 vd e0 e1 G1 G2 ⟨S, S, t0, t1, f0, f1⟩)) (args := [pt g 0, iw dir, iw k]) (fun _ => False) Try.func41 rfl 101 Try.ntmps41 (le_b rfl) ⟨h, Only.refl _ _⟩ ?_
  show SC _ _ _ _ [(0, pt g 0), (1, iw dir), (2, iw k)] (RgL g wd d0 d1 vd e0 e1 G1 G2 ⟨S, S, t0, t1, f0, f1⟩)
  refine SC.sr ?_
  refine SL.as ?_
  refine SL.nl ?_
  refine SC.sr ?_
  refine SL.mv ?_
  refine SL.nk ?_
  refine SL.fa 2 fd41_1 ?_
  refine SL.ld 0 ts35 ?_
  refine SL.mv ?_
  refine SL.mv ?_
  refine SL.mk (Mk.take ⟨101, w, fun _ => False⟩ fm0.f fm0.bad fm0.tick 1 5) (w_all rfl) rfl co13 rfl rfl rfl (lt_b rfl) (fun l' w hI => (rw_see_at hB (hI.1.get (i := 1) rfl) es).mono fun e w2 ⟨q, c, h1, h2, h3, h4⟩ => ⟨_, h1, ⟨q, c, fun b hb => Nat.le_trans hI.2.size (h3 b hb), rfl⟩, hI.add (r := rMine (.slice q _ c) _ 5) h4 h2 h3⟩) ?_
  rintro _ ⟨q1, c2, hoq1, rfl⟩
  refine SL.mv ?_
  refine SL.uu (ru_extract rfl rfl rfl) ?_
  refine SL.uu (ru_extract rfl rfl rfl) ?_
  refine SL.alloca rfl rfl (lt_b rfl) ta46 rfl fun b3 hb3 => ?_
  refine SL.storea (i := 4) (vs := [Value.slice q1 fm0.f.length c2, bo false, iw 0]) (c' := [Value.slice q1 fm0.f.length c2, bo false, iw 0]) rfl rfl ta46 rfl rfl rfl rfl rfl rfl (le_b rfl) (.inr hb3) rfl ?_
  refine SL.as ?_
  refine SL.nl ?_
  refine SC.sr ?_
  refine SL.as ?_
  refine SL.nl ?_
  refine SC.sr ?_
  refine SL.alloca rfl rfl (lt_b rfl) ta46 rfl fun b4 hb4 => ?_
  refine SL.nl ?_
  refine SC.seq ?_
  refine SC.sr ?_
  refine SL.mv ?_
  refine SL.uu (ru_eq (b := ((dir : Int) == 0)) rfl rfl rfl rfl) ?_
  refine SL.mv ?_
  refine SL.join 3 [(0, pt g 0), (1, iw dir), (2, iw k), (6, bo false), (7, pt b3 0), (8, iw 1), (9, iw 1), (10, pt b4 0), (23, iw dir), (24, bo ((dir : Int) == 0)), (25, bo ((dir : Int) == 0)), (28, bo (((dir : Int) == 0) || ((dir : Int) == 1)))] [rG g d0 d1 wd e0 e1 vd t0 t1 f0 f1 41, rWp wd d0 d1 G1 S, rWq vd e0 e1 G2 S, rMine (.slice q1 fm0.f.length c2) fm0.f 5, rBlk b3 [Value.slice q1 fm0.f.length c2, bo false, iw 0] 46, rBlk b4 [Value.slice none 0 0, bo false, iw 0] 46] ?_ ?_
  rotate_left
  · intro K hK
    rcases tf ((dir : Int) == 0) with h5 | h5
    · skip
      refine SL.norm [(0, pt g 0), (1, iw dir), (2, iw k), (6, bo false), (7, pt b3 0), (8, iw 1), (9, iw 1), (10, pt b4 0), (23, iw dir), (24, bo true), (25, bo true)] _ ⟨rfl, rfl, rfl, rfl, rfl, rfl, rfl, rfl, rfl, (congrArg (fun x => some (Value.bool x)) h5), (congrArg (fun x => some (Value.bool x)) h5), trivial⟩ rfl ?_
      refine SL.oo ?_
      refine SL.oo ?_
      refine SL.pk (bo true) (undef) ?_
      exact SL.joined hK ⟨rfl, rfl, rfl, rfl, rfl, rfl, rfl, rfl, rfl, (congrArg (fun x => some (Value.bool x)) h5.symm), (congrArg (fun x => some (Value.bool x)) h5.symm), (congrArg (fun bx => some (Value.bool (bx || ((dir : Int) == 1)))) h5.symm), trivial⟩ rfl
    refine SL.norm [(0, pt g 0), (1, iw dir), (2, iw k), (6, bo false), (7, pt b3 0), (8, iw 1), (9, iw 1), (10, pt b4 0), (23, iw dir), (24, bo false), (25, bo false)] _ ⟨rfl, rfl, rfl, rfl, rfl, rfl, rfl, rfl, rfl, (congrArg (fun x => some (Value.bool x)) h5), (congrArg (fun x => some (Value.bool x)) h5), trivial⟩ rfl ?_
    refine SL.gg (ru_move rfl rfl) ?_
    refine SL.gg (ru_eq (b := ((dir : Int) == 1)) rfl rfl rfl rfl) ?_
    refine SL.pk (bo true) (bo ((dir : Int) == 1)) ?_
    exact SL.joined hK ⟨rfl, rfl, rfl, rfl, rfl, rfl, rfl, rfl, rfl, (congrArg (fun x => some (Value.bool x)) h5.symm), (congrArg (fun x => some (Value.bool x)) h5.symm), (congrArg (fun bx => some (Value.bool (bx || ((dir : Int) == 1)))) h5.symm), trivial⟩ rfl
  skip
  refine SL.nl ?_
  refine SC.no (show some (Value.bool (((dir : Int) == 0) || ((dir : Int) == 1))) = some (Value.bool false) from congrArg (fun x => some (Value.bool x)) (by unfold isD at hd; exact hd)) ?_
  refine SC.skip ?_
  refine SC.of_SE ?_
  refine SC.sr ?_
  refine SL.fa 0 fd46_0 ?_
  refine SL.ld 4 ts28 ?_
  refine SL.uu (ru_str (f := fm0.f) Try.underlying28 Try.underlying5 Try.underlying9 rfl rfl (fun w hI => mine_bytesw hI (j := 3) rfl (by decide))) ?_
  refine SL.fa 0 fd46_0 ?_
  refine SL.ld 5 ts28 ?_
  refine SL.uu (ru_str (f := fm0.f) Try.underlying28 Try.underlying5 Try.underlying9 rfl rfl (fun w hI => BytesAt.nil _)) ?_
  refine SL.uu (ru_streq (f := fm0.f) (h := fm0.f) (b := true) Try.underlying9 rfl rfl rfl (by simp)) ?_
  refine SL.mv ?_
  refine SL.gg (ru_fieldAddr (o2 := 1) fd46_1 rfl rfl rfl) ?_
  refine SL.gg (ru_load (i := 4) ts4 rfl rfl rfl rfl) ?_
  refine SL.gg (ru_fieldAddr (o2 := 1) fd46_1 rfl rfl rfl) ?_
  refine SL.gg (ru_load (i := 5) ts4 rfl rfl rfl rfl) ?_
  refine SL.gg (ru_eqb (b := true) Try.underlying4 rfl rfl rfl rfl) ?_
  refine SL.pk (bo true) (bo false) ?_
  refine SL.mv ?_
  refine SL.gg (ru_fieldAddr (o2 := 2) fd46_2 rfl rfl rfl) ?_
  refine SL.gg (ru_load (i := 4) ts3 rfl rfl rfl rfl) ?_
  refine SL.gg (ru_fieldAddr (o2 := 2) fd46_2 rfl rfl rfl) ?_
  refine SL.gg (ru_load (i := 5) ts3 rfl rfl rfl rfl) ?_
  refine SL.gg (ru_eq (b := true) rfl rfl rfl rfl) ?_
  refine SL.pk (bo true) (bo false) ?_
  refine SL.mv ?_
  refine SL.gg (ru_move rfl rfl) ?_
  refine SL.gg (ru_move rfl rfl) ?_
  refine SL.gg (ru_eq (b := true) rfl rfl rfl rfl) ?_
  refine SL.pk (bo true) (bo false) ?_
  refine SL.as ?_
  refine SL.nl ?_
  refine SC.seq ?_
  refine SC.sr ?_
  refine SL.as ?_
  refine SL.nl ?_
  refine SC.block ?_
  refine SC.weakN 3 (rRowN (.slice q1 fm0.f.length c2) (bRows fm0.f) 5 1) rfl (fun w h => mine_rows.1 h) (fun b hb => hb) ?_
  refine SC.loop (γ := Nat × List UInt8) (fun n z => [(6, bo false), (7, pt b3 0), (11, bo true), (12, iw (z.1 : Int))]) (fun n z => [rG g d0 d1 wd e0 e1 vd t0 t1 f0 f1 41, rWp wd d0 d1 G1 S, rWq vd e0 e1 G2 S, rRowN (.slice q1 fm0.f.length c2) (bRows z.2) 5 1, rBlk b3 [Value.slice q1 fm0.f.length c2, bo false, iw 0] 46, rBlk b4 [Value.slice none 0 0, bo false, iw 0] 46]) (fun n z => n + z.1 = fm0.f.length ∧ z.2.length = fm0.f.length) fm0.f.length (0, fm0.f) ⟨rfl, rfl⟩ ⟨rfl, rfl, rfl, rfl, trivial⟩ rfl ?_
  rintro N ⟨i, f9⟩ ⟨hn9, hf9⟩
  dsimp only at hn9 hf9
  rcases N with _ | N
  · skip
    refine SC.seq ?_
    refine SC.sr ?_
    refine SL.mv ?_
    refine SL.fa 0 fd46_0 ?_
    refine SL.ld 4 ts28 ?_
    refine SL.uu (ru_len Try.underlying28 rfl rfl) ?_
    refine SL.uu (ru_lt (b := (decide (((i : Int) : Int) < (fm0.f.length : Int)))) rfl rfl rfl rfl) ?_
    refine SL.nl ?_
    refine SC.no (show some (Value.bool (decide (((i : Int) : Int) < (fm0.f.length : Int)))) = some (Value.bool false) from congrArg (fun x => some (Value.bool x)) (decide_eq_false (by omega))) ?_
    refine SC.exit ?_
    refine SE.passe ?_
    refine SE.passe ?_
    refine SE.blke ?_
    refine SC.of_SE ?_
    refine SC.sr ?_
    refine SL.mv ?_
    refine SL.as ?_
    refine SL.nl ?_
    refine SC.ret ?_
    refine SE.res (.inl rfl) (res1 Try.results41 rfl) fun w1 hI => ⟨rfl, hI.2⟩
  obtain ⟨y, hy⟩ : ∃ y, f9[i]? = some y := ⟨_, List.getElem?_eq_getElem (by omega)⟩
  refine SC.seq ?_
  refine SC.sr ?_
  refine SL.mv ?_
  refine SL.fa 0 fd46_0 ?_
  refine SL.ld 4 ts28 ?_
  refine SL.uu (ru_len Try.underlying28 rfl rfl) ?_
  refine SL.uu (ru_lt (b := (decide (((i : Int) : Int) < (fm0.f.length : Int)))) rfl rfl rfl rfl) ?_
  refine SL.nl ?_
  refine SC.yes (show some (Value.bool (decide (((i : Int) : Int) < (fm0.f.length : Int)))) = some (Value.bool true) from congrArg (fun x => some (Value.bool x)) (decide_eq_true (by omega))) ?_
  refine SC.skip ?_
  refine SC.of_SE ?_
  refine SC.seq ?_
  refine SC.block ?_
  refine SC.region_tail 10 (by kernel_rfl) (by kernel_rfl) ?_
  refine SQ.fa 0 fd46_0 ?_
  refine SQ.ld 4 ts28 ?_
  refine SQ.mv ?_
  refine SQ.fa 0 fd46_0 ?_
  refine SQ.ld 4 ts28 ?_
  refine SQ.mv ?_
  refine SQ.uu (ru_index_rowN (ri := 3) si28 rfl rfl rfl rfl (by omega) (by omega)) ?_
  refine SQ.uu (ru_load_rowN (ri := 3) (i := (i : Int).toNat) (k := 0) (r := [bv y]) ts5 rfl rfl rfl (by rw [Int.toNat_natCast]; show (List.map _ f9)[_]? = _; rw [List.getElem?_map, hy]; rfl) (by decide) rfl) ?_
  refine SQ.uu (ru_add (r := ((y + 1).toNat : Int)) rfl rfl rfl (byte_inc y)) ?_
  refine SQ.uu (ru_index_rowN (ri := 3) si28 rfl rfl rfl rfl (by omega) (by omega)) ?_
  refine SQ.nilL ?_
  refine SL.store_rowN (ri := 3) (i := (i : Int).toNat) (k := 0) (r := [bv y]) rfl rfl ts5 rfl rfl rfl rfl rfl (by rw [Int.toNat_natCast]; show (List.map _ f9)[_]? = _; rw [List.getElem?_map, hy]; rfl) (by decide) (fun b hb => .inr (hoq1 b hb)) ?_
  refine SL.nil ?_
  refine SE.blkn ?_
  refine SC.of_SE ?_
  refine SC.region ?_
  refine SL.mv ?_
  refine SL.uu (ru_add (r := (IntKind.i64.wrap ((i : Int) + 1))) rfl rfl rfl rfl) ?_
  refine SL.as ?_
  refine SL.nil ?_
  have eb : (bRows f9).set ((i : Int).toNat) ([bv y].set 0 (bv (y + 1))) = bRows (f9.set i (y + 1)) := by rw [Int.toNat_natCast]; exact bRows_set _ _ _
  refine SE.keep 6 ?_
  refine SE.again N (i + 1, f9.set i (y + 1)) (by omega) ⟨by omega, by rw [List.length_set]; exact hf9⟩ ⟨rfl, rfl, rfl, (congrArg (fun x => some (iw x)) (show IntKind.i64.wrap ((i : Int) + 1) = ((i + 1 : Nat) : Int) by rw [IntKind.wrap_i64]; omega)), trivial⟩ (by dsimp only; rw [← eb]; rfl)
theorem sees_any {n : Nat} {w : World} {g wd d0 d1 vd e0 e1 : Nat} {G1 G2 : Nat → Prop} {S : Wi} {t0 t1 f0 f1 : Int} (hB : Wb n S) (h : Sep w (RgL g wd d0 d1 vd e0 e1 G1 G2 ⟨S, S, t0, t1, f0, f1⟩)) (dir k : Int) : Calls Try.prog 41 #[pt g 0, iw dir, iw k] w fun e w' => e = .returned (bo true) ∧ Only (fun _ => False) w w' := by
  rcases dirC dir with rfl | rfl | hd
  · by_cases h0 : 0 ≤ k
    · by_cases h1 : (S.L0.length : Int) ≤ k
      · exact sees0_out h0 h1 hB h
      · exact sees0_in h0 (List.getElem?_eq_getElem (show k.toNat < S.L0.length by omega)) hB h
    · exact sees0_neg (by omega) hB h
  · by_cases h0 : 0 ≤ k
    · by_cases h1 : (S.L1.length : Int) ≤ k
      · exact sees1_out h0 h1 hB h
      · exact sees1_in h0 (List.getElem?_eq_getElem (show k.toNat < S.L1.length by omega)) hB h
    · exact sees1_neg (by omega) hB h
  · exact seesX hd hB h

end Go.Proofs.Ytcilikkljkdceaa

/-
  does.
-/
namespace Go.Proofs.Ytcilikkljkdceaa
open Go.RowKit
set_option maxRecDepth 100000
set_option maxHeartbeats 4000000
theorem does_any {n : Nat} {w : World} {g wd d0 d1 vd e0 e1 : Nat} {G1 G2 : Nat → Prop} {S : Wi} {t0 t1 f0 f1 : Int} {k dir kk to : Int} (hn : n < 2900000000000) (hto : to ≤ 9223372036854775807) (hR : Rn n S t0 t1 f0 f1) {va : Option Addr} {vc : Nat} {f : List UInt8} (hb : BytesAt w (.slice va f.length vc) f) (hv : sliceIn (.slice va f.length vc) (fun b => ¬ RgZ g G1 G2 b ∧ b < w.heap.size)) (h : Sep w (RgL g wd d0 d1 vd e0 e1 G1 G2 ⟨S, S, t0, t1, f0, f1⟩)) : Calls Try.prog 17 #[pt g 0, Value.agg #[iw k, iw dir, iw kk, iw to, Value.slice va f.length vc]] w fun e w' => e = .returned (bo true) ∧ DoTo w g wd d0 d1 vd e0 e1 G1 G2 n S k w' := by
  have hG1 : ∀ b, G1 b → RgZ g G1 G2 b ∨ w.heap.size ≤ b := fun b hb => .inl (.inr (.inl hb))
  have hG2 : ∀ b, G2 b → RgZ g G1 G2 b ∨ w.heap.size ≤ b := fun b hb => .inl (.inr (.inr hb))
  refine calls_sc (l0 := (RgL g wd d0 d1 vd e0 e1 G1 G2 ⟨S, S, t0, t1, f0, f1⟩)) (args := [pt g 0, Value.agg #[iw k, iw dir, iw kk, iw to, Value.slice va f.length vc]]) (RgZ g G1 G2) Try.func17 rfl 160 Try.ntmps17 (le_b rfl) ⟨h, Only.refl _ _⟩ ?_
  show SC _ _ _ _ [(0, pt g 0), (1, Value.agg #[iw k, iw dir, iw kk, iw to, Value.slice va f.length vc])] (RgL g wd d0 d1 vd e0 e1 G1 G2 ⟨S, S, t0, t1, f0, f1⟩)
  refine SC.sr ?_
  refine SL.box (c := [iw k, iw dir, iw kk, iw to, Value.slice va f.length vc]) rfl rfl (lt_b rfl) rfl rfl rfl fun b1 hb1 => ?_
  refine SL.as ?_
  refine SL.nl ?_
  refine SC.seq ?_
  refine SC.sr ?_
  refine SL.fa 0 fd30_0 ?_
  refine SL.ld 3 ts3 ?_
  refine SL.nl ?_
  refine SC.block ?_
  refine SC.sr ?_
  refine SL.uu (ru_eq (b := ((k : Int) == 1)) rfl rfl rfl rfl) ?_
  refine SL.as ?_
  refine SL.nl ?_
  refine SC.both ((k : Int) == 1) rfl (fun h2 => ?_) (fun h2 => ?_)
  · skip
    refine SC.seq ?_
    have hB4 := hR.wb.pullD dir
    have hcb5 := CU.base (X := ⟨160, w, RgZ g G1 G2⟩) (l := [rBlk g [pt d0 0, pt d1 0, pt wd 0, pt e0 0, pt e1 0, pt vd 0, iw t0, iw t1, iw f0, iw f1] 41, rWp wd d0 d1 G1 S, rWq vd e0 e1 G2 S, rBlk b1 [iw k, iw dir, iw kk, iw to, Value.slice va f.length vc] 30]) (l2 := fun (Gw3 : Nat → Prop) => [rBlk g [pt d0 0, pt d1 0, pt wd 0, pt e0 0, pt e1 0, pt vd 0, iw t0, iw t1, iw f0, iw f1] 41, rWp wd d0 d1 Gw3 ((pullD S dir).2), rWq vd e0 e1 G2 S, rBlk b1 [iw k, iw dir, iw kk, iw to, Value.slice va f.length vc] 30]) (p := fun (Gw3 : Nat → Prop) => ∀ b, Gw3 b → RgZ g G1 G2 b ∨ w.heap.size ≤ b) (k := 6) (lb := [rBlk g [pt d0 0, pt d1 0, pt wd 0, pt e0 0, pt e1 0, pt vd 0, iw t0, iw t1, iw f0, iw f1] 41, rNone, rWq vd e0 e1 G2 S, rBlk b1 [iw k, iw dir, iw kk, iw to, Value.slice va f.length vc] 30]) (fun w hI => hI.weak (i := 1) (r' := rNone) rfl (fun _ => trivial) (fun b hb => hb.elim)) (fun z w hI => hI.weak (i := 1) (r' := rNone) rfl (fun _ => trivial) (fun b hb => hb.elim))
    refine SC.region_turn (ζ := Nat → Prop) 13 6 (fun Gw3 => [rG g d0 d1 wd e0 e1 vd t0 t1 f0 f1 41, rWp wd d0 d1 Gw3 ((pullD S dir).2), rWq vd e0 e1 G2 S, rBlk b1 [iw k, iw dir, iw kk, iw to, Value.slice va f.length vc] 30]) (fun Gw3 => ∀ b, Gw3 b → RgZ g G1 G2 b ∨ w.heap.size ≤ b) (by kernel_rfl) (by kernel_rfl) rfl ?_
    refine SS.uu hcb5 (ru_move rfl rfl) ?_
    refine SS.uu hcb5 (ru_nilCheck rfl rfl) ?_
    refine SS.uu hcb5 (ru_fieldAddr (o2 := 2) fd41_1 rfl rfl rfl) ?_
    refine SS.uu hcb5 (ru_load (i := 0) ts35 rfl rfl rfl rfl) ?_
    refine SS.uu hcb5 (ru_fieldAddr (o2 := 1) fd30_1 rfl rfl rfl) ?_
    refine SS.uu hcb5 (ru_load (i := 3) ts3 rfl rfl rfl rfl) ?_
    refine SS.turnc (iw ((pullD S dir).1)) rfl rfl co21 rfl rfl rfl (lt_b rfl) (fun w5 hI => (rw_pull hR.wb (by omega) (hI.1.get (i := 1) rfl) dir).mono fun e w2 ⟨h1, kz⟩ => by obtain ⟨G9, k1, k2⟩ := hI.rto (i := 1) rfl hG1 kz; exact ⟨G9, h1, k1, k2⟩) ?_
    refine SS.uu hcb5 (ru_move rfl rfl) ?_
    refine SS.uu hcb5 (ru_nilCheck rfl rfl) ?_
    refine SS.uu hcb5 (ru_fieldAddr (o2 := 5) fd41_3 rfl rfl rfl) ?_
    refine SS.uu hcb5 (ru_load (i := 0) ts38 rfl rfl rfl rfl) ?_
    refine SS.uu hcb5 (ru_fieldAddr (o2 := 1) fd30_1 rfl rfl rfl) ?_
    refine SS.uu hcb5 (ru_load (i := 3) ts3 rfl rfl rfl rfl) ?_
    refine SS.nilU ?_
    intro Gw3 hGw3
    have hB7 := hR.wb.pullD dir
    refine SL.call (ζ := Nat → Prop) (fun Gw6 => iw ((pullD S dir).1)) (fun Gw6 => [rG g d0 d1 wd e0 e1 vd t0 t1 f0 f1 41, rWp wd d0 d1 Gw3 ((pullD S dir).2), rWq vd e0 e1 Gw6 ((pullD S dir).2), rBlk b1 [iw k, iw dir, iw kk, iw to, Value.slice va f.length vc] 30]) (fun Gw6 => ∀ b, Gw6 b → RgZ g G1 G2 b ∨ w.heap.size ≤ b) rfl rfl co40 rfl rfl rfl (lt_b rfl) (fun w5 hI => (rv_pull hR.wb (by omega) (hI.1.get (i := 2) rfl) dir).mono fun e w2 ⟨h1, kz⟩ => by obtain ⟨G9, k1, k2⟩ := hI.rto (i := 2) rfl hG2 kz; exact ⟨G9, h1, k1, k2⟩) ?_
    intro Gw6 hGw6
    refine SL.uu (ru_eq (b := true) rfl rfl rfl (by simp)) ?_
    refine SL.as ?_
    refine SL.nl ?_
    refine SC.ret ?_
    refine SE.blkr ?_
    refine SE.passr ?_
    refine SE.res (.inl rfl) (res1 Try.results17 rfl) fun w1 hI => ⟨rfl, ((pullD S dir).2), t0, t1, f0, f1, RgTo.of (l := [rBlk b1 [iw k, iw dir, iw kk, iw to, Value.slice va f.length vc] 30]) hI hGw3 hGw6, ⟨hB4.le (by omega), (by first | exact hR.t0 | exact hR.t1 | exact hR.f0 | exact hR.f1 | exact zero16 | exact post_t hR.t0 | exact post_t hR.t1 | exact room_t hR.f0 | exact room_t hR.f1), (by first | exact hR.t0 | exact hR.t1 | exact hR.f0 | exact hR.f1 | exact zero16 | exact post_t hR.t0 | exact post_t hR.t1 | exact room_t hR.f0 | exact room_t hR.f1), (by first | exact hR.t0 | exact hR.t1 | exact hR.f0 | exact hR.f1 | exact zero16 | exact post_t hR.t0 | exact post_t hR.t1 | exact room_t hR.f0 | exact room_t hR.f1), (by first | exact hR.t0 | exact hR.t1 | exact hR.f0 | exact hR.f1 | exact zero16 | exact post_t hR.t0 | exact post_t hR.t1 | exact room_t hR.f0 | exact room_t hR.f1)⟩, fun h9 h10 h => on_pull h _ ⟩
  refine SC.sr ?_
  refine SL.uu (ru_eq (b := ((k : Int) == 2)) rfl rfl rfl rfl) ?_
  refine SL.as ?_
  refine SL.nl ?_
  refine SC.both ((k : Int) == 2) rfl (fun h8 => ?_) (fun h8 => ?_)
  · skip
    refine SC.sr ?_
    refine SL.mv ?_
    refine SL.fa 1 fd30_1 ?_
    refine SL.ld 3 ts3 ?_
    refine SL.fa 2 fd30_2 ?_
    refine SL.ld 3 ts3 ?_
    refine SL.callv (bo true) rfl rfl co41 rfl rfl rfl (lt_b rfl) (fun w hI => H_only hI (sees_any (S := S) hR.wb ((hI.keep 3).1) dir kk)) ?_
    refine SL.as ?_
    refine SL.nl ?_
    refine SC.ret ?_
    refine SE.blkr ?_
    refine SE.passr ?_
    refine SE.res (.inl rfl) (res1 Try.results17 rfl) fun w1 hI => ⟨rfl, S, t0, t1, f0, f1, RgTo.of (l := [rBlk b1 [iw k, iw dir, iw kk, iw to, Value.slice va f.length vc] 30]) hI hG1 hG2, ⟨hR.wb.le (by omega), (by first | exact hR.t0 | exact hR.t1 | exact hR.f0 | exact hR.f1 | exact zero16 | exact post_t hR.t0 | exact post_t hR.t1 | exact room_t hR.f0 | exact room_t hR.f1), (by first | exact hR.t0 | exact hR.t1 | exact hR.f0 | exact hR.f1 | exact zero16 | exact post_t hR.t0 | exact post_t hR.t1 | exact room_t hR.f0 | exact room_t hR.f1), (by first | exact hR.t0 | exact hR.t1 | exact hR.f0 | exact hR.f1 | exact zero16 | exact post_t hR.t0 | exact post_t hR.t1 | exact room_t hR.f0 | exact room_t hR.f1), (by first | exact hR.t0 | exact hR.t1 | exact hR.f0 | exact hR.f1 | exact zero16 | exact post_t hR.t0 | exact post_t hR.t1 | exact room_t hR.f0 | exact room_t hR.f1)⟩, fun h9 h10 h => h⟩
  refine SC.sr ?_
  refine SL.uu (ru_eq (b := ((k : Int) == 3)) rfl rfl rfl rfl) ?_
  refine SL.as ?_
  refine SL.nl ?_
  refine SC.both ((k : Int) == 3) rfl (fun h9 => ?_) (fun h9 => ?_)
  · skip
    refine SC.seq ?_
    have hB11 := hR.wb.dropD dir kk
    have hcb12 := CU.base (X := ⟨160, w, RgZ g G1 G2⟩) (l := [rBlk g [pt d0 0, pt d1 0, pt wd 0, pt e0 0, pt e1 0, pt vd 0, iw t0, iw t1, iw f0, iw f1] 41, rWp wd d0 d1 G1 S, rWq vd e0 e1 G2 S, rBlk b1 [iw k, iw dir, iw kk, iw to, Value.slice va f.length vc] 30]) (l2 := fun (Gw10 : Nat → Prop) => [rBlk g [pt d0 0, pt d1 0, pt wd 0, pt e0 0, pt e1 0, pt vd 0, iw t0, iw t1, iw f0, iw f1] 41, rWp wd d0 d1 Gw10 ((dropD S dir kk).2), rWq vd e0 e1 G2 S, rBlk b1 [iw k, iw dir, iw kk, iw to, Value.slice va f.length vc] 30]) (p := fun (Gw10 : Nat → Prop) => ∀ b, Gw10 b → RgZ g G1 G2 b ∨ w.heap.size ≤ b) (k := 8) (lb := [rBlk g [pt d0 0, pt d1 0, pt wd 0, pt e0 0, pt e1 0, pt vd 0, iw t0, iw t1, iw f0, iw f1] 41, rNone, rWq vd e0 e1 G2 S, rBlk b1 [iw k, iw dir, iw kk, iw to, Value.slice va f.length vc] 30]) (fun w hI => hI.weak (i := 1) (r' := rNone) rfl (fun _ => trivial) (fun b hb => hb.elim)) (fun z w hI => hI.weak (i := 1) (r' := rNone) rfl (fun _ => trivial) (fun b hb => hb.elim))
    refine SC.region_turn (ζ := Nat → Prop) 17 8 (fun Gw10 => [rG g d0 d1 wd e0 e1 vd t0 t1 f0 f1 41, rWp wd d0 d1 Gw10 ((dropD S dir kk).2), rWq vd e0 e1 G2 S, rBlk b1 [iw k, iw dir, iw kk, iw to, Value.slice va f.length vc] 30]) (fun Gw10 => ∀ b, Gw10 b → RgZ g G1 G2 b ∨ w.heap.size ≤ b) (by kernel_rfl) (by kernel_rfl) rfl ?_
    refine SS.uu hcb12 (ru_move rfl rfl) ?_
    refine SS.uu hcb12 (ru_nilCheck rfl rfl) ?_
    refine SS.uu hcb12 (ru_fieldAddr (o2 := 2) fd41_1 rfl rfl rfl) ?_
    refine SS.uu hcb12 (ru_load (i := 0) ts35 rfl rfl rfl rfl) ?_
    refine SS.uu hcb12 (ru_fieldAddr (o2 := 1) fd30_1 rfl rfl rfl) ?_
    refine SS.uu hcb12 (ru_load (i := 3) ts3 rfl rfl rfl rfl) ?_
    refine SS.uu hcb12 (ru_fieldAddr (o2 := 2) fd30_2 rfl rfl rfl) ?_
    refine SS.uu hcb12 (ru_load (i := 3) ts3 rfl rfl rfl rfl) ?_
    refine SS.turnc (iw ((dropD S dir kk).1)) rfl rfl co39 rfl rfl rfl (lt_b rfl) (fun w5 hI => (rw_drop hR.wb (by omega) (hI.1.get (i := 1) rfl) dir kk).mono fun e w2 ⟨h1, kz⟩ => by obtain ⟨G9, k1, k2⟩ := hI.rto (i := 1) rfl hG1 kz; exact ⟨G9, h1, k1, k2⟩) ?_
    refine SS.uu hcb12 (ru_move rfl rfl) ?_
    refine SS.uu hcb12 (ru_nilCheck rfl rfl) ?_
    refine SS.uu hcb12 (ru_fieldAddr (o2 := 5) fd41_3 rfl rfl rfl) ?_
    refine SS.uu hcb12 (ru_load (i := 0) ts38 rfl rfl rfl rfl) ?_
    refine SS.uu hcb12 (ru_fieldAddr (o2 := 1) fd30_1 rfl rfl rfl) ?_
    refine SS.uu hcb12 (ru_load (i := 3) ts3 rfl rfl rfl rfl) ?_
    refine SS.uu hcb12 (ru_fieldAddr (o2 := 2) fd30_2 rfl rfl rfl) ?_
    refine SS.uu hcb12 (ru_load (i := 3) ts3 rfl rfl rfl rfl) ?_
    refine SS.nilU ?_
    intro Gw10 hGw10
    have hB14 := hR.wb.dropD dir kk
    refine SL.call (ζ := Nat → Prop) (fun Gw13 => iw ((dropD S dir kk).1)) (fun Gw13 => [rG g d0 d1 wd e0 e1 vd t0 t1 f0 f1 41, rWp wd d0 d1 Gw10 ((dropD S dir kk).2), rWq vd e0 e1 Gw13 ((dropD S dir kk).2), rBlk b1 [iw k, iw dir, iw kk, iw to, Value.slice va f.length vc] 30]) (fun Gw13 => ∀ b, Gw13 b → RgZ g G1 G2 b ∨ w.heap.size ≤ b) rfl rfl co42 rfl rfl rfl (lt_b rfl) (fun w5 hI => (rv_drop hR.wb (by omega) (hI.1.get (i := 2) rfl) dir kk).mono fun e w2 ⟨h1, kz⟩ => by obtain ⟨G9, k1, k2⟩ := hI.rto (i := 2) rfl hG2 kz; exact ⟨G9, h1, k1, k2⟩) ?_
    intro Gw13 hGw13
    refine SL.uu (ru_eq (b := true) rfl rfl rfl (by simp)) ?_
    refine SL.as ?_
    refine SL.nn [(0, pt g 0), (3, pt b1 0), (4, bo true)] [rG g d0 d1 wd e0 e1 vd t0 t1 f0 f1 41, rWp wd d0 d1 Gw10 ((dropD S dir kk).2), rWq vd e0 e1 Gw13 ((dropD S dir kk).2), rBlk b1 [iw k, iw dir, iw kk, iw to, Value.slice va f.length vc] 30] ⟨rfl, rfl, rfl, trivial⟩ ?_
    refine SC.ret ?_
    refine SE.blkr ?_
    refine SE.passr ?_
    refine SE.res (.inl rfl) (res1 Try.results17 rfl) fun w1 hI => ⟨rfl, ((dropD S dir kk).2), t0, t1, f0, f1, RgTo.of (l := [rBlk b1 [iw k, iw dir, iw kk, iw to, Value.slice va f.length vc] 30]) hI hGw10 hGw13, ⟨hB11.le (by omega), (by first | exact hR.t0 | exact hR.t1 | exact hR.f0 | exact hR.f1 | exact zero16 | exact post_t hR.t0 | exact post_t hR.t1 | exact room_t hR.f0 | exact room_t hR.f1), (by first | exact hR.t0 | exact hR.t1 | exact hR.f0 | exact hR.f1 | exact zero16 | exact post_t hR.t0 | exact post_t hR.t1 | exact room_t hR.f0 | exact room_t hR.f1), (by first | exact hR.t0 | exact hR.t1 | exact hR.f0 | exact hR.f1 | exact zero16 | exact post_t hR.t0 | exact post_t hR.t1 | exact room_t hR.f0 | exact room_t hR.f1), (by first | exact hR.t0 | exact hR.t1 | exact hR.f0 | exact hR.f1 | exact zero16 | exact post_t hR.t0 | exact post_t hR.t1 | exact room_t hR.f0 | exact room_t hR.f1)⟩, fun h9 h10 h => on_drop h _ _ ⟩
  refine SC.sr ?_
  refine SL.uu (ru_eq (b := ((k : Int) == 4)) rfl rfl rfl rfl) ?_
  refine SL.as ?_
  refine SL.nl ?_
  refine SC.both ((k : Int) == 4) rfl (fun h15 => ?_) (fun h15 => ?_)
  · skip
    refine SC.seq ?_
    have hB17 := hR.wb.doubleD dir kk
    have hcb18 := CU.base (X := ⟨160, w, RgZ g G1 G2⟩) (l := [rBlk g [pt d0 0, pt d1 0, pt wd 0, pt e0 0, pt e1 0, pt vd 0, iw t0, iw t1, iw f0, iw f1] 41, rWp wd d0 d1 G1 S, rWq vd e0 e1 G2 S, rBlk b1 [iw k, iw dir, iw kk, iw to, Value.slice va f.length vc] 30]) (l2 := fun (Gw16 : Nat → Prop) => [rBlk g [pt d0 0, pt d1 0, pt wd 0, pt e0 0, pt e1 0, pt vd 0, iw t0, iw t1, iw f0, iw f1] 41, rWp wd d0 d1 Gw16 ((doubleD S dir kk).2), rWq vd e0 e1 G2 S, rBlk b1 [iw k, iw dir, iw kk, iw to, Value.slice va f.length vc] 30]) (p := fun (Gw16 : Nat → Prop) => ∀ b, Gw16 b → RgZ g G1 G2 b ∨ w.heap.size ≤ b) (k := 8) (lb := [rBlk g [pt d0 0, pt d1 0, pt wd 0, pt e0 0, pt e1 0, pt vd 0, iw t0, iw t1, iw f0, iw f1] 41, rNone, rWq vd e0 e1 G2 S, rBlk b1 [iw k, iw dir, iw kk, iw to, Value.slice va f.length vc] 30]) (fun w hI => hI.weak (i := 1) (r' := rNone) rfl (fun _ => trivial) (fun b hb => hb.elim)) (fun z w hI => hI.weak (i := 1) (r' := rNone) rfl (fun _ => trivial) (fun b hb => hb.elim))
    refine SC.region_turn (ζ := Nat → Prop) 17 8 (fun Gw16 => [rG g d0 d1 wd e0 e1 vd t0 t1 f0 f1 41, rWp wd d0 d1 Gw16 ((doubleD S dir kk).2), rWq vd e0 e1 G2 S, rBlk b1 [iw k, iw dir, iw kk, iw to, Value.slice va f.length vc] 30]) (fun Gw16 => ∀ b, Gw16 b → RgZ g G1 G2 b ∨ w.heap.size ≤ b) (by kernel_rfl) (by kernel_rfl) rfl ?_
    refine SS.uu hcb18 (ru_move rfl rfl) ?_
    refine SS.uu hcb18 (ru_nilCheck rfl rfl) ?_
    refine SS.uu hcb18 (ru_fieldAddr (o2 := 2) fd41_1 rfl rfl rfl) ?_
    refine SS.uu hcb18 (ru_load (i := 0) ts35 rfl rfl rfl rfl) ?_
    refine SS.uu hcb18 (ru_fieldAddr (o2 := 1) fd30_1 rfl rfl rfl) ?_
    refine SS.uu hcb18 (ru_load (i := 3) ts3 rfl rfl rfl rfl) ?_
    refine SS.uu hcb18 (ru_fieldAddr (o2 := 2) fd30_2 rfl rfl rfl) ?_
    refine SS.uu hcb18 (ru_load (i := 3) ts3 rfl rfl rfl rfl) ?_
    refine SS.turnc (iw ((doubleD S dir kk).1)) rfl rfl co14 rfl rfl rfl (lt_b rfl) (fun w5 hI => (rw_double hR.wb (by omega) (hI.1.get (i := 1) rfl) dir kk).mono fun e w2 ⟨h1, kz⟩ => by obtain ⟨G9, k1, k2⟩ := hI.rto (i := 1) rfl hG1 kz; exact ⟨G9, h1, k1, k2⟩) ?_
    refine SS.uu hcb18 (ru_move rfl rfl) ?_
    refine SS.uu hcb18 (ru_nilCheck rfl rfl) ?_
    refine SS.uu hcb18 (ru_fieldAddr (o2 := 5) fd41_3 rfl rfl rfl) ?_
    refine SS.uu hcb18 (ru_load (i := 0) ts38 rfl rfl rfl rfl) ?_
    refine SS.uu hcb18 (ru_fieldAddr (o2 := 1) fd30_1 rfl rfl rfl) ?_
    refine SS.uu hcb18 (ru_load (i := 3) ts3 rfl rfl rfl rfl) ?_
    refine SS.uu hcb18 (ru_fieldAddr (o2 := 2) fd30_2 rfl rfl rfl) ?_
    refine SS.uu hcb18 (ru_load (i := 3) ts3 rfl rfl rfl rfl) ?_
    refine SS.nilU ?_
    intro Gw16 hGw16
    have hB20 := hR.wb.doubleD dir kk
    refine SL.call (ζ := Nat → Prop) (fun Gw19 => iw ((doubleD S dir kk).1)) (fun Gw19 => [rG g d0 d1 wd e0 e1 vd t0 t1 f0 f1 41, rWp wd d0 d1 Gw16 ((doubleD S dir kk).2), rWq vd e0 e1 Gw19 ((doubleD S dir kk).2), rBlk b1 [iw k, iw dir, iw kk, iw to, Value.slice va f.length vc] 30]) (fun Gw19 => ∀ b, Gw19 b → RgZ g G1 G2 b ∨ w.heap.size ≤ b) rfl rfl co43 rfl rfl rfl (lt_b rfl) (fun w5 hI => (rv_double hR.wb (by omega) (hI.1.get (i := 2) rfl) dir kk).mono fun e w2 ⟨h1, kz⟩ => by obtain ⟨G9, k1, k2⟩ := hI.rto (i := 2) rfl hG2 kz; exact ⟨G9, h1, k1, k2⟩) ?_
    intro Gw19 hGw19
    refine SL.uu (ru_eq (b := true) rfl rfl rfl (by simp)) ?_
    refine SL.as ?_
    refine SL.nl ?_
    refine SC.ret ?_
    refine SE.blkr ?_
    refine SE.passr ?_
    refine SE.res (.inl rfl) (res1 Try.results17 rfl) fun w1 hI => ⟨rfl, ((doubleD S dir kk).2), t0, t1, f0, f1, RgTo.of (l := [rBlk b1 [iw k, iw dir, iw kk, iw to, Value.slice va f.length vc] 30]) hI hGw16 hGw19, ⟨hB17.le (by omega), (by first | exact hR.t0 | exact hR.t1 | exact hR.f0 | exact hR.f1 | exact zero16 | exact post_t hR.t0 | exact post_t hR.t1 | exact room_t hR.f0 | exact room_t hR.f1), (by first | exact hR.t0 | exact hR.t1 | exact hR.f0 | exact hR.f1 | exact zero16 | exact post_t hR.t0 | exact post_t hR.t1 | exact room_t hR.f0 | exact room_t hR.f1), (by first | exact hR.t0 | exact hR.t1 | exact hR.f0 | exact hR.f1 | exact zero16 | exact post_t hR.t0 | exact post_t hR.t1 | exact room_t hR.f0 | exact room_t hR.f1), (by first | exact hR.t0 | exact hR.t1 | exact hR.f0 | exact hR.f1 | exact zero16 | exact post_t hR.t0 | exact post_t hR.t1 | exact room_t hR.f0 | exact room_t hR.f1)⟩, fun h9 h10 h => on_double h _ _ ⟩
  refine SC.sr ?_
  refine SL.uu (ru_eq (b := ((k : Int) == 5)) rfl rfl rfl rfl) ?_
  refine SL.as ?_
  refine SL.nl ?_
  refine SC.both ((k : Int) == 5) rfl (fun h21 => ?_) (fun h21 => ?_)
  · skip
    refine SC.seq ?_
    have hB23 := hR.wb.moveD dir kk to
    have hcb24 := CU.base (X := ⟨160, w, RgZ g G1 G2⟩) (l := [rBlk g [pt d0 0, pt d1 0, pt wd 0, pt e0 0, pt e1 0, pt vd 0, iw t0, iw t1, iw f0, iw f1] 41, rWp wd d0 d1 G1 S, rWq vd e0 e1 G2 S, rBlk b1 [iw k, iw dir, iw kk, iw to, Value.slice va f.length vc] 30]) (l2 := fun (Gw22 : Nat → Prop) => [rBlk g [pt d0 0, pt d1 0, pt wd 0, pt e0 0, pt e1 0, pt vd 0, iw t0, iw t1, iw f0, iw f1] 41, rWp wd d0 d1 Gw22 ((moveD S dir kk to).2), rWq vd e0 e1 G2 S, rBlk b1 [iw k, iw dir, iw kk, iw to, Value.slice va f.length vc] 30]) (p := fun (Gw22 : Nat → Prop) => ∀ b, Gw22 b → RgZ g G1 G2 b ∨ w.heap.size ≤ b) (k := 10) (lb := [rBlk g [pt d0 0, pt d1 0, pt wd 0, pt e0 0, pt e1 0, pt vd 0, iw t0, iw t1, iw f0, iw f1] 41, rNone, rWq vd e0 e1 G2 S, rBlk b1 [iw k, iw dir, iw kk, iw to, Value.slice va f.length vc] 30]) (fun w hI => hI.weak (i := 1) (r' := rNone) rfl (fun _ => trivial) (fun b hb => hb.elim)) (fun z w hI => hI.weak (i := 1) (r' := rNone) rfl (fun _ => trivial) (fun b hb => hb.elim))
    refine SC.region_turn (ζ := Nat → Prop) 21 10 (fun Gw22 => [rG g d0 d1 wd e0 e1 vd t0 t1 f0 f1 41, rWp wd d0 d1 Gw22 ((moveD S dir kk to).2), rWq vd e0 e1 G2 S, rBlk b1 [iw k, iw dir, iw kk, iw to, Value.slice va f.length vc] 30]) (fun Gw22 => ∀ b, Gw22 b → RgZ g G1 G2 b ∨ w.heap.size ≤ b) (by kernel_rfl) (by kernel_rfl) rfl ?_
    refine SS.uu hcb24 (ru_move rfl rfl) ?_
    refine SS.uu hcb24 (ru_nilCheck rfl rfl) ?_
    refine SS.uu hcb24 (ru_fieldAddr (o2 := 2) fd41_1 rfl rfl rfl) ?_
    refine SS.uu hcb24 (ru_load (i := 0) ts35 rfl rfl rfl rfl) ?_
    refine SS.uu hcb24 (ru_fieldAddr (o2 := 1) fd30_1 rfl rfl rfl) ?_
    refine SS.uu hcb24 (ru_load (i := 3) ts3 rfl rfl rfl rfl) ?_
    refine SS.uu hcb24 (ru_fieldAddr (o2 := 2) fd30_2 rfl rfl rfl) ?_
    refine SS.uu hcb24 (ru_load (i := 3) ts3 rfl rfl rfl rfl) ?_
    refine SS.uu hcb24 (ru_fieldAddr (o2 := 3) fd30_3 rfl rfl rfl) ?_
    refine SS.uu hcb24 (ru_load (i := 3) ts3 rfl rfl rfl rfl) ?_
    refine SS.turnc (iw ((moveD S dir kk to).1)) rfl rfl co22 rfl rfl rfl (lt_b rfl) (fun w5 hI => (rw_move hR.wb (by omega) (hI.1.get (i := 1) rfl) dir kk to).mono fun e w2 ⟨h1, kz⟩ => by obtain ⟨G9, k1, k2⟩ := hI.rto (i := 1) rfl hG1 kz; exact ⟨G9, h1, k1, k2⟩) ?_
    refine SS.uu hcb24 (ru_move rfl rfl) ?_
    refine SS.uu hcb24 (ru_nilCheck rfl rfl) ?_
    refine SS.uu hcb24 (ru_fieldAddr (o2 := 5) fd41_3 rfl rfl rfl) ?_
    refine SS.uu hcb24 (ru_load (i := 0) ts38 rfl rfl rfl rfl) ?_
    refine SS.uu hcb24 (ru_fieldAddr (o2 := 1) fd30_1 rfl rfl rfl) ?_
    refine SS.uu hcb24 (ru_load (i := 3) ts3 rfl rfl rfl rfl) ?_
    refine SS.uu hcb24 (ru_fieldAddr (o2 := 2) fd30_2 rfl rfl rfl) ?_
    refine SS.uu hcb24 (ru_load (i := 3) ts3 rfl rfl rfl rfl) ?_
    refine SS.uu hcb24 (ru_fieldAddr (o2 := 3) fd30_3 rfl rfl rfl) ?_
    refine SS.uu hcb24 (ru_load (i := 3) ts3 rfl rfl rfl rfl) ?_
    refine SS.nilU ?_
    intro Gw22 hGw22
    have hB26 := hR.wb.moveD dir kk to
    refine SL.call (ζ := Nat → Prop) (fun Gw25 => iw ((moveD S dir kk to).1)) (fun Gw25 => [rG g d0 d1 wd e0 e1 vd t0 t1 f0 f1 41, rWp wd d0 d1 Gw22 ((moveD S dir kk to).2), rWq vd e0 e1 Gw25 ((moveD S dir kk to).2), rBlk b1 [iw k, iw dir, iw kk, iw to, Value.slice va f.length vc] 30]) (fun Gw25 => ∀ b, Gw25 b → RgZ g G1 G2 b ∨ w.heap.size ≤ b) rfl rfl co44 rfl rfl rfl (lt_b rfl) (fun w5 hI => (rv_move hR.wb (by omega) (hI.1.get (i := 2) rfl) dir kk to).mono fun e w2 ⟨h1, kz⟩ => by obtain ⟨G9, k1, k2⟩ := hI.rto (i := 2) rfl hG2 kz; exact ⟨G9, h1, k1, k2⟩) ?_
    intro Gw25 hGw25
    refine SL.uu (ru_eq (b := true) rfl rfl rfl (by simp)) ?_
    refine SL.as ?_
    refine SL.nn [(0, pt g 0), (3, pt b1 0), (4, bo true)] _ ⟨rfl, rfl, rfl, trivial⟩ ?_
    refine SC.ret ?_
    refine SE.blkr ?_
    refine SE.passr ?_
    refine SE.res (.inl rfl) (res1 Try.results17 rfl) fun w1 hI => ⟨rfl, ((moveD S dir kk to).2), t0, t1, f0, f1, RgTo.of (l := [rBlk b1 [iw k, iw dir, iw kk, iw to, Value.slice va f.length vc] 30]) hI hGw22 hGw25, ⟨hB23.le (by omega), (by first | exact hR.t0 | exact hR.t1 | exact hR.f0 | exact hR.f1 | exact zero16 | exact post_t hR.t0 | exact post_t hR.t1 | exact room_t hR.f0 | exact room_t hR.f1), (by first | exact hR.t0 | exact hR.t1 | exact hR.f0 | exact hR.f1 | exact zero16 | exact post_t hR.t0 | exact post_t hR.t1 | exact room_t hR.f0 | exact room_t hR.f1), (by first | exact hR.t0 | exact hR.t1 | exact hR.f0 | exact hR.f1 | exact zero16 | exact post_t hR.t0 | exact post_t hR.t1 | exact room_t hR.f0 | exact room_t hR.f1), (by first | exact hR.t0 | exact hR.t1 | exact hR.f0 | exact hR.f1 | exact zero16 | exact post_t hR.t0 | exact post_t hR.t1 | exact room_t hR.f0 | exact room_t hR.f1)⟩, fun h9 h10 h => on_move h _ _ _ ⟩
  refine SC.sr ?_
  refine SL.uu (ru_eq (b := ((k : Int) == 6)) rfl rfl rfl rfl) ?_
  refine SL.as ?_
  refine SL.nl ?_
  refine SC.both ((k : Int) == 6) rfl (fun h27 => ?_) (fun h27 => ?_)
  · skip
    refine SC.seq ?_
    have hB29 := hR.wb.damageD dir kk to
    have hcb30 := CU.base (X := ⟨160, w, RgZ g G1 G2⟩) (l := [rBlk g [pt d0 0, pt d1 0, pt wd 0, pt e0 0, pt e1 0, pt vd 0, iw t0, iw t1, iw f0, iw f1] 41, rWp wd d0 d1 G1 S, rWq vd e0 e1 G2 S, rBlk b1 [iw k, iw dir, iw kk, iw to, Value.slice va f.length vc] 30]) (l2 := fun (Gw28 : Nat → Prop) => [rBlk g [pt d0 0, pt d1 0, pt wd 0, pt e0 0, pt e1 0, pt vd 0, iw t0, iw t1, iw f0, iw f1] 41, rWp wd d0 d1 Gw28 ((damageD S dir kk to).2), rWq vd e0 e1 G2 S, rBlk b1 [iw k, iw dir, iw kk, iw to, Value.slice va f.length vc] 30]) (p := fun (Gw28 : Nat → Prop) => ∀ b, Gw28 b → RgZ g G1 G2 b ∨ w.heap.size ≤ b) (k := 10) (lb := [rBlk g [pt d0 0, pt d1 0, pt wd 0, pt e0 0, pt e1 0, pt vd 0, iw t0, iw t1, iw f0, iw f1] 41, rNone, rWq vd e0 e1 G2 S, rBlk b1 [iw k, iw dir, iw kk, iw to, Value.slice va f.length vc] 30]) (fun w hI => hI.weak (i := 1) (r' := rNone) rfl (fun _ => trivial) (fun b hb => hb.elim)) (fun z w hI => hI.weak (i := 1) (r' := rNone) rfl (fun _ => trivial) (fun b hb => hb.elim))
    refine SC.region_turn (ζ := Nat → Prop) 21 10 (fun Gw28 => [rG g d0 d1 wd e0 e1 vd t0 t1 f0 f1 41, rWp wd d0 d1 Gw28 ((damageD S dir kk to).2), rWq vd e0 e1 G2 S, rBlk b1 [iw k, iw dir, iw kk, iw to, Value.slice va f.length vc] 30]) (fun Gw28 => ∀ b, Gw28 b → RgZ g G1 G2 b ∨ w.heap.size ≤ b) (by kernel_rfl) (by kernel_rfl) rfl ?_
    refine SS.uu hcb30 (ru_move rfl rfl) ?_
    refine SS.uu hcb30 (ru_nilCheck rfl rfl) ?_
    refine SS.uu hcb30 (ru_fieldAddr (o2 := 2) fd41_1 rfl rfl rfl) ?_
    refine SS.uu hcb30 (ru_load (i := 0) ts35 rfl rfl rfl rfl) ?_
    refine SS.uu hcb30 (ru_fieldAddr (o2 := 1) fd30_1 rfl rfl rfl) ?_
    refine SS.uu hcb30 (ru_load (i := 3) ts3 rfl rfl rfl rfl) ?_
    refine SS.uu hcb30 (ru_fieldAddr (o2 := 2) fd30_2 rfl rfl rfl) ?_
    refine SS.uu hcb30 (ru_load (i := 3) ts3 rfl rfl rfl rfl) ?_
    refine SS.uu hcb30 (ru_fieldAddr (o2 := 3) fd30_3 rfl rfl rfl) ?_
    refine SS.uu hcb30 (ru_load (i := 3) ts3 rfl rfl rfl rfl) ?_
    refine SS.turnc (iw ((damageD S dir kk to).1)) rfl rfl co23 rfl rfl rfl (lt_b rfl) (fun w5 hI => (rw_damage hR.wb (by omega) (hI.1.get (i := 1) rfl) dir kk to hto ).mono fun e w2 ⟨h1, kz⟩ => by obtain ⟨G9, k1, k2⟩ := hI.rto (i := 1) rfl hG1 kz; exact ⟨G9, h1, k1, k2⟩) ?_
    refine SS.uu hcb30 (ru_move rfl rfl) ?_
    refine SS.uu hcb30 (ru_nilCheck rfl rfl) ?_
    refine SS.uu hcb30 (ru_fieldAddr (o2 := 5) fd41_3 rfl rfl rfl) ?_
    refine SS.uu hcb30 (ru_load (i := 0) ts38 rfl rfl rfl rfl) ?_
    refine SS.uu hcb30 (ru_fieldAddr (o2 := 1) fd30_1 rfl rfl rfl) ?_
    refine SS.uu hcb30 (ru_load (i := 3) ts3 rfl rfl rfl rfl) ?_
    refine SS.uu hcb30 (ru_fieldAddr (o2 := 2) fd30_2 rfl rfl rfl) ?_
    refine SS.uu hcb30 (ru_load (i := 3) ts3 rfl rfl rfl rfl) ?_
    refine SS.uu hcb30 (ru_fieldAddr (o2 := 3) fd30_3 rfl rfl rfl) ?_
    refine SS.uu hcb30 (ru_load (i := 3) ts3 rfl rfl rfl rfl) ?_
    refine SS.nilU ?_
    intro Gw28 hGw28
    have hB32 := hR.wb.damageD dir kk to
    refine SL.call (ζ := Nat → Prop) (fun Gw31 => iw ((damageD S dir kk to).1)) (fun Gw31 => [rG g d0 d1 wd e0 e1 vd t0 t1 f0 f1 41, rWp wd d0 d1 Gw28 ((damageD S dir kk to).2), rWq vd e0 e1 Gw31 ((damageD S dir kk to).2), rBlk b1 [iw k, iw dir, iw kk, iw to, Value.slice va f.length vc] 30]) (fun Gw31 => ∀ b, Gw31 b → RgZ g G1 G2 b ∨ w.heap.size ≤ b) rfl rfl co45 rfl rfl rfl (lt_b rfl) (fun w5 hI => (rv_damage hR.wb (by omega) (hI.1.get (i := 2) rfl) dir kk to hto ).mono fun e w2 ⟨h1, kz⟩ => by obtain ⟨G9, k1, k2⟩ := hI.rto (i := 2) rfl hG2 kz; exact ⟨G9, h1, k1, k2⟩) ?_
    intro Gw31 hGw31
    refine SL.uu (ru_eq (b := true) rfl rfl rfl (by simp)) ?_
    refine SL.as ?_
    refine SL.nr [rG g d0 d1 wd e0 e1 vd t0 t1 f0 f1 41, rWp wd d0 d1 Gw28 ((damageD S dir kk to).2), rWq vd e0 e1 Gw31 ((damageD S dir kk to).2), rBlk b1 [iw k, iw dir, iw kk, iw to, Value.slice va f.length vc] 30] ?_
    refine SC.ret ?_
    refine SE.blkr ?_
    refine SE.passr ?_
    refine SE.res (.inl rfl) (res1 Try.results17 rfl) fun w1 hI => ⟨rfl, ((damageD S dir kk to).2), t0, t1, f0, f1, RgTo.of (l := [rBlk b1 [iw k, iw dir, iw kk, iw to, Value.slice va f.length vc] 30]) hI hGw28 hGw31, ⟨hB29.le (by omega), (by first | exact hR.t0 | exact hR.t1 | exact hR.f0 | exact hR.f1 | exact zero16 | exact post_t hR.t0 | exact post_t hR.t1 | exact room_t hR.f0 | exact room_t hR.f1), (by first | exact hR.t0 | exact hR.t1 | exact hR.f0 | exact hR.f1 | exact zero16 | exact post_t hR.t0 | exact post_t hR.t1 | exact room_t hR.f0 | exact room_t hR.f1), (by first | exact hR.t0 | exact hR.t1 | exact hR.f0 | exact hR.f1 | exact zero16 | exact post_t hR.t0 | exact post_t hR.t1 | exact room_t hR.f0 | exact room_t hR.f1), (by first | exact hR.t0 | exact hR.t1 | exact hR.f0 | exact hR.f1 | exact zero16 | exact post_t hR.t0 | exact post_t hR.t1 | exact room_t hR.f0 | exact room_t hR.f1)⟩, fun h9 h10 h => on_damage h _ _ _ ⟩
  refine SC.sr ?_
  refine SL.uu (ru_eq (b := ((k : Int) == 7)) rfl rfl rfl rfl) ?_
  refine SL.as ?_
  refine SL.nl ?_
  refine SC.both ((k : Int) == 7) rfl (fun h33 => ?_) (fun h33 => ?_)
  · skip
    refine SC.seq ?_
    have hB35 := hR.wb.deliverD dir kk
    have hcb36 := CU.base (X := ⟨160, w, RgZ g G1 G2⟩) (l := [rBlk g [pt d0 0, pt d1 0, pt wd 0, pt e0 0, pt e1 0, pt vd 0, iw t0, iw t1, iw f0, iw f1] 41, rWp wd d0 d1 G1 S, rWq vd e0 e1 G2 S, rBlk b1 [iw k, iw dir, iw kk, iw to, Value.slice va f.length vc] 30]) (l2 := fun (Gw34 : Nat → Prop) => [rBlk g [pt d0 0, pt d1 0, pt wd 0, pt e0 0, pt e1 0, pt vd 0, iw t0, iw t1, iw f0, iw f1] 41, rWp wd d0 d1 Gw34 ((deliverD S dir kk).2), rWq vd e0 e1 G2 S, rBlk b1 [iw k, iw dir, iw kk, iw to, Value.slice va f.length vc] 30]) (p := fun (Gw34 : Nat → Prop) => ∀ b, Gw34 b → RgZ g G1 G2 b ∨ w.heap.size ≤ b) (k := 8) (lb := [rBlk g [pt d0 0, pt d1 0, pt wd 0, pt e0 0, pt e1 0, pt vd 0, iw t0, iw t1, iw f0, iw f1] 41, rNone, rWq vd e0 e1 G2 S, rBlk b1 [iw k, iw dir, iw kk, iw to, Value.slice va f.length vc] 30]) (fun w hI => hI.weak (i := 1) (r' := rNone) rfl (fun _ => trivial) (fun b hb => hb.elim)) (fun z w hI => hI.weak (i := 1) (r' := rNone) rfl (fun _ => trivial) (fun b hb => hb.elim))
    refine SC.region_turn (ζ := Nat → Prop) 17 8 (fun Gw34 => [rG g d0 d1 wd e0 e1 vd t0 t1 f0 f1 41, rWp wd d0 d1 Gw34 ((deliverD S dir kk).2), rWq vd e0 e1 G2 S, rBlk b1 [iw k, iw dir, iw kk, iw to, Value.slice va f.length vc] 30]) (fun Gw34 => ∀ b, Gw34 b → RgZ g G1 G2 b ∨ w.heap.size ≤ b) (by kernel_rfl) (by kernel_rfl) rfl ?_
    refine SS.uu hcb36 (ru_move rfl rfl) ?_
    refine SS.uu hcb36 (ru_nilCheck rfl rfl) ?_
    refine SS.uu hcb36 (ru_fieldAddr (o2 := 2) fd41_1 rfl rfl rfl) ?_
    refine SS.uu hcb36 (ru_load (i := 0) ts35 rfl rfl rfl rfl) ?_
    refine SS.uu hcb36 (ru_fieldAddr (o2 := 1) fd30_1 rfl rfl rfl) ?_
    refine SS.uu hcb36 (ru_load (i := 3) ts3 rfl rfl rfl rfl) ?_
    refine SS.uu hcb36 (ru_fieldAddr (o2 := 2) fd30_2 rfl rfl rfl) ?_
    refine SS.uu hcb36 (ru_load (i := 3) ts3 rfl rfl rfl rfl) ?_
    refine SS.turnc (iw ((deliverD S dir kk).1)) rfl rfl co36 rfl rfl rfl (lt_b rfl) (fun w5 hI => (rw_deliver hR.wb (by omega) (hI.1.get (i := 1) rfl) dir kk).mono fun e w2 ⟨h1, kz⟩ => by obtain ⟨G9, k1, k2⟩ := hI.rto (i := 1) rfl hG1 kz; exact ⟨G9, h1, k1, k2⟩) ?_
    refine SS.uu hcb36 (ru_move rfl rfl) ?_
    refine SS.uu hcb36 (ru_nilCheck rfl rfl) ?_
    refine SS.uu hcb36 (ru_fieldAddr (o2 := 5) fd41_3 rfl rfl rfl) ?_
    refine SS.uu hcb36 (ru_load (i := 0) ts38 rfl rfl rfl rfl) ?_
    refine SS.uu hcb36 (ru_fieldAddr (o2 := 1) fd30_1 rfl rfl rfl) ?_
    refine SS.uu hcb36 (ru_load (i := 3) ts3 rfl rfl rfl rfl) ?_
    refine SS.uu hcb36 (ru_fieldAddr (o2 := 2) fd30_2 rfl rfl rfl) ?_
    refine SS.uu hcb36 (ru_load (i := 3) ts3 rfl rfl rfl rfl) ?_
    refine SS.nilU ?_
    intro Gw34 hGw34
    have hB38 := hR.wb.deliverD dir kk
    refine SL.call (ζ := Nat → Prop) (fun Gw37 => iw ((deliverD S dir kk).1)) (fun Gw37 => [rG g d0 d1 wd e0 e1 vd t0 t1 f0 f1 41, rWp wd d0 d1 Gw34 ((deliverD S dir kk).2), rWq vd e0 e1 Gw37 ((deliverD S dir kk).2), rBlk b1 [iw k, iw dir, iw kk, iw to, Value.slice va f.length vc] 30]) (fun Gw37 => ∀ b, Gw37 b → RgZ g G1 G2 b ∨ w.heap.size ≤ b) rfl rfl co46 rfl rfl rfl (lt_b rfl) (fun w5 hI => (rv_deliver hR.wb (by omega) (hI.1.get (i := 2) rfl) dir kk).mono fun e w2 ⟨h1, kz⟩ => by obtain ⟨G9, k1, k2⟩ := hI.rto (i := 2) rfl hG2 kz; exact ⟨G9, h1, k1, k2⟩) ?_
    intro Gw37 hGw37
    refine SL.uu (ru_eq (b := true) rfl rfl rfl (by simp)) ?_
    refine SL.as ?_
    refine SL.nn [(0, pt g 0), (3, pt b1 0), (4, bo true)] _ ⟨rfl, rfl, rfl, trivial⟩ ?_
    refine SC.ret ?_
    refine SE.blkr ?_
    refine SE.passr ?_
    refine SE.res (.inl rfl) (res1 Try.results17 rfl) fun w1 hI => ⟨rfl, ((deliverD S dir kk).2), t0, t1, f0, f1, RgTo.of (l := [rBlk b1 [iw k, iw dir, iw kk, iw to, Value.slice va f.length vc] 30]) hI hGw34 hGw37, ⟨hB35.le (by omega), (by first | exact hR.t0 | exact hR.t1 | exact hR.f0 | exact hR.f1 | exact zero16 | exact post_t hR.t0 | exact post_t hR.t1 | exact room_t hR.f0 | exact room_t hR.f1), (by first | exact hR.t0 | exact hR.t1 | exact hR.f0 | exact hR.f1 | exact zero16 | exact post_t hR.t0 | exact post_t hR.t1 | exact room_t hR.f0 | exact room_t hR.f1), (by first | exact hR.t0 | exact hR.t1 | exact hR.f0 | exact hR.f1 | exact zero16 | exact post_t hR.t0 | exact post_t hR.t1 | exact room_t hR.f0 | exact room_t hR.f1), (by first | exact hR.t0 | exact hR.t1 | exact hR.f0 | exact hR.f1 | exact zero16 | exact post_t hR.t0 | exact post_t hR.t1 | exact room_t hR.f0 | exact room_t hR.f1)⟩, fun h9 h10 h => on_deliver h _ _ ⟩
  refine SC.sr ?_
  refine SL.uu (ru_eq (b := ((k : Int) == 8)) rfl rfl rfl rfl) ?_
  refine SL.as ?_
  refine SL.nl ?_
  refine SC.both ((k : Int) == 8) rfl (fun h39 => ?_) (fun h39 => ?_)
  · skip
    refine SC.sr ?_
    refine SL.mv ?_
    refine SL.nk ?_
    refine SL.fa 2 fd41_1 ?_
    refine SL.ld 0 ts35 ?_
    have hB41 := (hR.wb.tick (by omega)).1
    refine SL.call (ζ := Nat → Prop) (fun Gw40 => Value.tuple #[]) (fun Gw40 => [rG g d0 d1 wd e0 e1 vd t0 t1 f0 f1 41, rWp wd d0 d1 Gw40 (tickW S), rWq vd e0 e1 G2 S, rBlk b1 [iw k, iw dir, iw kk, iw to, Value.slice va f.length vc] 30]) (fun Gw40 => ∀ b, Gw40 b → RgZ g G1 G2 b ∨ w.heap.size ≤ b) rfl rfl co18 rfl rfl rfl (lt_b rfl) (fun w5 hI => (rw_tick hR.wb (by omega) (hI.1.get (i := 1) rfl)).mono fun e w2 ⟨h1, kz⟩ => by obtain ⟨G9, k1, k2⟩ := hI.rto (i := 1) rfl hG1 kz; exact ⟨G9, h1, k1, k2⟩) ?_
    intro Gw40 hGw40
    refine SL.nl ?_
    refine SC.sr ?_
    refine SL.mv ?_
    refine SL.nk ?_
    refine SL.fa 5 fd41_3 ?_
    refine SL.ld 0 ts38 ?_
    have hB43 := (hR.wb.tick (by omega)).1
    refine SL.call (ζ := Nat → Prop) (fun Gw42 => Value.tuple #[]) (fun Gw42 => [rG g d0 d1 wd e0 e1 vd t0 t1 f0 f1 41, rWp wd d0 d1 Gw40 (tickW S), rWq vd e0 e1 Gw42 (tickW S), rBlk b1 [iw k, iw dir, iw kk, iw to, Value.slice va f.length vc] 30]) (fun Gw42 => ∀ b, Gw42 b → RgZ g G1 G2 b ∨ w.heap.size ≤ b) rfl rfl co47 rfl rfl rfl (lt_b rfl) (fun w5 hI => (rv_tick hR.wb (by omega) (hI.1.get (i := 2) rfl)).mono fun e w2 ⟨h1, kz⟩ => by obtain ⟨G9, k1, k2⟩ := hI.rto (i := 2) rfl hG2 kz; exact ⟨G9, h1, k1, k2⟩) ?_
    intro Gw42 hGw42
    refine SL.nl ?_
    refine SC.sr ?_
    refine SL.as ?_
    refine SL.nl ?_
    refine SC.ret ?_
    refine SE.blkr ?_
    refine SE.passr ?_
    refine SE.res (.inl rfl) (res1 Try.results17 rfl) fun w1 hI => ⟨rfl, (tickW S), t0, t1, f0, f1, RgTo.of (l := [rBlk b1 [iw k, iw dir, iw kk, iw to, Value.slice va f.length vc] 30]) hI hGw40 hGw42, ⟨hB41.le (by omega), (by first | exact hR.t0 | exact hR.t1 | exact hR.f0 | exact hR.f1 | exact zero16 | exact post_t hR.t0 | exact post_t hR.t1 | exact room_t hR.f0 | exact room_t hR.f1), (by first | exact hR.t0 | exact hR.t1 | exact hR.f0 | exact hR.f1 | exact zero16 | exact post_t hR.t0 | exact post_t hR.t1 | exact room_t hR.f0 | exact room_t hR.f1), (by first | exact hR.t0 | exact hR.t1 | exact hR.f0 | exact hR.f1 | exact zero16 | exact post_t hR.t0 | exact post_t hR.t1 | exact room_t hR.f0 | exact room_t hR.f1), (by first | exact hR.t0 | exact hR.t1 | exact hR.f0 | exact hR.f1 | exact zero16 | exact post_t hR.t0 | exact post_t hR.t1 | exact room_t hR.f0 | exact room_t hR.f1)⟩, fun h9 h10 h => on_tick h⟩
  refine SC.skip ?_
  refine SE.blkn ?_
  refine SC.of_SE ?_
  refine SC.sr ?_
  refine SL.mv ?_
  refine SL.uu (ru_loada (i := 3) (vs := [iw k, iw dir, iw kk, iw to, Value.slice va f.length vc]) ta30 rfl rfl rfl rfl (le_b rfl)) ?_
  refine SL.call (ζ := Wi × Int × Int × Int × Int × (Nat → Prop) × (Nat → Prop)) (fun z => bo true) (fun z => [rG g d0 d1 wd e0 e1 vd z.2.1 z.2.2.1 z.2.2.2.1 z.2.2.2.2.1 41, rWp wd d0 d1 z.2.2.2.2.2.1 z.1, rWq vd e0 e1 z.2.2.2.2.2.2 z.1, rBlk b1 [iw k, iw dir, iw kk, iw to, Value.slice va f.length vc] 30]) (fun z => Rn (n + 1) z.1 z.2.1 z.2.2.1 z.2.2.2.1 z.2.2.2.2.1 ∧ (k ≠ 9 → k ≠ 10 → onW S → onW z.1) ∧ (∀ b, z.2.2.2.2.2.1 b → RgZ g G1 G2 b ∨ w.heap.size ≤ b) ∧ ∀ b, z.2.2.2.2.2.2 b → RgZ g G1 G2 b ∨ w.heap.size ≤ b) rfl rfl co48 rfl rfl rfl (lt_b rfl) (fun w5 hI => (device_any hR (hb.only hI.2 (fun b o n c e hn => (hv b o n c e hn).1)) (fun b o n c e hn => by have h9 := hv b o n c e hn; exact ⟨fun hz => hz.elim (fun e1 => h9.1 (.inl e1)) (fun h => h.elim (fun h => (hG1 b h).elim h9.1 (fun e9 => by omega)) (fun h => (hG2 b h).elim h9.1 (fun e9 => by omega))), Nat.lt_of_lt_of_le h9.2 hI.2.size⟩) ((hI.keep 3).1)).mono fun e w2 ⟨h1, S9, t09, t19, f09, f19, kz, hR9, hon9⟩ => by obtain ⟨I1, I2, k1, k2, k3⟩ := Inv.rgto (X := ⟨160, w, RgZ g G1 G2⟩) (g := g) (wd := wd) (d0 := d0) (d1 := d1) (vd := vd) (e0 := e0) (e1 := e1) (R := ⟨S, S, t0, t1, f0, f1⟩) (G1 := G1) (G2 := G2) (l := [rBlk b1 [iw k, iw dir, iw kk, iw to, Value.slice va f.length vc] 30]) hI (fun b hb => hb.elim (fun e => by rw [e]; exact .inl (.inl rfl)) (fun e => e.elim (hG1 b) (hG2 b))) kz; exact ⟨(S9, t09, t19, f09, f19, I1, I2), h1, k1, hR9, hon9, k2, k3⟩) ?_
  rintro ⟨S9, t09, t19, f09, f19, Ga, Gb⟩ ⟨hR9, hon9, hGa, hGb⟩
  dsimp only at hR9 hon9 hGa hGb
  refine SL.as ?_
  refine SL.nl ?_
  refine SC.ret ?_
  refine SE.res (.inl rfl) (res1 Try.results17 rfl) fun w1 hI => ⟨rfl, S9, t09, t19, f09, f19, RgTo.of (l := [rBlk b1 [iw k, iw dir, iw kk, iw to, Value.slice va f.length vc] 30]) hI hGa hGb, ⟨hR9.wb.le (by omega), (by first | exact hR9.t0 | exact hR9.t1 | exact hR9.f0 | exact hR9.f1), (by first | exact hR9.t0 | exact hR9.t1 | exact hR9.f0 | exact hR9.f1), (by first | exact hR9.t0 | exact hR9.t1 | exact hR9.f0 | exact hR9.f1), (by first | exact hR9.t0 | exact hR9.t1 | exact hR9.f0 | exact hR9.f1)⟩, fun h9 h10 h => hon9 h9 h10 h⟩

end Go.Proofs.Ytcilikkljkdceaa
