/-
  What the proof of RecvqOrder stands on, part 3: each theorem by itself, under the conditions that it names.
-/
import Derived.Test.YtpgnklmmjdkhiaaRecvqOrderM2
import Derived.ProofKit
import Derived.OpenShut
import Derived.ShutString
import Derived.ChangeOld
import Derived.SizedLaws
import Derived.ChangeSlices
import Derived.Deep.Slices
import Derived.Deep.Fields
import Derived.ChangeSame
import Derived.Laws.StructEq
import Derived.ChangeKeysEq
/-
  Keeping a piece that came ahead of others.
-/
namespace Go.Proofs.Ytpgnklmmjdkhiaa
open Go.RowKit
set_option maxRecDepth 100000
set_option maxHeartbeats 4000000
theorem clash_next {M : List Pc} {x y : Pc} {nn : Nat} (h : ∀ j, j < M.length - nn → ∀ y, M[j]? = some y → clash x y = false) (hy : M[((M.length : Int) - (nn : Int)).toNat]? = some y) (hc : clash x y = false) (h1 : 0 < nn ∧ nn ≤ M.length) : ∀ j, j < M.length - (nn - 1) → ∀ y, M[j]? = some y → clash x y = false := by
  intro j hj z hz
  by_cases e : j = M.length - nn
  · subst e
    rw [show ((M.length : Int) - (nn : Int)).toNat = M.length - nn by omega, hz] at hy
    cases hy; exact hc
  · exact h j (by omega) z hz
theorem waits_any {w : World} {d p ab : Nat} {q1 q2 : Option Addr} {c1 c2 : Nat} {S : Rq} {x : Pc} (hM : S.late.length ≤ 1000) (h : Sep w (QR d p ab q1 c1 q2 c2 S)) : Calls Try.prog 20 #[pt d 0, .agg x.row.toArray] w fun e w' => e = .returned (bo (waitsF S x).1) ∧ QTo w d p ab (QG d p ab q1 c1 q2 c2 S) (waitsF S x).2 w' := by
  refine calls_sc (l0 := (QR d p ab q1 c1 q2 c2 S)) (args := [pt d 0, .agg x.row.toArray]) (QG d p ab q1 c1 q2 c2 S) Try.func20 rfl 69 Try.ntmps20 (le_b rfl) ⟨h, Only.refl _ _⟩ ?_
  show SC _ _ _ _ [(0, pt d 0), (1, Value.agg #[iw x.off, iw x.buf, iw x.skip, iw x.size, bo x.fin])] (QR d p ab q1 c1 q2 c2 S)
  refine SC.seq ?_
  refine SC.region ?_
  refine SL.box (c := [iw x.off, iw x.buf, iw x.skip, iw x.size, bo x.fin]) rfl rfl (lt_b rfl) rfl rfl rfl fun b1 hb1 => ?_
  refine SL.ru rfl rfl (lt_b rfl) (ru_assign rfl rfl) ?_
  refine SL.nil ?_
  refine SC.of_SE ?_
  refine SC.norm [(0, pt d 0), (3, pt b1 0), (4, bo false)] [rBlk d [pt p 0, Value.slice q1 S.l.length c1, Value.slice q2 S.late.length c2, iw S.nxt, iw S.hv, iw S.last, bo S.gone] 52, rPool p ab S.L, rRowN (.slice q1 S.l.length c1) (pRows S.l) 61 5, rRowN (.slice q2 S.late.length c2) (pRows S.late) 61 5, rBlk b1 [iw x.off, iw x.buf, iw x.skip, iw x.size, bo x.fin] 61] ⟨rfl, rfl, rfl, trivial⟩ rfl ?_
  refine SC.seq ?_
  refine SC.seq ?_
  refine SC.region ?_
  refine SL.ru rfl rfl (lt_b rfl) (ru_move rfl rfl) ?_
  refine SL.ru rfl rfl (lt_b rfl) (ru_nilCheck rfl rfl) ?_
  refine SL.ru rfl rfl (lt_b rfl) (ru_fieldAddr (o2 := 2) fd52_2 rfl rfl rfl) ?_
  refine SL.ru rfl rfl (lt_b rfl) (ru_load (i := 0) ts50 rfl rfl rfl rfl) ?_
  refine SL.ru rfl rfl (lt_b rfl) (ru_len Try.underlying50 rfl rfl) ?_
  refine SL.ru rfl rfl (lt_b rfl) (ru_eq (b := (((S.late.length : Int) : Int) == 4)) rfl rfl rfl rfl) ?_
  refine SL.ru rfl rfl (lt_b rfl) (ru_move rfl rfl) ?_
  refine SL.join 9 [(0, pt d 0), (3, pt b1 0), (4, bo false), (7, pt d 0), (8, pt d 0), (9, pt d 2), (10, Value.slice q2 S.late.length c2), (11, iw (S.late.length : Int)), (12, bo (((S.late.length : Int) : Int) == 4)), (13, bo (((S.late.length : Int) : Int) == 4)), (22, bo ((((S.late.length : Int) : Int) == 4) || (((x.size : Int) == 0) && (!x.fin))))] [rBlk d [pt p 0, Value.slice q1 S.l.length c1, Value.slice q2 S.late.length c2, iw S.nxt, iw S.hv, iw S.last, bo S.gone] 52, rPool p ab S.L, rRowN (.slice q1 S.l.length c1) (pRows S.l) 61 5, rRowN (.slice q2 S.late.length c2) (pRows S.late) 61 5, rBlk b1 [iw x.off, iw x.buf, iw x.skip, iw x.size, bo x.fin] 61] ?_ ?_
  rotate_left
  · intro K hK
    rcases tf (((S.late.length : Int) : Int) == 4) with h2 | h2
    · skip
      refine SL.norm [(0, pt d 0), (3, pt b1 0), (4, bo false), (7, pt d 0), (8, pt d 0), (9, pt d 2), (10, Value.slice q2 S.late.length c2), (11, iw (S.late.length : Int)), (12, bo true), (13, bo true)] [rBlk d [pt p 0, Value.slice q1 S.l.length c1, Value.slice q2 S.late.length c2, iw S.nxt, iw S.hv, iw S.last, bo S.gone] 52, rPool p ab S.L, rRowN (.slice q1 S.l.length c1) (pRows S.l) 61 5, rRowN (.slice q2 S.late.length c2) (pRows S.late) 61 5, rBlk b1 [iw x.off, iw x.buf, iw x.skip, iw x.size, bo x.fin] 61] ⟨rfl, rfl, rfl, rfl, rfl, rfl, rfl, rfl, (congrArg (fun x => some (Value.bool x)) h2), (congrArg (fun x => some (Value.bool x)) h2), trivial⟩ rfl ?_
      refine SL.off (b := true) rfl rfl rfl rfl rfl (lt_b rfl) ?_
      refine SL.off (b := true) rfl rfl rfl rfl rfl (lt_b rfl) ?_
      refine SL.off (b := true) rfl rfl rfl rfl rfl (lt_b rfl) ?_
      refine SL.off (b := true) rfl rfl rfl rfl rfl (lt_b rfl) ?_
      refine SL.offu rfl rfl rfl rfl (lt_b rfl) ?_
      refine SL.offu rfl rfl rfl rfl (lt_b rfl) ?_
      refine SL.offu rfl rfl rfl rfl (lt_b rfl) ?_
      refine SL.off (b := true) rfl rfl rfl rfl rfl (lt_b rfl) ?_
      refine SL.ru rfl rfl (lt_b rfl) (ru_pick (u := bo true) (v := undef) rfl rfl rfl rfl) ?_
      exact SL.joined hK ⟨rfl, rfl, rfl, rfl, rfl, rfl, rfl, rfl, (congrArg (fun x => some (Value.bool x)) h2.symm), (congrArg (fun x => some (Value.bool x)) h2.symm), (congrArg (fun bx => some (Value.bool (bx || (((x.size : Int) == 0) && (!x.fin))))) h2.symm), trivial⟩ rfl
    · skip
      refine SL.norm [(0, pt d 0), (3, pt b1 0), (4, bo false), (7, pt d 0), (8, pt d 0), (9, pt d 2), (10, Value.slice q2 S.late.length c2), (11, iw (S.late.length : Int)), (12, bo false), (13, bo false)] [rBlk d [pt p 0, Value.slice q1 S.l.length c1, Value.slice q2 S.late.length c2, iw S.nxt, iw S.hv, iw S.last, bo S.gone] 52, rPool p ab S.L, rRowN (.slice q1 S.l.length c1) (pRows S.l) 61 5, rRowN (.slice q2 S.late.length c2) (pRows S.late) 61 5, rBlk b1 [iw x.off, iw x.buf, iw x.skip, iw x.size, bo x.fin] 61] ⟨rfl, rfl, rfl, rfl, rfl, rfl, rfl, rfl, (congrArg (fun x => some (Value.bool x)) h2), (congrArg (fun x => some (Value.bool x)) h2), trivial⟩ rfl ?_
      refine SL.rug rfl rfl rfl rfl (lt_b rfl) (ru_fieldAddr (o2 := 3) fd61_3 rfl rfl rfl) ?_
      refine SL.rug rfl rfl rfl rfl (lt_b rfl) (ru_load (i := 4) ts3 rfl rfl rfl rfl) ?_
      refine SL.rug rfl rfl rfl rfl (lt_b rfl) (ru_eq (b := ((x.size : Int) == 0)) rfl rfl rfl rfl) ?_
      refine SL.rug rfl rfl rfl rfl (lt_b rfl) (ru_move rfl rfl) ?_
      refine SL.join 4 [(0, pt d 0), (3, pt b1 0), (4, bo false), (7, pt d 0), (8, pt d 0), (9, pt d 2), (10, Value.slice q2 S.late.length c2), (11, iw (S.late.length : Int)), (12, bo false), (13, bo false), (14, pt b1 3), (15, iw x.size), (16, bo ((x.size : Int) == 0)), (17, bo ((x.size : Int) == 0)), (21, bo (((x.size : Int) == 0) && (!x.fin)))] [rBlk d [pt p 0, Value.slice q1 S.l.length c1, Value.slice q2 S.late.length c2, iw S.nxt, iw S.hv, iw S.last, bo S.gone] 52, rPool p ab S.L, rRowN (.slice q1 S.l.length c1) (pRows S.l) 61 5, rRowN (.slice q2 S.late.length c2) (pRows S.late) 61 5, rBlk b1 [iw x.off, iw x.buf, iw x.skip, iw x.size, bo x.fin] 61] ?_ ?_
      rotate_left
      · intro K hK
        rcases tf ((x.size : Int) == 0) with h3 | h3
        · skip
          refine SL.norm [(0, pt d 0), (3, pt b1 0), (4, bo false), (7, pt d 0), (8, pt d 0), (9, pt d 2), (10, Value.slice q2 S.late.length c2), (11, iw (S.late.length : Int)), (12, bo false), (13, bo false), (14, pt b1 3), (15, iw x.size), (16, bo true), (17, bo true)] [rBlk d [pt p 0, Value.slice q1 S.l.length c1, Value.slice q2 S.late.length c2, iw S.nxt, iw S.hv, iw S.last, bo S.gone] 52, rPool p ab S.L, rRowN (.slice q1 S.l.length c1) (pRows S.l) 61 5, rRowN (.slice q2 S.late.length c2) (pRows S.late) 61 5, rBlk b1 [iw x.off, iw x.buf, iw x.skip, iw x.size, bo x.fin] 61] ⟨rfl, rfl, rfl, rfl, rfl, rfl, rfl, rfl, rfl, rfl, rfl, rfl, (congrArg (fun x => some (Value.bool x)) h3), (congrArg (fun x => some (Value.bool x)) h3), trivial⟩ rfl ?_
          refine SL.rug rfl rfl rfl rfl (lt_b rfl) (ru_fieldAddr (o2 := 4) fd61_4 rfl rfl rfl) ?_
          refine SL.rug rfl rfl rfl rfl (lt_b rfl) (ru_load (i := 4) ts4 rfl rfl rfl rfl) ?_
          refine SL.rug rfl rfl rfl rfl (lt_b rfl) (ru_not (c := (!x.fin)) rfl rfl rfl) ?_
          refine SL.rug rfl rfl rfl rfl (lt_b rfl) (ru_pick (u := bo (!x.fin)) (v := bo false) rfl rfl rfl rfl) ?_
          exact SL.joined hK ⟨rfl, rfl, rfl, rfl, rfl, rfl, rfl, rfl, rfl, rfl, rfl, rfl, (congrArg (fun x => some (Value.bool x)) h3.symm), (congrArg (fun x => some (Value.bool x)) h3.symm), (congrArg (fun bx => some (Value.bool (bx && (!x.fin)))) h3.symm), trivial⟩ rfl
        · skip
          refine SL.norm [(0, pt d 0), (3, pt b1 0), (4, bo false), (7, pt d 0), (8, pt d 0), (9, pt d 2), (10, Value.slice q2 S.late.length c2), (11, iw (S.late.length : Int)), (12, bo false), (13, bo false), (14, pt b1 3), (15, iw x.size), (16, bo false), (17, bo false)] [rBlk d [pt p 0, Value.slice q1 S.l.length c1, Value.slice q2 S.late.length c2, iw S.nxt, iw S.hv, iw S.last, bo S.gone] 52, rPool p ab S.L, rRowN (.slice q1 S.l.length c1) (pRows S.l) 61 5, rRowN (.slice q2 S.late.length c2) (pRows S.late) 61 5, rBlk b1 [iw x.off, iw x.buf, iw x.skip, iw x.size, bo x.fin] 61] ⟨rfl, rfl, rfl, rfl, rfl, rfl, rfl, rfl, rfl, rfl, rfl, rfl, (congrArg (fun x => some (Value.bool x)) h3), (congrArg (fun x => some (Value.bool x)) h3), trivial⟩ rfl ?_
          refine SL.off (b := false) rfl rfl rfl rfl rfl (lt_b rfl) ?_
          refine SL.off (b := false) rfl rfl rfl rfl rfl (lt_b rfl) ?_
          refine SL.off (b := false) rfl rfl rfl rfl rfl (lt_b rfl) ?_
          refine SL.rug rfl rfl rfl rfl (lt_b rfl) (ru_pick (u := undef) (v := bo false) rfl rfl rfl rfl) ?_
          exact SL.joined hK ⟨rfl, rfl, rfl, rfl, rfl, rfl, rfl, rfl, rfl, rfl, rfl, rfl, (congrArg (fun x => some (Value.bool x)) h3.symm), (congrArg (fun x => some (Value.bool x)) h3.symm), (congrArg (fun bx => some (Value.bool (bx && (!x.fin)))) h3.symm), trivial⟩ rfl
      skip
      refine SL.ru rfl rfl (lt_b rfl) (ru_pick (u := bo true) (v := bo (((x.size : Int) == 0) && (!x.fin))) rfl rfl rfl rfl) ?_
      exact SL.joined hK ⟨rfl, rfl, rfl, rfl, rfl, rfl, rfl, rfl, (congrArg (fun x => some (Value.bool x)) h2.symm), (congrArg (fun x => some (Value.bool x)) h2.symm), (congrArg (fun bx => some (Value.bool (bx || (((x.size : Int) == 0) && (!x.fin))))) h2.symm), trivial⟩ rfl
  skip
  refine SL.nil ?_
  refine SC.of_SE ?_
  refine SC.norm [(0, pt d 0), (3, pt b1 0), (4, bo false), (22, bo ((((S.late.length : Int) : Int) == 4) || (((x.size : Int) == 0) && (!x.fin))))] [rBlk d [pt p 0, Value.slice q1 S.l.length c1, Value.slice q2 S.late.length c2, iw S.nxt, iw S.hv, iw S.last, bo S.gone] 52, rPool p ab S.L, rRowN (.slice q1 S.l.length c1) (pRows S.l) 61 5, rRowN (.slice q2 S.late.length c2) (pRows S.late) 61 5, rBlk b1 [iw x.off, iw x.buf, iw x.skip, iw x.size, bo x.fin] 61] ⟨rfl, rfl, rfl, rfl, trivial⟩ rfl ?_
  refine SC.both ((((S.late.length : Int) : Int) == 4) || (((x.size : Int) == 0) && (!x.fin))) rfl (fun h4 => ?_) (fun h4 => ?_)
  · skip
    refine SC.seq ?_
    refine SC.region ?_
    refine SL.ru rfl rfl (lt_b rfl) (ru_assign rfl rfl) ?_
    refine SL.nil ?_
    refine SC.of_SE ?_
    refine SC.norm [(0, pt d 0), (3, pt b1 0), (4, bo false)] [rBlk d [pt p 0, Value.slice q1 S.l.length c1, Value.slice q2 S.late.length c2, iw S.nxt, iw S.hv, iw S.last, bo S.gone] 52, rPool p ab S.L, rRowN (.slice q1 S.l.length c1) (pRows S.l) 61 5, rRowN (.slice q2 S.late.length c2) (pRows S.late) 61 5, rBlk b1 [iw x.off, iw x.buf, iw x.skip, iw x.size, bo x.fin] 61] ⟨rfl, rfl, rfl, trivial⟩ rfl ?_
    refine SC.ret ?_
    refine SE.passr ?_
    refine SE.res (.inl rfl) (res1 Try.results20 rfl) fun w1 hI => ?_
    have ew : waitsF S x = (false, S) := by unfold waitsF; rw [if_pos h4]
    rw [ew]; exact ⟨rfl, QTo.of (l := []) (by rw [List.append_nil]; exact hI.keep 4) (fun b hb => .inl hb)⟩
  · skip
    refine SC.skip ?_
    refine SC.of_SE ?_
    refine SC.norm [(0, pt d 0), (3, pt b1 0), (4, bo false)] [rBlk d [pt p 0, Value.slice q1 S.l.length c1, Value.slice q2 S.late.length c2, iw S.nxt, iw S.hv, iw S.last, bo S.gone] 52, rPool p ab S.L, rRowN (.slice q1 S.l.length c1) (pRows S.l) 61 5, rRowN (.slice q2 S.late.length c2) (pRows S.late) 61 5, rBlk b1 [iw x.off, iw x.buf, iw x.skip, iw x.size, bo x.fin] 61] ⟨rfl, rfl, rfl, trivial⟩ rfl ?_
    refine SC.seq ?_
    refine SC.seq ?_
    refine SC.region ?_
    refine SL.ru rfl rfl (lt_b rfl) (ru_move rfl rfl) ?_
    refine SL.ru rfl rfl (lt_b rfl) (ru_nilCheck rfl rfl) ?_
    refine SL.ru rfl rfl (lt_b rfl) (ru_fieldAddr (o2 := 2) fd52_2 rfl rfl rfl) ?_
    refine SL.ru rfl rfl (lt_b rfl) (ru_load (i := 0) ts50 rfl rfl rfl rfl) ?_
    refine SL.ru rfl rfl (lt_b rfl) (ru_len Try.underlying50 rfl rfl) ?_
    refine SL.ru rfl rfl (lt_b rfl) (ru_move rfl rfl) ?_
    refine SL.nil ?_
    refine SC.of_SE ?_
    refine SC.norm [(0, pt d 0), (3, pt b1 0), (4, bo false), (26, Value.slice q2 S.late.length c2), (27, iw (S.late.length : Int)), (28, iw 0)] [rBlk d [pt p 0, Value.slice q1 S.l.length c1, Value.slice q2 S.late.length c2, iw S.nxt, iw S.hv, iw S.last, bo S.gone] 52, rPool p ab S.L, rRowN (.slice q1 S.l.length c1) (pRows S.l) 61 5, rRowN (.slice q2 S.late.length c2) (pRows S.late) 61 5, rBlk b1 [iw x.off, iw x.buf, iw x.skip, iw x.size, bo x.fin] 61] ⟨rfl, rfl, rfl, rfl, rfl, rfl, trivial⟩ rfl ?_
    refine SC.block ?_
    refine SC.loop (γ := Unit) (fun nn _ => [(0, pt d 0), (3, pt b1 0), (4, bo false), (26, Value.slice q2 S.late.length c2), (27, iw (S.late.length : Int)), (28, iw ((S.late.length : Int) - (nn : Int)))]) (fun nn _ => [rBlk d [pt p 0, Value.slice q1 S.l.length c1, Value.slice q2 S.late.length c2, iw S.nxt, iw S.hv, iw S.last, bo S.gone] 52, rPool p ab S.L, rRowN (.slice q1 S.l.length c1) (pRows S.l) 61 5, rRowN (.slice q2 S.late.length c2) (pRows S.late) 61 5, rBlk b1 [iw x.off, iw x.buf, iw x.skip, iw x.size, bo x.fin] 61]) (fun nn _ => nn ≤ S.late.length ∧ ∀ j, j < S.late.length - nn → ∀ y, S.late[j]? = some y → clash x y = false) S.late.length () ⟨Nat.le_refl _, fun j hj => by omega⟩ ⟨rfl, rfl, rfl, rfl, rfl, (congrArg (fun x => some (iw x)) (show (0 : Int) = (S.late.length : Int) - ((S.late.length : Nat) : Int) by omega)), trivial⟩ rfl ?_
    rintro nn ⟨⟩ ⟨hn, hcl⟩
    rcases Nat.eq_zero_or_pos nn with h0 | h0
    · skip
      have hany : S.late.any (clash x) = false := any_take (fun j hj => hcl j (by omega))
      refine SC.seq ?_
      refine SC.region ?_
      refine SL.ru rfl rfl (lt_b rfl) (ru_lt (b := (decide ((((S.late.length : Int) - (nn : Int)) : Int) < (S.late.length : Int)))) rfl rfl rfl rfl) ?_
      refine SL.nil ?_
      refine SC.of_SE ?_
      refine SC.norm [(0, pt d 0), (3, pt b1 0), (4, bo false), (26, Value.slice q2 S.late.length c2), (27, iw (S.late.length : Int)), (28, iw ((S.late.length : Int) - (nn : Int))), (29, bo (decide ((((S.late.length : Int) - (nn : Int)) : Int) < (S.late.length : Int))))] [rBlk d [pt p 0, Value.slice q1 S.l.length c1, Value.slice q2 S.late.length c2, iw S.nxt, iw S.hv, iw S.last, bo S.gone] 52, rPool p ab S.L, rRowN (.slice q1 S.l.length c1) (pRows S.l) 61 5, rRowN (.slice q2 S.late.length c2) (pRows S.late) 61 5, rBlk b1 [iw x.off, iw x.buf, iw x.skip, iw x.size, bo x.fin] 61] ⟨rfl, rfl, rfl, rfl, rfl, rfl, rfl, trivial⟩ rfl ?_
      refine SC.seq ?_
      refine SC.no (show some (Value.bool (decide ((((S.late.length : Int) - (nn : Int)) : Int) < (S.late.length : Int)))) = some (Value.bool false) from congrArg (fun x => some (Value.bool x)) (decide_eq_false (by omega))) ?_
      refine SC.exit ?_
      refine SE.passe ?_
      refine SE.passe ?_
      refine SE.blke ?_
      refine SC.of_SE ?_
      refine SC.norm [(0, pt d 0), (3, pt b1 0), (4, bo false)] [rBlk d [pt p 0, Value.slice q1 S.l.length c1, Value.slice q2 S.late.length c2, iw S.nxt, iw S.hv, iw S.last, bo S.gone] 52, rPool p ab S.L, rRowN (.slice q1 S.l.length c1) (pRows S.l) 61 5, rRowN (.slice q2 S.late.length c2) (pRows S.late) 61 5, rBlk b1 [iw x.off, iw x.buf, iw x.skip, iw x.size, bo x.fin] 61] ⟨rfl, rfl, rfl, trivial⟩ rfl ?_
      refine SC.seq ?_
      refine SC.region_mk_tailE [(1, 0)] 7 [(6, Mk.row ⟨69, w, QG d p ab q1 c1 q2 c2 S⟩ 1 1 [] (fun _ => [iw x.off, iw x.buf, iw x.skip, iw x.size, bo x.fin]) 61)] [] rfl rfl (by kernel_rfl) (by kernel_rfl) (by kernel_rfl) (by kernel_rfl) ?_
      refine SM.ru rfl rfl rfl (w_all rfl) rfl (lt_b rfl) (ru_move rfl rfl) ?_
      refine SM.ru rfl rfl rfl (w_all rfl) rfl (lt_b rfl) (ru_move rfl rfl) ?_
      refine SM.ru rfl rfl rfl (w_all rfl) rfl (lt_b rfl) (ru_nilCheck rfl rfl) ?_
      refine SM.ru rfl rfl rfl (w_all rfl) rfl (lt_b rfl) (ru_fieldAddr (o2 := 2) fd52_2 rfl rfl rfl) ?_
      refine SM.ru rfl rfl rfl (w_all rfl) rfl (lt_b rfl) (ru_load (i := 0) ts50 rfl rfl rfl rfl) ?_
      refine SM.ru rfl rfl rfl (w_all rfl) rfl (lt_b rfl) (ru_loada (i := 4) (vs := [iw x.off, iw x.buf, iw x.skip, iw x.size, bo x.fin]) ta61 rfl rfl rfl rfl (le_b rfl)) ?_
      refine SM.buildSlice (size := 5) (vals := [(0, Value.agg #[iw x.off, iw x.buf, iw x.skip, iw x.size, bo x.fin])]) (z := [iw 0, iw 0, iw 0, iw 0, bo false]) (cs := [iw x.off, iw x.buf, iw x.skip, iw x.size, bo x.fin]) (dp := []) (csf := fun _ => [iw x.off, iw x.buf, iw x.skip, iw x.size, bo x.fin]) rfl rfl rfl rfl (w_all rfl) rfl (lt_b rfl) rfl rfl rfl rfl Try.underlying50 (by kernel_rfl) rfl rfl (by kernel_rfl) fun b5 hb5 => ?_
      refine SM.nilL (l' := [rBlk d [pt p 0, Value.slice q1 S.l.length c1, Value.slice q2 S.late.length c2, iw S.nxt, iw S.hv, iw S.last, bo S.gone] 52, rPool p ab S.L, rRowN (.slice q1 S.l.length c1) (pRows S.l) 61 5, rRowN (.slice q2 S.late.length c2) (pRows S.late) 61 5, rBlk b1 [iw x.off, iw x.buf, iw x.skip, iw x.size, bo x.fin] 61, rBlk b5 [iw x.off, iw x.buf, iw x.skip, iw x.size, bo x.fin] 61]) rfl ?_
      refine SL.append_rowN (ri := 3) (rj := 5) (size := 5) (r := [iw x.off, iw x.buf, iw x.skip, iw x.size, bo x.fin]) (z := Value.agg #[iw 0, iw 0, iw 0, iw 0, bo false]) (bytes := 40) rfl rfl (lt_b rfl) rfl (by decide) Try.underlying50 (by kernel_rfl) rfl rfl rfl rfl rfl rfl rfl (by rw [pr_len]; omega) (by unfold maxLen; rw [pr_len]; omega) (fun b hb => .inl (.inr (.inr (.inr (.inr hb))))) fun q6 c7 hq8 => ?_
      refine SL.ru rfl rfl (lt_b rfl) (ru_nilCheck rfl rfl) ?_
      refine SL.ru rfl rfl (lt_b rfl) (ru_fieldAddr (o2 := 2) fd52_2 rfl rfl rfl) ?_
      refine SL.store (i := 0) (c' := [pt p 0, Value.slice q1 S.l.length c1, Value.slice q6 (S.late.length + 1) c7, iw S.nxt, iw S.hv, iw S.last, bo S.gone]) rfl rfl ts50 rfl rfl rfl rfl rfl (lt_b rfl) (.inl (.inl rfl)) rfl ?_
      refine SL.nil ?_
      refine SE.onlyN ?_
      refine SC.of_SE ?_
      refine SC.norm [(0, pt d 0), (3, pt b1 0), (4, bo false)] [rBlk d [pt p 0, Value.slice q1 S.l.length c1, Value.slice q6 (S.late.length + 1) c7, iw S.nxt, iw S.hv, iw S.last, bo S.gone] 52, rPool p ab S.L, rRowN (.slice q1 S.l.length c1) (pRows S.l) 61 5, rRowN (.slice q6 (S.late.length + 1) c7) (pRows S.late ++ [[iw x.off, iw x.buf, iw x.skip, iw x.size, bo x.fin]]) 61 5, rBlk b1 [iw x.off, iw x.buf, iw x.skip, iw x.size, bo x.fin] 61, rBlk b5 [iw x.off, iw x.buf, iw x.skip, iw x.size, bo x.fin] 61] ⟨rfl, rfl, rfl, trivial⟩ rfl ?_
      refine SC.seq ?_
      refine SC.seq ?_
      refine SC.region ?_
      refine SL.ru rfl rfl (lt_b rfl) (ru_fieldAddr (o2 := 4) fd61_4 rfl rfl rfl) ?_
      refine SL.ru rfl rfl (lt_b rfl) (ru_load (i := 4) ts4 rfl rfl rfl rfl) ?_
      refine SL.nil ?_
      refine SC.of_SE ?_
      refine SC.norm [(0, pt d 0), (3, pt b1 0), (4, bo false), (63, bo x.fin)] [rBlk d [pt p 0, Value.slice q1 S.l.length c1, Value.slice q6 (S.late.length + 1) c7, iw S.nxt, iw S.hv, iw S.last, bo S.gone] 52, rPool p ab S.L, rRowN (.slice q1 S.l.length c1) (pRows S.l) 61 5, rRowN (.slice q6 (S.late.length + 1) c7) (pRows S.late ++ [[iw x.off, iw x.buf, iw x.skip, iw x.size, bo x.fin]]) 61 5, rBlk b1 [iw x.off, iw x.buf, iw x.skip, iw x.size, bo x.fin] 61, rBlk b5 [iw x.off, iw x.buf, iw x.skip, iw x.size, bo x.fin] 61] ⟨rfl, rfl, rfl, rfl, trivial⟩ rfl ?_
      refine SC.both x.fin rfl (fun h9 => ?_) (fun h9 => ?_)
      · skip
        refine SC.region ?_
        refine SL.ru rfl rfl (lt_b rfl) (ru_move rfl rfl) ?_
        refine SL.ru rfl rfl (lt_b rfl) (ru_loada (i := 4) (vs := [iw x.off, iw x.buf, iw x.skip, iw x.size, bo x.fin]) ta61 rfl rfl rfl rfl (le_b rfl)) ?_
        refine SL.callv (iw x.fin') rfl rfl co27 rfl rfl rfl (lt_b rfl) (fun w hI => H_only hI (end_any _ x)) ?_
        refine SL.ru rfl rfl (lt_b rfl) (ru_nilCheck rfl rfl) ?_
        refine SL.ru rfl rfl (lt_b rfl) (ru_fieldAddr (o2 := 5) fd52_5 rfl rfl rfl) ?_
        refine SL.store (i := 0) (c' := [pt p 0, Value.slice q1 S.l.length c1, Value.slice q6 (S.late.length + 1) c7, iw S.nxt, iw S.hv, iw x.fin', bo S.gone]) rfl rfl ts3 rfl rfl rfl rfl rfl (lt_b rfl) (.inl (.inl rfl)) rfl ?_
        refine SL.nil ?_
        refine SC.of_SE ?_
        refine SC.norm [(4, bo false)] [rBlk d [pt p 0, Value.slice q1 S.l.length c1, Value.slice q6 (S.late.length + 1) c7, iw S.nxt, iw S.hv, iw x.fin', bo S.gone] 52, rPool p ab S.L, rRowN (.slice q1 S.l.length c1) (pRows S.l) 61 5, rRowN (.slice q6 (S.late.length + 1) c7) (pRows S.late ++ [[iw x.off, iw x.buf, iw x.skip, iw x.size, bo x.fin]]) 61 5, rBlk b1 [iw x.off, iw x.buf, iw x.skip, iw x.size, bo x.fin] 61, rBlk b5 [iw x.off, iw x.buf, iw x.skip, iw x.size, bo x.fin] 61] ⟨rfl, trivial⟩ rfl ?_
        refine SC.seq ?_
        refine SC.region ?_
        refine SL.ru rfl rfl (lt_b rfl) (ru_assign rfl rfl) ?_
        refine SL.nil ?_
        refine SC.of_SE ?_
        refine SC.norm [(4, bo true)] [rBlk d [pt p 0, Value.slice q1 S.l.length c1, Value.slice q6 (S.late.length + 1) c7, iw S.nxt, iw S.hv, iw x.fin', bo S.gone] 52, rPool p ab S.L, rRowN (.slice q1 S.l.length c1) (pRows S.l) 61 5, rRowN (.slice q6 (S.late.length + 1) c7) (pRows S.late ++ [[iw x.off, iw x.buf, iw x.skip, iw x.size, bo x.fin]]) 61 5, rBlk b1 [iw x.off, iw x.buf, iw x.skip, iw x.size, bo x.fin] 61, rBlk b5 [iw x.off, iw x.buf, iw x.skip, iw x.size, bo x.fin] 61] ⟨rfl, trivial⟩ rfl ?_
        refine SC.ret ?_
        refine SE.res (.inl rfl) (res1 Try.results20 rfl) fun w1 hI => ?_
        have ew : waitsF S x = (true, { S with late := S.late ++ [x], last := x.fin' }) := by unfold waitsF; rw [if_neg (not_t h4), if_neg (not_t hany), if_pos h9]
        rw [ew]
        have h4 := hI.four
        refine ⟨rfl, q1, c1, q6, c7, ?_, fun b hb => .inl (.inr (.inr (.inr (.inl hb)))), fun b hb => hq8 b (by simp only [List.length_append, List.length_cons, List.length_nil] at hb; exact hb), hI.2⟩
        simp only [QR, rQ, List.length_append, List.length_cons, List.length_nil, pRows, List.map_append, List.map_cons, List.map_nil, Nat.zero_add]; exact h4
      · skip
        refine SC.skip ?_
        refine SC.of_SE ?_
        refine SC.norm [(4, bo false)] [rBlk d [pt p 0, Value.slice q1 S.l.length c1, Value.slice q6 (S.late.length + 1) c7, iw S.nxt, iw S.hv, iw S.last, bo S.gone] 52, rPool p ab S.L, rRowN (.slice q1 S.l.length c1) (pRows S.l) 61 5, rRowN (.slice q6 (S.late.length + 1) c7) (pRows S.late ++ [[iw x.off, iw x.buf, iw x.skip, iw x.size, bo x.fin]]) 61 5, rBlk b1 [iw x.off, iw x.buf, iw x.skip, iw x.size, bo x.fin] 61, rBlk b5 [iw x.off, iw x.buf, iw x.skip, iw x.size, bo x.fin] 61] ⟨rfl, trivial⟩ rfl ?_
        refine SC.seq ?_
        refine SC.region ?_
        refine SL.ru rfl rfl (lt_b rfl) (ru_assign rfl rfl) ?_
        refine SL.nil ?_
        refine SC.of_SE ?_
        refine SC.norm [(4, bo true)] [rBlk d [pt p 0, Value.slice q1 S.l.length c1, Value.slice q6 (S.late.length + 1) c7, iw S.nxt, iw S.hv, iw S.last, bo S.gone] 52, rPool p ab S.L, rRowN (.slice q1 S.l.length c1) (pRows S.l) 61 5, rRowN (.slice q6 (S.late.length + 1) c7) (pRows S.late ++ [[iw x.off, iw x.buf, iw x.skip, iw x.size, bo x.fin]]) 61 5, rBlk b1 [iw x.off, iw x.buf, iw x.skip, iw x.size, bo x.fin] 61, rBlk b5 [iw x.off, iw x.buf, iw x.skip, iw x.size, bo x.fin] 61] ⟨rfl, trivial⟩ rfl ?_
        refine SC.ret ?_
        refine SE.res (.inl rfl) (res1 Try.results20 rfl) fun w1 hI => ?_
        have ew : waitsF S x = (true, { S with late := S.late ++ [x], last := S.last }) := by unfold waitsF; rw [if_neg (not_t h4), if_neg (not_t hany), if_neg (not_t h9)]
        rw [ew]
        have h4 := hI.four
        refine ⟨rfl, q1, c1, q6, c7, ?_, fun b hb => .inl (.inr (.inr (.inr (.inl hb)))), fun b hb => hq8 b (by simp only [List.length_append, List.length_cons, List.length_nil] at hb; exact hb), hI.2⟩
        simp only [QR, rQ, List.length_append, List.length_cons, List.length_nil, pRows, List.map_append, List.map_cons, List.map_nil, Nat.zero_add]; exact h4
    · skip
      obtain ⟨y, hy⟩ : ∃ y, S.late[((S.late.length : Int) - (nn : Int)).toNat]? = some y := ⟨_, List.getElem?_eq_getElem (by omega)⟩
      refine SC.seq ?_
      refine SC.region ?_
      refine SL.ru rfl rfl (lt_b rfl) (ru_lt (b := (decide ((((S.late.length : Int) - (nn : Int)) : Int) < (S.late.length : Int)))) rfl rfl rfl rfl) ?_
      refine SL.nil ?_
      refine SC.of_SE ?_
      refine SC.norm [(0, pt d 0), (3, pt b1 0), (4, bo false), (26, Value.slice q2 S.late.length c2), (27, iw (S.late.length : Int)), (28, iw ((S.late.length : Int) - (nn : Int))), (29, bo (decide ((((S.late.length : Int) - (nn : Int)) : Int) < (S.late.length : Int))))] [rBlk d [pt p 0, Value.slice q1 S.l.length c1, Value.slice q2 S.late.length c2, iw S.nxt, iw S.hv, iw S.last, bo S.gone] 52, rPool p ab S.L, rRowN (.slice q1 S.l.length c1) (pRows S.l) 61 5, rRowN (.slice q2 S.late.length c2) (pRows S.late) 61 5, rBlk b1 [iw x.off, iw x.buf, iw x.skip, iw x.size, bo x.fin] 61] ⟨rfl, rfl, rfl, rfl, rfl, rfl, rfl, trivial⟩ rfl ?_
      refine SC.seq ?_
      refine SC.yes (show some (Value.bool (decide ((((S.late.length : Int) - (nn : Int)) : Int) < (S.late.length : Int)))) = some (Value.bool true) from congrArg (fun x => some (Value.bool x)) (decide_eq_true (by omega))) ?_
      refine SC.skip ?_
      refine SC.of_SE ?_
      refine SC.norm [(0, pt d 0), (3, pt b1 0), (4, bo false), (26, Value.slice q2 S.late.length c2), (27, iw (S.late.length : Int)), (28, iw ((S.late.length : Int) - (nn : Int)))] [rBlk d [pt p 0, Value.slice q1 S.l.length c1, Value.slice q2 S.late.length c2, iw S.nxt, iw S.hv, iw S.last, bo S.gone] 52, rPool p ab S.L, rRowN (.slice q1 S.l.length c1) (pRows S.l) 61 5, rRowN (.slice q2 S.late.length c2) (pRows S.late) 61 5, rBlk b1 [iw x.off, iw x.buf, iw x.skip, iw x.size, bo x.fin] 61] ⟨rfl, rfl, rfl, rfl, rfl, rfl, trivial⟩ rfl ?_
      refine SC.seq ?_
      refine SC.block ?_
      refine SC.seq ?_
      refine SC.region ?_
      refine SL.ru rfl rfl (lt_b rfl) (ru_index_rowN (ri := 3) si50 rfl rfl rfl rfl (by omega) (by omega)) ?_
      refine SL.ru rfl rfl (lt_b rfl) (ru_loada_rowN (ri := 3) (i := ((S.late.length : Int) - (nn : Int)).toNat) (r := [iw y.off, iw y.buf, iw y.skip, iw y.size, bo y.fin]) ta61 rfl rfl rfl (by show (S.late.map Pc.row)[_]? = _; rw [List.getElem?_map, hy]; rfl) rfl rfl) ?_
      refine SL.alloca rfl rfl (lt_b rfl) ta61 rfl fun b10 hb10 => ?_
      refine SL.storea (i := 5) (vs := [iw y.off, iw y.buf, iw y.skip, iw y.size, bo y.fin]) (c' := [iw y.off, iw y.buf, iw y.skip, iw y.size, bo y.fin]) rfl rfl ta61 rfl rfl rfl rfl rfl rfl (le_b rfl) (.inr hb10) rfl ?_
      refine SL.nil ?_
      refine SC.of_SE ?_
      refine SC.norm [(0, pt d 0), (3, pt b1 0), (4, bo false), (6, pt b10 0), (26, Value.slice q2 S.late.length c2), (27, iw (S.late.length : Int)), (28, iw ((S.late.length : Int) - (nn : Int)))] [rBlk d [pt p 0, Value.slice q1 S.l.length c1, Value.slice q2 S.late.length c2, iw S.nxt, iw S.hv, iw S.last, bo S.gone] 52, rPool p ab S.L, rRowN (.slice q1 S.l.length c1) (pRows S.l) 61 5, rRowN (.slice q2 S.late.length c2) (pRows S.late) 61 5, rBlk b1 [iw x.off, iw x.buf, iw x.skip, iw x.size, bo x.fin] 61, rBlk b10 [iw y.off, iw y.buf, iw y.skip, iw y.size, bo y.fin] 61] ⟨rfl, rfl, rfl, rfl, rfl, rfl, rfl, trivial⟩ rfl ?_
      refine SC.seq ?_
      refine SC.region_quiet (by kernel_rfl) (by kernel_rfl) ?_
      refine SQ.ru rfl rfl (lt_b rfl) (ru_fieldAddr (o2 := 4) fd61_4 rfl rfl rfl) ?_
      refine SQ.ru rfl rfl (lt_b rfl) (ru_load (i := 4) ts4 rfl rfl rfl rfl) ?_
      refine SQ.ru rfl rfl (lt_b rfl) (ru_move rfl rfl) ?_
      refine SQ.join 3 [(0, pt d 0), (3, pt b1 0), (4, bo false), (6, pt b10 0), (26, Value.slice q2 S.late.length c2), (27, iw (S.late.length : Int)), (28, iw ((S.late.length : Int) - (nn : Int))), (32, pt b1 4), (33, bo x.fin), (34, bo x.fin), (37, bo (x.fin && y.fin))] ?_ ?_
      rotate_left
      · intro K hK
        rcases tf x.fin with h11 | h11
        · skip
          refine SQ.norm [(0, pt d 0), (3, pt b1 0), (4, bo false), (6, pt b10 0), (26, Value.slice q2 S.late.length c2), (27, iw (S.late.length : Int)), (28, iw ((S.late.length : Int) - (nn : Int))), (32, pt b1 4), (33, bo true), (34, bo true)] ⟨rfl, rfl, rfl, rfl, rfl, rfl, rfl, rfl, (congrArg (fun x => some (Value.bool x)) h11), (congrArg (fun x => some (Value.bool x)) h11), trivial⟩ ?_
          refine SQ.rug rfl rfl rfl rfl (lt_b rfl) (ru_fieldAddr (o2 := 4) fd61_4 rfl rfl rfl) ?_
          refine SQ.rug rfl rfl rfl rfl (lt_b rfl) (ru_load (i := 5) ts4 rfl rfl rfl rfl) ?_
          refine SQ.ru rfl rfl (lt_b rfl) (ru_pick (u := bo y.fin) (v := bo false) rfl rfl rfl rfl) ?_
          exact SQ.joined hK ⟨rfl, rfl, rfl, rfl, rfl, rfl, rfl, rfl, (congrArg (fun x => some (Value.bool x)) h11.symm), (congrArg (fun x => some (Value.bool x)) h11.symm), (congrArg (fun bx => some (Value.bool (bx && y.fin))) h11.symm), trivial⟩
        · skip
          refine SQ.norm [(0, pt d 0), (3, pt b1 0), (4, bo false), (6, pt b10 0), (26, Value.slice q2 S.late.length c2), (27, iw (S.late.length : Int)), (28, iw ((S.late.length : Int) - (nn : Int))), (32, pt b1 4), (33, bo false), (34, bo false)] ⟨rfl, rfl, rfl, rfl, rfl, rfl, rfl, rfl, (congrArg (fun x => some (Value.bool x)) h11), (congrArg (fun x => some (Value.bool x)) h11), trivial⟩ ?_
          refine SQ.off (b := false) rfl rfl rfl rfl rfl (lt_b rfl) ?_
          refine SQ.off (b := false) rfl rfl rfl rfl rfl (lt_b rfl) ?_
          refine SQ.ru rfl rfl (lt_b rfl) (ru_pick (u := undef) (v := bo false) rfl rfl rfl rfl) ?_
          exact SQ.joined hK ⟨rfl, rfl, rfl, rfl, rfl, rfl, rfl, rfl, (congrArg (fun x => some (Value.bool x)) h11.symm), (congrArg (fun x => some (Value.bool x)) h11.symm), (congrArg (fun bx => some (Value.bool (bx && y.fin))) h11.symm), trivial⟩
      skip
      refine SQ.ru rfl rfl (lt_b rfl) (ru_move rfl rfl) ?_
      refine SQ.join 12 [(0, pt d 0), (3, pt b1 0), (4, bo false), (6, pt b10 0), (26, Value.slice q2 S.late.length c2), (27, iw (S.late.length : Int)), (28, iw ((S.late.length : Int) - (nn : Int))), (32, pt b1 4), (33, bo x.fin), (34, bo x.fin), (37, bo (x.fin && y.fin)), (38, bo (x.fin && y.fin)), (50, bo ((x.fin && y.fin) || (decide (((max x.off y.off) : Int) < (min x.fin' y.fin')))))] ?_ ?_
      rotate_left
      · intro K hK
        rcases tf (x.fin && y.fin) with h12 | h12
        · skip
          refine SQ.norm [(0, pt d 0), (3, pt b1 0), (4, bo false), (6, pt b10 0), (26, Value.slice q2 S.late.length c2), (27, iw (S.late.length : Int)), (28, iw ((S.late.length : Int) - (nn : Int))), (32, pt b1 4), (33, bo x.fin), (34, bo x.fin), (37, bo true), (38, bo true)] ⟨rfl, rfl, rfl, rfl, rfl, rfl, rfl, rfl, rfl, rfl, (congrArg (fun x => some (Value.bool x)) h12), (congrArg (fun x => some (Value.bool x)) h12), trivial⟩ ?_
          refine SQ.off (b := true) rfl rfl rfl rfl rfl (lt_b rfl) ?_
          refine SQ.off (b := true) rfl rfl rfl rfl rfl (lt_b rfl) ?_
          refine SQ.off (b := true) rfl rfl rfl rfl rfl (lt_b rfl) ?_
          refine SQ.off (b := true) rfl rfl rfl rfl rfl (lt_b rfl) ?_
          refine SQ.off (b := true) rfl rfl rfl rfl rfl (lt_b rfl) ?_
          refine SQ.off (b := true) rfl rfl rfl rfl rfl (lt_b rfl) ?_
          refine SQ.off (b := true) rfl rfl rfl rfl rfl (lt_b rfl) ?_
          refine SQ.off (b := true) rfl rfl rfl rfl rfl (lt_b rfl) ?_
          refine SQ.off (b := true) rfl rfl rfl rfl rfl (lt_b rfl) ?_
          refine SQ.off (b := true) rfl rfl rfl rfl rfl (lt_b rfl) ?_
          refine SQ.off (b := true) rfl rfl rfl rfl rfl (lt_b rfl) ?_
          refine SQ.ru rfl rfl (lt_b rfl) (ru_pick (u := bo true) (v := undef) rfl rfl rfl rfl) ?_
          exact SQ.joined hK ⟨rfl, rfl, rfl, rfl, rfl, rfl, rfl, rfl, rfl, rfl, (congrArg (fun x => some (Value.bool x)) h12.symm), (congrArg (fun x => some (Value.bool x)) h12.symm), (congrArg (fun bx => some (Value.bool (bx || (decide (((max x.off y.off) : Int) < (min x.fin' y.fin')))))) h12.symm), trivial⟩
        · skip
          refine SQ.norm [(0, pt d 0), (3, pt b1 0), (4, bo false), (6, pt b10 0), (26, Value.slice q2 S.late.length c2), (27, iw (S.late.length : Int)), (28, iw ((S.late.length : Int) - (nn : Int))), (32, pt b1 4), (33, bo x.fin), (34, bo x.fin), (37, bo false), (38, bo false)] ⟨rfl, rfl, rfl, rfl, rfl, rfl, rfl, rfl, rfl, rfl, (congrArg (fun x => some (Value.bool x)) h12), (congrArg (fun x => some (Value.bool x)) h12), trivial⟩ ?_
          refine SQ.rug rfl rfl rfl rfl (lt_b rfl) (ru_fieldAddr (o2 := 0) fd61_0 rfl rfl rfl) ?_
          refine SQ.rug rfl rfl rfl rfl (lt_b rfl) (ru_load (i := 4) ts3 rfl rfl rfl rfl) ?_
          refine SQ.rug rfl rfl rfl rfl (lt_b rfl) (ru_fieldAddr (o2 := 0) fd61_0 rfl rfl rfl) ?_
          refine SQ.rug rfl rfl rfl rfl (lt_b rfl) (ru_load (i := 5) ts3 rfl rfl rfl rfl) ?_
          refine SQ.rug rfl rfl rfl rfl (lt_b rfl) (ru_max (r := max x.off y.off) rfl rfl rfl rfl) ?_
          refine SQ.rug rfl rfl rfl rfl (lt_b rfl) (ru_loada (i := 4) (vs := [iw x.off, iw x.buf, iw x.skip, iw x.size, bo x.fin]) ta61 rfl rfl rfl rfl (le_b rfl)) ?_
          refine SQ.callg (iw x.fin') rfl rfl rfl rfl co27 rfl rfl rfl (lt_b rfl) (fun w hI => H_only hI (end_any _ x)) ?_
          refine SQ.rug rfl rfl rfl rfl (lt_b rfl) (ru_loada (i := 5) (vs := [iw y.off, iw y.buf, iw y.skip, iw y.size, bo y.fin]) ta61 rfl rfl rfl rfl (le_b rfl)) ?_
          refine SQ.callg (iw y.fin') rfl rfl rfl rfl co27 rfl rfl rfl (lt_b rfl) (fun w hI => H_only hI (end_any _ y)) ?_
          refine SQ.rug rfl rfl rfl rfl (lt_b rfl) (ru_min (r := min x.fin' y.fin') rfl rfl rfl rfl) ?_
          refine SQ.rug rfl rfl rfl rfl (lt_b rfl) (ru_lt (b := (decide (((max x.off y.off) : Int) < (min x.fin' y.fin')))) rfl rfl rfl rfl) ?_
          refine SQ.ru rfl rfl (lt_b rfl) (ru_pick (u := bo true) (v := bo (decide (((max x.off y.off) : Int) < (min x.fin' y.fin')))) rfl rfl rfl rfl) ?_
          exact SQ.joined hK ⟨rfl, rfl, rfl, rfl, rfl, rfl, rfl, rfl, rfl, rfl, (congrArg (fun x => some (Value.bool x)) h12.symm), (congrArg (fun x => some (Value.bool x)) h12.symm), (congrArg (fun bx => some (Value.bool (bx || (decide (((max x.off y.off) : Int) < (min x.fin' y.fin')))))) h12.symm), trivial⟩
      skip
      refine SQ.nilE ?_
      refine SC.of_SE ?_
      refine SC.norm [(0, pt d 0), (3, pt b1 0), (4, bo false), (26, Value.slice q2 S.late.length c2), (27, iw (S.late.length : Int)), (28, iw ((S.late.length : Int) - (nn : Int))), (50, bo ((x.fin && y.fin) || (decide (((max x.off y.off) : Int) < (min x.fin' y.fin')))))] [rBlk d [pt p 0, Value.slice q1 S.l.length c1, Value.slice q2 S.late.length c2, iw S.nxt, iw S.hv, iw S.last, bo S.gone] 52, rPool p ab S.L, rRowN (.slice q1 S.l.length c1) (pRows S.l) 61 5, rRowN (.slice q2 S.late.length c2) (pRows S.late) 61 5, rBlk b1 [iw x.off, iw x.buf, iw x.skip, iw x.size, bo x.fin] 61, rBlk b10 [iw y.off, iw y.buf, iw y.skip, iw y.size, bo y.fin] 61] ⟨rfl, rfl, rfl, rfl, rfl, rfl, rfl, trivial⟩ rfl ?_
      refine SC.both ((x.fin && y.fin) || (decide (((max x.off y.off) : Int) < (min x.fin' y.fin')))) rfl (fun h13 => ?_) (fun h13 => ?_)
      · skip
        refine SC.seq ?_
        refine SC.region ?_
        refine SL.ru rfl rfl (lt_b rfl) (ru_assign rfl rfl) ?_
        refine SL.nil ?_
        refine SC.of_SE ?_
        refine SC.norm [(0, pt d 0), (3, pt b1 0), (4, bo false), (26, Value.slice q2 S.late.length c2), (27, iw (S.late.length : Int)), (28, iw ((S.late.length : Int) - (nn : Int)))] [rBlk d [pt p 0, Value.slice q1 S.l.length c1, Value.slice q2 S.late.length c2, iw S.nxt, iw S.hv, iw S.last, bo S.gone] 52, rPool p ab S.L, rRowN (.slice q1 S.l.length c1) (pRows S.l) 61 5, rRowN (.slice q2 S.late.length c2) (pRows S.late) 61 5, rBlk b1 [iw x.off, iw x.buf, iw x.skip, iw x.size, bo x.fin] 61, rBlk b10 [iw y.off, iw y.buf, iw y.skip, iw y.size, bo y.fin] 61] ⟨rfl, rfl, rfl, rfl, rfl, rfl, trivial⟩ rfl ?_
        refine SC.ret ?_
        refine SE.blkr ?_
        refine SE.passr ?_
        refine SE.passr ?_
        refine SE.blkr ?_
        refine SE.passr ?_
        refine SE.res (.inl rfl) (res1 Try.results20 rfl) fun w1 hI => ?_
        have hany : S.late.any (clash x) = true := List.any_eq_true.2 ⟨y, List.mem_of_getElem? hy, h13⟩
        have ew : waitsF S x = (false, S) := by unfold waitsF; rw [if_neg (not_t h4), if_pos hany]
        rw [ew]; exact ⟨rfl, QTo.of (l := []) (by rw [List.append_nil]; exact hI.keep 4) (fun b hb => .inl hb)⟩
      · skip
        refine SC.skip ?_
        refine SE.blkn ?_
        refine SC.of_SE ?_
        refine SC.norm [(0, pt d 0), (3, pt b1 0), (4, bo false), (26, Value.slice q2 S.late.length c2), (27, iw (S.late.length : Int)), (28, iw ((S.late.length : Int) - (nn : Int)))] [rBlk d [pt p 0, Value.slice q1 S.l.length c1, Value.slice q2 S.late.length c2, iw S.nxt, iw S.hv, iw S.last, bo S.gone] 52, rPool p ab S.L, rRowN (.slice q1 S.l.length c1) (pRows S.l) 61 5, rRowN (.slice q2 S.late.length c2) (pRows S.late) 61 5, rBlk b1 [iw x.off, iw x.buf, iw x.skip, iw x.size, bo x.fin] 61, rBlk b10 [iw y.off, iw y.buf, iw y.skip, iw y.size, bo y.fin] 61] ⟨rfl, rfl, rfl, rfl, rfl, rfl, trivial⟩ rfl ?_
        refine SC.region ?_
        refine SL.ru rfl rfl (lt_b rfl) (ru_add (r := (IntKind.i64.wrap (((S.late.length : Int) - (nn : Int)) + 1))) rfl rfl rfl rfl) ?_
        refine SL.ru rfl rfl (lt_b rfl) (ru_move rfl rfl) ?_
        refine SL.nil ?_
        refine SE.keep 5 ?_
        refine SE.again (nn - 1) () (by omega) ⟨by omega, clash_next hcl hy h13 (by omega)⟩ ⟨rfl, rfl, rfl, rfl, rfl, (congrArg (fun x => some (iw x)) (show IntKind.i64.wrap (((S.late.length : Int) - (nn : Int)) + 1) = (S.late.length : Int) - ((nn - 1 : Nat) : Int) by rw [IntKind.wrap_i64]; omega)), trivial⟩ rfl

end Go.Proofs.Ytpgnklmmjdkhiaa

/-
  A piece that is the next one, and all late ones behind it.
-/
namespace Go.Proofs.Ytpgnklmmjdkhiaa
open Go.RowKit
set_option maxRecDepth 100000
set_option maxHeartbeats 4000000
theorem off_next {M : List Pc} {y : Pc} {nn : Nat} {a : Int} (h : ∀ j, j < M.length - nn → ∀ y, M[j]? = some y → decide (y.off ≤ a) = false) (hy : M[((M.length : Int) - (nn : Int)).toNat]? = some y) (hc : decide (y.off ≤ a) = false) (h1 : 0 < nn ∧ nn ≤ M.length) : ∀ j, j < M.length - (nn - 1) → ∀ y, M[j]? = some y → decide (y.off ≤ a) = false := by
  intro j hj z hz
  by_cases e : j = M.length - nn
  · subst e
    rw [show ((M.length : Int) - (nn : Int)).toNat = M.length - nn by omega, hz] at hy
    cases hy; exact hc
  · exact h j (by omega) z hz
theorem order_any {w : World} {d p ab : Nat} {q1 q2 : Option Addr} {c1 c2 : Nat} {S : Rq} {x : Pc} (I : Rq → Prop) (hI0 : ∀ T, I T → T.late.length ≤ 1000) (hstep : ∀ T i y, I T → T.late[i]? = some y → y.off ≤ T.nxt → JnOk (dropAt T i) y ∧ I (joinF (dropAt T i) y)) (h1 : earlyF S x = false → JnOk S x ∧ I (joinF S x)) (h : Sep w (QR d p ab q1 c1 q2 c2 S)) :
    Calls Try.prog 19 #[pt d 0, .agg x.row.toArray] w fun e w' => e = .returned (bo (orderF S x).1) ∧ QTo w d p ab (QG d p ab q1 c1 q2 c2 S) (orderF S x).2 w' := by
  refine calls_sc (l0 := (QR d p ab q1 c1 q2 c2 S)) (args := [pt d 0, .agg x.row.toArray]) (QG d p ab q1 c1 q2 c2 S) Try.func19 rfl 63 Try.ntmps19 (le_b rfl) ⟨h, Only.refl _ _⟩ ?_
  show SC _ _ _ _ [(0, pt d 0), (1, Value.agg #[iw x.off, iw x.buf, iw x.skip, iw x.size, bo x.fin])] (QR d p ab q1 c1 q2 c2 S)
  refine SC.seq ?_
  refine SC.region ?_
  refine SL.box (c := [iw x.off, iw x.buf, iw x.skip, iw x.size, bo x.fin]) rfl rfl (lt_b rfl) rfl rfl rfl fun b1 hb1 => ?_
  refine SL.ru rfl rfl (lt_b rfl) (ru_assign rfl rfl) ?_
  refine SL.nil ?_
  refine SC.of_SE ?_
  refine SC.norm [(0, pt d 0), (3, pt b1 0), (4, bo false)] [rBlk d [pt p 0, Value.slice q1 S.l.length c1, Value.slice q2 S.late.length c2, iw S.nxt, iw S.hv, iw S.last, bo S.gone] 52, rPool p ab S.L, rRowN (.slice q1 S.l.length c1) (pRows S.l) 61 5, rRowN (.slice q2 S.late.length c2) (pRows S.late) 61 5, rBlk b1 [iw x.off, iw x.buf, iw x.skip, iw x.size, bo x.fin] 61] ⟨rfl, rfl, rfl, trivial⟩ rfl ?_
  refine SC.scope ?_
  refine SC.seq ?_
  refine SC.seq ?_
  refine SC.region_quiet (by kernel_rfl) (by kernel_rfl) ?_
  refine SQ.ru rfl rfl (lt_b rfl) (ru_loada (i := 4) (vs := [iw x.off, iw x.buf, iw x.skip, iw x.size, bo x.fin]) ta61 rfl rfl rfl rfl (le_b rfl)) ?_
  refine SQ.call (iw x.fin') rfl rfl co27 rfl rfl rfl (lt_b rfl) (fun w hI => H_only hI (end_any _ x)) ?_
  refine SQ.ru rfl rfl (lt_b rfl) (ru_move rfl rfl) ?_
  refine SQ.ru rfl rfl (lt_b rfl) (ru_nilCheck rfl rfl) ?_
  refine SQ.ru rfl rfl (lt_b rfl) (ru_fieldAddr (o2 := 3) fd52_3 rfl rfl rfl) ?_
  refine SQ.ru rfl rfl (lt_b rfl) (ru_load (i := 0) ts3 rfl rfl rfl rfl) ?_
  refine SQ.ru rfl rfl (lt_b rfl) (ru_lt (b := (decide ((x.fin' : Int) < S.nxt))) rfl rfl rfl rfl) ?_
  refine SQ.ru rfl rfl (lt_b rfl) (ru_move rfl rfl) ?_
  refine SQ.join 13 [(0, pt d 0), (3, pt b1 0), (4, bo false), (7, Value.agg #[iw x.off, iw x.buf, iw x.skip, iw x.size, bo x.fin]), (8, iw x.fin'), (9, pt d 0), (10, pt d 0), (11, pt d 3), (12, iw S.nxt), (13, bo (decide ((x.fin' : Int) < S.nxt))), (14, bo (decide ((x.fin' : Int) < S.nxt))), (27, bo ((decide ((x.fin' : Int) < S.nxt)) || (((x.fin' : Int) == S.nxt) && (!x.fin))))] ?_ ?_
  rotate_left
  · intro K hK
    rcases tf (decide ((x.fin' : Int) < S.nxt)) with h2 | h2
    · skip
      refine SQ.norm [(0, pt d 0), (3, pt b1 0), (4, bo false), (7, Value.agg #[iw x.off, iw x.buf, iw x.skip, iw x.size, bo x.fin]), (8, iw x.fin'), (9, pt d 0), (10, pt d 0), (11, pt d 3), (12, iw S.nxt), (13, bo true), (14, bo true)] ⟨rfl, rfl, rfl, rfl, rfl, rfl, rfl, rfl, rfl, (congrArg (fun x => some (Value.bool x)) h2), (congrArg (fun x => some (Value.bool x)) h2), trivial⟩ ?_
      refine SQ.off (b := true) rfl rfl rfl rfl rfl (lt_b rfl) ?_
      refine SQ.off (b := true) rfl rfl rfl rfl rfl (lt_b rfl) ?_
      refine SQ.off (b := true) rfl rfl rfl rfl rfl (lt_b rfl) ?_
      refine SQ.off (b := true) rfl rfl rfl rfl rfl (lt_b rfl) ?_
      refine SQ.off (b := true) rfl rfl rfl rfl rfl (lt_b rfl) ?_
      refine SQ.off (b := true) rfl rfl rfl rfl rfl (lt_b rfl) ?_
      refine SQ.off (b := true) rfl rfl rfl rfl rfl (lt_b rfl) ?_
      refine SQ.off (b := true) rfl rfl rfl rfl rfl (lt_b rfl) ?_
      refine SQ.offu rfl rfl rfl rfl (lt_b rfl) ?_
      refine SQ.offu rfl rfl rfl rfl (lt_b rfl) ?_
      refine SQ.offu rfl rfl rfl rfl (lt_b rfl) ?_
      refine SQ.off (b := true) rfl rfl rfl rfl rfl (lt_b rfl) ?_
      refine SQ.ru rfl rfl (lt_b rfl) (ru_pick (u := bo true) (v := undef) rfl rfl rfl rfl) ?_
      exact SQ.joined hK ⟨rfl, rfl, rfl, rfl, rfl, rfl, rfl, rfl, rfl, (congrArg (fun x => some (Value.bool x)) h2.symm), (congrArg (fun x => some (Value.bool x)) h2.symm), (congrArg (fun bx => some (Value.bool (bx || (((x.fin' : Int) == S.nxt) && (!x.fin))))) h2.symm), trivial⟩
    · skip
      refine SQ.norm [(0, pt d 0), (3, pt b1 0), (4, bo false), (7, Value.agg #[iw x.off, iw x.buf, iw x.skip, iw x.size, bo x.fin]), (8, iw x.fin'), (9, pt d 0), (10, pt d 0), (11, pt d 3), (12, iw S.nxt), (13, bo false), (14, bo false)] ⟨rfl, rfl, rfl, rfl, rfl, rfl, rfl, rfl, rfl, (congrArg (fun x => some (Value.bool x)) h2), (congrArg (fun x => some (Value.bool x)) h2), trivial⟩ ?_
      refine SQ.rug rfl rfl rfl rfl (lt_b rfl) (ru_loada (i := 4) (vs := [iw x.off, iw x.buf, iw x.skip, iw x.size, bo x.fin]) ta61 rfl rfl rfl rfl (le_b rfl)) ?_
      refine SQ.callg (iw x.fin') rfl rfl rfl rfl co27 rfl rfl rfl (lt_b rfl) (fun w hI => H_only hI (end_any _ x)) ?_
      refine SQ.rug rfl rfl rfl rfl (lt_b rfl) (ru_move rfl rfl) ?_
      refine SQ.rug rfl rfl rfl rfl (lt_b rfl) (ru_nilCheck rfl rfl) ?_
      refine SQ.rug rfl rfl rfl rfl (lt_b rfl) (ru_fieldAddr (o2 := 3) fd52_3 rfl rfl rfl) ?_
      refine SQ.rug rfl rfl rfl rfl (lt_b rfl) (ru_load (i := 0) ts3 rfl rfl rfl rfl) ?_
      refine SQ.rug rfl rfl rfl rfl (lt_b rfl) (ru_eq (b := ((x.fin' : Int) == S.nxt)) rfl rfl rfl rfl) ?_
      refine SQ.rug rfl rfl rfl rfl (lt_b rfl) (ru_move rfl rfl) ?_
      refine SQ.join 4 [(0, pt d 0), (3, pt b1 0), (4, bo false), (7, Value.agg #[iw x.off, iw x.buf, iw x.skip, iw x.size, bo x.fin]), (8, iw x.fin'), (9, pt d 0), (10, pt d 0), (11, pt d 3), (12, iw S.nxt), (13, bo false), (14, bo false), (15, Value.agg #[iw x.off, iw x.buf, iw x.skip, iw x.size, bo x.fin]), (16, iw x.fin'), (17, pt d 0), (18, pt d 0), (19, pt d 3), (20, iw S.nxt), (21, bo ((x.fin' : Int) == S.nxt)), (22, bo ((x.fin' : Int) == S.nxt)), (26, bo (((x.fin' : Int) == S.nxt) && (!x.fin)))] ?_ ?_
      rotate_left
      · intro K hK
        rcases tf ((x.fin' : Int) == S.nxt) with h3 | h3
        · skip
          refine SQ.norm [(0, pt d 0), (3, pt b1 0), (4, bo false), (7, Value.agg #[iw x.off, iw x.buf, iw x.skip, iw x.size, bo x.fin]), (8, iw x.fin'), (9, pt d 0), (10, pt d 0), (11, pt d 3), (12, iw S.nxt), (13, bo false), (14, bo false), (15, Value.agg #[iw x.off, iw x.buf, iw x.skip, iw x.size, bo x.fin]), (16, iw x.fin'), (17, pt d 0), (18, pt d 0), (19, pt d 3), (20, iw S.nxt), (21, bo true), (22, bo true)] ⟨rfl, rfl, rfl, rfl, rfl, rfl, rfl, rfl, rfl, rfl, rfl, rfl, rfl, rfl, rfl, rfl, rfl, (congrArg (fun x => some (Value.bool x)) h3), (congrArg (fun x => some (Value.bool x)) h3), trivial⟩ ?_
          refine SQ.rug rfl rfl rfl rfl (lt_b rfl) (ru_fieldAddr (o2 := 4) fd61_4 rfl rfl rfl) ?_
          refine SQ.rug rfl rfl rfl rfl (lt_b rfl) (ru_load (i := 4) ts4 rfl rfl rfl rfl) ?_
          refine SQ.rug rfl rfl rfl rfl (lt_b rfl) (ru_not (c := (!x.fin)) rfl rfl rfl) ?_
          refine SQ.rug rfl rfl rfl rfl (lt_b rfl) (ru_pick (u := bo (!x.fin)) (v := bo false) rfl rfl rfl rfl) ?_
          exact SQ.joined hK ⟨rfl, rfl, rfl, rfl, rfl, rfl, rfl, rfl, rfl, rfl, rfl, rfl, rfl, rfl, rfl, rfl, rfl, (congrArg (fun x => some (Value.bool x)) h3.symm), (congrArg (fun x => some (Value.bool x)) h3.symm), (congrArg (fun bx => some (Value.bool (bx && (!x.fin)))) h3.symm), trivial⟩
        · skip
          refine SQ.norm [(0, pt d 0), (3, pt b1 0), (4, bo false), (7, Value.agg #[iw x.off, iw x.buf, iw x.skip, iw x.size, bo x.fin]), (8, iw x.fin'), (9, pt d 0), (10, pt d 0), (11, pt d 3), (12, iw S.nxt), (13, bo false), (14, bo false), (15, Value.agg #[iw x.off, iw x.buf, iw x.skip, iw x.size, bo x.fin]), (16, iw x.fin'), (17, pt d 0), (18, pt d 0), (19, pt d 3), (20, iw S.nxt), (21, bo false), (22, bo false)] ⟨rfl, rfl, rfl, rfl, rfl, rfl, rfl, rfl, rfl, rfl, rfl, rfl, rfl, rfl, rfl, rfl, rfl, (congrArg (fun x => some (Value.bool x)) h3), (congrArg (fun x => some (Value.bool x)) h3), trivial⟩ ?_
          refine SQ.off (b := false) rfl rfl rfl rfl rfl (lt_b rfl) ?_
          refine SQ.off (b := false) rfl rfl rfl rfl rfl (lt_b rfl) ?_
          refine SQ.off (b := false) rfl rfl rfl rfl rfl (lt_b rfl) ?_
          refine SQ.rug rfl rfl rfl rfl (lt_b rfl) (ru_pick (u := undef) (v := bo false) rfl rfl rfl rfl) ?_
          exact SQ.joined hK ⟨rfl, rfl, rfl, rfl, rfl, rfl, rfl, rfl, rfl, rfl, rfl, rfl, rfl, rfl, rfl, rfl, rfl, (congrArg (fun x => some (Value.bool x)) h3.symm), (congrArg (fun x => some (Value.bool x)) h3.symm), (congrArg (fun bx => some (Value.bool (bx && (!x.fin)))) h3.symm), trivial⟩
      skip
      refine SQ.ru rfl rfl (lt_b rfl) (ru_pick (u := bo true) (v := bo (((x.fin' : Int) == S.nxt) && (!x.fin))) rfl rfl rfl rfl) ?_
      exact SQ.joined hK ⟨rfl, rfl, rfl, rfl, rfl, rfl, rfl, rfl, rfl, (congrArg (fun x => some (Value.bool x)) h2.symm), (congrArg (fun x => some (Value.bool x)) h2.symm), (congrArg (fun bx => some (Value.bool (bx || (((x.fin' : Int) == S.nxt) && (!x.fin))))) h2.symm), trivial⟩
  skip
  refine SQ.nilE ?_
  refine SC.of_SE ?_
  refine SC.norm [(0, pt d 0), (3, pt b1 0), (4, bo false), (27, bo ((decide ((x.fin' : Int) < S.nxt)) || (((x.fin' : Int) == S.nxt) && (!x.fin))))] [rBlk d [pt p 0, Value.slice q1 S.l.length c1, Value.slice q2 S.late.length c2, iw S.nxt, iw S.hv, iw S.last, bo S.gone] 52, rPool p ab S.L, rRowN (.slice q1 S.l.length c1) (pRows S.l) 61 5, rRowN (.slice q2 S.late.length c2) (pRows S.late) 61 5, rBlk b1 [iw x.off, iw x.buf, iw x.skip, iw x.size, bo x.fin] 61] ⟨rfl, rfl, rfl, rfl, trivial⟩ rfl ?_
  refine SC.both ((decide ((x.fin' : Int) < S.nxt)) || (((x.fin' : Int) == S.nxt) && (!x.fin))) rfl (fun h4 => ?_) (fun h4 => ?_)
  · skip
    have he : earlyF S x = true := h4
    refine SC.seq ?_
    refine SC.region ?_
    refine SL.ru rfl rfl (lt_b rfl) (ru_assign rfl rfl) ?_
    refine SL.nil ?_
    refine SC.of_SE ?_
    refine SC.norm [(0, pt d 0), (3, pt b1 0), (4, bo false)] [rBlk d [pt p 0, Value.slice q1 S.l.length c1, Value.slice q2 S.late.length c2, iw S.nxt, iw S.hv, iw S.last, bo S.gone] 52, rPool p ab S.L, rRowN (.slice q1 S.l.length c1) (pRows S.l) 61 5, rRowN (.slice q2 S.late.length c2) (pRows S.late) 61 5, rBlk b1 [iw x.off, iw x.buf, iw x.skip, iw x.size, bo x.fin] 61] ⟨rfl, rfl, rfl, trivial⟩ rfl ?_
    refine SC.ret ?_
    refine SE.passr ?_
    refine SE.scoper ?_
    refine SE.res (.inl rfl) (res1 Try.results19 rfl) fun w1 hI => ?_
    have ew : orderF S x = (false, S) := by unfold orderF; rw [if_pos he]
    rw [ew]; exact ⟨rfl, QTo.of (l := []) (by rw [List.append_nil]; exact hI.keep 4) (fun b hb => .inl hb)⟩
  · skip
    have he : earlyF S x = false := h4
    refine SC.skip ?_
    refine SC.of_SE ?_
    refine SC.norm [(0, pt d 0), (3, pt b1 0), (4, bo false)] [rBlk d [pt p 0, Value.slice q1 S.l.length c1, Value.slice q2 S.late.length c2, iw S.nxt, iw S.hv, iw S.last, bo S.gone] 52, rPool p ab S.L, rRowN (.slice q1 S.l.length c1) (pRows S.l) 61 5, rRowN (.slice q2 S.late.length c2) (pRows S.late) 61 5, rBlk b1 [iw x.off, iw x.buf, iw x.skip, iw x.size, bo x.fin] 61] ⟨rfl, rfl, rfl, trivial⟩ rfl ?_
    refine SC.seq ?_
    refine SC.region ?_
    refine SL.ru rfl rfl (lt_b rfl) (ru_move rfl rfl) ?_
    refine SL.ru rfl rfl (lt_b rfl) (ru_loada (i := 4) (vs := [iw x.off, iw x.buf, iw x.skip, iw x.size, bo x.fin]) ta61 rfl rfl rfl rfl (le_b rfl)) ?_
    refine SL.call (ζ := Option Addr × Nat × Option Addr × Nat) (fun z => Value.tuple #[]) (fun z => QR d p ab z.1 z.2.1 z.2.2.1 z.2.2.2 (joinF S x) ++ [rBlk b1 [iw x.off, iw x.buf, iw x.skip, iw x.size, bo x.fin] 61]) (fun z => ∀ b, QG d p ab z.1 z.2.1 z.2.2.1 z.2.2.2 (joinF S x) b → (QG d p ab q1 c1 q2 c2 S) b ∨ w.heap.size ≤ b) rfl rfl co31 rfl rfl rfl (lt_b rfl) (fun w5 hI => (join_any (h1 he).1 (Inv.four hI)).mono fun e w2 ⟨h1, k⟩ => by obtain ⟨a1, a2, a3, a4, k1, k2⟩ := Inv.qto (l := [rBlk b1 [iw x.off, iw x.buf, iw x.skip, iw x.size, bo x.fin] 61]) hI k (fun b hb => .inl hb); exact ⟨(a1, a2, a3, a4), h1, k1, k2⟩) ?_
    rintro ⟨qa5, ca6, qb7, cb8⟩ hG9
    refine SL.nil ?_
    refine SC.of_SE ?_
    refine SC.norm [(0, pt d 0), (4, bo false)] [rBlk d [pt p 0, Value.slice qa5 (((joinF S x).l).length) ca6, Value.slice qb7 (((joinF S x).late).length) cb8, iw ((joinF S x).nxt), iw ((joinF S x).hv), iw ((joinF S x).last), bo ((joinF S x).gone)] 52, rPool p ab ((joinF S x).L), rRowN (.slice qa5 (((joinF S x).l).length) ca6) (pRows ((joinF S x).l)) 61 5, rRowN (.slice qb7 (((joinF S x).late).length) cb8) (pRows ((joinF S x).late)) 61 5, rBlk b1 [iw x.off, iw x.buf, iw x.skip, iw x.size, bo x.fin] 61] ⟨rfl, rfl, trivial⟩ rfl ?_
    refine SC.seq ?_
    refine SC.label ?_
    refine SC.of_SE ?_
    refine SC.norm [(0, pt d 0), (4, bo false)] [rBlk d [pt p 0, Value.slice qa5 (((joinF S x).l).length) ca6, Value.slice qb7 (((joinF S x).late).length) cb8, iw ((joinF S x).nxt), iw ((joinF S x).hv), iw ((joinF S x).last), bo ((joinF S x).gone)] 52, rPool p ab ((joinF S x).L), rRowN (.slice qa5 (((joinF S x).l).length) ca6) (pRows ((joinF S x).l)) 61 5, rRowN (.slice qb7 (((joinF S x).late).length) cb8) (pRows ((joinF S x).late)) 61 5, rBlk b1 [iw x.off, iw x.buf, iw x.skip, iw x.size, bo x.fin] 61] ⟨rfl, rfl, trivial⟩ rfl ?_
    refine SC.seq ?_
    refine SC.block ?_
    refine SC.loop (γ := Rq × Option Addr × Nat × Option Addr × Nat) (fun _ _ => [(0, pt d 0), (4, bo false)]) (fun _ g => [rBlk d [pt p 0, Value.slice g.2.1 g.1.l.length g.2.2.1, Value.slice g.2.2.2.1 g.1.late.length g.2.2.2.2, iw g.1.nxt, iw g.1.hv, iw g.1.last, bo g.1.gone] 52, rPool p ab g.1.L, rRowN (.slice g.2.1 g.1.l.length g.2.2.1) (pRows g.1.l) 61 5, rRowN (.slice g.2.2.2.1 g.1.late.length g.2.2.2.2) (pRows g.1.late) 61 5, rBlk b1 [iw x.off, iw x.buf, iw x.skip, iw x.size, bo x.fin] 61]) (fun n g => n = g.1.late.length ∧ I g.1 ∧ drainF g.1.late.length g.1 = drainF S.late.length (joinF S x) ∧ ∀ b, QG d p ab g.2.1 g.2.2.1 g.2.2.2.1 g.2.2.2.2 g.1 b → (QG d p ab q1 c1 q2 c2 S) b ∨ w.heap.size ≤ b) _ ((joinF S x), qa5, ca6, qb7, cb8) ⟨rfl, (h1 he).2, by rw [join_late], hG9⟩ ⟨rfl, rfl, trivial⟩ rfl ?_
    rintro n1 ⟨T, qt, ct, qu, cu⟩ ⟨hn1, hIT, hdr, hGt⟩
    have hTl := hI0 T hIT
    refine SC.block ?_
    refine SC.seq ?_
    refine SC.seq ?_
    refine SC.region ?_
    refine SL.ru rfl rfl (lt_b rfl) (ru_move rfl rfl) ?_
    refine SL.ru rfl rfl (lt_b rfl) (ru_nilCheck rfl rfl) ?_
    refine SL.ru rfl rfl (lt_b rfl) (ru_fieldAddr (o2 := 2) fd52_2 rfl rfl rfl) ?_
    refine SL.ru rfl rfl (lt_b rfl) (ru_load (i := 0) ts50 rfl rfl rfl rfl) ?_
    refine SL.ru rfl rfl (lt_b rfl) (ru_len Try.underlying50 rfl rfl) ?_
    refine SL.ru rfl rfl (lt_b rfl) (ru_move rfl rfl) ?_
    refine SL.nil ?_
    refine SC.of_SE ?_
    refine SC.norm [(0, pt d 0), (4, bo false), (34, Value.slice qu T.late.length cu), (35, iw (T.late.length : Int)), (36, iw 0)] [rBlk d [pt p 0, Value.slice qt T.l.length ct, Value.slice qu T.late.length cu, iw T.nxt, iw T.hv, iw T.last, bo T.gone] 52, rPool p ab T.L, rRowN (.slice qt T.l.length ct) (pRows T.l) 61 5, rRowN (.slice qu T.late.length cu) (pRows T.late) 61 5, rBlk b1 [iw x.off, iw x.buf, iw x.skip, iw x.size, bo x.fin] 61] ⟨rfl, rfl, rfl, rfl, rfl, trivial⟩ rfl ?_
    refine SC.block ?_
    refine SC.loop (γ := Unit) (fun nn _ => [(0, pt d 0), (4, bo false), (34, Value.slice qu T.late.length cu), (35, iw (T.late.length : Int)), (36, iw ((T.late.length : Int) - (nn : Int)))]) (fun nn _ => [rBlk d [pt p 0, Value.slice qt T.l.length ct, Value.slice qu T.late.length cu, iw T.nxt, iw T.hv, iw T.last, bo T.gone] 52, rPool p ab T.L, rRowN (.slice qt T.l.length ct) (pRows T.l) 61 5, rRowN (.slice qu T.late.length cu) (pRows T.late) 61 5, rBlk b1 [iw x.off, iw x.buf, iw x.skip, iw x.size, bo x.fin] 61]) (fun nn _ => nn ≤ T.late.length ∧ ∀ j, j < T.late.length - nn → ∀ y, T.late[j]? = some y → decide (y.off ≤ T.nxt) = false) T.late.length () ⟨Nat.le_refl _, fun j hj => by omega⟩ ⟨rfl, rfl, rfl, rfl, (congrArg (fun x => some (iw x)) (show (0 : Int) = (T.late.length : Int) - ((T.late.length : Nat) : Int) by omega)), trivial⟩ rfl ?_
    rintro nn ⟨⟩ ⟨hn, hcl⟩
    rcases Nat.eq_zero_or_pos nn with h0 | h0
    · skip
      have hnx : nextIx T = none := next_none (fun j hj => hcl j (by omega))
      refine SC.seq ?_
      refine SC.region ?_
      refine SL.ru rfl rfl (lt_b rfl) (ru_lt (b := (decide ((((T.late.length : Int) - (nn : Int)) : Int) < (T.late.length : Int)))) rfl rfl rfl rfl) ?_
      refine SL.nil ?_
      refine SC.of_SE ?_
      refine SC.norm [(0, pt d 0), (4, bo false), (34, Value.slice qu T.late.length cu), (35, iw (T.late.length : Int)), (36, iw ((T.late.length : Int) - (nn : Int))), (37, bo (decide ((((T.late.length : Int) - (nn : Int)) : Int) < (T.late.length : Int))))] [rBlk d [pt p 0, Value.slice qt T.l.length ct, Value.slice qu T.late.length cu, iw T.nxt, iw T.hv, iw T.last, bo T.gone] 52, rPool p ab T.L, rRowN (.slice qt T.l.length ct) (pRows T.l) 61 5, rRowN (.slice qu T.late.length cu) (pRows T.late) 61 5, rBlk b1 [iw x.off, iw x.buf, iw x.skip, iw x.size, bo x.fin] 61] ⟨rfl, rfl, rfl, rfl, rfl, rfl, trivial⟩ rfl ?_
      refine SC.seq ?_
      refine SC.no (show some (Value.bool (decide ((((T.late.length : Int) - (nn : Int)) : Int) < (T.late.length : Int)))) = some (Value.bool false) from congrArg (fun x => some (Value.bool x)) (decide_eq_false (by omega))) ?_
      refine SC.exit ?_
      refine SE.passe ?_
      refine SE.passe ?_
      refine SE.blke ?_
      refine SC.of_SE ?_
      refine SC.norm [(0, pt d 0), (4, bo false)] [rBlk d [pt p 0, Value.slice qt T.l.length ct, Value.slice qu T.late.length cu, iw T.nxt, iw T.hv, iw T.last, bo T.gone] 52, rPool p ab T.L, rRowN (.slice qt T.l.length ct) (pRows T.l) 61 5, rRowN (.slice qu T.late.length cu) (pRows T.late) 61 5, rBlk b1 [iw x.off, iw x.buf, iw x.skip, iw x.size, bo x.fin] 61] ⟨rfl, rfl, trivial⟩ rfl ?_
      refine SC.exit ?_
      refine SE.blko (by decide) ?_
      refine SE.passe ?_
      refine SE.blke ?_
      refine SC.of_SE ?_
      refine SC.norm [(4, bo false)] [rBlk d [pt p 0, Value.slice qt T.l.length ct, Value.slice qu T.late.length cu, iw T.nxt, iw T.hv, iw T.last, bo T.gone] 52, rPool p ab T.L, rRowN (.slice qt T.l.length ct) (pRows T.l) 61 5, rRowN (.slice qu T.late.length cu) (pRows T.late) 61 5, rBlk b1 [iw x.off, iw x.buf, iw x.skip, iw x.size, bo x.fin] 61] ⟨rfl, trivial⟩ rfl ?_
      refine SC.seq ?_
      refine SC.region ?_
      refine SL.ru rfl rfl (lt_b rfl) (ru_assign rfl rfl) ?_
      refine SL.nil ?_
      refine SC.of_SE ?_
      refine SC.norm [(4, bo true)] [rBlk d [pt p 0, Value.slice qt T.l.length ct, Value.slice qu T.late.length cu, iw T.nxt, iw T.hv, iw T.last, bo T.gone] 52, rPool p ab T.L, rRowN (.slice qt T.l.length ct) (pRows T.l) 61 5, rRowN (.slice qu T.late.length cu) (pRows T.late) 61 5, rBlk b1 [iw x.off, iw x.buf, iw x.skip, iw x.size, bo x.fin] 61] ⟨rfl, trivial⟩ rfl ?_
      refine SC.ret ?_
      refine SE.scoper ?_
      refine SE.res (.inl rfl) (res1 Try.results19 rfl) fun w1 hI => ?_
      have ew : orderF S x = (true, T) := by unfold orderF; rw [if_neg (not_t he), ← hdr, drain_none hnx]
      rw [ew]; exact ⟨rfl, QTo.of (l := []) (by rw [List.append_nil]; exact hI.keep 4) hGt⟩
    · skip
      obtain ⟨y, hy⟩ : ∃ y, T.late[((T.late.length : Int) - (nn : Int)).toNat]? = some y := ⟨_, List.getElem?_eq_getElem (by omega)⟩
      have edl : (dropAt T ((T.late.length : Int) - (nn : Int)).toNat).late.length = T.late.length - 1 := dropAt_len (by omega)
      refine SC.seq ?_
      refine SC.region ?_
      refine SL.ru rfl rfl (lt_b rfl) (ru_lt (b := (decide ((((T.late.length : Int) - (nn : Int)) : Int) < (T.late.length : Int)))) rfl rfl rfl rfl) ?_
      refine SL.nil ?_
      refine SC.of_SE ?_
      refine SC.norm [(0, pt d 0), (4, bo false), (34, Value.slice qu T.late.length cu), (35, iw (T.late.length : Int)), (36, iw ((T.late.length : Int) - (nn : Int))), (37, bo (decide ((((T.late.length : Int) - (nn : Int)) : Int) < (T.late.length : Int))))] [rBlk d [pt p 0, Value.slice qt T.l.length ct, Value.slice qu T.late.length cu, iw T.nxt, iw T.hv, iw T.last, bo T.gone] 52, rPool p ab T.L, rRowN (.slice qt T.l.length ct) (pRows T.l) 61 5, rRowN (.slice qu T.late.length cu) (pRows T.late) 61 5, rBlk b1 [iw x.off, iw x.buf, iw x.skip, iw x.size, bo x.fin] 61] ⟨rfl, rfl, rfl, rfl, rfl, rfl, trivial⟩ rfl ?_
      refine SC.seq ?_
      refine SC.yes (show some (Value.bool (decide ((((T.late.length : Int) - (nn : Int)) : Int) < (T.late.length : Int)))) = some (Value.bool true) from congrArg (fun x => some (Value.bool x)) (decide_eq_true (by omega))) ?_
      refine SC.skip ?_
      refine SC.of_SE ?_
      refine SC.norm [(0, pt d 0), (4, bo false), (34, Value.slice qu T.late.length cu), (35, iw (T.late.length : Int)), (36, iw ((T.late.length : Int) - (nn : Int)))] [rBlk d [pt p 0, Value.slice qt T.l.length ct, Value.slice qu T.late.length cu, iw T.nxt, iw T.hv, iw T.last, bo T.gone] 52, rPool p ab T.L, rRowN (.slice qt T.l.length ct) (pRows T.l) 61 5, rRowN (.slice qu T.late.length cu) (pRows T.late) 61 5, rBlk b1 [iw x.off, iw x.buf, iw x.skip, iw x.size, bo x.fin] 61] ⟨rfl, rfl, rfl, rfl, rfl, trivial⟩ rfl ?_
      refine SC.seq ?_
      refine SC.block ?_
      refine SC.seq ?_
      refine SC.region ?_
      refine SL.ru rfl rfl (lt_b rfl) (ru_move rfl rfl) ?_
      refine SL.ru rfl rfl (lt_b rfl) (ru_index_rowN (ri := 3) si50 rfl rfl rfl rfl (by omega) (by omega)) ?_
      refine SL.ru rfl rfl (lt_b rfl) (ru_loada_rowN (ri := 3) (i := ((T.late.length : Int) - (nn : Int)).toNat) (r := [iw y.off, iw y.buf, iw y.skip, iw y.size, bo y.fin]) ta61 rfl rfl rfl (by show (T.late.map Pc.row)[_]? = _; rw [List.getElem?_map, hy]; rfl) rfl rfl) ?_
      refine SL.alloca rfl rfl (lt_b rfl) ta61 rfl fun b10 hb10 => ?_
      refine SL.ru rfl rfl (lt_b rfl) (ru_assign rfl rfl) ?_
      refine SL.storea (i := 5) (vs := [iw y.off, iw y.buf, iw y.skip, iw y.size, bo y.fin]) (c' := [iw y.off, iw y.buf, iw y.skip, iw y.size, bo y.fin]) rfl rfl ta61 rfl rfl rfl rfl rfl rfl (le_b rfl) (.inr hb10) rfl ?_
      refine SL.nil ?_
      refine SC.of_SE ?_
      refine SC.norm [(0, pt d 0), (4, bo false), (5, iw ((T.late.length : Int) - (nn : Int))), (6, pt b10 0), (34, Value.slice qu T.late.length cu), (35, iw (T.late.length : Int)), (36, iw ((T.late.length : Int) - (nn : Int)))] [rBlk d [pt p 0, Value.slice qt T.l.length ct, Value.slice qu T.late.length cu, iw T.nxt, iw T.hv, iw T.last, bo T.gone] 52, rPool p ab T.L, rRowN (.slice qt T.l.length ct) (pRows T.l) 61 5, rRowN (.slice qu T.late.length cu) (pRows T.late) 61 5, rBlk b1 [iw x.off, iw x.buf, iw x.skip, iw x.size, bo x.fin] 61, rBlk b10 [iw y.off, iw y.buf, iw y.skip, iw y.size, bo y.fin] 61] ⟨rfl, rfl, rfl, rfl, rfl, rfl, rfl, trivial⟩ rfl ?_
      refine SC.seq ?_
      refine SC.region_quiet (by kernel_rfl) (by kernel_rfl) ?_
      refine SQ.ru rfl rfl (lt_b rfl) (ru_fieldAddr (o2 := 0) fd61_0 rfl rfl rfl) ?_
      refine SQ.ru rfl rfl (lt_b rfl) (ru_load (i := 5) ts3 rfl rfl rfl rfl) ?_
      refine SQ.ru rfl rfl (lt_b rfl) (ru_move rfl rfl) ?_
      refine SQ.ru rfl rfl (lt_b rfl) (ru_nilCheck rfl rfl) ?_
      refine SQ.ru rfl rfl (lt_b rfl) (ru_fieldAddr (o2 := 3) fd52_3 rfl rfl rfl) ?_
      refine SQ.ru rfl rfl (lt_b rfl) (ru_load (i := 0) ts3 rfl rfl rfl rfl) ?_
      refine SQ.ru rfl rfl (lt_b rfl) (ru_le (b := (decide ((y.off : Int) ≤ T.nxt))) rfl rfl rfl rfl) ?_
      refine SQ.nilE ?_
      refine SC.of_SE ?_
      refine SC.norm [(0, pt d 0), (4, bo false), (5, iw ((T.late.length : Int) - (nn : Int))), (6, pt b10 0), (34, Value.slice qu T.late.length cu), (35, iw (T.late.length : Int)), (36, iw ((T.late.length : Int) - (nn : Int))), (47, bo (decide ((y.off : Int) ≤ T.nxt)))] [rBlk d [pt p 0, Value.slice qt T.l.length ct, Value.slice qu T.late.length cu, iw T.nxt, iw T.hv, iw T.last, bo T.gone] 52, rPool p ab T.L, rRowN (.slice qt T.l.length ct) (pRows T.l) 61 5, rRowN (.slice qu T.late.length cu) (pRows T.late) 61 5, rBlk b1 [iw x.off, iw x.buf, iw x.skip, iw x.size, bo x.fin] 61, rBlk b10 [iw y.off, iw y.buf, iw y.skip, iw y.size, bo y.fin] 61] ⟨rfl, rfl, rfl, rfl, rfl, rfl, rfl, rfl, trivial⟩ rfl ?_
      refine SC.both (decide ((y.off : Int) ≤ T.nxt)) rfl (fun h11 => ?_) (fun h11 => ?_)
      · skip
        have hoff := h11
        have hnx : nextIx T = some ((T.late.length : Int) - (nn : Int)).toNat := next_some hy hoff (fun j hj => hcl j (by omega))
        refine SC.seq ?_
        refine SC.region ?_
        refine SL.ru rfl rfl (lt_b rfl) (ru_move rfl rfl) ?_
        refine SL.ru rfl rfl (lt_b rfl) (ru_move rfl rfl) ?_
        refine SL.ru rfl rfl (lt_b rfl) (ru_nilCheck rfl rfl) ?_
        refine SL.ru rfl rfl (lt_b rfl) (ru_fieldAddr (o2 := 2) fd52_2 rfl rfl rfl) ?_
        refine SL.ru rfl rfl (lt_b rfl) (ru_load (i := 0) ts50 rfl rfl rfl rfl) ?_
        refine SL.ru rfl rfl (lt_b rfl) (ru_move rfl rfl) ?_
        refine SL.ru rfl rfl (lt_b rfl) (ru_move rfl rfl) ?_
        refine SL.ru rfl rfl (lt_b rfl) (ru_add (r := (((T.late.length : Int) - (nn : Int)) + 1)) rfl rfl rfl ((by rw [IntKind.wrap_i64]; omega))) ?_
        refine SL.call (ζ := Unit) (fun _z => Value.slice qu (T.late.length - 1) cu) (fun _z => [rBlk d [pt p 0, Value.slice qt T.l.length ct, Value.slice qu T.late.length cu, iw T.nxt, iw T.hv, iw T.last, bo T.gone] 52, rPool p ab T.L, rRowN (.slice qt T.l.length ct) (pRows T.l) 61 5, rRowN (.slice qu (T.late.length - 1) cu) (pRows (T.late.take ((T.late.length : Int) - (nn : Int)).toNat ++ T.late.drop (((T.late.length : Int) - (nn : Int)).toNat + 1))) 61 5, rBlk b1 [iw x.off, iw x.buf, iw x.skip, iw x.size, bo x.fin] 61, rBlk b10 [iw y.off, iw y.buf, iw y.skip, iw y.size, bo y.fin] 61]) (fun _z => True) rfl rfl co24 rfl rfl rfl (lt_b rfl) (fun w hI => (del1_any (hI.1.get (i := 3) rfl) (by omega) (by omega)).mono fun e w2 ⟨h1, h2, h3⟩ => ⟨(), h1, hI.upd (i := 3) rfl h3 (fun b hb => hGt b (.inr (.inr (.inr (.inr hb))))) h2 (fun b hb => .inl (by cases qu <;> exact hb)), trivial⟩) ?_
        rintro ⟨⟩ _
        refine SL.ru rfl rfl (lt_b rfl) (ru_nilCheck rfl rfl) ?_
        refine SL.ru rfl rfl (lt_b rfl) (ru_fieldAddr (o2 := 2) fd52_2 rfl rfl rfl) ?_
        refine SL.store (i := 0) (c' := [pt p 0, Value.slice qt T.l.length ct, Value.slice qu (T.late.length - 1) cu, iw T.nxt, iw T.hv, iw T.last, bo T.gone]) rfl rfl ts50 rfl rfl rfl rfl rfl (lt_b rfl) (.inl (.inl rfl)) rfl ?_
        refine SL.nil ?_
        refine SC.of_SE ?_
        refine SC.norm [(0, pt d 0), (4, bo false), (6, pt b10 0), (34, Value.slice qu T.late.length cu), (35, iw (T.late.length : Int)), (36, iw ((T.late.length : Int) - (nn : Int)))] [rBlk d [pt p 0, Value.slice qt T.l.length ct, Value.slice qu (T.late.length - 1) cu, iw T.nxt, iw T.hv, iw T.last, bo T.gone] 52, rPool p ab T.L, rRowN (.slice qt T.l.length ct) (pRows T.l) 61 5, rRowN (.slice qu (T.late.length - 1) cu) (pRows (T.late.take ((T.late.length : Int) - (nn : Int)).toNat ++ T.late.drop (((T.late.length : Int) - (nn : Int)).toNat + 1))) 61 5, rBlk b1 [iw x.off, iw x.buf, iw x.skip, iw x.size, bo x.fin] 61, rBlk b10 [iw y.off, iw y.buf, iw y.skip, iw y.size, bo y.fin] 61] ⟨rfl, rfl, rfl, rfl, rfl, rfl, trivial⟩ rfl ?_
        refine SC.seq ?_
        refine SC.norm [(0, pt d 0), (4, bo false), (6, pt b10 0), (34, Value.slice qu T.late.length cu), (35, iw (T.late.length : Int)), (36, iw ((T.late.length : Int) - (nn : Int)))] [rBlk d [pt p 0, Value.slice qt (((dropAt T ((T.late.length : Int) - (nn : Int)).toNat).l).length) ct, Value.slice qu (((dropAt T ((T.late.length : Int) - (nn : Int)).toNat).late).length) cu, iw ((dropAt T ((T.late.length : Int) - (nn : Int)).toNat).nxt), iw ((dropAt T ((T.late.length : Int) - (nn : Int)).toNat).hv), iw ((dropAt T ((T.late.length : Int) - (nn : Int)).toNat).last), bo ((dropAt T ((T.late.length : Int) - (nn : Int)).toNat).gone)] 52, rPool p ab ((dropAt T ((T.late.length : Int) - (nn : Int)).toNat).L), rRowN (.slice qt (((dropAt T ((T.late.length : Int) - (nn : Int)).toNat).l).length) ct) (pRows ((dropAt T ((T.late.length : Int) - (nn : Int)).toNat).l)) 61 5, rRowN (.slice qu (((dropAt T ((T.late.length : Int) - (nn : Int)).toNat).late).length) cu) (pRows ((dropAt T ((T.late.length : Int) - (nn : Int)).toNat).late)) 61 5, rBlk b1 [iw x.off, iw x.buf, iw x.skip, iw x.size, bo x.fin] 61, rBlk b10 [iw y.off, iw y.buf, iw y.skip, iw y.size, bo y.fin] 61] ⟨rfl, rfl, rfl, rfl, rfl, rfl, trivial⟩ (by rw [edl]; rfl) ?_
        have hGd : ∀ b, QG d p ab qt ct qu cu (dropAt T ((T.late.length : Int) - (nn : Int)).toNat) b → (QG d p ab q1 c1 q2 c2 S) b ∨ w.heap.size ≤ b := QG.of (fun b hb => .inl (hb.elim .inl (fun hb => .inr (hb.elim .inl (fun hb => .inr (.inl hb)))))) (fun b hb => hGt b (.inr (.inr (.inr (.inl hb))))) (fun b hb => hGt b (.inr (.inr (.inr (.inr (by rw [own_eq _ _ _ T.late.length cu] at hb; exact hb))))))
        refine SC.region ?_
        refine SL.ru rfl rfl (lt_b rfl) (ru_move rfl rfl) ?_
        refine SL.ru rfl rfl (lt_b rfl) (ru_loada (i := 5) (vs := [iw y.off, iw y.buf, iw y.skip, iw y.size, bo y.fin]) ta61 rfl rfl rfl rfl (le_b rfl)) ?_
        refine SL.call (ζ := Option Addr × Nat × Option Addr × Nat) (fun z => Value.tuple #[]) (fun z => QR d p ab z.1 z.2.1 z.2.2.1 z.2.2.2 (joinF (dropAt T ((T.late.length : Int) - (nn : Int)).toNat) y) ++ [rBlk b1 [iw x.off, iw x.buf, iw x.skip, iw x.size, bo x.fin] 61, rBlk b10 [iw y.off, iw y.buf, iw y.skip, iw y.size, bo y.fin] 61]) (fun z => ∀ b, QG d p ab z.1 z.2.1 z.2.2.1 z.2.2.2 (joinF (dropAt T ((T.late.length : Int) - (nn : Int)).toNat) y) b → (QG d p ab q1 c1 q2 c2 S) b ∨ w.heap.size ≤ b) rfl rfl co31 rfl rfl rfl (lt_b rfl) (fun w5 hI => (join_any (hstep T _ y hIT hy (of_decide_eq_true hoff)).1 (Inv.four hI)).mono fun e w2 ⟨h1, k⟩ => by obtain ⟨a1, a2, a3, a4, k1, k2⟩ := Inv.qto (l := [rBlk b1 [iw x.off, iw x.buf, iw x.skip, iw x.size, bo x.fin] 61, rBlk b10 [iw y.off, iw y.buf, iw y.skip, iw y.size, bo y.fin] 61]) hI k hGd; exact ⟨(a1, a2, a3, a4), h1, k1, k2⟩) ?_
        rintro ⟨qa12, ca13, qb14, cb15⟩ hG16
        refine SL.nil ?_
        refine SC.of_SE ?_
        refine SC.norm [(0, pt d 0), (4, bo false), (34, Value.slice qu T.late.length cu), (35, iw (T.late.length : Int)), (36, iw ((T.late.length : Int) - (nn : Int)))] [rBlk d [pt p 0, Value.slice qa12 (((joinF (dropAt T ((T.late.length : Int) - (nn : Int)).toNat) y).l).length) ca13, Value.slice qb14 (((joinF (dropAt T ((T.late.length : Int) - (nn : Int)).toNat) y).late).length) cb15, iw ((joinF (dropAt T ((T.late.length : Int) - (nn : Int)).toNat) y).nxt), iw ((joinF (dropAt T ((T.late.length : Int) - (nn : Int)).toNat) y).hv), iw ((joinF (dropAt T ((T.late.length : Int) - (nn : Int)).toNat) y).last), bo ((joinF (dropAt T ((T.late.length : Int) - (nn : Int)).toNat) y).gone)] 52, rPool p ab ((joinF (dropAt T ((T.late.length : Int) - (nn : Int)).toNat) y).L), rRowN (.slice qa12 (((joinF (dropAt T ((T.late.length : Int) - (nn : Int)).toNat) y).l).length) ca13) (pRows ((joinF (dropAt T ((T.late.length : Int) - (nn : Int)).toNat) y).l)) 61 5, rRowN (.slice qb14 (((joinF (dropAt T ((T.late.length : Int) - (nn : Int)).toNat) y).late).length) cb15) (pRows ((joinF (dropAt T ((T.late.length : Int) - (nn : Int)).toNat) y).late)) 61 5, rBlk b1 [iw x.off, iw x.buf, iw x.skip, iw x.size, bo x.fin] 61, rBlk b10 [iw y.off, iw y.buf, iw y.skip, iw y.size, bo y.fin] 61] ⟨rfl, rfl, rfl, rfl, rfl, trivial⟩ rfl ?_
        refine SC.exit ?_
        refine SE.blko (by decide) ?_
        refine SE.passe ?_
        refine SE.passe ?_
        refine SE.blko (by decide) ?_
        refine SE.passe ?_
        refine SE.blke ?_
        refine SE.keep 5 ?_
        refine SE.again _ ((joinF (dropAt T ((T.late.length : Int) - (nn : Int)).toNat) y), qa12, ca13, qb14, cb15) (by rw [hn1]; exact (by rw [join_late, edl]; omega : ((joinF (dropAt T ((T.late.length : Int) - (nn : Int)).toNat) y)).late.length < T.late.length)) ⟨rfl, (hstep T _ y hIT hy (of_decide_eq_true hoff)).2, by rw [← hdr]; exact (drain_some hnx hy rfl).symm, hG16⟩ ⟨rfl, rfl, trivial⟩ rfl
      · skip
        refine SC.skip ?_
        refine SE.blkn ?_
        refine SC.of_SE ?_
        refine SC.norm [(0, pt d 0), (4, bo false), (34, Value.slice qu T.late.length cu), (35, iw (T.late.length : Int)), (36, iw ((T.late.length : Int) - (nn : Int)))] [rBlk d [pt p 0, Value.slice qt T.l.length ct, Value.slice qu T.late.length cu, iw T.nxt, iw T.hv, iw T.last, bo T.gone] 52, rPool p ab T.L, rRowN (.slice qt T.l.length ct) (pRows T.l) 61 5, rRowN (.slice qu T.late.length cu) (pRows T.late) 61 5, rBlk b1 [iw x.off, iw x.buf, iw x.skip, iw x.size, bo x.fin] 61, rBlk b10 [iw y.off, iw y.buf, iw y.skip, iw y.size, bo y.fin] 61] ⟨rfl, rfl, rfl, rfl, rfl, trivial⟩ rfl ?_
        refine SC.region ?_
        refine SL.ru rfl rfl (lt_b rfl) (ru_add (r := (((T.late.length : Int) - (nn : Int)) + 1)) rfl rfl rfl ((by rw [IntKind.wrap_i64]; omega))) ?_
        refine SL.ru rfl rfl (lt_b rfl) (ru_move rfl rfl) ?_
        refine SL.nil ?_
        refine SE.keep 5 ?_
        refine SE.again (nn - 1) () (by omega) ⟨by omega, off_next hcl hy h11 (by omega)⟩ ⟨rfl, rfl, rfl, rfl, (congrArg (fun x => some (iw x)) (show ((T.late.length : Int) - (nn : Int)) + 1 = (T.late.length : Int) - ((nn - 1 : Nat) : Int) by omega)), trivial⟩ rfl

end Go.Proofs.Ytpgnklmmjdkhiaa

/-
  fits.
-/
namespace Go.Proofs.Ytpgnklmmjdkhiaa
open Go.RowKit
set_option maxRecDepth 100000
set_option maxHeartbeats 4000000
theorem fits_any {w : World} {d p ab : Nat} {q1 q2 : Option Addr} {c1 c2 : Nat} {S : Rq} (hM : S.late.length ≤ 1000) (x : Pc) (h : Sep w (QR d p ab q1 c1 q2 c2 S)) : Calls Try.prog 18 #[pt d 0, .agg x.row.toArray] w fun e w' => e = .returned (bo (fitsF S x)) ∧ Only (fun _ => False) w w' := by
  refine calls_sc (l0 := (QR d p ab q1 c1 q2 c2 S)) (args := [pt d 0, .agg x.row.toArray]) (fun _ => False) Try.func18 rfl 125 Try.ntmps18 (le_b rfl) ⟨h, Only.refl _ _⟩ ?_
  show SC _ _ _ _ [(0, pt d 0), (1, Value.agg #[iw x.off, iw x.buf, iw x.skip, iw x.size, bo x.fin])] (QR d p ab q1 c1 q2 c2 S)
  refine SC.seq ?_
  refine SC.region ?_
  refine SL.box (c := [iw x.off, iw x.buf, iw x.skip, iw x.size, bo x.fin]) rfl rfl (lt_b rfl) rfl rfl rfl fun b1 hb1 => ?_
  refine SL.ru rfl rfl (lt_b rfl) (ru_assign rfl rfl) ?_
  refine SL.nil ?_
  refine SC.of_SE ?_
  refine SC.norm [(0, pt d 0), (3, pt b1 0), (4, bo false)] [rBlk d [pt p 0, Value.slice q1 S.l.length c1, Value.slice q2 S.late.length c2, iw S.nxt, iw S.hv, iw S.last, bo S.gone] 52, rPool p ab S.L, rRowN (.slice q1 S.l.length c1) (pRows S.l) 61 5, rRowN (.slice q2 S.late.length c2) (pRows S.late) 61 5, rBlk b1 [iw x.off, iw x.buf, iw x.skip, iw x.size, bo x.fin] 61] ⟨rfl, rfl, rfl, trivial⟩ rfl ?_
  refine SC.seq ?_
  refine SC.region_mk_tailE [(11, 9)] 11 [(6, Mk.see ⟨125, w, fun _ => False⟩ (seeF S.L x.buf).1.refs (seeF S.L x.buf).1.head (seeF S.L x.buf).1.data (seeF S.L x.buf).2 5), (10, Mk.blk ⟨125, w, fun _ => False⟩ [iw 0, Value.slice none 0 0, Value.slice none 0 0] 75)] [(7, [6]), (8, [6]), (9, [6])] rfl rfl (by kernel_rfl) (by kernel_rfl) (by kernel_rfl) (by kernel_rfl) ?_
  refine SM.ru rfl rfl rfl (w_all rfl) rfl (lt_b rfl) (ru_move rfl rfl) ?_
  refine SM.ru rfl rfl rfl (w_all rfl) rfl (lt_b rfl) (ru_nilCheck rfl rfl) ?_
  refine SM.ru rfl rfl rfl (w_all rfl) rfl (lt_b rfl) (ru_fieldAddr (o2 := 0) fd52_0 rfl rfl rfl) ?_
  refine SM.ru rfl rfl rfl (w_all rfl) rfl (lt_b rfl) (ru_load (i := 0) ts25 rfl rfl rfl rfl) ?_
  refine SM.ru rfl rfl rfl (w_all rfl) rfl (lt_b rfl) (ru_fieldAddr (o2 := 1) fd61_1 rfl rfl rfl) ?_
  refine SM.ru rfl rfl rfl (w_all rfl) rfl (lt_b rfl) (ru_load (i := 4) ts3 rfl rfl rfl rfl) ?_
  refine SM.mkcall (s := Mk.see ⟨125, w, fun _ => False⟩ (seeF S.L x.buf).1.refs (seeF S.L x.buf).1.head (seeF S.L x.buf).1.data (seeF S.L x.buf).2 5) rfl rfl rfl rfl (w_all rfl) rfl (lt_b rfl) rfl rfl rfl co29 rfl rfl (fun l' w hI => (see_any (hI.1.get (i := 1) rfl) x.buf).mono fun e w2 ⟨qh, ch, qd, cd, h1, h2, h3, h4, h5, h6, h7⟩ => ⟨_, h1, ⟨qh, ch, qd, cd, fun b hb => Nat.le_trans hI.2.size (h4 b hb), fun b hb => Nat.le_trans hI.2.size (h5 b hb), rfl⟩, hI.saw2 h2 h3 h4 h5 h6 h7⟩) ?_
  rintro _ ⟨qh2, ch3, qd4, cd5, hqh2, hqd4, rfl⟩
  refine SM.ru rfl rfl rfl (w_all rfl) rfl (lt_b rfl) (ru_move rfl rfl) ?_
  refine SM.ru rfl rfl rfl (w_all rfl) rfl (lt_b rfl) (ru_extract rfl rfl rfl) ?_
  refine SM.ru rfl rfl rfl (w_all rfl) rfl (lt_b rfl) (ru_extract rfl rfl rfl) ?_
  refine SM.alloca rfl rfl rfl rfl (w_all rfl) rfl (lt_b rfl) rfl ta75 rfl fun b6 hb6 => ?_
  refine SM.nilL (l' := [rBlk d [pt p 0, Value.slice q1 S.l.length c1, Value.slice q2 S.late.length c2, iw S.nxt, iw S.hv, iw S.last, bo S.gone] 52, rPool p ab S.L, rRowN (.slice q1 S.l.length c1) (pRows S.l) 61 5, rRowN (.slice q2 S.late.length c2) (pRows S.late) 61 5, rBlk b1 [iw x.off, iw x.buf, iw x.skip, iw x.size, bo x.fin] 61, rMine (.slice qh2 ((seeF S.L x.buf).1.head.length) ch3) ((seeF S.L x.buf).1.head) 5, rMine (.slice qd4 ((seeF S.L x.buf).1.data.length) cd5) ((seeF S.L x.buf).1.data) 5, rBlk b6 [iw 0, Value.slice none 0 0, Value.slice none 0 0] 75]) rfl ?_
  refine SL.storea (i := 7) (vs := [iw ((seeF S.L x.buf).1.refs : Int), Value.slice qh2 ((seeF S.L x.buf).1.head.length) ch3, Value.slice qd4 ((seeF S.L x.buf).1.data.length) cd5]) (c' := [iw ((seeF S.L x.buf).1.refs : Int), Value.slice qh2 ((seeF S.L x.buf).1.head.length) ch3, Value.slice qd4 ((seeF S.L x.buf).1.data.length) cd5]) rfl rfl ta75 rfl rfl rfl rfl rfl rfl (le_b rfl) (.inr hb6) rfl ?_
  refine SL.ru rfl rfl (lt_b rfl) (ru_assign rfl rfl) ?_
  refine SL.nil ?_
  refine SE.onlyN ?_
  refine SC.of_SE ?_
  refine SC.norm [(0, pt d 0), (3, pt b1 0), (4, bo false), (5, pt b6 0), (6, iw ((seeF S.L x.buf).2))] [rBlk d [pt p 0, Value.slice q1 S.l.length c1, Value.slice q2 S.late.length c2, iw S.nxt, iw S.hv, iw S.last, bo S.gone] 52, rPool p ab S.L, rRowN (.slice q1 S.l.length c1) (pRows S.l) 61 5, rRowN (.slice q2 S.late.length c2) (pRows S.late) 61 5, rBlk b1 [iw x.off, iw x.buf, iw x.skip, iw x.size, bo x.fin] 61, rMine (.slice qh2 ((seeF S.L x.buf).1.head.length) ch3) ((seeF S.L x.buf).1.head) 5, rMine (.slice qd4 ((seeF S.L x.buf).1.data.length) cd5) ((seeF S.L x.buf).1.data) 5, rBlk b6 [iw ((seeF S.L x.buf).1.refs : Int), Value.slice qh2 ((seeF S.L x.buf).1.head.length) ch3, Value.slice qd4 ((seeF S.L x.buf).1.data.length) cd5] 75] ⟨rfl, rfl, rfl, rfl, rfl, trivial⟩ rfl ?_
  refine SC.seq ?_
  refine SC.block ?_
  refine SC.seq ?_
  refine SC.region ?_
  refine SL.ru rfl rfl (lt_b rfl) (ru_move rfl rfl) ?_
  refine SL.ru rfl rfl (lt_b rfl) (ru_ne (b := ((((seeF S.L x.buf).2) : Int) != 0)) rfl rfl rfl rfl) ?_
  refine SL.ru rfl rfl (lt_b rfl) (ru_move rfl rfl) ?_
  refine SL.join 4 [(0, pt d 0), (3, pt b1 0), (4, bo false), (5, pt b6 0), (6, iw ((seeF S.L x.buf).2)), (18, iw ((seeF S.L x.buf).2)), (19, bo ((((seeF S.L x.buf).2) : Int) != 0)), (20, bo ((((seeF S.L x.buf).2) : Int) != 0)), (24, bo (((((seeF S.L x.buf).2) : Int) != 0) || (decide ((x.off : Int) < 0))))] [rBlk d [pt p 0, Value.slice q1 S.l.length c1, Value.slice q2 S.late.length c2, iw S.nxt, iw S.hv, iw S.last, bo S.gone] 52, rPool p ab S.L, rRowN (.slice q1 S.l.length c1) (pRows S.l) 61 5, rRowN (.slice q2 S.late.length c2) (pRows S.late) 61 5, rBlk b1 [iw x.off, iw x.buf, iw x.skip, iw x.size, bo x.fin] 61, rMine (.slice qh2 ((seeF S.L x.buf).1.head.length) ch3) ((seeF S.L x.buf).1.head) 5, rMine (.slice qd4 ((seeF S.L x.buf).1.data.length) cd5) ((seeF S.L x.buf).1.data) 5, rBlk b6 [iw ((seeF S.L x.buf).1.refs : Int), Value.slice qh2 ((seeF S.L x.buf).1.head.length) ch3, Value.slice qd4 ((seeF S.L x.buf).1.data.length) cd5] 75] ?_ ?_
  rotate_left
  · intro K hK
    rcases tf ((((seeF S.L x.buf).2) : Int) != 0) with h7 | h7
    · skip
      refine SL.norm [(0, pt d 0), (3, pt b1 0), (4, bo false), (5, pt b6 0), (6, iw ((seeF S.L x.buf).2)), (18, iw ((seeF S.L x.buf).2)), (19, bo true), (20, bo true)] [rBlk d [pt p 0, Value.slice q1 S.l.length c1, Value.slice q2 S.late.length c2, iw S.nxt, iw S.hv, iw S.last, bo S.gone] 52, rPool p ab S.L, rRowN (.slice q1 S.l.length c1) (pRows S.l) 61 5, rRowN (.slice q2 S.late.length c2) (pRows S.late) 61 5, rBlk b1 [iw x.off, iw x.buf, iw x.skip, iw x.size, bo x.fin] 61, rMine (.slice qh2 ((seeF S.L x.buf).1.head.length) ch3) ((seeF S.L x.buf).1.head) 5, rMine (.slice qd4 ((seeF S.L x.buf).1.data.length) cd5) ((seeF S.L x.buf).1.data) 5, rBlk b6 [iw ((seeF S.L x.buf).1.refs : Int), Value.slice qh2 ((seeF S.L x.buf).1.head.length) ch3, Value.slice qd4 ((seeF S.L x.buf).1.data.length) cd5] 75] ⟨rfl, rfl, rfl, rfl, rfl, rfl, (congrArg (fun x => some (Value.bool x)) h7), (congrArg (fun x => some (Value.bool x)) h7), trivial⟩ rfl ?_
      refine SL.off (b := true) rfl rfl rfl rfl rfl (lt_b rfl) ?_
      refine SL.off (b := true) rfl rfl rfl rfl rfl (lt_b rfl) ?_
      refine SL.off (b := true) rfl rfl rfl rfl rfl (lt_b rfl) ?_
      refine SL.ru rfl rfl (lt_b rfl) (ru_pick (u := bo true) (v := undef) rfl rfl rfl rfl) ?_
      exact SL.joined hK ⟨rfl, rfl, rfl, rfl, rfl, rfl, (congrArg (fun x => some (Value.bool x)) h7.symm), (congrArg (fun x => some (Value.bool x)) h7.symm), (congrArg (fun bx => some (Value.bool (bx || (decide ((x.off : Int) < 0))))) h7.symm), trivial⟩ rfl
    · skip
      refine SL.norm [(0, pt d 0), (3, pt b1 0), (4, bo false), (5, pt b6 0), (6, iw ((seeF S.L x.buf).2)), (18, iw ((seeF S.L x.buf).2)), (19, bo false), (20, bo false)] [rBlk d [pt p 0, Value.slice q1 S.l.length c1, Value.slice q2 S.late.length c2, iw S.nxt, iw S.hv, iw S.last, bo S.gone] 52, rPool p ab S.L, rRowN (.slice q1 S.l.length c1) (pRows S.l) 61 5, rRowN (.slice q2 S.late.length c2) (pRows S.late) 61 5, rBlk b1 [iw x.off, iw x.buf, iw x.skip, iw x.size, bo x.fin] 61, rMine (.slice qh2 ((seeF S.L x.buf).1.head.length) ch3) ((seeF S.L x.buf).1.head) 5, rMine (.slice qd4 ((seeF S.L x.buf).1.data.length) cd5) ((seeF S.L x.buf).1.data) 5, rBlk b6 [iw ((seeF S.L x.buf).1.refs : Int), Value.slice qh2 ((seeF S.L x.buf).1.head.length) ch3, Value.slice qd4 ((seeF S.L x.buf).1.data.length) cd5] 75] ⟨rfl, rfl, rfl, rfl, rfl, rfl, (congrArg (fun x => some (Value.bool x)) h7), (congrArg (fun x => some (Value.bool x)) h7), trivial⟩ rfl ?_
      refine SL.rug rfl rfl rfl rfl (lt_b rfl) (ru_fieldAddr (o2 := 0) fd61_0 rfl rfl rfl) ?_
      refine SL.rug rfl rfl rfl rfl (lt_b rfl) (ru_load (i := 4) ts3 rfl rfl rfl rfl) ?_
      refine SL.rug rfl rfl rfl rfl (lt_b rfl) (ru_lt (b := (decide ((x.off : Int) < 0))) rfl rfl rfl rfl) ?_
      refine SL.ru rfl rfl (lt_b rfl) (ru_pick (u := bo true) (v := bo (decide ((x.off : Int) < 0))) rfl rfl rfl rfl) ?_
      exact SL.joined hK ⟨rfl, rfl, rfl, rfl, rfl, rfl, (congrArg (fun x => some (Value.bool x)) h7.symm), (congrArg (fun x => some (Value.bool x)) h7.symm), (congrArg (fun bx => some (Value.bool (bx || (decide ((x.off : Int) < 0))))) h7.symm), trivial⟩ rfl
  skip
  refine SL.ru rfl rfl (lt_b rfl) (ru_move rfl rfl) ?_
  refine SL.join 4 [(0, pt d 0), (3, pt b1 0), (4, bo false), (5, pt b6 0), (6, iw ((seeF S.L x.buf).2)), (18, iw ((seeF S.L x.buf).2)), (19, bo ((((seeF S.L x.buf).2) : Int) != 0)), (20, bo ((((seeF S.L x.buf).2) : Int) != 0)), (24, bo (((((seeF S.L x.buf).2) : Int) != 0) || (decide ((x.off : Int) < 0)))), (25, bo (((((seeF S.L x.buf).2) : Int) != 0) || (decide ((x.off : Int) < 0)))), (29, bo ((((((seeF S.L x.buf).2) : Int) != 0) || (decide ((x.off : Int) < 0))) || (decide ((x.skip : Int) < 0))))] [rBlk d [pt p 0, Value.slice q1 S.l.length c1, Value.slice q2 S.late.length c2, iw S.nxt, iw S.hv, iw S.last, bo S.gone] 52, rPool p ab S.L, rRowN (.slice q1 S.l.length c1) (pRows S.l) 61 5, rRowN (.slice q2 S.late.length c2) (pRows S.late) 61 5, rBlk b1 [iw x.off, iw x.buf, iw x.skip, iw x.size, bo x.fin] 61, rMine (.slice qh2 ((seeF S.L x.buf).1.head.length) ch3) ((seeF S.L x.buf).1.head) 5, rMine (.slice qd4 ((seeF S.L x.buf).1.data.length) cd5) ((seeF S.L x.buf).1.data) 5, rBlk b6 [iw ((seeF S.L x.buf).1.refs : Int), Value.slice qh2 ((seeF S.L x.buf).1.head.length) ch3, Value.slice qd4 ((seeF S.L x.buf).1.data.length) cd5] 75] ?_ ?_
  rotate_left
  · intro K hK
    rcases tf (((((seeF S.L x.buf).2) : Int) != 0) || (decide ((x.off : Int) < 0))) with h8 | h8
    · skip
      refine SL.norm [(0, pt d 0), (3, pt b1 0), (4, bo false), (5, pt b6 0), (6, iw ((seeF S.L x.buf).2)), (18, iw ((seeF S.L x.buf).2)), (19, bo ((((seeF S.L x.buf).2) : Int) != 0)), (20, bo ((((seeF S.L x.buf).2) : Int) != 0)), (24, bo true), (25, bo true)] [rBlk d [pt p 0, Value.slice q1 S.l.length c1, Value.slice q2 S.late.length c2, iw S.nxt, iw S.hv, iw S.last, bo S.gone] 52, rPool p ab S.L, rRowN (.slice q1 S.l.length c1) (pRows S.l) 61 5, rRowN (.slice q2 S.late.length c2) (pRows S.late) 61 5, rBlk b1 [iw x.off, iw x.buf, iw x.skip, iw x.size, bo x.fin] 61, rMine (.slice qh2 ((seeF S.L x.buf).1.head.length) ch3) ((seeF S.L x.buf).1.head) 5, rMine (.slice qd4 ((seeF S.L x.buf).1.data.length) cd5) ((seeF S.L x.buf).1.data) 5, rBlk b6 [iw ((seeF S.L x.buf).1.refs : Int), Value.slice qh2 ((seeF S.L x.buf).1.head.length) ch3, Value.slice qd4 ((seeF S.L x.buf).1.data.length) cd5] 75] ⟨rfl, rfl, rfl, rfl, rfl, rfl, rfl, rfl, (congrArg (fun x => some (Value.bool x)) h8), (congrArg (fun x => some (Value.bool x)) h8), trivial⟩ rfl ?_
      refine SL.off (b := true) rfl rfl rfl rfl rfl (lt_b rfl) ?_
      refine SL.off (b := true) rfl rfl rfl rfl rfl (lt_b rfl) ?_
      refine SL.off (b := true) rfl rfl rfl rfl rfl (lt_b rfl) ?_
      refine SL.ru rfl rfl (lt_b rfl) (ru_pick (u := bo true) (v := undef) rfl rfl rfl rfl) ?_
      exact SL.joined hK ⟨rfl, rfl, rfl, rfl, rfl, rfl, rfl, rfl, (congrArg (fun x => some (Value.bool x)) h8.symm), (congrArg (fun x => some (Value.bool x)) h8.symm), (congrArg (fun bx => some (Value.bool (bx || (decide ((x.skip : Int) < 0))))) h8.symm), trivial⟩ rfl
    · skip
      refine SL.norm [(0, pt d 0), (3, pt b1 0), (4, bo false), (5, pt b6 0), (6, iw ((seeF S.L x.buf).2)), (18, iw ((seeF S.L x.buf).2)), (19, bo ((((seeF S.L x.buf).2) : Int) != 0)), (20, bo ((((seeF S.L x.buf).2) : Int) != 0)), (24, bo false), (25, bo false)] [rBlk d [pt p 0, Value.slice q1 S.l.length c1, Value.slice q2 S.late.length c2, iw S.nxt, iw S.hv, iw S.last, bo S.gone] 52, rPool p ab S.L, rRowN (.slice q1 S.l.length c1) (pRows S.l) 61 5, rRowN (.slice q2 S.late.length c2) (pRows S.late) 61 5, rBlk b1 [iw x.off, iw x.buf, iw x.skip, iw x.size, bo x.fin] 61, rMine (.slice qh2 ((seeF S.L x.buf).1.head.length) ch3) ((seeF S.L x.buf).1.head) 5, rMine (.slice qd4 ((seeF S.L x.buf).1.data.length) cd5) ((seeF S.L x.buf).1.data) 5, rBlk b6 [iw ((seeF S.L x.buf).1.refs : Int), Value.slice qh2 ((seeF S.L x.buf).1.head.length) ch3, Value.slice qd4 ((seeF S.L x.buf).1.data.length) cd5] 75] ⟨rfl, rfl, rfl, rfl, rfl, rfl, rfl, rfl, (congrArg (fun x => some (Value.bool x)) h8), (congrArg (fun x => some (Value.bool x)) h8), trivial⟩ rfl ?_
      refine SL.rug rfl rfl rfl rfl (lt_b rfl) (ru_fieldAddr (o2 := 2) fd61_2 rfl rfl rfl) ?_
      refine SL.rug rfl rfl rfl rfl (lt_b rfl) (ru_load (i := 4) ts3 rfl rfl rfl rfl) ?_
      refine SL.rug rfl rfl rfl rfl (lt_b rfl) (ru_lt (b := (decide ((x.skip : Int) < 0))) rfl rfl rfl rfl) ?_
      refine SL.ru rfl rfl (lt_b rfl) (ru_pick (u := bo true) (v := bo (decide ((x.skip : Int) < 0))) rfl rfl rfl rfl) ?_
      exact SL.joined hK ⟨rfl, rfl, rfl, rfl, rfl, rfl, rfl, rfl, (congrArg (fun x => some (Value.bool x)) h8.symm), (congrArg (fun x => some (Value.bool x)) h8.symm), (congrArg (fun bx => some (Value.bool (bx || (decide ((x.skip : Int) < 0))))) h8.symm), trivial⟩ rfl
  skip
  refine SL.ru rfl rfl (lt_b rfl) (ru_move rfl rfl) ?_
  refine SL.join 4 [(0, pt d 0), (3, pt b1 0), (4, bo false), (5, pt b6 0), (6, iw ((seeF S.L x.buf).2)), (18, iw ((seeF S.L x.buf).2)), (19, bo ((((seeF S.L x.buf).2) : Int) != 0)), (20, bo ((((seeF S.L x.buf).2) : Int) != 0)), (24, bo (((((seeF S.L x.buf).2) : Int) != 0) || (decide ((x.off : Int) < 0)))), (25, bo (((((seeF S.L x.buf).2) : Int) != 0) || (decide ((x.off : Int) < 0)))), (29, bo ((((((seeF S.L x.buf).2) : Int) != 0) || (decide ((x.off : Int) < 0))) || (decide ((x.skip : Int) < 0)))), (30, bo ((((((seeF S.L x.buf).2) : Int) != 0) || (decide ((x.off : Int) < 0))) || (decide ((x.skip : Int) < 0)))), (34, bo (((((((seeF S.L x.buf).2) : Int) != 0) || (decide ((x.off : Int) < 0))) || (decide ((x.skip : Int) < 0))) || (decide ((x.size : Int) < 0))))] [rBlk d [pt p 0, Value.slice q1 S.l.length c1, Value.slice q2 S.late.length c2, iw S.nxt, iw S.hv, iw S.last, bo S.gone] 52, rPool p ab S.L, rRowN (.slice q1 S.l.length c1) (pRows S.l) 61 5, rRowN (.slice q2 S.late.length c2) (pRows S.late) 61 5, rBlk b1 [iw x.off, iw x.buf, iw x.skip, iw x.size, bo x.fin] 61, rMine (.slice qh2 ((seeF S.L x.buf).1.head.length) ch3) ((seeF S.L x.buf).1.head) 5, rMine (.slice qd4 ((seeF S.L x.buf).1.data.length) cd5) ((seeF S.L x.buf).1.data) 5, rBlk b6 [iw ((seeF S.L x.buf).1.refs : Int), Value.slice qh2 ((seeF S.L x.buf).1.head.length) ch3, Value.slice qd4 ((seeF S.L x.buf).1.data.length) cd5] 75] ?_ ?_
  rotate_left
  · intro K hK
    rcases tf ((((((seeF S.L x.buf).2) : Int) != 0) || (decide ((x.off : Int) < 0))) || (decide ((x.skip : Int) < 0))) with h9 | h9
    · skip
      refine SL.norm [(0, pt d 0), (3, pt b1 0), (4, bo false), (5, pt b6 0), (6, iw ((seeF S.L x.buf).2)), (18, iw ((seeF S.L x.buf).2)), (19, bo ((((seeF S.L x.buf).2) : Int) != 0)), (20, bo ((((seeF S.L x.buf).2) : Int) != 0)), (24, bo (((((seeF S.L x.buf).2) : Int) != 0) || (decide ((x.off : Int) < 0)))), (25, bo (((((seeF S.L x.buf).2) : Int) != 0) || (decide ((x.off : Int) < 0)))), (29, bo true), (30, bo true)] [rBlk d [pt p 0, Value.slice q1 S.l.length c1, Value.slice q2 S.late.length c2, iw S.nxt, iw S.hv, iw S.last, bo S.gone] 52, rPool p ab S.L, rRowN (.slice q1 S.l.length c1) (pRows S.l) 61 5, rRowN (.slice q2 S.late.length c2) (pRows S.late) 61 5, rBlk b1 [iw x.off, iw x.buf, iw x.skip, iw x.size, bo x.fin] 61, rMine (.slice qh2 ((seeF S.L x.buf).1.head.length) ch3) ((seeF S.L x.buf).1.head) 5, rMine (.slice qd4 ((seeF S.L x.buf).1.data.length) cd5) ((seeF S.L x.buf).1.data) 5, rBlk b6 [iw ((seeF S.L x.buf).1.refs : Int), Value.slice qh2 ((seeF S.L x.buf).1.head.length) ch3, Value.slice qd4 ((seeF S.L x.buf).1.data.length) cd5] 75] ⟨rfl, rfl, rfl, rfl, rfl, rfl, rfl, rfl, rfl, rfl, (congrArg (fun x => some (Value.bool x)) h9), (congrArg (fun x => some (Value.bool x)) h9), trivial⟩ rfl ?_
      refine SL.off (b := true) rfl rfl rfl rfl rfl (lt_b rfl) ?_
      refine SL.off (b := true) rfl rfl rfl rfl rfl (lt_b rfl) ?_
      refine SL.off (b := true) rfl rfl rfl rfl rfl (lt_b rfl) ?_
      refine SL.ru rfl rfl (lt_b rfl) (ru_pick (u := bo true) (v := undef) rfl rfl rfl rfl) ?_
      exact SL.joined hK ⟨rfl, rfl, rfl, rfl, rfl, rfl, rfl, rfl, rfl, rfl, (congrArg (fun x => some (Value.bool x)) h9.symm), (congrArg (fun x => some (Value.bool x)) h9.symm), (congrArg (fun bx => some (Value.bool (bx || (decide ((x.size : Int) < 0))))) h9.symm), trivial⟩ rfl
    · skip
      refine SL.norm [(0, pt d 0), (3, pt b1 0), (4, bo false), (5, pt b6 0), (6, iw ((seeF S.L x.buf).2)), (18, iw ((seeF S.L x.buf).2)), (19, bo ((((seeF S.L x.buf).2) : Int) != 0)), (20, bo ((((seeF S.L x.buf).2) : Int) != 0)), (24, bo (((((seeF S.L x.buf).2) : Int) != 0) || (decide ((x.off : Int) < 0)))), (25, bo (((((seeF S.L x.buf).2) : Int) != 0) || (decide ((x.off : Int) < 0)))), (29, bo false), (30, bo false)] [rBlk d [pt p 0, Value.slice q1 S.l.length c1, Value.slice q2 S.late.length c2, iw S.nxt, iw S.hv, iw S.last, bo S.gone] 52, rPool p ab S.L, rRowN (.slice q1 S.l.length c1) (pRows S.l) 61 5, rRowN (.slice q2 S.late.length c2) (pRows S.late) 61 5, rBlk b1 [iw x.off, iw x.buf, iw x.skip, iw x.size, bo x.fin] 61, rMine (.slice qh2 ((seeF S.L x.buf).1.head.length) ch3) ((seeF S.L x.buf).1.head) 5, rMine (.slice qd4 ((seeF S.L x.buf).1.data.length) cd5) ((seeF S.L x.buf).1.data) 5, rBlk b6 [iw ((seeF S.L x.buf).1.refs : Int), Value.slice qh2 ((seeF S.L x.buf).1.head.length) ch3, Value.slice qd4 ((seeF S.L x.buf).1.data.length) cd5] 75] ⟨rfl, rfl, rfl, rfl, rfl, rfl, rfl, rfl, rfl, rfl, (congrArg (fun x => some (Value.bool x)) h9), (congrArg (fun x => some (Value.bool x)) h9), trivial⟩ rfl ?_
      refine SL.rug rfl rfl rfl rfl (lt_b rfl) (ru_fieldAddr (o2 := 3) fd61_3 rfl rfl rfl) ?_
      refine SL.rug rfl rfl rfl rfl (lt_b rfl) (ru_load (i := 4) ts3 rfl rfl rfl rfl) ?_
      refine SL.rug rfl rfl rfl rfl (lt_b rfl) (ru_lt (b := (decide ((x.size : Int) < 0))) rfl rfl rfl rfl) ?_
      refine SL.ru rfl rfl (lt_b rfl) (ru_pick (u := bo true) (v := bo (decide ((x.size : Int) < 0))) rfl rfl rfl rfl) ?_
      exact SL.joined hK ⟨rfl, rfl, rfl, rfl, rfl, rfl, rfl, rfl, rfl, rfl, (congrArg (fun x => some (Value.bool x)) h9.symm), (congrArg (fun x => some (Value.bool x)) h9.symm), (congrArg (fun bx => some (Value.bool (bx || (decide ((x.size : Int) < 0))))) h9.symm), trivial⟩ rfl
  skip
  refine SL.ru rfl rfl (lt_b rfl) (ru_move rfl rfl) ?_
  refine SL.join 7 [(0, pt d 0), (3, pt b1 0), (4, bo false), (5, pt b6 0), (6, iw ((seeF S.L x.buf).2)), (18, iw ((seeF S.L x.buf).2)), (19, bo ((((seeF S.L x.buf).2) : Int) != 0)), (20, bo ((((seeF S.L x.buf).2) : Int) != 0)), (24, bo (((((seeF S.L x.buf).2) : Int) != 0) || (decide ((x.off : Int) < 0)))), (25, bo (((((seeF S.L x.buf).2) : Int) != 0) || (decide ((x.off : Int) < 0)))), (29, bo ((((((seeF S.L x.buf).2) : Int) != 0) || (decide ((x.off : Int) < 0))) || (decide ((x.skip : Int) < 0)))), (30, bo ((((((seeF S.L x.buf).2) : Int) != 0) || (decide ((x.off : Int) < 0))) || (decide ((x.skip : Int) < 0)))), (34, bo (((((((seeF S.L x.buf).2) : Int) != 0) || (decide ((x.off : Int) < 0))) || (decide ((x.skip : Int) < 0))) || (decide ((x.size : Int) < 0)))), (35, bo (((((((seeF S.L x.buf).2) : Int) != 0) || (decide ((x.off : Int) < 0))) || (decide ((x.skip : Int) < 0))) || (decide ((x.size : Int) < 0)))), (42, bo ((((((((seeF S.L x.buf).2) : Int) != 0) || (decide ((x.off : Int) < 0))) || (decide ((x.skip : Int) < 0))) || (decide ((x.size : Int) < 0))) || (decide ((((seeF S.L x.buf).1.data.length : Int) : Int) < x.skip))))] [rBlk d [pt p 0, Value.slice q1 S.l.length c1, Value.slice q2 S.late.length c2, iw S.nxt, iw S.hv, iw S.last, bo S.gone] 52, rPool p ab S.L, rRowN (.slice q1 S.l.length c1) (pRows S.l) 61 5, rRowN (.slice q2 S.late.length c2) (pRows S.late) 61 5, rBlk b1 [iw x.off, iw x.buf, iw x.skip, iw x.size, bo x.fin] 61, rMine (.slice qh2 ((seeF S.L x.buf).1.head.length) ch3) ((seeF S.L x.buf).1.head) 5, rMine (.slice qd4 ((seeF S.L x.buf).1.data.length) cd5) ((seeF S.L x.buf).1.data) 5, rBlk b6 [iw ((seeF S.L x.buf).1.refs : Int), Value.slice qh2 ((seeF S.L x.buf).1.head.length) ch3, Value.slice qd4 ((seeF S.L x.buf).1.data.length) cd5] 75] ?_ ?_
  rotate_left
  · intro K hK
    rcases tf (((((((seeF S.L x.buf).2) : Int) != 0) || (decide ((x.off : Int) < 0))) || (decide ((x.skip : Int) < 0))) || (decide ((x.size : Int) < 0))) with h10 | h10
    · skip
      refine SL.norm [(0, pt d 0), (3, pt b1 0), (4, bo false), (5, pt b6 0), (6, iw ((seeF S.L x.buf).2)), (18, iw ((seeF S.L x.buf).2)), (19, bo ((((seeF S.L x.buf).2) : Int) != 0)), (20, bo ((((seeF S.L x.buf).2) : Int) != 0)), (24, bo (((((seeF S.L x.buf).2) : Int) != 0) || (decide ((x.off : Int) < 0)))), (25, bo (((((seeF S.L x.buf).2) : Int) != 0) || (decide ((x.off : Int) < 0)))), (29, bo ((((((seeF S.L x.buf).2) : Int) != 0) || (decide ((x.off : Int) < 0))) || (decide ((x.skip : Int) < 0)))), (30, bo ((((((seeF S.L x.buf).2) : Int) != 0) || (decide ((x.off : Int) < 0))) || (decide ((x.skip : Int) < 0)))), (34, bo true), (35, bo true)] [rBlk d [pt p 0, Value.slice q1 S.l.length c1, Value.slice q2 S.late.length c2, iw S.nxt, iw S.hv, iw S.last, bo S.gone] 52, rPool p ab S.L, rRowN (.slice q1 S.l.length c1) (pRows S.l) 61 5, rRowN (.slice q2 S.late.length c2) (pRows S.late) 61 5, rBlk b1 [iw x.off, iw x.buf, iw x.skip, iw x.size, bo x.fin] 61, rMine (.slice qh2 ((seeF S.L x.buf).1.head.length) ch3) ((seeF S.L x.buf).1.head) 5, rMine (.slice qd4 ((seeF S.L x.buf).1.data.length) cd5) ((seeF S.L x.buf).1.data) 5, rBlk b6 [iw ((seeF S.L x.buf).1.refs : Int), Value.slice qh2 ((seeF S.L x.buf).1.head.length) ch3, Value.slice qd4 ((seeF S.L x.buf).1.data.length) cd5] 75] ⟨rfl, rfl, rfl, rfl, rfl, rfl, rfl, rfl, rfl, rfl, rfl, rfl, (congrArg (fun x => some (Value.bool x)) h10), (congrArg (fun x => some (Value.bool x)) h10), trivial⟩ rfl ?_
      refine SL.off (b := true) rfl rfl rfl rfl rfl (lt_b rfl) ?_
      refine SL.off (b := true) rfl rfl rfl rfl rfl (lt_b rfl) ?_
      refine SL.off (b := true) rfl rfl rfl rfl rfl (lt_b rfl) ?_
      refine SL.off (b := true) rfl rfl rfl rfl rfl (lt_b rfl) ?_
      refine SL.off (b := true) rfl rfl rfl rfl rfl (lt_b rfl) ?_
      refine SL.off (b := true) rfl rfl rfl rfl rfl (lt_b rfl) ?_
      refine SL.ru rfl rfl (lt_b rfl) (ru_pick (u := bo true) (v := undef) rfl rfl rfl rfl) ?_
      exact SL.joined hK ⟨rfl, rfl, rfl, rfl, rfl, rfl, rfl, rfl, rfl, rfl, rfl, rfl, (congrArg (fun x => some (Value.bool x)) h10.symm), (congrArg (fun x => some (Value.bool x)) h10.symm), (congrArg (fun bx => some (Value.bool (bx || (decide ((((seeF S.L x.buf).1.data.length : Int) : Int) < x.skip))))) h10.symm), trivial⟩ rfl
    · skip
      refine SL.norm [(0, pt d 0), (3, pt b1 0), (4, bo false), (5, pt b6 0), (6, iw ((seeF S.L x.buf).2)), (18, iw ((seeF S.L x.buf).2)), (19, bo ((((seeF S.L x.buf).2) : Int) != 0)), (20, bo ((((seeF S.L x.buf).2) : Int) != 0)), (24, bo (((((seeF S.L x.buf).2) : Int) != 0) || (decide ((x.off : Int) < 0)))), (25, bo (((((seeF S.L x.buf).2) : Int) != 0) || (decide ((x.off : Int) < 0)))), (29, bo ((((((seeF S.L x.buf).2) : Int) != 0) || (decide ((x.off : Int) < 0))) || (decide ((x.skip : Int) < 0)))), (30, bo ((((((seeF S.L x.buf).2) : Int) != 0) || (decide ((x.off : Int) < 0))) || (decide ((x.skip : Int) < 0)))), (34, bo false), (35, bo false)] [rBlk d [pt p 0, Value.slice q1 S.l.length c1, Value.slice q2 S.late.length c2, iw S.nxt, iw S.hv, iw S.last, bo S.gone] 52, rPool p ab S.L, rRowN (.slice q1 S.l.length c1) (pRows S.l) 61 5, rRowN (.slice q2 S.late.length c2) (pRows S.late) 61 5, rBlk b1 [iw x.off, iw x.buf, iw x.skip, iw x.size, bo x.fin] 61, rMine (.slice qh2 ((seeF S.L x.buf).1.head.length) ch3) ((seeF S.L x.buf).1.head) 5, rMine (.slice qd4 ((seeF S.L x.buf).1.data.length) cd5) ((seeF S.L x.buf).1.data) 5, rBlk b6 [iw ((seeF S.L x.buf).1.refs : Int), Value.slice qh2 ((seeF S.L x.buf).1.head.length) ch3, Value.slice qd4 ((seeF S.L x.buf).1.data.length) cd5] 75] ⟨rfl, rfl, rfl, rfl, rfl, rfl, rfl, rfl, rfl, rfl, rfl, rfl, (congrArg (fun x => some (Value.bool x)) h10), (congrArg (fun x => some (Value.bool x)) h10), trivial⟩ rfl ?_
      refine SL.rug rfl rfl rfl rfl (lt_b rfl) (ru_fieldAddr (o2 := 2) fd61_2 rfl rfl rfl) ?_
      refine SL.rug rfl rfl rfl rfl (lt_b rfl) (ru_load (i := 4) ts3 rfl rfl rfl rfl) ?_
      refine SL.rug rfl rfl rfl rfl (lt_b rfl) (ru_fieldAddr (o2 := 2) fd75_2 rfl rfl rfl) ?_
      refine SL.rug rfl rfl rfl rfl (lt_b rfl) (ru_load (i := 7) ts22 rfl rfl rfl rfl) ?_
      refine SL.rug rfl rfl rfl rfl (lt_b rfl) (ru_len Try.underlying22 rfl rfl) ?_
      refine SL.rug rfl rfl rfl rfl (lt_b rfl) (ru_gt (b := (decide ((((seeF S.L x.buf).1.data.length : Int) : Int) < x.skip))) rfl rfl rfl rfl) ?_
      refine SL.ru rfl rfl (lt_b rfl) (ru_pick (u := bo true) (v := bo (decide ((((seeF S.L x.buf).1.data.length : Int) : Int) < x.skip))) rfl rfl rfl rfl) ?_
      exact SL.joined hK ⟨rfl, rfl, rfl, rfl, rfl, rfl, rfl, rfl, rfl, rfl, rfl, rfl, (congrArg (fun x => some (Value.bool x)) h10.symm), (congrArg (fun x => some (Value.bool x)) h10.symm), (congrArg (fun bx => some (Value.bool (bx || (decide ((((seeF S.L x.buf).1.data.length : Int) : Int) < x.skip))))) h10.symm), trivial⟩ rfl
  skip
  refine SL.ru rfl rfl (lt_b rfl) (ru_move rfl rfl) ?_
  refine SL.join 10 [(0, pt d 0), (3, pt b1 0), (4, bo false), (5, pt b6 0), (6, iw ((seeF S.L x.buf).2)), (18, iw ((seeF S.L x.buf).2)), (19, bo ((((seeF S.L x.buf).2) : Int) != 0)), (20, bo ((((seeF S.L x.buf).2) : Int) != 0)), (24, bo (((((seeF S.L x.buf).2) : Int) != 0) || (decide ((x.off : Int) < 0)))), (25, bo (((((seeF S.L x.buf).2) : Int) != 0) || (decide ((x.off : Int) < 0)))), (29, bo ((((((seeF S.L x.buf).2) : Int) != 0) || (decide ((x.off : Int) < 0))) || (decide ((x.skip : Int) < 0)))), (30, bo ((((((seeF S.L x.buf).2) : Int) != 0) || (decide ((x.off : Int) < 0))) || (decide ((x.skip : Int) < 0)))), (34, bo (((((((seeF S.L x.buf).2) : Int) != 0) || (decide ((x.off : Int) < 0))) || (decide ((x.skip : Int) < 0))) || (decide ((x.size : Int) < 0)))), (35, bo (((((((seeF S.L x.buf).2) : Int) != 0) || (decide ((x.off : Int) < 0))) || (decide ((x.skip : Int) < 0))) || (decide ((x.size : Int) < 0)))), (42, bo ((((((((seeF S.L x.buf).2) : Int) != 0) || (decide ((x.off : Int) < 0))) || (decide ((x.skip : Int) < 0))) || (decide ((x.size : Int) < 0))) || (decide ((((seeF S.L x.buf).1.data.length : Int) : Int) < x.skip)))), (43, bo ((((((((seeF S.L x.buf).2) : Int) != 0) || (decide ((x.off : Int) < 0))) || (decide ((x.skip : Int) < 0))) || (decide ((x.size : Int) < 0))) || (decide ((((seeF S.L x.buf).1.data.length : Int) : Int) < x.skip)))), (53, bo (((((((((seeF S.L x.buf).2) : Int) != 0) || (decide ((x.off : Int) < 0))) || (decide ((x.skip : Int) < 0))) || (decide ((x.size : Int) < 0))) || (decide ((((seeF S.L x.buf).1.data.length : Int) : Int) < x.skip))) || (decide (((IntKind.i64.wrap (((seeF S.L x.buf).1.data.length : Int) - x.skip)) : Int) < x.size))))] [rBlk d [pt p 0, Value.slice q1 S.l.length c1, Value.slice q2 S.late.length c2, iw S.nxt, iw S.hv, iw S.last, bo S.gone] 52, rPool p ab S.L, rRowN (.slice q1 S.l.length c1) (pRows S.l) 61 5, rRowN (.slice q2 S.late.length c2) (pRows S.late) 61 5, rBlk b1 [iw x.off, iw x.buf, iw x.skip, iw x.size, bo x.fin] 61, rMine (.slice qh2 ((seeF S.L x.buf).1.head.length) ch3) ((seeF S.L x.buf).1.head) 5, rMine (.slice qd4 ((seeF S.L x.buf).1.data.length) cd5) ((seeF S.L x.buf).1.data) 5, rBlk b6 [iw ((seeF S.L x.buf).1.refs : Int), Value.slice qh2 ((seeF S.L x.buf).1.head.length) ch3, Value.slice qd4 ((seeF S.L x.buf).1.data.length) cd5] 75] ?_ ?_
  rotate_left
  · intro K hK
    rcases tf ((((((((seeF S.L x.buf).2) : Int) != 0) || (decide ((x.off : Int) < 0))) || (decide ((x.skip : Int) < 0))) || (decide ((x.size : Int) < 0))) || (decide ((((seeF S.L x.buf).1.data.length : Int) : Int) < x.skip))) with h11 | h11
    · skip
      refine SL.norm [(0, pt d 0), (3, pt b1 0), (4, bo false), (5, pt b6 0), (6, iw ((seeF S.L x.buf).2)), (18, iw ((seeF S.L x.buf).2)), (19, bo ((((seeF S.L x.buf).2) : Int) != 0)), (20, bo ((((seeF S.L x.buf).2) : Int) != 0)), (24, bo (((((seeF S.L x.buf).2) : Int) != 0) || (decide ((x.off : Int) < 0)))), (25, bo (((((seeF S.L x.buf).2) : Int) != 0) || (decide ((x.off : Int) < 0)))), (29, bo ((((((seeF S.L x.buf).2) : Int) != 0) || (decide ((x.off : Int) < 0))) || (decide ((x.skip : Int) < 0)))), (30, bo ((((((seeF S.L x.buf).2) : Int) != 0) || (decide ((x.off : Int) < 0))) || (decide ((x.skip : Int) < 0)))), (34, bo (((((((seeF S.L x.buf).2) : Int) != 0) || (decide ((x.off : Int) < 0))) || (decide ((x.skip : Int) < 0))) || (decide ((x.size : Int) < 0)))), (35, bo (((((((seeF S.L x.buf).2) : Int) != 0) || (decide ((x.off : Int) < 0))) || (decide ((x.skip : Int) < 0))) || (decide ((x.size : Int) < 0)))), (42, bo true), (43, bo true)] [rBlk d [pt p 0, Value.slice q1 S.l.length c1, Value.slice q2 S.late.length c2, iw S.nxt, iw S.hv, iw S.last, bo S.gone] 52, rPool p ab S.L, rRowN (.slice q1 S.l.length c1) (pRows S.l) 61 5, rRowN (.slice q2 S.late.length c2) (pRows S.late) 61 5, rBlk b1 [iw x.off, iw x.buf, iw x.skip, iw x.size, bo x.fin] 61, rMine (.slice qh2 ((seeF S.L x.buf).1.head.length) ch3) ((seeF S.L x.buf).1.head) 5, rMine (.slice qd4 ((seeF S.L x.buf).1.data.length) cd5) ((seeF S.L x.buf).1.data) 5, rBlk b6 [iw ((seeF S.L x.buf).1.refs : Int), Value.slice qh2 ((seeF S.L x.buf).1.head.length) ch3, Value.slice qd4 ((seeF S.L x.buf).1.data.length) cd5] 75] ⟨rfl, rfl, rfl, rfl, rfl, rfl, rfl, rfl, rfl, rfl, rfl, rfl, rfl, rfl, (congrArg (fun x => some (Value.bool x)) h11), (congrArg (fun x => some (Value.bool x)) h11), trivial⟩ rfl ?_
      refine SL.off (b := true) rfl rfl rfl rfl rfl (lt_b rfl) ?_
      refine SL.off (b := true) rfl rfl rfl rfl rfl (lt_b rfl) ?_
      refine SL.off (b := true) rfl rfl rfl rfl rfl (lt_b rfl) ?_
      refine SL.off (b := true) rfl rfl rfl rfl rfl (lt_b rfl) ?_
      refine SL.off (b := true) rfl rfl rfl rfl rfl (lt_b rfl) ?_
      refine SL.off (b := true) rfl rfl rfl rfl rfl (lt_b rfl) ?_
      refine SL.off (b := true) rfl rfl rfl rfl rfl (lt_b rfl) ?_
      refine SL.off (b := true) rfl rfl rfl rfl rfl (lt_b rfl) ?_
      refine SL.off (b := true) rfl rfl rfl rfl rfl (lt_b rfl) ?_
      refine SL.ru rfl rfl (lt_b rfl) (ru_pick (u := bo true) (v := undef) rfl rfl rfl rfl) ?_
      exact SL.joined hK ⟨rfl, rfl, rfl, rfl, rfl, rfl, rfl, rfl, rfl, rfl, rfl, rfl, rfl, rfl, (congrArg (fun x => some (Value.bool x)) h11.symm), (congrArg (fun x => some (Value.bool x)) h11.symm), (congrArg (fun bx => some (Value.bool (bx || (decide (((IntKind.i64.wrap (((seeF S.L x.buf).1.data.length : Int) - x.skip)) : Int) < x.size))))) h11.symm), trivial⟩ rfl
    · skip
      refine SL.norm [(0, pt d 0), (3, pt b1 0), (4, bo false), (5, pt b6 0), (6, iw ((seeF S.L x.buf).2)), (18, iw ((seeF S.L x.buf).2)), (19, bo ((((seeF S.L x.buf).2) : Int) != 0)), (20, bo ((((seeF S.L x.buf).2) : Int) != 0)), (24, bo (((((seeF S.L x.buf).2) : Int) != 0) || (decide ((x.off : Int) < 0)))), (25, bo (((((seeF S.L x.buf).2) : Int) != 0) || (decide ((x.off : Int) < 0)))), (29, bo ((((((seeF S.L x.buf).2) : Int) != 0) || (decide ((x.off : Int) < 0))) || (decide ((x.skip : Int) < 0)))), (30, bo ((((((seeF S.L x.buf).2) : Int) != 0) || (decide ((x.off : Int) < 0))) || (decide ((x.skip : Int) < 0)))), (34, bo (((((((seeF S.L x.buf).2) : Int) != 0) || (decide ((x.off : Int) < 0))) || (decide ((x.skip : Int) < 0))) || (decide ((x.size : Int) < 0)))), (35, bo (((((((seeF S.L x.buf).2) : Int) != 0) || (decide ((x.off : Int) < 0))) || (decide ((x.skip : Int) < 0))) || (decide ((x.size : Int) < 0)))), (42, bo false), (43, bo false)] [rBlk d [pt p 0, Value.slice q1 S.l.length c1, Value.slice q2 S.late.length c2, iw S.nxt, iw S.hv, iw S.last, bo S.gone] 52, rPool p ab S.L, rRowN (.slice q1 S.l.length c1) (pRows S.l) 61 5, rRowN (.slice q2 S.late.length c2) (pRows S.late) 61 5, rBlk b1 [iw x.off, iw x.buf, iw x.skip, iw x.size, bo x.fin] 61, rMine (.slice qh2 ((seeF S.L x.buf).1.head.length) ch3) ((seeF S.L x.buf).1.head) 5, rMine (.slice qd4 ((seeF S.L x.buf).1.data.length) cd5) ((seeF S.L x.buf).1.data) 5, rBlk b6 [iw ((seeF S.L x.buf).1.refs : Int), Value.slice qh2 ((seeF S.L x.buf).1.head.length) ch3, Value.slice qd4 ((seeF S.L x.buf).1.data.length) cd5] 75] ⟨rfl, rfl, rfl, rfl, rfl, rfl, rfl, rfl, rfl, rfl, rfl, rfl, rfl, rfl, (congrArg (fun x => some (Value.bool x)) h11), (congrArg (fun x => some (Value.bool x)) h11), trivial⟩ rfl ?_
      refine SL.rug rfl rfl rfl rfl (lt_b rfl) (ru_fieldAddr (o2 := 3) fd61_3 rfl rfl rfl) ?_
      refine SL.rug rfl rfl rfl rfl (lt_b rfl) (ru_load (i := 4) ts3 rfl rfl rfl rfl) ?_
      refine SL.rug rfl rfl rfl rfl (lt_b rfl) (ru_fieldAddr (o2 := 2) fd75_2 rfl rfl rfl) ?_
      refine SL.rug rfl rfl rfl rfl (lt_b rfl) (ru_load (i := 7) ts22 rfl rfl rfl rfl) ?_
      refine SL.rug rfl rfl rfl rfl (lt_b rfl) (ru_len Try.underlying22 rfl rfl) ?_
      refine SL.rug rfl rfl rfl rfl (lt_b rfl) (ru_fieldAddr (o2 := 2) fd61_2 rfl rfl rfl) ?_
      refine SL.rug rfl rfl rfl rfl (lt_b rfl) (ru_load (i := 4) ts3 rfl rfl rfl rfl) ?_
      refine SL.rug rfl rfl rfl rfl (lt_b rfl) (ru_sub (r := (IntKind.i64.wrap (((seeF S.L x.buf).1.data.length : Int) - x.skip))) rfl rfl rfl rfl) ?_
      refine SL.rug rfl rfl rfl rfl (lt_b rfl) (ru_gt (b := (decide (((IntKind.i64.wrap (((seeF S.L x.buf).1.data.length : Int) - x.skip)) : Int) < x.size))) rfl rfl rfl rfl) ?_
      refine SL.ru rfl rfl (lt_b rfl) (ru_pick (u := bo true) (v := bo (decide (((IntKind.i64.wrap (((seeF S.L x.buf).1.data.length : Int) - x.skip)) : Int) < x.size))) rfl rfl rfl rfl) ?_
      exact SL.joined hK ⟨rfl, rfl, rfl, rfl, rfl, rfl, rfl, rfl, rfl, rfl, rfl, rfl, rfl, rfl, (congrArg (fun x => some (Value.bool x)) h11.symm), (congrArg (fun x => some (Value.bool x)) h11.symm), (congrArg (fun bx => some (Value.bool (bx || (decide (((IntKind.i64.wrap (((seeF S.L x.buf).1.data.length : Int) - x.skip)) : Int) < x.size))))) h11.symm), trivial⟩ rfl
  skip
  refine SL.ru rfl rfl (lt_b rfl) (ru_assign rfl rfl) ?_
  refine SL.nil ?_
  refine SC.of_SE ?_
  refine SC.norm [(0, pt d 0), (3, pt b1 0), (4, bo false), (17, bo (((((((((seeF S.L x.buf).2) : Int) != 0) || (decide ((x.off : Int) < 0))) || (decide ((x.skip : Int) < 0))) || (decide ((x.size : Int) < 0))) || (decide ((((seeF S.L x.buf).1.data.length : Int) : Int) < x.skip))) || (decide (((IntKind.i64.wrap (((seeF S.L x.buf).1.data.length : Int) - x.skip)) : Int) < x.size))))] [rBlk d [pt p 0, Value.slice q1 S.l.length c1, Value.slice q2 S.late.length c2, iw S.nxt, iw S.hv, iw S.last, bo S.gone] 52, rPool p ab S.L, rRowN (.slice q1 S.l.length c1) (pRows S.l) 61 5, rRowN (.slice q2 S.late.length c2) (pRows S.late) 61 5, rBlk b1 [iw x.off, iw x.buf, iw x.skip, iw x.size, bo x.fin] 61, rMine (.slice qh2 ((seeF S.L x.buf).1.head.length) ch3) ((seeF S.L x.buf).1.head) 5, rMine (.slice qd4 ((seeF S.L x.buf).1.data.length) cd5) ((seeF S.L x.buf).1.data) 5, rBlk b6 [iw ((seeF S.L x.buf).1.refs : Int), Value.slice qh2 ((seeF S.L x.buf).1.head.length) ch3, Value.slice qd4 ((seeF S.L x.buf).1.data.length) cd5] 75] ⟨rfl, rfl, rfl, rfl, trivial⟩ rfl ?_
  refine SC.both (((((((((seeF S.L x.buf).2) : Int) != 0) || (decide ((x.off : Int) < 0))) || (decide ((x.skip : Int) < 0))) || (decide ((x.size : Int) < 0))) || (decide ((((seeF S.L x.buf).1.data.length : Int) : Int) < x.skip))) || (decide (((IntKind.i64.wrap (((seeF S.L x.buf).1.data.length : Int) - x.skip)) : Int) < x.size))) rfl (fun h12 => ?_) (fun h12 => ?_)
  · skip
    refine SC.seq ?_
    refine SC.region ?_
    refine SL.ru rfl rfl (lt_b rfl) (ru_assign rfl rfl) ?_
    refine SL.nil ?_
    refine SC.of_SE ?_
    refine SC.norm [(0, pt d 0), (3, pt b1 0), (4, bo false)] [rBlk d [pt p 0, Value.slice q1 S.l.length c1, Value.slice q2 S.late.length c2, iw S.nxt, iw S.hv, iw S.last, bo S.gone] 52, rPool p ab S.L, rRowN (.slice q1 S.l.length c1) (pRows S.l) 61 5, rRowN (.slice q2 S.late.length c2) (pRows S.late) 61 5, rBlk b1 [iw x.off, iw x.buf, iw x.skip, iw x.size, bo x.fin] 61, rMine (.slice qh2 ((seeF S.L x.buf).1.head.length) ch3) ((seeF S.L x.buf).1.head) 5, rMine (.slice qd4 ((seeF S.L x.buf).1.data.length) cd5) ((seeF S.L x.buf).1.data) 5, rBlk b6 [iw ((seeF S.L x.buf).1.refs : Int), Value.slice qh2 ((seeF S.L x.buf).1.head.length) ch3, Value.slice qd4 ((seeF S.L x.buf).1.data.length) cd5] 75] ⟨rfl, rfl, rfl, trivial⟩ rfl ?_
    refine SC.ret ?_
    refine SE.blkr ?_
    refine SE.passr ?_
    refine SE.res (.inl rfl) (res1 Try.results18 rfl) fun w1 hI => ⟨ret_bo (Eq.symm ?_), hI.2⟩
    unfold fitsF
    rw [if_pos h12]
  · skip
    refine SC.seq ?_
    refine SC.region_quiet (by kernel_rfl) (by kernel_rfl) ?_
    refine SQ.ru rfl rfl (lt_b rfl) (ru_move rfl rfl) ?_
    refine SQ.ru rfl rfl (lt_b rfl) (ru_nilCheck rfl rfl) ?_
    refine SQ.ru rfl rfl (lt_b rfl) (ru_fieldAddr (o2 := 6) fd52_6 rfl rfl rfl) ?_
    refine SQ.ru rfl rfl (lt_b rfl) (ru_load (i := 0) ts4 rfl rfl rfl rfl) ?_
    refine SQ.ru rfl rfl (lt_b rfl) (ru_move rfl rfl) ?_
    refine SQ.join 3 [(0, pt d 0), (3, pt b1 0), (4, bo false), (17, bo (((((((((seeF S.L x.buf).2) : Int) != 0) || (decide ((x.off : Int) < 0))) || (decide ((x.skip : Int) < 0))) || (decide ((x.size : Int) < 0))) || (decide ((((seeF S.L x.buf).1.data.length : Int) : Int) < x.skip))) || (decide (((IntKind.i64.wrap (((seeF S.L x.buf).1.data.length : Int) - x.skip)) : Int) < x.size)))), (55, pt d 0), (56, pt d 0), (57, pt d 6), (58, bo S.gone), (59, bo S.gone), (62, bo (S.gone || (endedF S)))] ?_ ?_
    rotate_left
    · intro K hK
      rcases tf S.gone with h13 | h13
      · skip
        refine SQ.norm [(0, pt d 0), (3, pt b1 0), (4, bo false), (17, bo (((((((((seeF S.L x.buf).2) : Int) != 0) || (decide ((x.off : Int) < 0))) || (decide ((x.skip : Int) < 0))) || (decide ((x.size : Int) < 0))) || (decide ((((seeF S.L x.buf).1.data.length : Int) : Int) < x.skip))) || (decide (((IntKind.i64.wrap (((seeF S.L x.buf).1.data.length : Int) - x.skip)) : Int) < x.size)))), (55, pt d 0), (56, pt d 0), (57, pt d 6), (58, bo true), (59, bo true)] ⟨rfl, rfl, rfl, rfl, rfl, rfl, rfl, (congrArg (fun x => some (Value.bool x)) h13), (congrArg (fun x => some (Value.bool x)) h13), trivial⟩ ?_
        refine SQ.off (b := true) rfl rfl rfl rfl rfl (lt_b rfl) ?_
        refine SQ.off (b := true) rfl rfl rfl rfl rfl (lt_b rfl) ?_
        refine SQ.ru rfl rfl (lt_b rfl) (ru_pick (u := bo true) (v := undef) rfl rfl rfl rfl) ?_
        exact SQ.joined hK ⟨rfl, rfl, rfl, rfl, rfl, rfl, rfl, (congrArg (fun x => some (Value.bool x)) h13.symm), (congrArg (fun x => some (Value.bool x)) h13.symm), (congrArg (fun bx => some (Value.bool (bx || (endedF S)))) h13.symm), trivial⟩
      · skip
        refine SQ.norm [(0, pt d 0), (3, pt b1 0), (4, bo false), (17, bo (((((((((seeF S.L x.buf).2) : Int) != 0) || (decide ((x.off : Int) < 0))) || (decide ((x.skip : Int) < 0))) || (decide ((x.size : Int) < 0))) || (decide ((((seeF S.L x.buf).1.data.length : Int) : Int) < x.skip))) || (decide (((IntKind.i64.wrap (((seeF S.L x.buf).1.data.length : Int) - x.skip)) : Int) < x.size)))), (55, pt d 0), (56, pt d 0), (57, pt d 6), (58, bo false), (59, bo false)] ⟨rfl, rfl, rfl, rfl, rfl, rfl, rfl, (congrArg (fun x => some (Value.bool x)) h13), (congrArg (fun x => some (Value.bool x)) h13), trivial⟩ ?_
        refine SQ.rug rfl rfl rfl rfl (lt_b rfl) (ru_move rfl rfl) ?_
        refine SQ.callg (bo (endedF S)) rfl rfl rfl rfl co12 rfl rfl rfl (lt_b rfl) (fun w hI => H_only hI (ended_any (hI.1.get (i := 0) rfl))) ?_
        refine SQ.ru rfl rfl (lt_b rfl) (ru_pick (u := bo true) (v := bo (endedF S)) rfl rfl rfl rfl) ?_
        exact SQ.joined hK ⟨rfl, rfl, rfl, rfl, rfl, rfl, rfl, (congrArg (fun x => some (Value.bool x)) h13.symm), (congrArg (fun x => some (Value.bool x)) h13.symm), (congrArg (fun bx => some (Value.bool (bx || (endedF S)))) h13.symm), trivial⟩
    skip
    refine SQ.ru rfl rfl (lt_b rfl) (ru_move rfl rfl) ?_
    refine SQ.join 11 [(0, pt d 0), (3, pt b1 0), (4, bo false), (17, bo (((((((((seeF S.L x.buf).2) : Int) != 0) || (decide ((x.off : Int) < 0))) || (decide ((x.skip : Int) < 0))) || (decide ((x.size : Int) < 0))) || (decide ((((seeF S.L x.buf).1.data.length : Int) : Int) < x.skip))) || (decide (((IntKind.i64.wrap (((seeF S.L x.buf).1.data.length : Int) - x.skip)) : Int) < x.size)))), (55, pt d 0), (56, pt d 0), (57, pt d 6), (58, bo S.gone), (59, bo S.gone), (62, bo (S.gone || (endedF S))), (63, bo (S.gone || (endedF S))), (74, bo ((S.gone || (endedF S)) || (decide (((IntKind.i64.wrap (S.nxt + (roomF S))) : Int) < x.off))))] ?_ ?_
    rotate_left
    · intro K hK
      rcases tf (S.gone || (endedF S)) with h14 | h14
      · skip
        refine SQ.norm [(0, pt d 0), (3, pt b1 0), (4, bo false), (17, bo (((((((((seeF S.L x.buf).2) : Int) != 0) || (decide ((x.off : Int) < 0))) || (decide ((x.skip : Int) < 0))) || (decide ((x.size : Int) < 0))) || (decide ((((seeF S.L x.buf).1.data.length : Int) : Int) < x.skip))) || (decide (((IntKind.i64.wrap (((seeF S.L x.buf).1.data.length : Int) - x.skip)) : Int) < x.size)))), (55, pt d 0), (56, pt d 0), (57, pt d 6), (58, bo S.gone), (59, bo S.gone), (62, bo true), (63, bo true)] ⟨rfl, rfl, rfl, rfl, rfl, rfl, rfl, rfl, rfl, (congrArg (fun x => some (Value.bool x)) h14), (congrArg (fun x => some (Value.bool x)) h14), trivial⟩ ?_
        refine SQ.off (b := true) rfl rfl rfl rfl rfl (lt_b rfl) ?_
        refine SQ.off (b := true) rfl rfl rfl rfl rfl (lt_b rfl) ?_
        refine SQ.off (b := true) rfl rfl rfl rfl rfl (lt_b rfl) ?_
        refine SQ.off (b := true) rfl rfl rfl rfl rfl (lt_b rfl) ?_
        refine SQ.off (b := true) rfl rfl rfl rfl rfl (lt_b rfl) ?_
        refine SQ.off (b := true) rfl rfl rfl rfl rfl (lt_b rfl) ?_
        refine SQ.off (b := true) rfl rfl rfl rfl rfl (lt_b rfl) ?_
        refine SQ.off (b := true) rfl rfl rfl rfl rfl (lt_b rfl) ?_
        refine SQ.off (b := true) rfl rfl rfl rfl rfl (lt_b rfl) ?_
        refine SQ.off (b := true) rfl rfl rfl rfl rfl (lt_b rfl) ?_
        refine SQ.ru rfl rfl (lt_b rfl) (ru_pick (u := bo true) (v := undef) rfl rfl rfl rfl) ?_
        exact SQ.joined hK ⟨rfl, rfl, rfl, rfl, rfl, rfl, rfl, rfl, rfl, (congrArg (fun x => some (Value.bool x)) h14.symm), (congrArg (fun x => some (Value.bool x)) h14.symm), (congrArg (fun bx => some (Value.bool (bx || (decide (((IntKind.i64.wrap (S.nxt + (roomF S))) : Int) < x.off))))) h14.symm), trivial⟩
      · skip
        refine SQ.norm [(0, pt d 0), (3, pt b1 0), (4, bo false), (17, bo (((((((((seeF S.L x.buf).2) : Int) != 0) || (decide ((x.off : Int) < 0))) || (decide ((x.skip : Int) < 0))) || (decide ((x.size : Int) < 0))) || (decide ((((seeF S.L x.buf).1.data.length : Int) : Int) < x.skip))) || (decide (((IntKind.i64.wrap (((seeF S.L x.buf).1.data.length : Int) - x.skip)) : Int) < x.size)))), (55, pt d 0), (56, pt d 0), (57, pt d 6), (58, bo S.gone), (59, bo S.gone), (62, bo false), (63, bo false)] ⟨rfl, rfl, rfl, rfl, rfl, rfl, rfl, rfl, rfl, (congrArg (fun x => some (Value.bool x)) h14), (congrArg (fun x => some (Value.bool x)) h14), trivial⟩ ?_
        refine SQ.rug rfl rfl rfl rfl (lt_b rfl) (ru_fieldAddr (o2 := 0) fd61_0 rfl rfl rfl) ?_
        refine SQ.rug rfl rfl rfl rfl (lt_b rfl) (ru_load (i := 4) ts3 rfl rfl rfl rfl) ?_
        refine SQ.rug rfl rfl rfl rfl (lt_b rfl) (ru_move rfl rfl) ?_
        refine SQ.rug rfl rfl rfl rfl (lt_b rfl) (ru_nilCheck rfl rfl) ?_
        refine SQ.rug rfl rfl rfl rfl (lt_b rfl) (ru_fieldAddr (o2 := 3) fd52_3 rfl rfl rfl) ?_
        refine SQ.rug rfl rfl rfl rfl (lt_b rfl) (ru_load (i := 0) ts3 rfl rfl rfl rfl) ?_
        refine SQ.rug rfl rfl rfl rfl (lt_b rfl) (ru_move rfl rfl) ?_
        refine SQ.callg (iw (roomF S)) rfl rfl rfl rfl co25 rfl rfl rfl (lt_b rfl) (fun w hI => H_only hI (room_any (hI.1.get (i := 0) rfl))) ?_
        refine SQ.rug rfl rfl rfl rfl (lt_b rfl) (ru_add (r := (IntKind.i64.wrap (S.nxt + (roomF S)))) rfl rfl rfl rfl) ?_
        refine SQ.rug rfl rfl rfl rfl (lt_b rfl) (ru_gt (b := (decide (((IntKind.i64.wrap (S.nxt + (roomF S))) : Int) < x.off))) rfl rfl rfl rfl) ?_
        refine SQ.ru rfl rfl (lt_b rfl) (ru_pick (u := bo true) (v := bo (decide (((IntKind.i64.wrap (S.nxt + (roomF S))) : Int) < x.off))) rfl rfl rfl rfl) ?_
        exact SQ.joined hK ⟨rfl, rfl, rfl, rfl, rfl, rfl, rfl, rfl, rfl, (congrArg (fun x => some (Value.bool x)) h14.symm), (congrArg (fun x => some (Value.bool x)) h14.symm), (congrArg (fun bx => some (Value.bool (bx || (decide (((IntKind.i64.wrap (S.nxt + (roomF S))) : Int) < x.off))))) h14.symm), trivial⟩
    skip
    refine SQ.ru rfl rfl (lt_b rfl) (ru_move rfl rfl) ?_
    refine SQ.join 11 [(0, pt d 0), (3, pt b1 0), (4, bo false), (17, bo (((((((((seeF S.L x.buf).2) : Int) != 0) || (decide ((x.off : Int) < 0))) || (decide ((x.skip : Int) < 0))) || (decide ((x.size : Int) < 0))) || (decide ((((seeF S.L x.buf).1.data.length : Int) : Int) < x.skip))) || (decide (((IntKind.i64.wrap (((seeF S.L x.buf).1.data.length : Int) - x.skip)) : Int) < x.size)))), (55, pt d 0), (56, pt d 0), (57, pt d 6), (58, bo S.gone), (59, bo S.gone), (62, bo (S.gone || (endedF S))), (63, bo (S.gone || (endedF S))), (74, bo ((S.gone || (endedF S)) || (decide (((IntKind.i64.wrap (S.nxt + (roomF S))) : Int) < x.off)))), (75, bo ((S.gone || (endedF S)) || (decide (((IntKind.i64.wrap (S.nxt + (roomF S))) : Int) < x.off)))), (86, bo (((S.gone || (endedF S)) || (decide (((IntKind.i64.wrap (S.nxt + (roomF S))) : Int) < x.off))) || (decide (((IntKind.i64.wrap (S.nxt + (roomF S))) : Int) < x.fin'))))] ?_ ?_
    rotate_left
    · intro K hK
      rcases tf ((S.gone || (endedF S)) || (decide (((IntKind.i64.wrap (S.nxt + (roomF S))) : Int) < x.off))) with h15 | h15
      · skip
        refine SQ.norm [(0, pt d 0), (3, pt b1 0), (4, bo false), (17, bo (((((((((seeF S.L x.buf).2) : Int) != 0) || (decide ((x.off : Int) < 0))) || (decide ((x.skip : Int) < 0))) || (decide ((x.size : Int) < 0))) || (decide ((((seeF S.L x.buf).1.data.length : Int) : Int) < x.skip))) || (decide (((IntKind.i64.wrap (((seeF S.L x.buf).1.data.length : Int) - x.skip)) : Int) < x.size)))), (55, pt d 0), (56, pt d 0), (57, pt d 6), (58, bo S.gone), (59, bo S.gone), (62, bo (S.gone || (endedF S))), (63, bo (S.gone || (endedF S))), (74, bo true), (75, bo true)] ⟨rfl, rfl, rfl, rfl, rfl, rfl, rfl, rfl, rfl, rfl, rfl, (congrArg (fun x => some (Value.bool x)) h15), (congrArg (fun x => some (Value.bool x)) h15), trivial⟩ ?_
        refine SQ.off (b := true) rfl rfl rfl rfl rfl (lt_b rfl) ?_
        refine SQ.off (b := true) rfl rfl rfl rfl rfl (lt_b rfl) ?_
        refine SQ.off (b := true) rfl rfl rfl rfl rfl (lt_b rfl) ?_
        refine SQ.off (b := true) rfl rfl rfl rfl rfl (lt_b rfl) ?_
        refine SQ.off (b := true) rfl rfl rfl rfl rfl (lt_b rfl) ?_
        refine SQ.off (b := true) rfl rfl rfl rfl rfl (lt_b rfl) ?_
        refine SQ.off (b := true) rfl rfl rfl rfl rfl (lt_b rfl) ?_
        refine SQ.off (b := true) rfl rfl rfl rfl rfl (lt_b rfl) ?_
        refine SQ.off (b := true) rfl rfl rfl rfl rfl (lt_b rfl) ?_
        refine SQ.off (b := true) rfl rfl rfl rfl rfl (lt_b rfl) ?_
        refine SQ.ru rfl rfl (lt_b rfl) (ru_pick (u := bo true) (v := undef) rfl rfl rfl rfl) ?_
        exact SQ.joined hK ⟨rfl, rfl, rfl, rfl, rfl, rfl, rfl, rfl, rfl, rfl, rfl, (congrArg (fun x => some (Value.bool x)) h15.symm), (congrArg (fun x => some (Value.bool x)) h15.symm), (congrArg (fun bx => some (Value.bool (bx || (decide (((IntKind.i64.wrap (S.nxt + (roomF S))) : Int) < x.fin'))))) h15.symm), trivial⟩
      · skip
        refine SQ.norm [(0, pt d 0), (3, pt b1 0), (4, bo false), (17, bo (((((((((seeF S.L x.buf).2) : Int) != 0) || (decide ((x.off : Int) < 0))) || (decide ((x.skip : Int) < 0))) || (decide ((x.size : Int) < 0))) || (decide ((((seeF S.L x.buf).1.data.length : Int) : Int) < x.skip))) || (decide (((IntKind.i64.wrap (((seeF S.L x.buf).1.data.length : Int) - x.skip)) : Int) < x.size)))), (55, pt d 0), (56, pt d 0), (57, pt d 6), (58, bo S.gone), (59, bo S.gone), (62, bo (S.gone || (endedF S))), (63, bo (S.gone || (endedF S))), (74, bo false), (75, bo false)] ⟨rfl, rfl, rfl, rfl, rfl, rfl, rfl, rfl, rfl, rfl, rfl, (congrArg (fun x => some (Value.bool x)) h15), (congrArg (fun x => some (Value.bool x)) h15), trivial⟩ ?_
        refine SQ.rug rfl rfl rfl rfl (lt_b rfl) (ru_loada (i := 4) (vs := [iw x.off, iw x.buf, iw x.skip, iw x.size, bo x.fin]) ta61 rfl rfl rfl rfl (le_b rfl)) ?_
        refine SQ.callg (iw x.fin') rfl rfl rfl rfl co27 rfl rfl rfl (lt_b rfl) (fun w hI => H_only hI (end_any _ x)) ?_
        refine SQ.rug rfl rfl rfl rfl (lt_b rfl) (ru_move rfl rfl) ?_
        refine SQ.rug rfl rfl rfl rfl (lt_b rfl) (ru_nilCheck rfl rfl) ?_
        refine SQ.rug rfl rfl rfl rfl (lt_b rfl) (ru_fieldAddr (o2 := 3) fd52_3 rfl rfl rfl) ?_
        refine SQ.rug rfl rfl rfl rfl (lt_b rfl) (ru_load (i := 0) ts3 rfl rfl rfl rfl) ?_
        refine SQ.rug rfl rfl rfl rfl (lt_b rfl) (ru_move rfl rfl) ?_
        refine SQ.callg (iw (roomF S)) rfl rfl rfl rfl co25 rfl rfl rfl (lt_b rfl) (fun w hI => H_only hI (room_any (hI.1.get (i := 0) rfl))) ?_
        refine SQ.rug rfl rfl rfl rfl (lt_b rfl) (ru_add (r := (IntKind.i64.wrap (S.nxt + (roomF S)))) rfl rfl rfl rfl) ?_
        refine SQ.rug rfl rfl rfl rfl (lt_b rfl) (ru_gt (b := (decide (((IntKind.i64.wrap (S.nxt + (roomF S))) : Int) < x.fin'))) rfl rfl rfl rfl) ?_
        refine SQ.ru rfl rfl (lt_b rfl) (ru_pick (u := bo true) (v := bo (decide (((IntKind.i64.wrap (S.nxt + (roomF S))) : Int) < x.fin'))) rfl rfl rfl rfl) ?_
        exact SQ.joined hK ⟨rfl, rfl, rfl, rfl, rfl, rfl, rfl, rfl, rfl, rfl, rfl, (congrArg (fun x => some (Value.bool x)) h15.symm), (congrArg (fun x => some (Value.bool x)) h15.symm), (congrArg (fun bx => some (Value.bool (bx || (decide (((IntKind.i64.wrap (S.nxt + (roomF S))) : Int) < x.fin'))))) h15.symm), trivial⟩
    skip
    refine SQ.ru rfl rfl (lt_b rfl) (ru_assign rfl rfl) ?_
    refine SQ.nilE ?_
    refine SC.of_SE ?_
    refine SC.norm [(0, pt d 0), (3, pt b1 0), (4, bo false), (54, bo (((S.gone || (endedF S)) || (decide (((IntKind.i64.wrap (S.nxt + (roomF S))) : Int) < x.off))) || (decide (((IntKind.i64.wrap (S.nxt + (roomF S))) : Int) < x.fin'))))] [rBlk d [pt p 0, Value.slice q1 S.l.length c1, Value.slice q2 S.late.length c2, iw S.nxt, iw S.hv, iw S.last, bo S.gone] 52, rPool p ab S.L, rRowN (.slice q1 S.l.length c1) (pRows S.l) 61 5, rRowN (.slice q2 S.late.length c2) (pRows S.late) 61 5, rBlk b1 [iw x.off, iw x.buf, iw x.skip, iw x.size, bo x.fin] 61, rMine (.slice qh2 ((seeF S.L x.buf).1.head.length) ch3) ((seeF S.L x.buf).1.head) 5, rMine (.slice qd4 ((seeF S.L x.buf).1.data.length) cd5) ((seeF S.L x.buf).1.data) 5, rBlk b6 [iw ((seeF S.L x.buf).1.refs : Int), Value.slice qh2 ((seeF S.L x.buf).1.head.length) ch3, Value.slice qd4 ((seeF S.L x.buf).1.data.length) cd5] 75] ⟨rfl, rfl, rfl, rfl, trivial⟩ rfl ?_
    refine SC.both (((S.gone || (endedF S)) || (decide (((IntKind.i64.wrap (S.nxt + (roomF S))) : Int) < x.off))) || (decide (((IntKind.i64.wrap (S.nxt + (roomF S))) : Int) < x.fin'))) rfl (fun h16 => ?_) (fun h16 => ?_)
    · skip
      refine SC.seq ?_
      refine SC.region ?_
      refine SL.ru rfl rfl (lt_b rfl) (ru_assign rfl rfl) ?_
      refine SL.nil ?_
      refine SC.of_SE ?_
      refine SC.norm [(0, pt d 0), (3, pt b1 0), (4, bo false)] [rBlk d [pt p 0, Value.slice q1 S.l.length c1, Value.slice q2 S.late.length c2, iw S.nxt, iw S.hv, iw S.last, bo S.gone] 52, rPool p ab S.L, rRowN (.slice q1 S.l.length c1) (pRows S.l) 61 5, rRowN (.slice q2 S.late.length c2) (pRows S.late) 61 5, rBlk b1 [iw x.off, iw x.buf, iw x.skip, iw x.size, bo x.fin] 61, rMine (.slice qh2 ((seeF S.L x.buf).1.head.length) ch3) ((seeF S.L x.buf).1.head) 5, rMine (.slice qd4 ((seeF S.L x.buf).1.data.length) cd5) ((seeF S.L x.buf).1.data) 5, rBlk b6 [iw ((seeF S.L x.buf).1.refs : Int), Value.slice qh2 ((seeF S.L x.buf).1.head.length) ch3, Value.slice qd4 ((seeF S.L x.buf).1.data.length) cd5] 75] ⟨rfl, rfl, rfl, trivial⟩ rfl ?_
      refine SC.ret ?_
      refine SE.blkr ?_
      refine SE.passr ?_
      refine SE.res (.inl rfl) (res1 Try.results18 rfl) fun w1 hI => ⟨ret_bo (Eq.symm ?_), hI.2⟩
      unfold fitsF
      rw [if_neg (not_t h12)]
      rw [if_pos h16]
    · skip
      refine SC.seq ?_
      refine SC.region_quiet (by kernel_rfl) (by kernel_rfl) ?_
      refine SQ.ru rfl rfl (lt_b rfl) (ru_move rfl rfl) ?_
      refine SQ.ru rfl rfl (lt_b rfl) (ru_nilCheck rfl rfl) ?_
      refine SQ.ru rfl rfl (lt_b rfl) (ru_fieldAddr (o2 := 5) fd52_5 rfl rfl rfl) ?_
      refine SQ.ru rfl rfl (lt_b rfl) (ru_load (i := 0) ts3 rfl rfl rfl rfl) ?_
      refine SQ.ru rfl rfl (lt_b rfl) (ru_ge (b := (decide ((0 : Int) ≤ S.last))) rfl rfl rfl rfl) ?_
      refine SQ.ru rfl rfl (lt_b rfl) (ru_move rfl rfl) ?_
      refine SQ.join 21 [(0, pt d 0), (3, pt b1 0), (4, bo false), (54, bo (((S.gone || (endedF S)) || (decide (((IntKind.i64.wrap (S.nxt + (roomF S))) : Int) < x.off))) || (decide (((IntKind.i64.wrap (S.nxt + (roomF S))) : Int) < x.fin')))), (88, pt d 0), (89, pt d 0), (90, pt d 5), (91, iw S.last), (92, bo (decide ((0 : Int) ≤ S.last))), (93, bo (decide ((0 : Int) ≤ S.last))), (114, bo ((decide ((0 : Int) ≤ S.last)) && ((decide ((S.last : Int) < x.fin')) || (x.fin && ((x.fin' : Int) != S.last)))))] ?_ ?_
      rotate_left
      · intro K hK
        rcases tf (decide ((0 : Int) ≤ S.last)) with h17 | h17
        · skip
          refine SQ.norm [(0, pt d 0), (3, pt b1 0), (4, bo false), (54, bo (((S.gone || (endedF S)) || (decide (((IntKind.i64.wrap (S.nxt + (roomF S))) : Int) < x.off))) || (decide (((IntKind.i64.wrap (S.nxt + (roomF S))) : Int) < x.fin')))), (88, pt d 0), (89, pt d 0), (90, pt d 5), (91, iw S.last), (92, bo true), (93, bo true)] ⟨rfl, rfl, rfl, rfl, rfl, rfl, rfl, rfl, (congrArg (fun x => some (Value.bool x)) h17), (congrArg (fun x => some (Value.bool x)) h17), trivial⟩ ?_
          refine SQ.rug rfl rfl rfl rfl (lt_b rfl) (ru_loada (i := 4) (vs := [iw x.off, iw x.buf, iw x.skip, iw x.size, bo x.fin]) ta61 rfl rfl rfl rfl (le_b rfl)) ?_
          refine SQ.callg (iw x.fin') rfl rfl rfl rfl co27 rfl rfl rfl (lt_b rfl) (fun w hI => H_only hI (end_any _ x)) ?_
          refine SQ.rug rfl rfl rfl rfl (lt_b rfl) (ru_move rfl rfl) ?_
          refine SQ.rug rfl rfl rfl rfl (lt_b rfl) (ru_nilCheck rfl rfl) ?_
          refine SQ.rug rfl rfl rfl rfl (lt_b rfl) (ru_fieldAddr (o2 := 5) fd52_5 rfl rfl rfl) ?_
          refine SQ.rug rfl rfl rfl rfl (lt_b rfl) (ru_load (i := 0) ts3 rfl rfl rfl rfl) ?_
          refine SQ.rug rfl rfl rfl rfl (lt_b rfl) (ru_gt (b := (decide ((S.last : Int) < x.fin'))) rfl rfl rfl rfl) ?_
          refine SQ.rug rfl rfl rfl rfl (lt_b rfl) (ru_move rfl rfl) ?_
          refine SQ.join 12 [(0, pt d 0), (3, pt b1 0), (4, bo false), (54, bo (((S.gone || (endedF S)) || (decide (((IntKind.i64.wrap (S.nxt + (roomF S))) : Int) < x.off))) || (decide (((IntKind.i64.wrap (S.nxt + (roomF S))) : Int) < x.fin')))), (88, pt d 0), (89, pt d 0), (90, pt d 5), (91, iw S.last), (92, bo true), (93, bo true), (94, Value.agg #[iw x.off, iw x.buf, iw x.skip, iw x.size, bo x.fin]), (95, iw x.fin'), (96, pt d 0), (97, pt d 0), (98, pt d 5), (99, iw S.last), (100, bo (decide ((S.last : Int) < x.fin'))), (101, bo (decide ((S.last : Int) < x.fin'))), (113, bo ((decide ((S.last : Int) < x.fin')) || (x.fin && ((x.fin' : Int) != S.last))))] ?_ ?_
          rotate_left
          · intro K hK
            rcases tf (decide ((S.last : Int) < x.fin')) with h18 | h18
            · skip
              refine SQ.norm [(0, pt d 0), (3, pt b1 0), (4, bo false), (54, bo (((S.gone || (endedF S)) || (decide (((IntKind.i64.wrap (S.nxt + (roomF S))) : Int) < x.off))) || (decide (((IntKind.i64.wrap (S.nxt + (roomF S))) : Int) < x.fin')))), (88, pt d 0), (89, pt d 0), (90, pt d 5), (91, iw S.last), (92, bo true), (93, bo true), (94, Value.agg #[iw x.off, iw x.buf, iw x.skip, iw x.size, bo x.fin]), (95, iw x.fin'), (96, pt d 0), (97, pt d 0), (98, pt d 5), (99, iw S.last), (100, bo true), (101, bo true)] ⟨rfl, rfl, rfl, rfl, rfl, rfl, rfl, rfl, rfl, rfl, rfl, rfl, rfl, rfl, rfl, rfl, (congrArg (fun x => some (Value.bool x)) h18), (congrArg (fun x => some (Value.bool x)) h18), trivial⟩ ?_
              refine SQ.off (b := true) rfl rfl rfl rfl rfl (lt_b rfl) ?_
              refine SQ.off (b := true) rfl rfl rfl rfl rfl (lt_b rfl) ?_
              refine SQ.off (b := true) rfl rfl rfl rfl rfl (lt_b rfl) ?_
              refine SQ.offu rfl rfl rfl rfl (lt_b rfl) ?_
              refine SQ.offu rfl rfl rfl rfl (lt_b rfl) ?_
              refine SQ.offu rfl rfl rfl rfl (lt_b rfl) ?_
              refine SQ.offu rfl rfl rfl rfl (lt_b rfl) ?_
              refine SQ.offu rfl rfl rfl rfl (lt_b rfl) ?_
              refine SQ.offu rfl rfl rfl rfl (lt_b rfl) ?_
              refine SQ.offu rfl rfl rfl rfl (lt_b rfl) ?_
              refine SQ.off (b := true) rfl rfl rfl rfl rfl (lt_b rfl) ?_
              refine SQ.rug rfl rfl rfl rfl (lt_b rfl) (ru_pick (u := bo true) (v := undef) rfl rfl rfl rfl) ?_
              exact SQ.joined hK ⟨rfl, rfl, rfl, rfl, rfl, rfl, rfl, rfl, rfl, rfl, rfl, rfl, rfl, rfl, rfl, rfl, (congrArg (fun x => some (Value.bool x)) h18.symm), (congrArg (fun x => some (Value.bool x)) h18.symm), (congrArg (fun bx => some (Value.bool (bx || (x.fin && ((x.fin' : Int) != S.last))))) h18.symm), trivial⟩
            · skip
              refine SQ.norm [(0, pt d 0), (3, pt b1 0), (4, bo false), (54, bo (((S.gone || (endedF S)) || (decide (((IntKind.i64.wrap (S.nxt + (roomF S))) : Int) < x.off))) || (decide (((IntKind.i64.wrap (S.nxt + (roomF S))) : Int) < x.fin')))), (88, pt d 0), (89, pt d 0), (90, pt d 5), (91, iw S.last), (92, bo true), (93, bo true), (94, Value.agg #[iw x.off, iw x.buf, iw x.skip, iw x.size, bo x.fin]), (95, iw x.fin'), (96, pt d 0), (97, pt d 0), (98, pt d 5), (99, iw S.last), (100, bo false), (101, bo false)] ⟨rfl, rfl, rfl, rfl, rfl, rfl, rfl, rfl, rfl, rfl, rfl, rfl, rfl, rfl, rfl, rfl, (congrArg (fun x => some (Value.bool x)) h18), (congrArg (fun x => some (Value.bool x)) h18), trivial⟩ ?_
              refine SQ.rug rfl rfl rfl rfl (lt_b rfl) (ru_fieldAddr (o2 := 4) fd61_4 rfl rfl rfl) ?_
              refine SQ.rug rfl rfl rfl rfl (lt_b rfl) (ru_load (i := 4) ts4 rfl rfl rfl rfl) ?_
              refine SQ.rug rfl rfl rfl rfl (lt_b rfl) (ru_move rfl rfl) ?_
              refine SQ.join 8 [(0, pt d 0), (3, pt b1 0), (4, bo false), (54, bo (((S.gone || (endedF S)) || (decide (((IntKind.i64.wrap (S.nxt + (roomF S))) : Int) < x.off))) || (decide (((IntKind.i64.wrap (S.nxt + (roomF S))) : Int) < x.fin')))), (88, pt d 0), (89, pt d 0), (90, pt d 5), (91, iw S.last), (92, bo true), (93, bo true), (94, Value.agg #[iw x.off, iw x.buf, iw x.skip, iw x.size, bo x.fin]), (95, iw x.fin'), (96, pt d 0), (97, pt d 0), (98, pt d 5), (99, iw S.last), (100, bo false), (101, bo false), (102, pt b1 4), (103, bo x.fin), (104, bo x.fin), (112, bo (x.fin && ((x.fin' : Int) != S.last)))] ?_ ?_
              rotate_left
              · intro K hK
                rcases tf x.fin with h19 | h19
                · skip
                  refine SQ.norm [(0, pt d 0), (3, pt b1 0), (4, bo false), (54, bo (((S.gone || (endedF S)) || (decide (((IntKind.i64.wrap (S.nxt + (roomF S))) : Int) < x.off))) || (decide (((IntKind.i64.wrap (S.nxt + (roomF S))) : Int) < x.fin')))), (88, pt d 0), (89, pt d 0), (90, pt d 5), (91, iw S.last), (92, bo true), (93, bo true), (94, Value.agg #[iw x.off, iw x.buf, iw x.skip, iw x.size, bo x.fin]), (95, iw x.fin'), (96, pt d 0), (97, pt d 0), (98, pt d 5), (99, iw S.last), (100, bo false), (101, bo false), (102, pt b1 4), (103, bo true), (104, bo true)] ⟨rfl, rfl, rfl, rfl, rfl, rfl, rfl, rfl, rfl, rfl, rfl, rfl, rfl, rfl, rfl, rfl, rfl, rfl, rfl, (congrArg (fun x => some (Value.bool x)) h19), (congrArg (fun x => some (Value.bool x)) h19), trivial⟩ ?_
                  refine SQ.rug rfl rfl rfl rfl (lt_b rfl) (ru_loada (i := 4) (vs := [iw x.off, iw x.buf, iw x.skip, iw x.size, bo x.fin]) ta61 rfl rfl rfl rfl (le_b rfl)) ?_
                  refine SQ.callg (iw x.fin') rfl rfl rfl rfl co27 rfl rfl rfl (lt_b rfl) (fun w hI => H_only hI (end_any _ x)) ?_
                  refine SQ.rug rfl rfl rfl rfl (lt_b rfl) (ru_move rfl rfl) ?_
                  refine SQ.rug rfl rfl rfl rfl (lt_b rfl) (ru_nilCheck rfl rfl) ?_
                  refine SQ.rug rfl rfl rfl rfl (lt_b rfl) (ru_fieldAddr (o2 := 5) fd52_5 rfl rfl rfl) ?_
                  refine SQ.rug rfl rfl rfl rfl (lt_b rfl) (ru_load (i := 0) ts3 rfl rfl rfl rfl) ?_
                  refine SQ.rug rfl rfl rfl rfl (lt_b rfl) (ru_ne (b := ((x.fin' : Int) != S.last)) rfl rfl rfl rfl) ?_
                  refine SQ.rug rfl rfl rfl rfl (lt_b rfl) (ru_pick (u := bo ((x.fin' : Int) != S.last)) (v := bo false) rfl rfl rfl rfl) ?_
                  exact SQ.joined hK ⟨rfl, rfl, rfl, rfl, rfl, rfl, rfl, rfl, rfl, rfl, rfl, rfl, rfl, rfl, rfl, rfl, rfl, rfl, rfl, (congrArg (fun x => some (Value.bool x)) h19.symm), (congrArg (fun x => some (Value.bool x)) h19.symm), (congrArg (fun bx => some (Value.bool (bx && ((x.fin' : Int) != S.last)))) h19.symm), trivial⟩
                · skip
                  refine SQ.norm [(0, pt d 0), (3, pt b1 0), (4, bo false), (54, bo (((S.gone || (endedF S)) || (decide (((IntKind.i64.wrap (S.nxt + (roomF S))) : Int) < x.off))) || (decide (((IntKind.i64.wrap (S.nxt + (roomF S))) : Int) < x.fin')))), (88, pt d 0), (89, pt d 0), (90, pt d 5), (91, iw S.last), (92, bo true), (93, bo true), (94, Value.agg #[iw x.off, iw x.buf, iw x.skip, iw x.size, bo x.fin]), (95, iw x.fin'), (96, pt d 0), (97, pt d 0), (98, pt d 5), (99, iw S.last), (100, bo false), (101, bo false), (102, pt b1 4), (103, bo false), (104, bo false)] ⟨rfl, rfl, rfl, rfl, rfl, rfl, rfl, rfl, rfl, rfl, rfl, rfl, rfl, rfl, rfl, rfl, rfl, rfl, rfl, (congrArg (fun x => some (Value.bool x)) h19), (congrArg (fun x => some (Value.bool x)) h19), trivial⟩ ?_
                  refine SQ.off (b := false) rfl rfl rfl rfl rfl (lt_b rfl) ?_
                  refine SQ.off (b := false) rfl rfl rfl rfl rfl (lt_b rfl) ?_
                  refine SQ.off (b := false) rfl rfl rfl rfl rfl (lt_b rfl) ?_
                  refine SQ.off (b := false) rfl rfl rfl rfl rfl (lt_b rfl) ?_
                  refine SQ.off (b := false) rfl rfl rfl rfl rfl (lt_b rfl) ?_
                  refine SQ.off (b := false) rfl rfl rfl rfl rfl (lt_b rfl) ?_
                  refine SQ.off (b := false) rfl rfl rfl rfl rfl (lt_b rfl) ?_
                  refine SQ.rug rfl rfl rfl rfl (lt_b rfl) (ru_pick (u := undef) (v := bo false) rfl rfl rfl rfl) ?_
                  exact SQ.joined hK ⟨rfl, rfl, rfl, rfl, rfl, rfl, rfl, rfl, rfl, rfl, rfl, rfl, rfl, rfl, rfl, rfl, rfl, rfl, rfl, (congrArg (fun x => some (Value.bool x)) h19.symm), (congrArg (fun x => some (Value.bool x)) h19.symm), (congrArg (fun bx => some (Value.bool (bx && ((x.fin' : Int) != S.last)))) h19.symm), trivial⟩
              skip
              refine SQ.rug rfl rfl rfl rfl (lt_b rfl) (ru_pick (u := bo true) (v := bo (x.fin && ((x.fin' : Int) != S.last))) rfl rfl rfl rfl) ?_
              exact SQ.joined hK ⟨rfl, rfl, rfl, rfl, rfl, rfl, rfl, rfl, rfl, rfl, rfl, rfl, rfl, rfl, rfl, rfl, (congrArg (fun x => some (Value.bool x)) h18.symm), (congrArg (fun x => some (Value.bool x)) h18.symm), (congrArg (fun bx => some (Value.bool (bx || (x.fin && ((x.fin' : Int) != S.last))))) h18.symm), trivial⟩
          skip
          refine SQ.ru rfl rfl (lt_b rfl) (ru_pick (u := bo ((decide ((S.last : Int) < x.fin')) || (x.fin && ((x.fin' : Int) != S.last)))) (v := bo false) rfl rfl rfl rfl) ?_
          exact SQ.joined hK ⟨rfl, rfl, rfl, rfl, rfl, rfl, rfl, rfl, (congrArg (fun x => some (Value.bool x)) h17.symm), (congrArg (fun x => some (Value.bool x)) h17.symm), (congrArg (fun bx => some (Value.bool (bx && ((decide ((S.last : Int) < x.fin')) || (x.fin && ((x.fin' : Int) != S.last)))))) h17.symm), trivial⟩
        · skip
          refine SQ.norm [(0, pt d 0), (3, pt b1 0), (4, bo false), (54, bo (((S.gone || (endedF S)) || (decide (((IntKind.i64.wrap (S.nxt + (roomF S))) : Int) < x.off))) || (decide (((IntKind.i64.wrap (S.nxt + (roomF S))) : Int) < x.fin')))), (88, pt d 0), (89, pt d 0), (90, pt d 5), (91, iw S.last), (92, bo false), (93, bo false)] ⟨rfl, rfl, rfl, rfl, rfl, rfl, rfl, rfl, (congrArg (fun x => some (Value.bool x)) h17), (congrArg (fun x => some (Value.bool x)) h17), trivial⟩ ?_
          refine SQ.off (b := false) rfl rfl rfl rfl rfl (lt_b rfl) ?_
          refine SQ.off (b := false) rfl rfl rfl rfl rfl (lt_b rfl) ?_
          refine SQ.off (b := false) rfl rfl rfl rfl rfl (lt_b rfl) ?_
          refine SQ.off (b := false) rfl rfl rfl rfl rfl (lt_b rfl) ?_
          refine SQ.off (b := false) rfl rfl rfl rfl rfl (lt_b rfl) ?_
          refine SQ.off (b := false) rfl rfl rfl rfl rfl (lt_b rfl) ?_
          refine SQ.off (b := false) rfl rfl rfl rfl rfl (lt_b rfl) ?_
          refine SQ.off (b := false) rfl rfl rfl rfl rfl (lt_b rfl) ?_
          refine SQ.offu rfl rfl rfl rfl (lt_b rfl) ?_
          refine SQ.offu rfl rfl rfl rfl (lt_b rfl) ?_
          refine SQ.offu rfl rfl rfl rfl (lt_b rfl) ?_
          refine SQ.offu rfl rfl rfl rfl (lt_b rfl) ?_
          refine SQ.offu rfl rfl rfl rfl (lt_b rfl) ?_
          refine SQ.offu rfl rfl rfl rfl (lt_b rfl) ?_
          refine SQ.offu rfl rfl rfl rfl (lt_b rfl) ?_
          refine SQ.offu rfl rfl rfl rfl (lt_b rfl) ?_
          refine SQ.offu rfl rfl rfl rfl (lt_b rfl) ?_
          refine SQ.offu rfl rfl rfl rfl (lt_b rfl) ?_
          refine SQ.offu rfl rfl rfl rfl (lt_b rfl) ?_
          refine SQ.off (b := false) rfl rfl rfl rfl rfl (lt_b rfl) ?_
          refine SQ.ru rfl rfl (lt_b rfl) (ru_pick (u := undef) (v := bo false) rfl rfl rfl rfl) ?_
          exact SQ.joined hK ⟨rfl, rfl, rfl, rfl, rfl, rfl, rfl, rfl, (congrArg (fun x => some (Value.bool x)) h17.symm), (congrArg (fun x => some (Value.bool x)) h17.symm), (congrArg (fun bx => some (Value.bool (bx && ((decide ((S.last : Int) < x.fin')) || (x.fin && ((x.fin' : Int) != S.last)))))) h17.symm), trivial⟩
      skip
      refine SQ.ru rfl rfl (lt_b rfl) (ru_assign rfl rfl) ?_
      refine SQ.nilE ?_
      refine SC.of_SE ?_
      refine SC.norm [(0, pt d 0), (3, pt b1 0), (4, bo false), (87, bo ((decide ((0 : Int) ≤ S.last)) && ((decide ((S.last : Int) < x.fin')) || (x.fin && ((x.fin' : Int) != S.last)))))] [rBlk d [pt p 0, Value.slice q1 S.l.length c1, Value.slice q2 S.late.length c2, iw S.nxt, iw S.hv, iw S.last, bo S.gone] 52, rPool p ab S.L, rRowN (.slice q1 S.l.length c1) (pRows S.l) 61 5, rRowN (.slice q2 S.late.length c2) (pRows S.late) 61 5, rBlk b1 [iw x.off, iw x.buf, iw x.skip, iw x.size, bo x.fin] 61, rMine (.slice qh2 ((seeF S.L x.buf).1.head.length) ch3) ((seeF S.L x.buf).1.head) 5, rMine (.slice qd4 ((seeF S.L x.buf).1.data.length) cd5) ((seeF S.L x.buf).1.data) 5, rBlk b6 [iw ((seeF S.L x.buf).1.refs : Int), Value.slice qh2 ((seeF S.L x.buf).1.head.length) ch3, Value.slice qd4 ((seeF S.L x.buf).1.data.length) cd5] 75] ⟨rfl, rfl, rfl, rfl, trivial⟩ rfl ?_
      refine SC.both ((decide ((0 : Int) ≤ S.last)) && ((decide ((S.last : Int) < x.fin')) || (x.fin && ((x.fin' : Int) != S.last)))) rfl (fun h20 => ?_) (fun h20 => ?_)
      · skip
        refine SC.seq ?_
        refine SC.region ?_
        refine SL.ru rfl rfl (lt_b rfl) (ru_assign rfl rfl) ?_
        refine SL.nil ?_
        refine SC.of_SE ?_
        refine SC.norm [(0, pt d 0), (3, pt b1 0), (4, bo false)] [rBlk d [pt p 0, Value.slice q1 S.l.length c1, Value.slice q2 S.late.length c2, iw S.nxt, iw S.hv, iw S.last, bo S.gone] 52, rPool p ab S.L, rRowN (.slice q1 S.l.length c1) (pRows S.l) 61 5, rRowN (.slice q2 S.late.length c2) (pRows S.late) 61 5, rBlk b1 [iw x.off, iw x.buf, iw x.skip, iw x.size, bo x.fin] 61, rMine (.slice qh2 ((seeF S.L x.buf).1.head.length) ch3) ((seeF S.L x.buf).1.head) 5, rMine (.slice qd4 ((seeF S.L x.buf).1.data.length) cd5) ((seeF S.L x.buf).1.data) 5, rBlk b6 [iw ((seeF S.L x.buf).1.refs : Int), Value.slice qh2 ((seeF S.L x.buf).1.head.length) ch3, Value.slice qd4 ((seeF S.L x.buf).1.data.length) cd5] 75] ⟨rfl, rfl, rfl, trivial⟩ rfl ?_
        refine SC.ret ?_
        refine SE.blkr ?_
        refine SE.passr ?_
        refine SE.res (.inl rfl) (res1 Try.results18 rfl) fun w1 hI => ⟨ret_bo (Eq.symm ?_), hI.2⟩
        unfold fitsF
        rw [if_neg (not_t h12)]
        rw [if_neg (not_t h16)]
        rw [if_pos h20]
      · skip
        refine SC.skip ?_
        refine SE.blkn ?_
        refine SC.of_SE ?_
        refine SC.norm [(0, pt d 0), (3, pt b1 0), (4, bo false)] [rBlk d [pt p 0, Value.slice q1 S.l.length c1, Value.slice q2 S.late.length c2, iw S.nxt, iw S.hv, iw S.last, bo S.gone] 52, rPool p ab S.L, rRowN (.slice q1 S.l.length c1) (pRows S.l) 61 5, rRowN (.slice q2 S.late.length c2) (pRows S.late) 61 5, rBlk b1 [iw x.off, iw x.buf, iw x.skip, iw x.size, bo x.fin] 61, rMine (.slice qh2 ((seeF S.L x.buf).1.head.length) ch3) ((seeF S.L x.buf).1.head) 5, rMine (.slice qd4 ((seeF S.L x.buf).1.data.length) cd5) ((seeF S.L x.buf).1.data) 5, rBlk b6 [iw ((seeF S.L x.buf).1.refs : Int), Value.slice qh2 ((seeF S.L x.buf).1.head.length) ch3, Value.slice qd4 ((seeF S.L x.buf).1.data.length) cd5] 75] ⟨rfl, rfl, rfl, trivial⟩ rfl ?_
        refine SC.seq ?_
        refine SC.region ?_
        refine SL.ru rfl rfl (lt_b rfl) (ru_fieldAddr (o2 := 4) fd61_4 rfl rfl rfl) ?_
        refine SL.ru rfl rfl (lt_b rfl) (ru_load (i := 4) ts4 rfl rfl rfl rfl) ?_
        refine SL.ru rfl rfl (lt_b rfl) (ru_not (c := (!x.fin)) rfl rfl rfl) ?_
        refine SL.ru rfl rfl (lt_b rfl) (ru_move rfl rfl) ?_
        refine SL.join 6 [(0, pt d 0), (3, pt b1 0), (4, bo false), (115, pt b1 4), (116, bo x.fin), (117, bo (!x.fin)), (118, bo (!x.fin)), (124, bo ((!x.fin) || (decide (((farF S.nxt S.late) : Int) ≤ x.fin'))))] [rBlk d [pt p 0, Value.slice q1 S.l.length c1, Value.slice q2 S.late.length c2, iw S.nxt, iw S.hv, iw S.last, bo S.gone] 52, rPool p ab S.L, rRowN (.slice q1 S.l.length c1) (pRows S.l) 61 5, rRowN (.slice q2 S.late.length c2) (pRows S.late) 61 5, rBlk b1 [iw x.off, iw x.buf, iw x.skip, iw x.size, bo x.fin] 61, rMine (.slice qh2 ((seeF S.L x.buf).1.head.length) ch3) ((seeF S.L x.buf).1.head) 5, rMine (.slice qd4 ((seeF S.L x.buf).1.data.length) cd5) ((seeF S.L x.buf).1.data) 5, rBlk b6 [iw ((seeF S.L x.buf).1.refs : Int), Value.slice qh2 ((seeF S.L x.buf).1.head.length) ch3, Value.slice qd4 ((seeF S.L x.buf).1.data.length) cd5] 75] ?_ ?_
        rotate_left
        · intro K hK
          rcases tf (!x.fin) with h21 | h21
          · skip
            refine SL.norm [(0, pt d 0), (3, pt b1 0), (4, bo false), (115, pt b1 4), (116, bo x.fin), (117, bo true), (118, bo true)] [rBlk d [pt p 0, Value.slice q1 S.l.length c1, Value.slice q2 S.late.length c2, iw S.nxt, iw S.hv, iw S.last, bo S.gone] 52, rPool p ab S.L, rRowN (.slice q1 S.l.length c1) (pRows S.l) 61 5, rRowN (.slice q2 S.late.length c2) (pRows S.late) 61 5, rBlk b1 [iw x.off, iw x.buf, iw x.skip, iw x.size, bo x.fin] 61, rMine (.slice qh2 ((seeF S.L x.buf).1.head.length) ch3) ((seeF S.L x.buf).1.head) 5, rMine (.slice qd4 ((seeF S.L x.buf).1.data.length) cd5) ((seeF S.L x.buf).1.data) 5, rBlk b6 [iw ((seeF S.L x.buf).1.refs : Int), Value.slice qh2 ((seeF S.L x.buf).1.head.length) ch3, Value.slice qd4 ((seeF S.L x.buf).1.data.length) cd5] 75] ⟨rfl, rfl, rfl, rfl, rfl, (congrArg (fun x => some (Value.bool x)) h21), (congrArg (fun x => some (Value.bool x)) h21), trivial⟩ rfl ?_
            refine SL.off (b := true) rfl rfl rfl rfl rfl (lt_b rfl) ?_
            refine SL.off (b := true) rfl rfl rfl rfl rfl (lt_b rfl) ?_
            refine SL.off (b := true) rfl rfl rfl rfl rfl (lt_b rfl) ?_
            refine SL.off (b := true) rfl rfl rfl rfl rfl (lt_b rfl) ?_
            refine SL.off (b := true) rfl rfl rfl rfl rfl (lt_b rfl) ?_
            refine SL.ru rfl rfl (lt_b rfl) (ru_pick (u := bo true) (v := undef) rfl rfl rfl rfl) ?_
            exact SL.joined hK ⟨rfl, rfl, rfl, rfl, rfl, (congrArg (fun x => some (Value.bool x)) h21.symm), (congrArg (fun x => some (Value.bool x)) h21.symm), (congrArg (fun bx => some (Value.bool (bx || (decide (((farF S.nxt S.late) : Int) ≤ x.fin'))))) h21.symm), trivial⟩ rfl
          · skip
            refine SL.norm [(0, pt d 0), (3, pt b1 0), (4, bo false), (115, pt b1 4), (116, bo x.fin), (117, bo false), (118, bo false)] [rBlk d [pt p 0, Value.slice q1 S.l.length c1, Value.slice q2 S.late.length c2, iw S.nxt, iw S.hv, iw S.last, bo S.gone] 52, rPool p ab S.L, rRowN (.slice q1 S.l.length c1) (pRows S.l) 61 5, rRowN (.slice q2 S.late.length c2) (pRows S.late) 61 5, rBlk b1 [iw x.off, iw x.buf, iw x.skip, iw x.size, bo x.fin] 61, rMine (.slice qh2 ((seeF S.L x.buf).1.head.length) ch3) ((seeF S.L x.buf).1.head) 5, rMine (.slice qd4 ((seeF S.L x.buf).1.data.length) cd5) ((seeF S.L x.buf).1.data) 5, rBlk b6 [iw ((seeF S.L x.buf).1.refs : Int), Value.slice qh2 ((seeF S.L x.buf).1.head.length) ch3, Value.slice qd4 ((seeF S.L x.buf).1.data.length) cd5] 75] ⟨rfl, rfl, rfl, rfl, rfl, (congrArg (fun x => some (Value.bool x)) h21), (congrArg (fun x => some (Value.bool x)) h21), trivial⟩ rfl ?_
            refine SL.rug rfl rfl rfl rfl (lt_b rfl) (ru_loada (i := 4) (vs := [iw x.off, iw x.buf, iw x.skip, iw x.size, bo x.fin]) ta61 rfl rfl rfl rfl (le_b rfl)) ?_
            refine SL.callvg (iw x.fin') rfl rfl rfl rfl co27 rfl rfl rfl (lt_b rfl) (fun w hI => H_only hI (end_any _ x)) ?_
            refine SL.rug rfl rfl rfl rfl (lt_b rfl) (ru_move rfl rfl) ?_
            refine SL.callvg (iw (farF S.nxt S.late)) rfl rfl rfl rfl co30 rfl rfl rfl (lt_b rfl) (fun w hI => H_only hI (far_any hM ((hI.pick (js := [0, 3]) rfl).1))) ?_
            refine SL.rug rfl rfl rfl rfl (lt_b rfl) (ru_ge (b := (decide (((farF S.nxt S.late) : Int) ≤ x.fin'))) rfl rfl rfl rfl) ?_
            refine SL.ru rfl rfl (lt_b rfl) (ru_pick (u := bo true) (v := bo (decide (((farF S.nxt S.late) : Int) ≤ x.fin'))) rfl rfl rfl rfl) ?_
            exact SL.joined hK ⟨rfl, rfl, rfl, rfl, rfl, (congrArg (fun x => some (Value.bool x)) h21.symm), (congrArg (fun x => some (Value.bool x)) h21.symm), (congrArg (fun bx => some (Value.bool (bx || (decide (((farF S.nxt S.late) : Int) ≤ x.fin'))))) h21.symm), trivial⟩ rfl
        skip
        refine SL.ru rfl rfl (lt_b rfl) (ru_assign rfl rfl) ?_
        refine SL.nil ?_
        refine SC.of_SE ?_
        refine SC.norm [(4, bo ((!x.fin) || (decide (((farF S.nxt S.late) : Int) ≤ x.fin'))))] [rBlk d [pt p 0, Value.slice q1 S.l.length c1, Value.slice q2 S.late.length c2, iw S.nxt, iw S.hv, iw S.last, bo S.gone] 52, rPool p ab S.L, rRowN (.slice q1 S.l.length c1) (pRows S.l) 61 5, rRowN (.slice q2 S.late.length c2) (pRows S.late) 61 5, rBlk b1 [iw x.off, iw x.buf, iw x.skip, iw x.size, bo x.fin] 61, rMine (.slice qh2 ((seeF S.L x.buf).1.head.length) ch3) ((seeF S.L x.buf).1.head) 5, rMine (.slice qd4 ((seeF S.L x.buf).1.data.length) cd5) ((seeF S.L x.buf).1.data) 5, rBlk b6 [iw ((seeF S.L x.buf).1.refs : Int), Value.slice qh2 ((seeF S.L x.buf).1.head.length) ch3, Value.slice qd4 ((seeF S.L x.buf).1.data.length) cd5] 75] ⟨rfl, trivial⟩ rfl ?_
        refine SC.ret ?_
        refine SE.res (.inl rfl) (res1 Try.results18 rfl) fun w1 hI => ⟨ret_bo (Eq.symm ?_), hI.2⟩
        unfold fitsF
        rw [if_neg (not_t h12)]
        rw [if_neg (not_t h16)]
        rw [if_neg (not_t h20)]

end Go.Proofs.Ytpgnklmmjdkhiaa

/-
  Taking bytes that came.
-/
namespace Go.Proofs.Ytpgnklmmjdkhiaa
open Go.RowKit
set_option maxRecDepth 100000
set_option maxHeartbeats 4000000
theorem order_false {S : Rq} {x : Pc} (h : (orderF S x).1 = false) : (orderF S x).2 = S := by
  unfold orderF at h ⊢
  split
  · rfl
  · rename_i h0; rw [if_neg h0] at h; cases h
theorem waits_false {S : Rq} {x : Pc} (h : (waitsF S x).1 = false) : (waitsF S x).2 = S := by
  unfold waitsF at h ⊢
  split
  · rfl
  · rename_i h0; rw [if_neg h0] at h
    split
    · rfl
    · rename_i h1; rw [if_neg h1] at h; cases h
theorem put_any {w : World} {d p ab : Nat} {q1 q2 : Option Addr} {c1 c2 : Nat} {S : Rq} {x : Pc} (I : Rq → Prop) (hI0 : ∀ T, I T → T.late.length ≤ 1000) (hstep : ∀ T i y, I T → T.late[i]? = some y → y.off ≤ T.nxt → JnOk (dropAt T i) y ∧ I (joinF (dropAt T i) y)) (hM : S.late.length ≤ 1000) (lone : Lone S.L) (h1 : fitsF S x = true → x.off ≤ S.nxt → earlyF S x = false → JnOk S x ∧ I (joinF S x)) (h : Sep w (QR d p ab q1 c1 q2 c2 S)) :
    Calls Try.prog 10 #[pt d 0, iw x.off, iw x.buf, iw x.skip, iw x.size, bo x.fin] w fun e w' => e = .returned (bo (qPutF S x).1) ∧ QTo w d p ab (QG d p ab q1 c1 q2 c2 S) (qPutF S x).2 w' := by
  refine calls_sc (l0 := (QR d p ab q1 c1 q2 c2 S)) (args := [pt d 0, iw x.off, iw x.buf, iw x.skip, iw x.size, bo x.fin]) (QG d p ab q1 c1 q2 c2 S) Try.func10 rfl 46 Try.ntmps10 (le_b rfl) ⟨h, Only.refl _ _⟩ ?_
  show SC _ _ _ _ [(0, pt d 0), (1, iw x.off), (2, iw x.buf), (3, iw x.skip), (4, iw x.size), (5, bo x.fin)] (QR d p ab q1 c1 q2 c2 S)
  refine SC.seq ?_
  refine SC.region ?_
  refine SL.ru rfl rfl (lt_b rfl) (ru_assign rfl rfl) ?_
  refine SL.nil ?_
  refine SC.of_SE ?_
  refine SC.norm [(0, pt d 0), (1, iw x.off), (2, iw x.buf), (3, iw x.skip), (4, iw x.size), (5, bo x.fin), (12, bo false)] [rBlk d [pt p 0, Value.slice q1 S.l.length c1, Value.slice q2 S.late.length c2, iw S.nxt, iw S.hv, iw S.last, bo S.gone] 52, rPool p ab S.L, rRowN (.slice q1 S.l.length c1) (pRows S.l) 61 5, rRowN (.slice q2 S.late.length c2) (pRows S.late) 61 5] ⟨rfl, rfl, rfl, rfl, rfl, rfl, rfl, trivial⟩ rfl ?_
  refine SC.seq ?_
  refine SC.region ?_
  refine SL.ru rfl rfl (lt_b rfl) (ru_move rfl rfl) ?_
  refine SL.ru rfl rfl (lt_b rfl) (ru_move rfl rfl) ?_
  refine SL.ru rfl rfl (lt_b rfl) (ru_move rfl rfl) ?_
  refine SL.ru rfl rfl (lt_b rfl) (ru_move rfl rfl) ?_
  refine SL.ru rfl rfl (lt_b rfl) (ru_move rfl rfl) ?_
  refine SL.ru rfl rfl (lt_b rfl) (ru_build (vals := [(0, iw x.off), (1, iw x.buf), (2, iw x.skip), (3, iw x.size), (4, bo x.fin)]) (cells := [iw x.off, iw x.buf, iw x.skip, iw x.size, bo x.fin]) rfl rfl (by kernel_rfl)) ?_
  refine SL.alloca rfl rfl (lt_b rfl) ta61 rfl fun b1 hb1 => ?_
  refine SL.storea (i := 4) (vs := [iw x.off, iw x.buf, iw x.skip, iw x.size, bo x.fin]) (c' := [iw x.off, iw x.buf, iw x.skip, iw x.size, bo x.fin]) rfl rfl ta61 rfl rfl rfl rfl rfl rfl (le_b rfl) (.inr hb1) rfl ?_
  refine SL.nil ?_
  refine SC.of_SE ?_
  refine SC.norm [(0, pt d 0), (1, iw x.off), (2, iw x.buf), (12, bo false), (13, pt b1 0)] [rBlk d [pt p 0, Value.slice q1 S.l.length c1, Value.slice q2 S.late.length c2, iw S.nxt, iw S.hv, iw S.last, bo S.gone] 52, rPool p ab S.L, rRowN (.slice q1 S.l.length c1) (pRows S.l) 61 5, rRowN (.slice q2 S.late.length c2) (pRows S.late) 61 5, rBlk b1 [iw x.off, iw x.buf, iw x.skip, iw x.size, bo x.fin] 61] ⟨rfl, rfl, rfl, rfl, rfl, trivial⟩ rfl ?_
  refine SC.seq ?_
  refine SC.region ?_
  refine SL.ru rfl rfl (lt_b rfl) (ru_move rfl rfl) ?_
  refine SL.ru rfl rfl (lt_b rfl) (ru_loada (i := 4) (vs := [iw x.off, iw x.buf, iw x.skip, iw x.size, bo x.fin]) ta61 rfl rfl rfl rfl (le_b rfl)) ?_
  refine SL.callv (bo (fitsF S x)) rfl rfl co18 rfl rfl rfl (lt_b rfl) (fun w hI => H_only hI (fits_any hM x (Inv.four hI))) ?_
  refine SL.ru rfl rfl (lt_b rfl) (ru_assign rfl rfl) ?_
  refine SL.nil ?_
  refine SC.of_SE ?_
  refine SC.norm [(0, pt d 0), (1, iw x.off), (2, iw x.buf), (12, bo false), (13, pt b1 0), (14, bo (fitsF S x))] [rBlk d [pt p 0, Value.slice q1 S.l.length c1, Value.slice q2 S.late.length c2, iw S.nxt, iw S.hv, iw S.last, bo S.gone] 52, rPool p ab S.L, rRowN (.slice q1 S.l.length c1) (pRows S.l) 61 5, rRowN (.slice q2 S.late.length c2) (pRows S.late) 61 5, rBlk b1 [iw x.off, iw x.buf, iw x.skip, iw x.size, bo x.fin] 61] ⟨rfl, rfl, rfl, rfl, rfl, rfl, trivial⟩ rfl ?_
  refine SC.seq ?_
  refine SC.seq ?_
  refine SC.region ?_
  refine SL.ru rfl rfl (lt_b rfl) (ru_move rfl rfl) ?_
  refine SL.nil ?_
  refine SC.of_SE ?_
  refine SC.norm [(0, pt d 0), (1, iw x.off), (2, iw x.buf), (12, bo false), (13, pt b1 0), (14, bo (fitsF S x)), (24, bo (fitsF S x))] [rBlk d [pt p 0, Value.slice q1 S.l.length c1, Value.slice q2 S.late.length c2, iw S.nxt, iw S.hv, iw S.last, bo S.gone] 52, rPool p ab S.L, rRowN (.slice q1 S.l.length c1) (pRows S.l) 61 5, rRowN (.slice q2 S.late.length c2) (pRows S.late) 61 5, rBlk b1 [iw x.off, iw x.buf, iw x.skip, iw x.size, bo x.fin] 61] ⟨rfl, rfl, rfl, rfl, rfl, rfl, rfl, trivial⟩ rfl ?_
  refine SC.both (fitsF S x) rfl (fun h2 => ?_) (fun h2 => ?_)
  · skip
    have hfit := h2
    refine SC.seq ?_
    refine SC.region ?_
    refine SL.ru rfl rfl (lt_b rfl) (ru_move rfl rfl) ?_
    refine SL.ru rfl rfl (lt_b rfl) (ru_move rfl rfl) ?_
    refine SL.ru rfl rfl (lt_b rfl) (ru_nilCheck rfl rfl) ?_
    refine SL.ru rfl rfl (lt_b rfl) (ru_fieldAddr (o2 := 3) fd52_3 rfl rfl rfl) ?_
    refine SL.ru rfl rfl (lt_b rfl) (ru_load (i := 0) ts3 rfl rfl rfl rfl) ?_
    refine SL.ru rfl rfl (lt_b rfl) (ru_le (b := (decide ((x.off : Int) ≤ S.nxt))) rfl rfl rfl rfl) ?_
    refine SL.nil ?_
    refine SC.of_SE ?_
    refine SC.norm [(0, pt d 0), (2, iw x.buf), (12, bo false), (13, pt b1 0), (14, bo (fitsF S x)), (30, bo (decide ((x.off : Int) ≤ S.nxt)))] [rBlk d [pt p 0, Value.slice q1 S.l.length c1, Value.slice q2 S.late.length c2, iw S.nxt, iw S.hv, iw S.last, bo S.gone] 52, rPool p ab S.L, rRowN (.slice q1 S.l.length c1) (pRows S.l) 61 5, rRowN (.slice q2 S.late.length c2) (pRows S.late) 61 5, rBlk b1 [iw x.off, iw x.buf, iw x.skip, iw x.size, bo x.fin] 61] ⟨rfl, rfl, rfl, rfl, rfl, rfl, trivial⟩ rfl ?_
    refine SC.both (decide ((x.off : Int) ≤ S.nxt)) rfl (fun h3 => ?_) (fun h3 => ?_)
    · skip
      have hle := h3
      refine SC.region ?_
      refine SL.ru rfl rfl (lt_b rfl) (ru_move rfl rfl) ?_
      refine SL.ru rfl rfl (lt_b rfl) (ru_loada (i := 4) (vs := [iw x.off, iw x.buf, iw x.skip, iw x.size, bo x.fin]) ta61 rfl rfl rfl rfl (le_b rfl)) ?_
      refine SL.call (ζ := Option Addr × Nat × Option Addr × Nat) (fun z => bo ((orderF S x).1)) (fun z => QR d p ab z.1 z.2.1 z.2.2.1 z.2.2.2 ((orderF S x).2) ++ [rBlk b1 [iw x.off, iw x.buf, iw x.skip, iw x.size, bo x.fin] 61]) (fun z => ∀ b, QG d p ab z.1 z.2.1 z.2.2.1 z.2.2.2 ((orderF S x).2) b → (QG d p ab q1 c1 q2 c2 S) b ∨ w.heap.size ≤ b) rfl rfl co19 rfl rfl rfl (lt_b rfl) (fun w5 hI => (order_any I hI0 hstep (h1 hfit (of_decide_eq_true hle)) (Inv.four hI)).mono fun e w2 ⟨h1, k⟩ => by obtain ⟨a1, a2, a3, a4, k1, k2⟩ := Inv.qto (l := [rBlk b1 [iw x.off, iw x.buf, iw x.skip, iw x.size, bo x.fin] 61]) hI k (fun b hb => .inl hb); exact ⟨(a1, a2, a3, a4), h1, k1, k2⟩) ?_
      rintro ⟨qa4, ca5, qb6, cb7⟩ hG8
      refine SL.ru rfl rfl (lt_b rfl) (ru_assign rfl rfl) ?_
      refine SL.nil ?_
      refine SC.of_SE ?_
      refine SC.norm [(0, pt d 0), (2, iw x.buf), (12, bo false), (14, bo ((orderF S x).1))] [rBlk d [pt p 0, Value.slice qa4 ((((orderF S x).2).l).length) ca5, Value.slice qb6 ((((orderF S x).2).late).length) cb7, iw (((orderF S x).2).nxt), iw (((orderF S x).2).hv), iw (((orderF S x).2).last), bo (((orderF S x).2).gone)] 52, rPool p ab (((orderF S x).2).L), rRowN (.slice qa4 ((((orderF S x).2).l).length) ca5) (pRows (((orderF S x).2).l)) 61 5, rRowN (.slice qb6 ((((orderF S x).2).late).length) cb7) (pRows (((orderF S x).2).late)) 61 5, rBlk b1 [iw x.off, iw x.buf, iw x.skip, iw x.size, bo x.fin] 61] ⟨rfl, rfl, rfl, rfl, trivial⟩ rfl ?_
      refine SC.seq ?_
      refine SC.seq ?_
      refine SC.region ?_
      refine SL.ru rfl rfl (lt_b rfl) (ru_move rfl rfl) ?_
      refine SL.ru rfl rfl (lt_b rfl) (ru_not (c := (!((orderF S x).1))) rfl rfl rfl) ?_
      refine SL.nil ?_
      refine SC.of_SE ?_
      refine SC.norm [(0, pt d 0), (2, iw x.buf), (12, bo false), (14, bo ((orderF S x).1)), (38, bo (!((orderF S x).1)))] [rBlk d [pt p 0, Value.slice qa4 ((((orderF S x).2).l).length) ca5, Value.slice qb6 ((((orderF S x).2).late).length) cb7, iw (((orderF S x).2).nxt), iw (((orderF S x).2).hv), iw (((orderF S x).2).last), bo (((orderF S x).2).gone)] 52, rPool p ab (((orderF S x).2).L), rRowN (.slice qa4 ((((orderF S x).2).l).length) ca5) (pRows (((orderF S x).2).l)) 61 5, rRowN (.slice qb6 ((((orderF S x).2).late).length) cb7) (pRows (((orderF S x).2).late)) 61 5, rBlk b1 [iw x.off, iw x.buf, iw x.skip, iw x.size, bo x.fin] 61] ⟨rfl, rfl, rfl, rfl, rfl, trivial⟩ rfl ?_
      refine SC.both (!((orderF S x).1)) rfl (fun h9 => ?_) (fun h9 => ?_)
      · skip
        refine SC.region ?_
        refine SL.ru rfl rfl (lt_b rfl) (ru_move rfl rfl) ?_
        refine SL.ru rfl rfl (lt_b rfl) (ru_nilCheck rfl rfl) ?_
        refine SL.ru rfl rfl (lt_b rfl) (ru_fieldAddr (o2 := 0) fd52_0 rfl rfl rfl) ?_
        refine SL.ru rfl rfl (lt_b rfl) (ru_load (i := 0) ts25 rfl rfl rfl rfl) ?_
        refine SL.ru rfl rfl (lt_b rfl) (ru_move rfl rfl) ?_
        refine SL.call (ζ := Unit) (fun _z => iw ((freeF (((orderF S x).2).L) x.buf).1)) (fun _z => [rBlk d [pt p 0, Value.slice qa4 ((((orderF S x).2).l).length) ca5, Value.slice qb6 ((((orderF S x).2).late).length) cb7, iw (((orderF S x).2).nxt), iw (((orderF S x).2).hv), iw (((orderF S x).2).last), bo (((orderF S x).2).gone)] 52, rPool p ab ((freeF (((orderF S x).2).L) x.buf).2), rRowN (.slice qa4 ((((orderF S x).2).l).length) ca5) (pRows (((orderF S x).2).l)) 61 5, rRowN (.slice qb6 ((((orderF S x).2).late).length) cb7) (pRows (((orderF S x).2).late)) 61 5, rBlk b1 [iw x.off, iw x.buf, iw x.skip, iw x.size, bo x.fin] 61]) (fun _z => True) rfl rfl co21 rfl rfl rfl (lt_b rfl) (fun w hI => (free_any (pool_at hI (i := 1) rfl) x.buf (by rw [order_false (by simpa using h9)]; exact lone.few)).mono fun e w2 ⟨h1, h2⟩ => ⟨(), h1, hI.poolTo (i := 1) rfl (fun b hb => .inl (hb.elim (fun h => .inr (.inl h)) (fun h => .inr (.inr (.inl h))))) h2, trivial⟩) ?_
        rintro ⟨⟩ _
        refine SL.nil ?_
        refine SC.of_SE ?_
        refine SC.norm [(12, bo false), (14, bo ((orderF S x).1))] [rBlk d [pt p 0, Value.slice qa4 ((((orderF S x).2).l).length) ca5, Value.slice qb6 ((((orderF S x).2).late).length) cb7, iw (((orderF S x).2).nxt), iw (((orderF S x).2).hv), iw (((orderF S x).2).last), bo (((orderF S x).2).gone)] 52, rPool p ab ((freeF (((orderF S x).2).L) x.buf).2), rRowN (.slice qa4 ((((orderF S x).2).l).length) ca5) (pRows (((orderF S x).2).l)) 61 5, rRowN (.slice qb6 ((((orderF S x).2).late).length) cb7) (pRows (((orderF S x).2).late)) 61 5, rBlk b1 [iw x.off, iw x.buf, iw x.skip, iw x.size, bo x.fin] 61] ⟨rfl, rfl, trivial⟩ rfl ?_
        refine SC.seq ?_
        refine SC.region ?_
        refine SL.ru rfl rfl (lt_b rfl) (ru_move rfl rfl) ?_
        refine SL.ru rfl rfl (lt_b rfl) (ru_assign rfl rfl) ?_
        refine SL.nil ?_
        refine SC.of_SE ?_
        refine SC.norm [(12, bo ((orderF S x).1))] [rBlk d [pt p 0, Value.slice qa4 ((((orderF S x).2).l).length) ca5, Value.slice qb6 ((((orderF S x).2).late).length) cb7, iw (((orderF S x).2).nxt), iw (((orderF S x).2).hv), iw (((orderF S x).2).last), bo (((orderF S x).2).gone)] 52, rPool p ab ((freeF (((orderF S x).2).L) x.buf).2), rRowN (.slice qa4 ((((orderF S x).2).l).length) ca5) (pRows (((orderF S x).2).l)) 61 5, rRowN (.slice qb6 ((((orderF S x).2).late).length) cb7) (pRows (((orderF S x).2).late)) 61 5, rBlk b1 [iw x.off, iw x.buf, iw x.skip, iw x.size, bo x.fin] 61] ⟨rfl, trivial⟩ rfl ?_
        refine SC.ret ?_
        refine SE.res (.inl rfl) (res1 Try.results10 rfl) fun w1 hI => ?_
        have er : (if fitsF S x = true then (if decide (x.off ≤ S.nxt) = true then orderF S x else waitsF S x) else (false, S)) = orderF S x := by rw [if_pos h2, if_pos h3]
        unfold qPutF
        dsimp only
        rw [er]
        rw [if_pos h9]
        exact ⟨rfl, QTo.of (l := []) (by rw [List.append_nil]; exact hI.keep 4) (fun b hb => hG8 b hb)⟩
      · skip
        refine SC.skip ?_
        refine SC.of_SE ?_
        refine SC.norm [(12, bo false), (14, bo ((orderF S x).1))] [rBlk d [pt p 0, Value.slice qa4 ((((orderF S x).2).l).length) ca5, Value.slice qb6 ((((orderF S x).2).late).length) cb7, iw (((orderF S x).2).nxt), iw (((orderF S x).2).hv), iw (((orderF S x).2).last), bo (((orderF S x).2).gone)] 52, rPool p ab (((orderF S x).2).L), rRowN (.slice qa4 ((((orderF S x).2).l).length) ca5) (pRows (((orderF S x).2).l)) 61 5, rRowN (.slice qb6 ((((orderF S x).2).late).length) cb7) (pRows (((orderF S x).2).late)) 61 5, rBlk b1 [iw x.off, iw x.buf, iw x.skip, iw x.size, bo x.fin] 61] ⟨rfl, rfl, trivial⟩ rfl ?_
        refine SC.seq ?_
        refine SC.region ?_
        refine SL.ru rfl rfl (lt_b rfl) (ru_move rfl rfl) ?_
        refine SL.ru rfl rfl (lt_b rfl) (ru_assign rfl rfl) ?_
        refine SL.nil ?_
        refine SC.of_SE ?_
        refine SC.norm [(12, bo ((orderF S x).1))] [rBlk d [pt p 0, Value.slice qa4 ((((orderF S x).2).l).length) ca5, Value.slice qb6 ((((orderF S x).2).late).length) cb7, iw (((orderF S x).2).nxt), iw (((orderF S x).2).hv), iw (((orderF S x).2).last), bo (((orderF S x).2).gone)] 52, rPool p ab (((orderF S x).2).L), rRowN (.slice qa4 ((((orderF S x).2).l).length) ca5) (pRows (((orderF S x).2).l)) 61 5, rRowN (.slice qb6 ((((orderF S x).2).late).length) cb7) (pRows (((orderF S x).2).late)) 61 5, rBlk b1 [iw x.off, iw x.buf, iw x.skip, iw x.size, bo x.fin] 61] ⟨rfl, trivial⟩ rfl ?_
        refine SC.ret ?_
        refine SE.res (.inl rfl) (res1 Try.results10 rfl) fun w1 hI => ?_
        have er : (if fitsF S x = true then (if decide (x.off ≤ S.nxt) = true then orderF S x else waitsF S x) else (false, S)) = orderF S x := by rw [if_pos h2, if_pos h3]
        unfold qPutF
        dsimp only
        rw [er]
        rw [if_neg (not_t h9)]
        exact ⟨rfl, QTo.of (l := []) (by rw [List.append_nil]; exact hI.keep 4) (fun b hb => hG8 b hb)⟩
    · skip
      refine SC.region ?_
      refine SL.ru rfl rfl (lt_b rfl) (ru_move rfl rfl) ?_
      refine SL.ru rfl rfl (lt_b rfl) (ru_loada (i := 4) (vs := [iw x.off, iw x.buf, iw x.skip, iw x.size, bo x.fin]) ta61 rfl rfl rfl rfl (le_b rfl)) ?_
      refine SL.call (ζ := Option Addr × Nat × Option Addr × Nat) (fun z => bo ((waitsF S x).1)) (fun z => QR d p ab z.1 z.2.1 z.2.2.1 z.2.2.2 ((waitsF S x).2) ++ [rBlk b1 [iw x.off, iw x.buf, iw x.skip, iw x.size, bo x.fin] 61]) (fun z => ∀ b, QG d p ab z.1 z.2.1 z.2.2.1 z.2.2.2 ((waitsF S x).2) b → (QG d p ab q1 c1 q2 c2 S) b ∨ w.heap.size ≤ b) rfl rfl co20 rfl rfl rfl (lt_b rfl) (fun w5 hI => (waits_any hM (Inv.four hI)).mono fun e w2 ⟨h1, k⟩ => by obtain ⟨a1, a2, a3, a4, k1, k2⟩ := Inv.qto (l := [rBlk b1 [iw x.off, iw x.buf, iw x.skip, iw x.size, bo x.fin] 61]) hI k (fun b hb => .inl hb); exact ⟨(a1, a2, a3, a4), h1, k1, k2⟩) ?_
      rintro ⟨qa10, ca11, qb12, cb13⟩ hG14
      refine SL.ru rfl rfl (lt_b rfl) (ru_assign rfl rfl) ?_
      refine SL.nil ?_
      refine SC.of_SE ?_
      refine SC.norm [(0, pt d 0), (2, iw x.buf), (12, bo false), (14, bo ((waitsF S x).1))] [rBlk d [pt p 0, Value.slice qa10 ((((waitsF S x).2).l).length) ca11, Value.slice qb12 ((((waitsF S x).2).late).length) cb13, iw (((waitsF S x).2).nxt), iw (((waitsF S x).2).hv), iw (((waitsF S x).2).last), bo (((waitsF S x).2).gone)] 52, rPool p ab (((waitsF S x).2).L), rRowN (.slice qa10 ((((waitsF S x).2).l).length) ca11) (pRows (((waitsF S x).2).l)) 61 5, rRowN (.slice qb12 ((((waitsF S x).2).late).length) cb13) (pRows (((waitsF S x).2).late)) 61 5, rBlk b1 [iw x.off, iw x.buf, iw x.skip, iw x.size, bo x.fin] 61] ⟨rfl, rfl, rfl, rfl, trivial⟩ rfl ?_
      refine SC.seq ?_
      refine SC.seq ?_
      refine SC.region ?_
      refine SL.ru rfl rfl (lt_b rfl) (ru_move rfl rfl) ?_
      refine SL.ru rfl rfl (lt_b rfl) (ru_not (c := (!((waitsF S x).1))) rfl rfl rfl) ?_
      refine SL.nil ?_
      refine SC.of_SE ?_
      refine SC.norm [(0, pt d 0), (2, iw x.buf), (12, bo false), (14, bo ((waitsF S x).1)), (38, bo (!((waitsF S x).1)))] [rBlk d [pt p 0, Value.slice qa10 ((((waitsF S x).2).l).length) ca11, Value.slice qb12 ((((waitsF S x).2).late).length) cb13, iw (((waitsF S x).2).nxt), iw (((waitsF S x).2).hv), iw (((waitsF S x).2).last), bo (((waitsF S x).2).gone)] 52, rPool p ab (((waitsF S x).2).L), rRowN (.slice qa10 ((((waitsF S x).2).l).length) ca11) (pRows (((waitsF S x).2).l)) 61 5, rRowN (.slice qb12 ((((waitsF S x).2).late).length) cb13) (pRows (((waitsF S x).2).late)) 61 5, rBlk b1 [iw x.off, iw x.buf, iw x.skip, iw x.size, bo x.fin] 61] ⟨rfl, rfl, rfl, rfl, rfl, trivial⟩ rfl ?_
      refine SC.both (!((waitsF S x).1)) rfl (fun h15 => ?_) (fun h15 => ?_)
      · skip
        refine SC.region ?_
        refine SL.ru rfl rfl (lt_b rfl) (ru_move rfl rfl) ?_
        refine SL.ru rfl rfl (lt_b rfl) (ru_nilCheck rfl rfl) ?_
        refine SL.ru rfl rfl (lt_b rfl) (ru_fieldAddr (o2 := 0) fd52_0 rfl rfl rfl) ?_
        refine SL.ru rfl rfl (lt_b rfl) (ru_load (i := 0) ts25 rfl rfl rfl rfl) ?_
        refine SL.ru rfl rfl (lt_b rfl) (ru_move rfl rfl) ?_
        refine SL.call (ζ := Unit) (fun _z => iw ((freeF (((waitsF S x).2).L) x.buf).1)) (fun _z => [rBlk d [pt p 0, Value.slice qa10 ((((waitsF S x).2).l).length) ca11, Value.slice qb12 ((((waitsF S x).2).late).length) cb13, iw (((waitsF S x).2).nxt), iw (((waitsF S x).2).hv), iw (((waitsF S x).2).last), bo (((waitsF S x).2).gone)] 52, rPool p ab ((freeF (((waitsF S x).2).L) x.buf).2), rRowN (.slice qa10 ((((waitsF S x).2).l).length) ca11) (pRows (((waitsF S x).2).l)) 61 5, rRowN (.slice qb12 ((((waitsF S x).2).late).length) cb13) (pRows (((waitsF S x).2).late)) 61 5, rBlk b1 [iw x.off, iw x.buf, iw x.skip, iw x.size, bo x.fin] 61]) (fun _z => True) rfl rfl co21 rfl rfl rfl (lt_b rfl) (fun w hI => (free_any (pool_at hI (i := 1) rfl) x.buf (by rw [waits_false (by simpa using h15)]; exact lone.few)).mono fun e w2 ⟨h1, h2⟩ => ⟨(), h1, hI.poolTo (i := 1) rfl (fun b hb => .inl (hb.elim (fun h => .inr (.inl h)) (fun h => .inr (.inr (.inl h))))) h2, trivial⟩) ?_
        rintro ⟨⟩ _
        refine SL.nil ?_
        refine SC.of_SE ?_
        refine SC.norm [(12, bo false), (14, bo ((waitsF S x).1))] [rBlk d [pt p 0, Value.slice qa10 ((((waitsF S x).2).l).length) ca11, Value.slice qb12 ((((waitsF S x).2).late).length) cb13, iw (((waitsF S x).2).nxt), iw (((waitsF S x).2).hv), iw (((waitsF S x).2).last), bo (((waitsF S x).2).gone)] 52, rPool p ab ((freeF (((waitsF S x).2).L) x.buf).2), rRowN (.slice qa10 ((((waitsF S x).2).l).length) ca11) (pRows (((waitsF S x).2).l)) 61 5, rRowN (.slice qb12 ((((waitsF S x).2).late).length) cb13) (pRows (((waitsF S x).2).late)) 61 5, rBlk b1 [iw x.off, iw x.buf, iw x.skip, iw x.size, bo x.fin] 61] ⟨rfl, rfl, trivial⟩ rfl ?_
        refine SC.seq ?_
        refine SC.region ?_
        refine SL.ru rfl rfl (lt_b rfl) (ru_move rfl rfl) ?_
        refine SL.ru rfl rfl (lt_b rfl) (ru_assign rfl rfl) ?_
        refine SL.nil ?_
        refine SC.of_SE ?_
        refine SC.norm [(12, bo ((waitsF S x).1))] [rBlk d [pt p 0, Value.slice qa10 ((((waitsF S x).2).l).length) ca11, Value.slice qb12 ((((waitsF S x).2).late).length) cb13, iw (((waitsF S x).2).nxt), iw (((waitsF S x).2).hv), iw (((waitsF S x).2).last), bo (((waitsF S x).2).gone)] 52, rPool p ab ((freeF (((waitsF S x).2).L) x.buf).2), rRowN (.slice qa10 ((((waitsF S x).2).l).length) ca11) (pRows (((waitsF S x).2).l)) 61 5, rRowN (.slice qb12 ((((waitsF S x).2).late).length) cb13) (pRows (((waitsF S x).2).late)) 61 5, rBlk b1 [iw x.off, iw x.buf, iw x.skip, iw x.size, bo x.fin] 61] ⟨rfl, trivial⟩ rfl ?_
        refine SC.ret ?_
        refine SE.res (.inl rfl) (res1 Try.results10 rfl) fun w1 hI => ?_
        have er : (if fitsF S x = true then (if decide (x.off ≤ S.nxt) = true then orderF S x else waitsF S x) else (false, S)) = waitsF S x := by rw [if_pos h2, if_neg (not_t h3)]
        unfold qPutF
        dsimp only
        rw [er]
        rw [if_pos h15]
        exact ⟨rfl, QTo.of (l := []) (by rw [List.append_nil]; exact hI.keep 4) (fun b hb => hG14 b hb)⟩
      · skip
        refine SC.skip ?_
        refine SC.of_SE ?_
        refine SC.norm [(12, bo false), (14, bo ((waitsF S x).1))] [rBlk d [pt p 0, Value.slice qa10 ((((waitsF S x).2).l).length) ca11, Value.slice qb12 ((((waitsF S x).2).late).length) cb13, iw (((waitsF S x).2).nxt), iw (((waitsF S x).2).hv), iw (((waitsF S x).2).last), bo (((waitsF S x).2).gone)] 52, rPool p ab (((waitsF S x).2).L), rRowN (.slice qa10 ((((waitsF S x).2).l).length) ca11) (pRows (((waitsF S x).2).l)) 61 5, rRowN (.slice qb12 ((((waitsF S x).2).late).length) cb13) (pRows (((waitsF S x).2).late)) 61 5, rBlk b1 [iw x.off, iw x.buf, iw x.skip, iw x.size, bo x.fin] 61] ⟨rfl, rfl, trivial⟩ rfl ?_
        refine SC.seq ?_
        refine SC.region ?_
        refine SL.ru rfl rfl (lt_b rfl) (ru_move rfl rfl) ?_
        refine SL.ru rfl rfl (lt_b rfl) (ru_assign rfl rfl) ?_
        refine SL.nil ?_
        refine SC.of_SE ?_
        refine SC.norm [(12, bo ((waitsF S x).1))] [rBlk d [pt p 0, Value.slice qa10 ((((waitsF S x).2).l).length) ca11, Value.slice qb12 ((((waitsF S x).2).late).length) cb13, iw (((waitsF S x).2).nxt), iw (((waitsF S x).2).hv), iw (((waitsF S x).2).last), bo (((waitsF S x).2).gone)] 52, rPool p ab (((waitsF S x).2).L), rRowN (.slice qa10 ((((waitsF S x).2).l).length) ca11) (pRows (((waitsF S x).2).l)) 61 5, rRowN (.slice qb12 ((((waitsF S x).2).late).length) cb13) (pRows (((waitsF S x).2).late)) 61 5, rBlk b1 [iw x.off, iw x.buf, iw x.skip, iw x.size, bo x.fin] 61] ⟨rfl, trivial⟩ rfl ?_
        refine SC.ret ?_
        refine SE.res (.inl rfl) (res1 Try.results10 rfl) fun w1 hI => ?_
        have er : (if fitsF S x = true then (if decide (x.off ≤ S.nxt) = true then orderF S x else waitsF S x) else (false, S)) = waitsF S x := by rw [if_pos h2, if_neg (not_t h3)]
        unfold qPutF
        dsimp only
        rw [er]
        rw [if_neg (not_t h15)]
        exact ⟨rfl, QTo.of (l := []) (by rw [List.append_nil]; exact hI.keep 4) (fun b hb => hG14 b hb)⟩
  · skip
    refine SC.skip ?_
    refine SC.of_SE ?_
    refine SC.norm [(0, pt d 0), (2, iw x.buf), (12, bo false), (14, bo (fitsF S x))] [rBlk d [pt p 0, Value.slice q1 S.l.length c1, Value.slice q2 S.late.length c2, iw S.nxt, iw S.hv, iw S.last, bo S.gone] 52, rPool p ab S.L, rRowN (.slice q1 S.l.length c1) (pRows S.l) 61 5, rRowN (.slice q2 S.late.length c2) (pRows S.late) 61 5, rBlk b1 [iw x.off, iw x.buf, iw x.skip, iw x.size, bo x.fin] 61] ⟨rfl, rfl, rfl, rfl, trivial⟩ rfl ?_
    refine SC.seq ?_
    refine SC.seq ?_
    refine SC.region ?_
    refine SL.ru rfl rfl (lt_b rfl) (ru_move rfl rfl) ?_
    refine SL.ru rfl rfl (lt_b rfl) (ru_not (c := (!(fitsF S x))) rfl rfl rfl) ?_
    refine SL.nil ?_
    refine SC.of_SE ?_
    refine SC.norm [(0, pt d 0), (2, iw x.buf), (12, bo false), (14, bo (fitsF S x)), (38, bo (!(fitsF S x)))] [rBlk d [pt p 0, Value.slice q1 S.l.length c1, Value.slice q2 S.late.length c2, iw S.nxt, iw S.hv, iw S.last, bo S.gone] 52, rPool p ab S.L, rRowN (.slice q1 S.l.length c1) (pRows S.l) 61 5, rRowN (.slice q2 S.late.length c2) (pRows S.late) 61 5, rBlk b1 [iw x.off, iw x.buf, iw x.skip, iw x.size, bo x.fin] 61] ⟨rfl, rfl, rfl, rfl, rfl, trivial⟩ rfl ?_
    refine SC.both (!(fitsF S x)) rfl (fun h16 => ?_) (fun h16 => ?_)
    · skip
      refine SC.region ?_
      refine SL.ru rfl rfl (lt_b rfl) (ru_move rfl rfl) ?_
      refine SL.ru rfl rfl (lt_b rfl) (ru_nilCheck rfl rfl) ?_
      refine SL.ru rfl rfl (lt_b rfl) (ru_fieldAddr (o2 := 0) fd52_0 rfl rfl rfl) ?_
      refine SL.ru rfl rfl (lt_b rfl) (ru_load (i := 0) ts25 rfl rfl rfl rfl) ?_
      refine SL.ru rfl rfl (lt_b rfl) (ru_move rfl rfl) ?_
      refine SL.call (ζ := Unit) (fun _z => iw ((freeF S.L x.buf).1)) (fun _z => [rBlk d [pt p 0, Value.slice q1 S.l.length c1, Value.slice q2 S.late.length c2, iw S.nxt, iw S.hv, iw S.last, bo S.gone] 52, rPool p ab ((freeF S.L x.buf).2), rRowN (.slice q1 S.l.length c1) (pRows S.l) 61 5, rRowN (.slice q2 S.late.length c2) (pRows S.late) 61 5, rBlk b1 [iw x.off, iw x.buf, iw x.skip, iw x.size, bo x.fin] 61]) (fun _z => True) rfl rfl co21 rfl rfl rfl (lt_b rfl) (fun w hI => (free_any (pool_at hI (i := 1) rfl) x.buf lone.few).mono fun e w2 ⟨h1, h2⟩ => ⟨(), h1, hI.poolTo (i := 1) rfl (fun b hb => .inl (hb.elim (fun h => .inr (.inl h)) (fun h => .inr (.inr (.inl h))))) h2, trivial⟩) ?_
      rintro ⟨⟩ _
      refine SL.nil ?_
      refine SC.of_SE ?_
      refine SC.norm [(12, bo false), (14, bo (fitsF S x))] [rBlk d [pt p 0, Value.slice q1 S.l.length c1, Value.slice q2 S.late.length c2, iw S.nxt, iw S.hv, iw S.last, bo S.gone] 52, rPool p ab ((freeF S.L x.buf).2), rRowN (.slice q1 S.l.length c1) (pRows S.l) 61 5, rRowN (.slice q2 S.late.length c2) (pRows S.late) 61 5, rBlk b1 [iw x.off, iw x.buf, iw x.skip, iw x.size, bo x.fin] 61] ⟨rfl, rfl, trivial⟩ rfl ?_
      refine SC.seq ?_
      refine SC.region ?_
      refine SL.ru rfl rfl (lt_b rfl) (ru_move rfl rfl) ?_
      refine SL.ru rfl rfl (lt_b rfl) (ru_assign rfl rfl) ?_
      refine SL.nil ?_
      refine SC.of_SE ?_
      refine SC.norm [(12, bo (fitsF S x))] [rBlk d [pt p 0, Value.slice q1 S.l.length c1, Value.slice q2 S.late.length c2, iw S.nxt, iw S.hv, iw S.last, bo S.gone] 52, rPool p ab ((freeF S.L x.buf).2), rRowN (.slice q1 S.l.length c1) (pRows S.l) 61 5, rRowN (.slice q2 S.late.length c2) (pRows S.late) 61 5, rBlk b1 [iw x.off, iw x.buf, iw x.skip, iw x.size, bo x.fin] 61] ⟨rfl, trivial⟩ rfl ?_
      refine SC.ret ?_
      refine SE.res (.inl rfl) (res1 Try.results10 rfl) fun w1 hI => ?_
      have er : (if fitsF S x = true then (if decide (x.off ≤ S.nxt) = true then orderF S x else waitsF S x) else (false, S)) = (false, S) := by rw [if_neg (not_t h2)]
      unfold qPutF
      dsimp only
      rw [er]
      rw [if_pos (show (!(false, S).1) = true from rfl), h2]
      exact ⟨rfl, QTo.of (l := []) (by rw [List.append_nil]; exact hI.keep 4) (fun b hb => .inl hb)⟩
    · skip
      refine SC.skip ?_
      refine SC.of_SE ?_
      refine SC.norm [(12, bo false), (14, bo (fitsF S x))] [rBlk d [pt p 0, Value.slice q1 S.l.length c1, Value.slice q2 S.late.length c2, iw S.nxt, iw S.hv, iw S.last, bo S.gone] 52, rPool p ab S.L, rRowN (.slice q1 S.l.length c1) (pRows S.l) 61 5, rRowN (.slice q2 S.late.length c2) (pRows S.late) 61 5, rBlk b1 [iw x.off, iw x.buf, iw x.skip, iw x.size, bo x.fin] 61] ⟨rfl, rfl, trivial⟩ rfl ?_
      refine SC.seq ?_
      refine SC.region ?_
      refine SL.ru rfl rfl (lt_b rfl) (ru_move rfl rfl) ?_
      refine SL.ru rfl rfl (lt_b rfl) (ru_assign rfl rfl) ?_
      refine SL.nil ?_
      refine SC.of_SE ?_
      refine SC.norm [(12, bo (fitsF S x))] [rBlk d [pt p 0, Value.slice q1 S.l.length c1, Value.slice q2 S.late.length c2, iw S.nxt, iw S.hv, iw S.last, bo S.gone] 52, rPool p ab S.L, rRowN (.slice q1 S.l.length c1) (pRows S.l) 61 5, rRowN (.slice q2 S.late.length c2) (pRows S.late) 61 5, rBlk b1 [iw x.off, iw x.buf, iw x.skip, iw x.size, bo x.fin] 61] ⟨rfl, trivial⟩ rfl ?_
      refine SC.ret ?_
      refine SE.res (.inl rfl) (res1 Try.results10 rfl) fun w1 hI => ?_
      rw [h2] at h16; cases h16

end Go.Proofs.Ytpgnklmmjdkhiaa

/-
  slices.Backward over pieces.
-/
namespace Go.Proofs.Ytpgnklmmjdkhiaa
open Go.RowKit
set_option maxRecDepth 100000
set_option maxHeartbeats 4000000
theorem back0_any {w : World} {q : Option Addr} {n c : Nat} : Calls Try.prog 26 #[.slice q n c] w fun e w' => ∃ b, e = .returned (.func (.func 33) #[] #[pt b 0]) ∧ w.heap.size ≤ b ∧ Blk w' b [.slice q n c] 50 ∧ Only (fun _ => False) w w' := by
  refine calls_sc (l0 := []) (args := [Value.slice q n c]) (fun _ => False) Try.func26 rfl 4 Try.ntmps26 (le_b rfl) ⟨⟨by simp, List.Pairwise.nil⟩, Only.refl _ _⟩ ?_
  show SC _ _ _ _ [(0, Value.slice q n c)] []
  refine SC.seq ?_
  refine SC.region ?_
  refine SL.box (c := [Value.slice q n c]) rfl rfl (lt_b rfl) rfl rfl rfl fun b1 hb1 => ?_
  refine SL.ru rfl rfl (lt_b rfl) (ru_assign rfl rfl) ?_
  refine SL.nil ?_
  refine SC.of_SE ?_
  refine SC.norm [(1, pt b1 0), (2, Value.nilFunc)] [rBlk b1 [Value.slice q n c] 50] ⟨rfl, rfl, trivial⟩ rfl ?_
  refine SC.seq ?_
  refine SC.region ?_
  refine SL.ru rfl rfl (lt_b rfl) (ru_makeFunc (v1 := []) (v2 := [pt b1 0]) rfl rfl rfl) ?_
  refine SL.ru rfl rfl (lt_b rfl) (ru_assign rfl rfl) ?_
  refine SL.nil ?_
  refine SC.of_SE ?_
  refine SC.norm [(2, Value.func (.func 33) #[] #[pt b1 0])] [rBlk b1 [Value.slice q n c] 50] ⟨rfl, trivial⟩ rfl ?_
  refine SC.ret ?_
  refine SE.res (.inl rfl) (res1 Try.results26 rfl) fun w1 hI => ⟨b1, rfl, hb1, hI.1.get (i := 0) rfl, hI.2⟩

theorem back_any {γ : Type} {w : World} {S : Nat → Prop} {bt Lk c : Nat} {q : Option Addr} {M : List Pc} {r : Loop} (G : Nat → γ → List Res) (p : Nat → γ → Prop) (g0 : γ) (hM : M.length ≤ 1000000) (hps : 2 = r.params.size) (h : Sep w [rBlk bt [.slice q M.length c] 50, rRowN (.slice q M.length c) (pRows M) 61 5, rLoop Lk r, rPk (G 0 g0)]) (hp : p 0 g0)
    (round : ∀ (k : Nat) (g : γ) (i : Int) (x : Pc) (W : World), k < M.length → i = (M.length : Int) - 1 - k → M[i.toNat]? = some x → p k g → Inv ⟨19, w, S⟩ W [rBlk bt [.slice q M.length c] 50, rRowN (.slice q M.length c) (pRows M) 61 5, rLoop Lk r, rPk (G k g)] →
      RoundIn Fence.wide 0 Try.prog Lk r.fn ((r.params.zip #[iw i, .agg x.row.toArray]).foldl (fun t (p, v) => t.setIfInBounds p v) r.tmps) r.assign r.body W fun e W' => ∃ g', e = .returned (.bool true) ∧ Inv ⟨19, w, S⟩ W' [rBlk bt [.slice q M.length c] 50, rRowN (.slice q M.length c) (pRows M) 61 5, rLoop Lk r, rPk (G (k + 1) g')] ∧ p (k + 1) g') :
    Calls Try.prog 33 #[.func (.yield Lk) #[] #[], pt bt 0] w fun e w' => (∃ v, e = .returned v) ∧ ∃ g, p M.length g ∧ Inv ⟨19, w, S⟩ w' [rBlk bt [.slice q M.length c] 50, rRowN (.slice q M.length c) (pRows M) 61 5, rLoop Lk r, rPk (G M.length g)] := by
  refine calls_si (l0 := [rBlk bt [.slice q M.length c] 50, rRowN (.slice q M.length c) (pRows M) 61 5, rLoop Lk r, rPk (G 0 g0)]) (args := [.func (.yield Lk) #[] #[], pt bt 0]) S Try.func33 rfl 19 Try.ntmps33 (le_b rfl) ⟨h, Only.refl _ _⟩ (fun _ h => by obtain ⟨⟨_, h⟩, _⟩ := h; cases h) fun ho => ?_
  show SI _ _ _ _ _ [(0, .func (.yield Lk) #[] #[]), (1, pt bt 0)] _
  refine SI.seq ?_
  refine SI.of_SG (by exact fun a w h => ho a w h) (by kernel_rfl) (SG.region ?_)
  refine SL.ru rfl rfl (lt_b rfl) (ru_load (i := 0) ts50 rfl rfl rfl rfl) ?_
  refine SL.ru rfl rfl (lt_b rfl) (ru_len Try.underlying50 rfl rfl) ?_
  refine SL.ru rfl rfl (lt_b rfl) (ru_sub (r := ((M.length : Int) - 1)) rfl rfl rfl ((by rw [IntKind.wrap_i64]; omega))) ?_
  refine SL.ru rfl rfl (lt_b rfl) (ru_assign rfl rfl) ?_
  refine SL.nil ?_
  refine SI.of_SE ?_
  refine SI.norm [(0, Value.func (.yield Lk) #[] #[]), (1, pt bt 0), (3, iw ((M.length : Int) - 1))] [rBlk bt [Value.slice q M.length c] 50, rRowN (.slice q M.length c) (pRows M) 61 5, rLoop Lk r, rPk (G 0 g0)] ⟨rfl, rfl, rfl, trivial⟩ rfl ?_
  refine SI.block ?_
  refine SI.loop (γ := γ) (fun nn _ => [(0, Value.func (.yield Lk) #[] #[]), (1, pt bt 0), (3, iw ((nn : Int) - 1))]) (fun nn g => [rBlk bt [Value.slice q M.length c] 50, rRowN (.slice q M.length c) (pRows M) 61 5, rLoop Lk r, rPk (G (M.length - nn) g)]) (fun nn g => nn ≤ M.length ∧ p (M.length - nn) g) M.length g0 ⟨Nat.le_refl _, by rw [Nat.sub_self]; exact hp⟩ ⟨rfl, rfl, rfl, trivial⟩ (by rw [Nat.sub_self]) ?_
  rintro nn g ⟨hn, hg⟩
  rcases Nat.eq_zero_or_pos nn with h0 | h0
  · skip
    refine SI.seq ?_
    refine SI.seq ?_
    refine SI.of_SG (by exact fun a w h => ho a w h) (by kernel_rfl) (SG.region ?_)
    refine SL.ru rfl rfl (lt_b rfl) (ru_move rfl rfl) ?_
    refine SL.ru rfl rfl (lt_b rfl) (ru_ge (b := (decide ((0 : Int) ≤ ((nn : Int) - 1)))) rfl rfl rfl rfl) ?_
    refine SL.nil ?_
    refine SI.of_SE ?_
    refine SI.norm [(0, Value.func (.yield Lk) #[] #[]), (1, pt bt 0), (3, iw ((nn : Int) - 1)), (8, bo (decide ((0 : Int) ≤ ((nn : Int) - 1))))] [rBlk bt [Value.slice q M.length c] 50, rRowN (.slice q M.length c) (pRows M) 61 5, rLoop Lk r, rPk (G (M.length - nn) g)] ⟨rfl, rfl, rfl, rfl, trivial⟩ rfl ?_
    refine SI.no (show some (Value.bool (decide ((0 : Int) ≤ ((nn : Int) - 1)))) = some (Value.bool false) from congrArg (fun x => some (Value.bool x)) (decide_eq_false (by omega))) ?_
    refine SI.exit ?_
    refine SF.passe ?_
    refine SF.passe ?_
    refine SF.blke ?_
    have e : M.length - nn = M.length := by omega
    rw [e] at hg
    refine SF.res rfl (.inr rfl) (res0 Try.results33) fun w1 hI => ⟨⟨_, rfl⟩, g, hg, by rw [e] at hI; exact hI⟩
  · skip
    obtain ⟨x, hx⟩ : ∃ x, M[((nn : Int) - 1).toNat]? = some x := ⟨_, List.getElem?_eq_getElem (by omega)⟩
    refine SI.seq ?_
    refine SI.seq ?_
    refine SI.of_SG (by exact fun a w h => ho a w h) (by kernel_rfl) (SG.region ?_)
    refine SL.ru rfl rfl (lt_b rfl) (ru_move rfl rfl) ?_
    refine SL.ru rfl rfl (lt_b rfl) (ru_ge (b := (decide ((0 : Int) ≤ ((nn : Int) - 1)))) rfl rfl rfl rfl) ?_
    refine SL.nil ?_
    refine SI.of_SE ?_
    refine SI.norm [(0, Value.func (.yield Lk) #[] #[]), (1, pt bt 0), (3, iw ((nn : Int) - 1)), (8, bo (decide ((0 : Int) ≤ ((nn : Int) - 1))))] [rBlk bt [Value.slice q M.length c] 50, rRowN (.slice q M.length c) (pRows M) 61 5, rLoop Lk r, rPk (G (M.length - nn) g)] ⟨rfl, rfl, rfl, rfl, trivial⟩ rfl ?_
    refine SI.yes (show some (Value.bool (decide ((0 : Int) ≤ ((nn : Int) - 1)))) = some (Value.bool true) from congrArg (fun x => some (Value.bool x)) (decide_eq_true (by omega))) ?_
    refine SI.skip ?_
    refine SI.of_SE ?_
    refine SI.norm [(0, Value.func (.yield Lk) #[] #[]), (1, pt bt 0), (3, iw ((nn : Int) - 1))] [rBlk bt [Value.slice q M.length c] 50, rRowN (.slice q M.length c) (pRows M) 61 5, rLoop Lk r, rPk (G (M.length - nn) g)] ⟨rfl, rfl, rfl, trivial⟩ rfl ?_
    refine SI.seq ?_
    refine SI.block ?_
    refine SI.seq ?_
    refine SI.region_list ?_
    refine SLI.head 6 (by exact fun a w h => ho a w h) (by kernel_rfl) ?_
    refine SL.ru rfl rfl (lt_b rfl) (ru_move rfl rfl) ?_
    refine SL.ru rfl rfl (lt_b rfl) (ru_move rfl rfl) ?_
    refine SL.ru rfl rfl (lt_b rfl) (ru_load (i := 0) ts50 rfl rfl rfl rfl) ?_
    refine SL.ru rfl rfl (lt_b rfl) (ru_move rfl rfl) ?_
    refine SL.ru rfl rfl (lt_b rfl) (ru_index_rowN (ri := 1) si50 rfl rfl rfl rfl (by omega) (by omega)) ?_
    refine SL.ru rfl rfl (lt_b rfl) (ru_loada_rowN (ri := 1) (i := ((nn : Int) - 1).toNat) (r := [iw x.off, iw x.buf, iw x.skip, iw x.size, bo x.fin]) ta61 rfl rfl rfl (by rw [List.getElem?_map, hx]; rfl) rfl rfl) ?_
    refine SL.nil ?_
    refine SF.list ?_
    refine SLI.yield (ζ := γ) (fun g2 => bo true) (fun g2 => [rBlk bt [Value.slice q M.length c] 50, rRowN (.slice q M.length c) (pRows M) 61 5, rLoop Lk r, rPk (G (M.length - nn + 1) g2)]) (fun g2 => p (M.length - nn + 1) g2) (j := 2) rfl rfl rfl rfl rfl rfl hps rfl (lt_b rfl) (fun w hI => (round (M.length - nn) g ((nn : Int) - 1) x w (by omega) (by omega) hx hg hI).mono fun e w2 ⟨g2, h1, h2, h3⟩ => ⟨g2, h1, h2, h3⟩) ?_
    intro g2 hg2
    refine SLI.head 1 (by exact fun a w h => ho a w h) (by kernel_rfl) ?_
    refine SL.ru rfl rfl (lt_b rfl) (ru_not (c := false) rfl rfl rfl) ?_
    refine SL.nil ?_
    refine SF.list ?_
    refine SLI.nil ?_
    refine SI.of_SE ?_
    refine SI.norm [(0, Value.func (.yield Lk) #[] #[]), (1, pt bt 0), (3, iw ((nn : Int) - 1)), (18, bo false)] [rBlk bt [Value.slice q M.length c] 50, rRowN (.slice q M.length c) (pRows M) 61 5, rLoop Lk r, rPk (G (M.length - nn + 1) g2)] ⟨rfl, rfl, rfl, rfl, trivial⟩ rfl ?_
    refine SI.no rfl ?_
    refine SI.skip ?_
    refine SF.blkn ?_
    refine SI.of_SE ?_
    refine SI.norm [(0, Value.func (.yield Lk) #[] #[]), (1, pt bt 0), (3, iw ((nn : Int) - 1))] [rBlk bt [Value.slice q M.length c] 50, rRowN (.slice q M.length c) (pRows M) 61 5, rLoop Lk r, rPk (G (M.length - nn + 1) g2)] ⟨rfl, rfl, rfl, trivial⟩ rfl ?_
    refine SI.of_SG (by exact fun a w h => ho a w h) (by kernel_rfl) (SG.region ?_)
    refine SL.ru rfl rfl (lt_b rfl) (ru_move rfl rfl) ?_
    refine SL.ru rfl rfl (lt_b rfl) (ru_sub (r := (IntKind.i64.wrap (((nn : Int) - 1) - 1))) rfl rfl rfl rfl) ?_
    refine SL.ru rfl rfl (lt_b rfl) (ru_assign rfl rfl) ?_
    refine SL.nil ?_
    refine SF.again (nn - 1) g2 (by omega) ⟨by omega, by rw [show M.length - (nn - 1) = M.length - nn + 1 by omega]; exact hg2⟩ ⟨rfl, rfl, (congrArg (fun x => some (iw x)) (show IntKind.i64.wrap (((nn : Int) - 1) - 1) = ((nn - 1 : Nat) : Int) - 1 by rw [IntKind.wrap_i64]; omega)), trivial⟩ (by rw [show M.length - (nn - 1) = M.length - nn + 1 by omega])

end Go.Proofs.Ytpgnklmmjdkhiaa

/-
  What came out of order, told.
-/
namespace Go.Proofs.Ytpgnklmmjdkhiaa
open Go.RowKit
set_option maxRecDepth 100000
set_option maxHeartbeats 4000000
abbrev oRow (x : Int × Int) : List Value := [iw x.1, iw x.2]
/-- Of these, the first three that have bytes: from where to where. -/
def gotF (l : List Pc) : List (Int × Int) := l.foldl (fun o x => if (decide ((0 : Int) < x.size) && decide ((o.length : Int) < 3)) = true then o ++ [(x.off, x.fin')] else o) []
theorem got_snoc {M : List Pc} {x : Pc} {j : Nat} (h : M[j]? = some x) : gotF (M.take (j + 1)) = if (decide ((0 : Int) < x.size) && decide (((gotF (M.take j)).length : Int) < 3)) = true then gotF (M.take j) ++ [(x.off, x.fin')] else gotF (M.take j) := by
  unfold gotF
  rw [List.take_add_one, h]
  simp
theorem got_yes {M : List Pc} {x : Pc} {j : Nat} (e : (decide ((0 : Int) < x.size) && decide (((gotF (M.take j)).length : Int) < 3)) = true) (h : M[j]? = some x) : gotF (M.take (j + 1)) = gotF (M.take j) ++ [(x.off, x.fin')] ∧ (gotF (M.take (j + 1))).length = (gotF (M.take j)).length + 1 := by
  have := got_snoc h
  rw [if_pos e] at this
  exact ⟨this, by rw [this]; simp⟩
theorem got_no {M : List Pc} {x : Pc} {j : Nat} (e : (decide ((0 : Int) < x.size) && decide (((gotF (M.take j)).length : Int) < 3)) = false) (h : M[j]? = some x) : gotF (M.take (j + 1)) = gotF (M.take j) := by
  have := got_snoc h
  rwa [if_neg (by rw [e]; simp)] at this
theorem got_len (M : List Pc) : (gotF M).length ≤ 3 := by
  unfold gotF
  suffices h : ∀ (M : List Pc) (o : List (Int × Int)), o.length ≤ 3 → (M.foldl (fun o x => if (decide ((0 : Int) < x.size) && decide ((o.length : Int) < 3)) = true then o ++ [(x.off, x.fin')] else o) o).length ≤ 3 from h M [] (by simp)
  intro M
  induction M with
  | nil => intro o h; exact h
  | cons x r ih =>
    intro o h
    rw [List.foldl_cons]
    refine ih _ ?_
    split
    · rename_i hh
      simp only [Bool.and_eq_true, decide_eq_true_eq] at hh
      simp; omega
    · exact h
theorem got_rev {M : List Pc} {x : Pc} {i : Int} {k : Nat} (h : M[i.toNat]? = some x) (hi : i = (M.length : Int) - 1 - k ∧ k < M.length) : M.reverse[k]? = some x := by
  rw [List.getElem?_reverse hi.2, ← h]
  congr 1
  omega
theorem got_any {w : World} {d p ab : Nat} {q1 q2 : Option Addr} {c1 c2 : Nat} {S : Rq} (hM : S.late.length ≤ 1000) (h : Sep w (QR d p ab q1 c1 q2 c2 S)) : Calls Try.prog 15 #[pt d 0] w fun e w' => ∃ q c, e = .returned (.slice q (gotF S.late.reverse).length c) ∧ RowsN w' (.slice q (gotF S.late.reverse).length c) ((gotF S.late.reverse).map oRow) 45 2 ∧ (∀ b, (Value.slice q (gotF S.late.reverse).length c).ownBlock = some b → w.heap.size ≤ b) ∧ Only (fun _ => False) w w' := by
  refine calls_si (l0 := (QR d p ab q1 c1 q2 c2 S)) (args := [pt d 0]) (fun _ => False) Try.func15 rfl 30 Try.ntmps15 (le_b rfl) ⟨h, Only.refl _ _⟩ (fun _ h => by obtain ⟨_, _, h, _⟩ := h; cases h) fun ho => ?_
  show SI _ _ _ _ _ [(0, pt d 0)] (QR d p ab q1 c1 q2 c2 S)
  refine SI.seq ?_
  refine SI.of_SG (by exact fun a w h => ho a w h) (by kernel_rfl) (SG.region ?_)
  refine SL.ru rfl rfl (lt_b rfl) (ru_assign rfl rfl) ?_
  refine SL.nil ?_
  refine SI.of_SE ?_
  refine SI.norm [(0, pt d 0), (2, Value.slice none 0 0)] [rBlk d [pt p 0, Value.slice q1 S.l.length c1, Value.slice q2 S.late.length c2, iw S.nxt, iw S.hv, iw S.last, bo S.gone] 52, rPool p ab S.L, rRowN (.slice q1 S.l.length c1) (pRows S.l) 61 5, rRowN (.slice q2 S.late.length c2) (pRows S.late) 61 5] ⟨rfl, rfl, trivial⟩ rfl ?_
  refine SI.seq ?_
  refine SI.of_SG (by exact fun a w h => ho a w h) (by kernel_rfl) (SG.region ?_)
  refine SL.alloc rfl rfl (lt_b rfl) ts43 rfl fun b1 hb1 => ?_
  refine SL.nil ?_
  refine SI.of_SE ?_
  refine SI.norm [(0, pt d 0), (2, Value.slice none 0 0), (3, pt b1 0)] [rBlk d [pt p 0, Value.slice q1 S.l.length c1, Value.slice q2 S.late.length c2, iw S.nxt, iw S.hv, iw S.last, bo S.gone] 52, rPool p ab S.L, rRowN (.slice q1 S.l.length c1) (pRows S.l) 61 5, rRowN (.slice q2 S.late.length c2) (pRows S.late) 61 5, rBlk b1 [Value.slice none 0 0] 43] ⟨rfl, rfl, rfl, trivial⟩ rfl ?_
  refine SI.seq ?_
  refine SI.seq ?_
  refine SI.of_SG (by exact fun a w h => ho a w h) (by kernel_rfl) (SG.region ?_)
  refine SL.ru rfl rfl (lt_b rfl) (ru_move rfl rfl) ?_
  refine SL.ru rfl rfl (lt_b rfl) (ru_nilCheck rfl rfl) ?_
  refine SL.ru rfl rfl (lt_b rfl) (ru_fieldAddr (o2 := 2) fd52_2 rfl rfl rfl) ?_
  refine SL.ru rfl rfl (lt_b rfl) (ru_load (i := 0) ts50 rfl rfl rfl rfl) ?_
  refine SL.mk (Mk.fnc ⟨30, w, fun _ => False⟩ 33 [Value.slice q2 S.late.length c2] 50) (w_all rfl) rfl co26 rfl rfl rfl (lt_b rfl) (fun l' w hI => back0_any.mono fun e w2 ⟨b, h1, h2, h3, h4⟩ => ⟨_, h1, ⟨b, Nat.le_trans hI.2.size h2, rfl⟩, hI.add h4 h3 (fun k hk => by cases hk; exact h2)⟩) ?_
  rintro _ ⟨b2, hb2, rfl⟩
  refine SL.norm [(0, pt d 0), (2, Value.slice none 0 0), (3, pt b1 0), (6, pt d 0), (7, pt d 0), (8, pt d 2), (9, Value.slice q2 S.late.length c2), (10, Value.func (.func 33) #[] #[pt b2 0])] [rBlk d [pt p 0, Value.slice q1 S.l.length c1, Value.slice q2 S.late.length c2, iw S.nxt, iw S.hv, iw S.last, bo S.gone] 52, rPool p ab S.L, rRowN (.slice q1 S.l.length c1) (pRows S.l) 61 5, rRowN (.slice q2 S.late.length c2) (pRows S.late) 61 5, rBlk b1 [Value.slice none 0 0] 43, rBlk b2 [Value.slice q2 S.late.length c2] 50] ⟨rfl, rfl, rfl, rfl, rfl, rfl, rfl, rfl, trivial⟩ rfl ?_
  refine SL.nil ?_
  refine SI.of_SE ?_
  refine SI.norm [(2, Value.slice none 0 0), (3, pt b1 0), (10, Value.func (.func 33) #[] #[pt b2 0])] [rBlk d [pt p 0, Value.slice q1 S.l.length c1, Value.slice q2 S.late.length c2, iw S.nxt, iw S.hv, iw S.last, bo S.gone] 52, rPool p ab S.L, rRowN (.slice q1 S.l.length c1) (pRows S.l) 61 5, rRowN (.slice q2 S.late.length c2) (pRows S.late) 61 5, rBlk b1 [Value.slice none 0 0] 43, rBlk b2 [Value.slice q2 S.late.length c2] 50] ⟨rfl, rfl, rfl, trivial⟩ rfl ?_
  refine SI.block ?_
  refine SI.norm [(2, Value.slice none 0 0), (3, pt b1 0), (10, Value.func (.func 33) #[] #[pt b2 0])] [rBlk d [pt p 0, Value.slice q1 S.l.length c1, Value.slice q2 S.late.length c2, iw S.nxt, iw S.hv, iw S.last, bo S.gone] 52, rPool p ab S.L, rRowN (.slice q1 S.l.length c1) (pRows S.l) 61 5, rRowN (.slice q2 S.late.length c2) (pRows S.late) 61 5, rBlk b1 [Value.slice none 0 0] 43, rBlk b2 [Value.slice q2 S.late.length c2] 50] ⟨rfl, rfl, rfl, trivial⟩ rfl ?_
  refine SI.range (lb := [pt b2 0]) (ζ := Option Addr × Nat) (fun z => [rBlk b1 [Value.slice z.1 ((gotF S.late.reverse).length) z.2] 43, rRowN (.slice z.1 (gotF S.late.reverse).length z.2) ((gotF S.late.reverse).map oRow) 45 2, rBlk d [pt p 0, Value.slice q1 S.l.length c1, Value.slice q2 S.late.length c2, iw S.nxt, iw S.hv, iw S.last, bo S.gone] 52, rPool p ab S.L, rRowN (.slice q1 S.l.length c1) (pRows S.l) 61 5]) (fun z j => j = none ∧ ∀ b, (Value.slice z.1 (gotF S.late.reverse).length z.2).ownBlock = some b → w.heap.size ≤ b) rfl co33 rfl ?_ ?_
  · intro r D Lk w1 hrp hra hrb hrs hrj hT hD hL hI
    have hI2 := (hI.nilRow 45 2).reo [5, 3, 7, 4, 8, 0, 1, 2, 6] (by decide)
    have hI3 := Inv.pack (l1 := [rBlk b2 [.slice q2 S.late.length c2] 50, rRowN (.slice q2 S.late.length c2) (pRows S.late) 61 5, rLoop Lk r]) (ls := [rBlk b1 [Value.slice none ((gotF (S.late.reverse.take 0)).length) 0] 43, rRowN (.slice none (gotF (S.late.reverse.take 0)).length 0) ((gotF (S.late.reverse.take 0)).map oRow) 45 2, rBlk d [pt p 0, Value.slice q1 S.l.length c1, Value.slice q2 S.late.length c2, iw S.nxt, iw S.hv, iw S.last, bo S.gone] 52, rPool p ab S.L, rRowN (.slice q1 S.l.length c1) (pRows S.l) 61 5, rDef D]) hI2
    refine (back_any (γ := Option Addr × Nat) (S := fun b => w.heap.size ≤ b) (fun k g => [rBlk b1 [Value.slice g.1 ((gotF (S.late.reverse.take k)).length) g.2] 43, rRowN (.slice g.1 (gotF (S.late.reverse.take k)).length g.2) ((gotF (S.late.reverse.take k)).map oRow) 45 2, rBlk d [pt p 0, Value.slice q1 S.l.length c1, Value.slice q2 S.late.length c2, iw S.nxt, iw S.hv, iw S.last, bo S.gone] 52, rPool p ab S.L, rRowN (.slice q1 S.l.length c1) (pRows S.l) 61 5, rDef D]) (fun k g => ∀ b, (Value.slice g.1 (gotF (S.late.reverse.take k)).length g.2).ownBlock = some b → w.heap.size ≤ b) (none, 0) (by omega) (by rw [hrp]; rfl) hI3.1 (fun b hb => by simp [Value.ownBlock] at hb) ?_).mono ?_
    · intro k g i x W hk hi hx hg hW
      obtain ⟨q9, c9⟩ := g
      have hWw : w.heap.size ≤ W.heap.size := Nat.le_trans hI.2.size hW.2.size
      have hx2 : S.late.reverse[k]? = some x := got_rev hx (by omega)
      have hgl := got_len (S.late.reverse.take k)
      have hkl : k < S.late.reverse.length := by rw [List.length_reverse]; exact hk
      refine round_si2 (m := [(3, pt b1 0)]) (l0 := [rBlk b2 [Value.slice q2 S.late.length c2] 50, rRowN (.slice q2 S.late.length c2) (pRows S.late) 61 5, rLoop Lk r, rBlk b1 [Value.slice q9 ((gotF (S.late.reverse.take k)).length) c9] 43, rRowN (.slice q9 (gotF (S.late.reverse.take k)).length c9) ((gotF (S.late.reverse.take k)).map oRow) 45 2, rBlk d [pt p 0, Value.slice q1 S.l.length c1, Value.slice q2 S.late.length c2, iw S.nxt, iw S.hv, iw S.last, bo S.gone] 52, rPool p ab S.L, rRowN (.slice q1 S.l.length c1) (pRows S.l) 61 5, rDef D]) (v1 := iw i) (v2 := .agg x.row.toArray) (fun b => w.heap.size ≤ b) 30 hrp hra hrb (Fr.sub (m' := [(3, pt b1 0)]) hT ⟨rfl, trivial⟩) (by decide) (by decide) (Inv.unpack (l1 := [_, _, _]) hW).1 ?_
      refine SI.of_SG (by exact fun _ _ h => h) (by kernel_rfl) (SG.region ?_)
      refine SL.alloca rfl rfl (lt_b rfl) ta61 rfl fun b3 hb3 => ?_
      refine SL.storea (i := 9) (vs := [iw x.off, iw x.buf, iw x.skip, iw x.size, bo x.fin]) (c' := [iw x.off, iw x.buf, iw x.skip, iw x.size, bo x.fin]) rfl rfl ta61 rfl rfl rfl rfl rfl rfl (le_b rfl) (.inr hb3) rfl ?_
      refine SL.nil ?_
      refine SF.begin (j := 2) rfl rfl hrs (.inl hL) ?_
      refine SI.block ?_
      refine SI.seq ?_
      refine SI.of_SG (by exact fun _ _ h => h) (by kernel_rfl) (SG.region ?_)
      refine SL.ru rfl rfl (lt_b rfl) (ru_fieldAddr (o2 := 3) fd61_3 rfl rfl rfl) ?_
      refine SL.ru rfl rfl (lt_b rfl) (ru_load (i := 9) ts3 rfl rfl rfl rfl) ?_
      refine SL.ru rfl rfl (lt_b rfl) (ru_gt (b := (decide ((0 : Int) < x.size))) rfl rfl rfl rfl) ?_
      refine SL.ru rfl rfl (lt_b rfl) (ru_move rfl rfl) ?_
      refine SL.join 4 [(12, Value.agg #[iw x.off, iw x.buf, iw x.skip, iw x.size, bo x.fin]), (11, iw i), (3, pt b1 0), (5, pt b3 0), (13, pt b3 3), (14, iw x.size), (15, bo (decide ((0 : Int) < x.size))), (16, bo (decide ((0 : Int) < x.size))), (20, bo ((decide ((0 : Int) < x.size)) && (decide ((((gotF (S.late.reverse.take k)).length : Int) : Int) < 3))))] [rBlk b2 [Value.slice q2 S.late.length c2] 50, rRowN (.slice q2 S.late.length c2) (pRows S.late) 61 5, rLoop Lk { r with state := .busy }, rBlk b1 [Value.slice q9 ((gotF (S.late.reverse.take k)).length) c9] 43, rRowN (.slice q9 (gotF (S.late.reverse.take k)).length c9) ((gotF (S.late.reverse.take k)).map oRow) 45 2, rBlk d [pt p 0, Value.slice q1 S.l.length c1, Value.slice q2 S.late.length c2, iw S.nxt, iw S.hv, iw S.last, bo S.gone] 52, rPool p ab S.L, rRowN (.slice q1 S.l.length c1) (pRows S.l) 61 5, rDef D, rBlk b3 [iw x.off, iw x.buf, iw x.skip, iw x.size, bo x.fin] 61] ?_ ?_
      rotate_left
      · intro K hK
        rcases tf (decide ((0 : Int) < x.size)) with h4 | h4
        · skip
          refine SL.norm [(12, Value.agg #[iw x.off, iw x.buf, iw x.skip, iw x.size, bo x.fin]), (11, iw i), (3, pt b1 0), (5, pt b3 0), (13, pt b3 3), (14, iw x.size), (15, bo true), (16, bo true)] [rBlk b2 [Value.slice q2 S.late.length c2] 50, rRowN (.slice q2 S.late.length c2) (pRows S.late) 61 5, rLoop Lk { r with state := .busy }, rBlk b1 [Value.slice q9 ((gotF (S.late.reverse.take k)).length) c9] 43, rRowN (.slice q9 (gotF (S.late.reverse.take k)).length c9) ((gotF (S.late.reverse.take k)).map oRow) 45 2, rBlk d [pt p 0, Value.slice q1 S.l.length c1, Value.slice q2 S.late.length c2, iw S.nxt, iw S.hv, iw S.last, bo S.gone] 52, rPool p ab S.L, rRowN (.slice q1 S.l.length c1) (pRows S.l) 61 5, rDef D, rBlk b3 [iw x.off, iw x.buf, iw x.skip, iw x.size, bo x.fin] 61] ⟨rfl, rfl, rfl, rfl, rfl, rfl, (congrArg (fun x => some (Value.bool x)) h4), (congrArg (fun x => some (Value.bool x)) h4), trivial⟩ rfl ?_
          refine SL.rug rfl rfl rfl rfl (lt_b rfl) (ru_load (i := 3) ts43 rfl rfl rfl rfl) ?_
          refine SL.rug rfl rfl rfl rfl (lt_b rfl) (ru_len Try.underlying43 rfl rfl) ?_
          refine SL.rug rfl rfl rfl rfl (lt_b rfl) (ru_lt (b := (decide ((((gotF (S.late.reverse.take k)).length : Int) : Int) < 3))) rfl rfl rfl rfl) ?_
          refine SL.ru rfl rfl (lt_b rfl) (ru_pick (u := bo (decide ((((gotF (S.late.reverse.take k)).length : Int) : Int) < 3))) (v := bo false) rfl rfl rfl rfl) ?_
          exact SL.joined hK ⟨rfl, rfl, rfl, rfl, rfl, rfl, (congrArg (fun x => some (Value.bool x)) h4.symm), (congrArg (fun x => some (Value.bool x)) h4.symm), (congrArg (fun bx => some (Value.bool (bx && (decide ((((gotF (S.late.reverse.take k)).length : Int) : Int) < 3))))) h4.symm), trivial⟩ rfl
        · skip
          refine SL.norm [(12, Value.agg #[iw x.off, iw x.buf, iw x.skip, iw x.size, bo x.fin]), (11, iw i), (3, pt b1 0), (5, pt b3 0), (13, pt b3 3), (14, iw x.size), (15, bo false), (16, bo false)] [rBlk b2 [Value.slice q2 S.late.length c2] 50, rRowN (.slice q2 S.late.length c2) (pRows S.late) 61 5, rLoop Lk { r with state := .busy }, rBlk b1 [Value.slice q9 ((gotF (S.late.reverse.take k)).length) c9] 43, rRowN (.slice q9 (gotF (S.late.reverse.take k)).length c9) ((gotF (S.late.reverse.take k)).map oRow) 45 2, rBlk d [pt p 0, Value.slice q1 S.l.length c1, Value.slice q2 S.late.length c2, iw S.nxt, iw S.hv, iw S.last, bo S.gone] 52, rPool p ab S.L, rRowN (.slice q1 S.l.length c1) (pRows S.l) 61 5, rDef D, rBlk b3 [iw x.off, iw x.buf, iw x.skip, iw x.size, bo x.fin] 61] ⟨rfl, rfl, rfl, rfl, rfl, rfl, (congrArg (fun x => some (Value.bool x)) h4), (congrArg (fun x => some (Value.bool x)) h4), trivial⟩ rfl ?_
          refine SL.off (b := false) rfl rfl rfl rfl rfl (lt_b rfl) ?_
          refine SL.off (b := false) rfl rfl rfl rfl rfl (lt_b rfl) ?_
          refine SL.off (b := false) rfl rfl rfl rfl rfl (lt_b rfl) ?_
          refine SL.ru rfl rfl (lt_b rfl) (ru_pick (u := undef) (v := bo false) rfl rfl rfl rfl) ?_
          exact SL.joined hK ⟨rfl, rfl, rfl, rfl, rfl, rfl, (congrArg (fun x => some (Value.bool x)) h4.symm), (congrArg (fun x => some (Value.bool x)) h4.symm), (congrArg (fun bx => some (Value.bool (bx && (decide ((((gotF (S.late.reverse.take k)).length : Int) : Int) < 3))))) h4.symm), trivial⟩ rfl
      skip
      refine SL.nil ?_
      refine SI.of_SE ?_
      refine SI.norm [(3, pt b1 0), (5, pt b3 0), (20, bo ((decide ((0 : Int) < x.size)) && (decide ((((gotF (S.late.reverse.take k)).length : Int) : Int) < 3))))] [rBlk b2 [Value.slice q2 S.late.length c2] 50, rRowN (.slice q2 S.late.length c2) (pRows S.late) 61 5, rLoop Lk { r with state := .busy }, rBlk b1 [Value.slice q9 ((gotF (S.late.reverse.take k)).length) c9] 43, rRowN (.slice q9 (gotF (S.late.reverse.take k)).length c9) ((gotF (S.late.reverse.take k)).map oRow) 45 2, rBlk d [pt p 0, Value.slice q1 S.l.length c1, Value.slice q2 S.late.length c2, iw S.nxt, iw S.hv, iw S.last, bo S.gone] 52, rPool p ab S.L, rRowN (.slice q1 S.l.length c1) (pRows S.l) 61 5, rDef D, rBlk b3 [iw x.off, iw x.buf, iw x.skip, iw x.size, bo x.fin] 61] ⟨rfl, rfl, rfl, trivial⟩ rfl ?_
      refine SI.both ((decide ((0 : Int) < x.size)) && (decide ((((gotF (S.late.reverse.take k)).length : Int) : Int) < 3))) rfl (fun h5 => ?_) (fun h5 => ?_)
      · skip
        refine SI.of_SG (by exact fun _ _ h => h) (by kernel_rfl) (SG.region_mk_tail 7 [(4, Mk.val (iw x.fin')), (6, Mk.row ⟨30, W, fun b => w.heap.size ≤ b⟩ 1 1 [4] (fun g => [iw x.off, g.getD 0 undef]) 45)] [(5, [4]), (6, [4])] rfl rfl (by kernel_rfl) (by kernel_rfl) (by kernel_rfl) ?_)
        refine SM.ru rfl rfl rfl (w_all rfl) rfl (lt_b rfl) (ru_load (i := 3) ts43 rfl rfl rfl rfl) ?_
        refine SM.ru rfl rfl rfl (w_all rfl) rfl (lt_b rfl) (ru_fieldAddr (o2 := 0) fd61_0 rfl rfl rfl) ?_
        refine SM.ru rfl rfl rfl (w_all rfl) rfl (lt_b rfl) (ru_load (i := 9) ts3 rfl rfl rfl rfl) ?_
        refine SM.ru rfl rfl rfl (w_all rfl) rfl (lt_b rfl) (ru_loada (i := 9) (vs := [iw x.off, iw x.buf, iw x.skip, iw x.size, bo x.fin]) ta61 rfl rfl rfl rfl (le_b rfl)) ?_
        refine SM.call rfl rfl rfl rfl (w_all rfl) rfl (lt_b rfl) (iw x.fin') rfl rfl co27 rfl rfl (fun l' w hI => H_only hI (end_any _ x)) ?_
        refine SM.ru rfl rfl rfl (w_all rfl) rfl (lt_b rfl) (ru_build (vals := [(0, iw x.off), (1, iw x.fin')]) (cells := [iw x.off, iw x.fin']) rfl rfl (by kernel_rfl)) ?_
        refine SM.buildSlice (size := 2) (vals := [(0, Value.agg #[iw x.off, iw x.fin'])]) (z := [iw 0, iw 0]) (cs := [iw x.off, iw x.fin']) (dp := [4]) (csf := fun g => [iw x.off, g.getD 0 undef]) rfl rfl rfl rfl (w_all rfl) rfl (lt_b rfl) rfl rfl rfl rfl Try.underlying43 (by kernel_rfl) rfl rfl (by kernel_rfl) fun b6 hb6 => ?_
        refine SM.nilL (l' := [rBlk b2 [Value.slice q2 S.late.length c2] 50, rRowN (.slice q2 S.late.length c2) (pRows S.late) 61 5, rLoop Lk { r with state := .busy }, rBlk b1 [Value.slice q9 ((gotF (S.late.reverse.take k)).length) c9] 43, rRowN (.slice q9 (gotF (S.late.reverse.take k)).length c9) ((gotF (S.late.reverse.take k)).map oRow) 45 2, rBlk d [pt p 0, Value.slice q1 S.l.length c1, Value.slice q2 S.late.length c2, iw S.nxt, iw S.hv, iw S.last, bo S.gone] 52, rPool p ab S.L, rRowN (.slice q1 S.l.length c1) (pRows S.l) 61 5, rDef D, rBlk b3 [iw x.off, iw x.buf, iw x.skip, iw x.size, bo x.fin] 61, rBlk b6 [iw x.off, iw x.fin'] 45]) rfl ?_
        refine SL.append_rowN (ri := 4) (rj := 10) (size := 2) (r := [iw x.off, iw x.fin']) (z := Value.agg #[iw 0, iw 0]) (bytes := 16) rfl rfl (lt_b rfl) rfl (by decide) Try.underlying43 (by kernel_rfl) rfl rfl rfl rfl rfl rfl rfl (by rw [List.length_map]; omega) (by unfold maxLen; rw [List.length_map]; omega) (fun b hb => .inl (hg b hb)) fun q7 c8 hq9 => ?_
        refine SL.store (i := 3) (c' := [Value.slice q7 ((gotF (S.late.reverse.take k)).length + 1) c8]) rfl rfl ts43 rfl rfl rfl rfl rfl (lt_b rfl) (.inl hb1) rfl ?_
        refine SL.nil ?_
        refine SF.blkn ?_
        refine SF.rend (j := 2) rfl (.inl hL) fun w2 hI9 => ?_
        rw [show ({ ({ r with state := .busy } : Loop) with state := .ready, pending := none } : Loop) = r from loop_eta hrs hrj] at hI9
        obtain ⟨e1, e2⟩ := got_yes h5 hx2
        refine ⟨(q7, c8), rfl, ?_, by rw [e2]; exact fun b hb => (hq9 b hb).elim id (fun h => Nat.le_trans hWw h)⟩
        rw [show (gotF (S.late.reverse.take (k + 1))).map oRow = _ from congrArg (List.map oRow) e1, List.map_append, e2]
        exact (hW.up (hI9.keep 9) (fun b hb => .inl hb)).pack (l1 := [_, _, _])
      · skip
        refine SI.skip ?_
        refine SF.blkn ?_
        refine SF.rend (j := 2) rfl (.inl hL) fun w2 hI9 => ?_
        rw [show ({ ({ r with state := .busy } : Loop) with state := .ready, pending := none } : Loop) = r from loop_eta hrs hrj] at hI9
        have e1 := got_no h5 hx2
        refine ⟨(q9, c9), rfl, ?_, by rw [e1]; exact hg⟩
        rw [e1]
        exact (hW.up (hI9.keep 9) (fun b hb => .inl hb)).pack (l1 := [_, _, _])
    · rintro e w2 ⟨hv, ⟨q9, c9⟩, hq, hI9⟩
      rw [show S.late.reverse.take S.late.length = S.late.reverse from List.take_of_length_le (by rw [List.length_reverse]; exact Nat.le_refl _)] at hq hI9
      have hI8 := Inv.reo [3, 4, 5, 6, 7, 8, 2] (Inv.unpack (l1 := [rBlk b2 [.slice q2 S.late.length c2] 50, rRowN (.slice q2 S.late.length c2) (pRows S.late) 61 5, rLoop Lk r]) hI9) (by decide)
      exact ⟨hv, (q9, c9), .ready, none, by simp, ⟨rfl, hq⟩, by rw [loop_eta hrs hrj]; exact hI.up hI8 (fun b hb => .inr hb)⟩
  · rintro D ⟨q9, c9⟩ j hD ⟨rfl, hq9⟩
    refine JP.on ?_
    refine SF.norm [(2, Value.slice none 0 0), (3, pt b1 0), (10, Value.func (.func 33) #[] #[pt b2 0])] [rBlk b1 [Value.slice q9 ((gotF S.late.reverse).length) c9] 43, rRowN (.slice q9 (gotF S.late.reverse).length c9) ((gotF S.late.reverse).map oRow) 45 2, rBlk d [pt p 0, Value.slice q1 S.l.length c1, Value.slice q2 S.late.length c2, iw S.nxt, iw S.hv, iw S.last, bo S.gone] 52, rPool p ab S.L, rRowN (.slice q1 S.l.length c1) (pRows S.l) 61 5, rDef D] ⟨rfl, rfl, rfl, trivial⟩ rfl ?_
    refine SF.blkn ?_
    refine SI.of_SE ?_
    refine SI.norm [(2, Value.slice none 0 0), (3, pt b1 0)] [rBlk b1 [Value.slice q9 ((gotF S.late.reverse).length) c9] 43, rRowN (.slice q9 (gotF S.late.reverse).length c9) ((gotF S.late.reverse).map oRow) 45 2, rBlk d [pt p 0, Value.slice q1 S.l.length c1, Value.slice q2 S.late.length c2, iw S.nxt, iw S.hv, iw S.last, bo S.gone] 52, rPool p ab S.L, rRowN (.slice q1 S.l.length c1) (pRows S.l) 61 5, rDef D] ⟨rfl, rfl, trivial⟩ rfl ?_
    refine SI.seq ?_
    refine SI.of_SG (by exact fun a w h => ho a w h) (by kernel_rfl) (SG.region ?_)
    refine SL.ru rfl rfl (lt_b rfl) (ru_load (i := 0) ts43 rfl rfl rfl rfl) ?_
    refine SL.ru rfl rfl (lt_b rfl) (ru_assign rfl rfl) ?_
    refine SL.nil ?_
    refine SI.of_SE ?_
    refine SI.norm [(2, Value.slice q9 ((gotF S.late.reverse).length) c9)] [rBlk b1 [Value.slice q9 ((gotF S.late.reverse).length) c9] 43, rRowN (.slice q9 (gotF S.late.reverse).length c9) ((gotF S.late.reverse).map oRow) 45 2, rBlk d [pt p 0, Value.slice q1 S.l.length c1, Value.slice q2 S.late.length c2, iw S.nxt, iw S.hv, iw S.last, bo S.gone] 52, rPool p ab S.L, rRowN (.slice q1 S.l.length c1) (pRows S.l) 61 5, rDef D] ⟨rfl, trivial⟩ rfl ?_
    refine SI.ret ?_
    refine SF.resD (j := 5) rfl (.inl rfl) rfl hD (res1 Try.results15 rfl) fun w3 hI => ⟨q9, c9, rfl, hI.1.get (i := 1) rfl, hq9, hI.2⟩

end Go.Proofs.Ytpgnklmmjdkhiaa

/-
  A function's answer that lies in a place of its own. No program is named here.
-/
namespace Go.Proofs.Ytpgnklmmjdkhiaa
open Go.RowKit
section
variable {P : Program} {X : Cx} {m : List (Nat × Value)} {l : List Res}
theorem resC {fn : Func} {t b i : Nat} {T : TypeId} {vs z : List Value} {T' : TypeId} (h : fn.results = #[.cell t T]) (ht : look m t = some (pt b 0)) (hT : TyAg P T z) (hi : l[i]? = some (rBlk b vs T')) (hz : z.length = vs.length) : ∀ a w, Fr X.n a m → Inv X w l → (results fn a.tmps).run P w = .ok (.agg vs.toArray) w := fun a w hf hI => by
  obtain ⟨⟨d, hd, hdb⟩, hsz, _⟩ := hT
  obtain ⟨inf, hinf, hz'⟩ := map_some hsz
  simp only [Prod.mk.injEq] at hz'
  have hb : Blk w b vs T' := hI.1.get hi
  have e : a.tmps.getD t undef = pt b 0 := look_tmps hf ht
  have hl := run_loadVar_at (P := P) w b 0 T vs d (fun j hj => by rw [Nat.zero_add]; exact hb.cell j) hd (by cases d <;> simp_all [isAggD]) (by rw [hinf]; simp [hz'.1, hz])
  have hl' : (loadVar T ⟨b, 0, none⟩).run P w = .ok (.agg vs.toArray) w := hl
  unfold results
  rw [h]
  simp only [List.mapM_toArray, List.mapM_cons, List.mapM_nil, e, asAddr, pt, Sem.run_bind, Sem.run_pure, Result.andThen_ok, bind_pure_comp, map_pure, pure_bind]
  simp [Sem.run_bind, hl', Result.andThen]
end
end Go.Proofs.Ytpgnklmmjdkhiaa

/-
  New, Stat.
-/
namespace Go.Proofs.Ytpgnklmmjdkhiaa
open Go.RowKit
set_option maxRecDepth 100000
set_option maxHeartbeats 4000000
theorem newq_any {w : World} {p : Nat} : Calls Try.prog 7 #[pt p 0] w fun e w' => ∃ d, e = .returned (pt d 0) ∧ w.heap.size ≤ d ∧ Blk w' d [pt p 0, .slice none 0 0, .slice none 0 0, iw 0, iw 0, iw (-1), bo false] 52 ∧ Only (fun _ => False) w w' := by
  refine calls_sc (l0 := []) (args := [pt p 0]) (fun _ => False) Try.func7 rfl 6 Try.ntmps7 (le_b rfl) ⟨⟨by simp, List.Pairwise.nil⟩, Only.refl _ _⟩ ?_
  show SC _ _ _ _ [(0, pt p 0)] []
  refine SC.seq ?_
  refine SC.region ?_
  refine SL.ru rfl rfl (lt_b rfl) (ru_assign rfl rfl) ?_
  refine SL.nil ?_
  refine SC.of_SE ?_
  refine SC.norm [(0, pt p 0), (2, Value.pointer none)] [] ⟨rfl, rfl, trivial⟩ rfl ?_
  refine SC.seq ?_
  refine SC.region ?_
  refine SL.ru rfl rfl (lt_b rfl) (ru_move rfl rfl) ?_
  refine SL.ru rfl rfl (lt_b rfl) (ru_build (vals := [(0, pt p 0), (5, iw (-1))]) (cells := [pt p 0, Value.slice none 0 0, Value.slice none 0 0, iw 0, iw 0, iw (-1), bo false]) rfl rfl (by kernel_rfl)) ?_
  refine SL.box (c := [pt p 0, Value.slice none 0 0, Value.slice none 0 0, iw 0, iw 0, iw (-1), bo false]) rfl rfl (lt_b rfl) rfl rfl rfl fun b1 hb1 => ?_
  refine SL.ru rfl rfl (lt_b rfl) (ru_assign rfl rfl) ?_
  refine SL.nil ?_
  refine SC.of_SE ?_
  refine SC.norm [(2, pt b1 0)] [rBlk b1 [pt p 0, Value.slice none 0 0, Value.slice none 0 0, iw 0, iw 0, iw (-1), bo false] 52] ⟨rfl, trivial⟩ rfl ?_
  refine SC.ret ?_
  refine SE.res (.inl rfl) (res1 Try.results7 rfl) fun w1 hI => ⟨b1, rfl, hb1, hI.1.get (i := 0) rfl, hI.2⟩

theorem stat_any {w : World} {d p ab : Nat} {q1 q2 : Option Addr} {c1 c2 : Nat} {S : Rq} (h : Sep w (QR d p ab q1 c1 q2 c2 S)) : Calls Try.prog 14 #[pt d 0] w fun e w' => e = .returned (.agg #[iw S.nxt, iw S.hv, iw (roomF S), iw (S.late.length : Int)]) ∧ Only (fun _ => False) w w' := by
  refine calls_sc (l0 := (QR d p ab q1 c1 q2 c2 S)) (args := [pt d 0]) (fun _ => False) Try.func14 rfl 19 Try.ntmps14 (le_b rfl) ⟨h, Only.refl _ _⟩ ?_
  show SC _ _ _ _ [(0, pt d 0)] (QR d p ab q1 c1 q2 c2 S)
  refine SC.seq ?_
  refine SC.region ?_
  refine SL.alloca rfl rfl (lt_b rfl) ta41 rfl fun b1 hb1 => ?_
  refine SL.nil ?_
  refine SC.of_SE ?_
  refine SC.norm [(0, pt d 0), (2, pt b1 0)] [rBlk d [pt p 0, Value.slice q1 S.l.length c1, Value.slice q2 S.late.length c2, iw S.nxt, iw S.hv, iw S.last, bo S.gone] 52, rPool p ab S.L, rRowN (.slice q1 S.l.length c1) (pRows S.l) 61 5, rRowN (.slice q2 S.late.length c2) (pRows S.late) 61 5, rBlk b1 [iw 0, iw 0, iw 0, iw 0] 41] ⟨rfl, rfl, trivial⟩ rfl ?_
  refine SC.seq ?_
  refine SC.region_tail 16 (by kernel_rfl) (by kernel_rfl) ?_
  refine SQ.ru rfl rfl (lt_b rfl) (ru_move rfl rfl) ?_
  refine SQ.ru rfl rfl (lt_b rfl) (ru_nilCheck rfl rfl) ?_
  refine SQ.ru rfl rfl (lt_b rfl) (ru_fieldAddr (o2 := 3) fd52_3 rfl rfl rfl) ?_
  refine SQ.ru rfl rfl (lt_b rfl) (ru_load (i := 0) ts3 rfl rfl rfl rfl) ?_
  refine SQ.ru rfl rfl (lt_b rfl) (ru_move rfl rfl) ?_
  refine SQ.ru rfl rfl (lt_b rfl) (ru_nilCheck rfl rfl) ?_
  refine SQ.ru rfl rfl (lt_b rfl) (ru_fieldAddr (o2 := 4) fd52_4 rfl rfl rfl) ?_
  refine SQ.ru rfl rfl (lt_b rfl) (ru_load (i := 0) ts3 rfl rfl rfl rfl) ?_
  refine SQ.ru rfl rfl (lt_b rfl) (ru_move rfl rfl) ?_
  refine SQ.call (iw (roomF S)) rfl rfl co25 rfl rfl rfl (lt_b rfl) (fun w hI => H_only hI (room_any (hI.1.get (i := 0) rfl))) ?_
  refine SQ.ru rfl rfl (lt_b rfl) (ru_move rfl rfl) ?_
  refine SQ.ru rfl rfl (lt_b rfl) (ru_nilCheck rfl rfl) ?_
  refine SQ.ru rfl rfl (lt_b rfl) (ru_fieldAddr (o2 := 2) fd52_2 rfl rfl rfl) ?_
  refine SQ.ru rfl rfl (lt_b rfl) (ru_load (i := 0) ts50 rfl rfl rfl rfl) ?_
  refine SQ.ru rfl rfl (lt_b rfl) (ru_len Try.underlying50 rfl rfl) ?_
  refine SQ.ru rfl rfl (lt_b rfl) (ru_build (vals := [(0, iw S.nxt), (1, iw S.hv), (2, iw (roomF S)), (3, iw (S.late.length : Int))]) (cells := [iw S.nxt, iw S.hv, iw (roomF S), iw (S.late.length : Int)]) rfl rfl (by kernel_rfl)) ?_
  refine SQ.nilL ?_
  refine SL.storea (i := 4) (vs := [iw S.nxt, iw S.hv, iw (roomF S), iw (S.late.length : Int)]) (c' := [iw S.nxt, iw S.hv, iw (roomF S), iw (S.late.length : Int)]) rfl rfl ta41 rfl rfl rfl rfl rfl rfl (le_b rfl) (.inr hb1) rfl ?_
  refine SL.nil ?_
  refine SC.of_SE ?_
  refine SC.norm [(2, pt b1 0)] [rBlk d [pt p 0, Value.slice q1 S.l.length c1, Value.slice q2 S.late.length c2, iw S.nxt, iw S.hv, iw S.last, bo S.gone] 52, rPool p ab S.L, rRowN (.slice q1 S.l.length c1) (pRows S.l) 61 5, rRowN (.slice q2 S.late.length c2) (pRows S.late) 61 5, rBlk b1 [iw S.nxt, iw S.hv, iw (roomF S), iw (S.late.length : Int)] 41] ⟨rfl, trivial⟩ rfl ?_
  refine SC.ret ?_
  refine SE.res (.inl rfl) (resC (i := 4) Try.results14 rfl ta41 rfl rfl) fun w1 hI => ⟨rfl, hI.2⟩

end Go.Proofs.Ytpgnklmmjdkhiaa

/-
  From a row's reading of the arguments to what the walks ask of memory; no statement is named here.
-/
namespace Go.Proofs.Ytpgnklmmjdkhiaa
open Go.ChangeShapes Go.WideShapes Go.ChangeAt Go.RowKit Go.Deep

def I64 (n : Int) : Prop := -9223372036854775808 ≤ n ∧ n ≤ 9223372036854775807
theorem sliceIn_nil {S : Nat → Prop} {n c : Nat} : sliceIn (.slice none n c) S := fun b o n c e _ => by simp at e

section
variable {H : Type} {enc : TypeId × Value → H} {P : Program} {w : World} {base : Nat} {spare : Nat → Bool} {held : Bool}

theorem open_slice_fields {t e : TypeId} {fs : Array Field} {fuel : Nat} {cs : List Value} {x : DataW H × List MemPlace} (ht : P.underlying t = some (.slice e)) (he : P.underlying e = some (.struct fs))
    (hone : oneCellFields P fs = true) (hC : P.cellsOf e = fs.size) (h : DataW.trod enc P w base spare held fuel t cs = some x) :
    (cs = [.slice none 0 0] ∧ x = (.nil, [])) ∨
    ∃ (a : Addr) (len cap m : Nat) (D : Nat → DataW H) (Pl : Nat → List MemPlace), cs = [.slice (some a) len cap] ∧ base ≤ a.block ∧ len ≤ cap ∧ cap ≤ maxLen ∧ m = (if spare a.block then cap else len) ∧
      x = (.slice ((List.range len).map D) ((List.range (m - len)).map fun j => D (len + j)), MemPlace.row a (m * fs.size) ++ (List.range m).flatMap Pl) ∧
      ∀ i, i < m → ∃ (ys : List (DataW H × List MemPlace)) (n : Nat), D i = .agg (ys.map (·.1)) ∧ Pl i = ys.flatMap (·.2) ∧ ys.length = fs.size ∧
        ∀ (j : Nat) (f : Field), fs[j]? = some f → ∃ (v : Value) (y : DataW H × List MemPlace), w.cell? (a.add (i * fs.size + j)) = some v ∧ ys[j]? = some y ∧ DataW.trod enc P w base spare held n f.type [v] = some y := by
  rcases open_slice ht h with h0 | ⟨a, len, cap, m, n, D, Pl, hcs, hb, hl, hm, hmm, hx, hi⟩
  · exact .inl h0
  · refine .inr ⟨a, len, cap, m, D, Pl, hcs, hb, hl, hm, hmm, by rw [hC] at hx; exact hx, fun i him => ?_⟩
    obtain ⟨cs', hc, ht'⟩ := hi i him
    rw [hC] at hc
    obtain ⟨ys, n', hn', hy, hlen, hyl, hf⟩ := DataW.trod_struct he ht'
    obtain ⟨_, hcl, hat⟩ := World.cells?_some hc
    simp only [Prod.mk.injEq] at hy
    refine ⟨ys, n', hy.1, hy.2, hyl, fun j f hj => ?_⟩
    obtain ⟨ho, hk⟩ := hone_of hone j f hj
    have hjl : j < fs.size := (Array.getElem?_eq_some_iff.1 hj).1
    have hcell := hat j hjl
    have hv : cs'[j]? = some (cs'[j]'(by omega)) := List.getElem?_eq_getElem (by omega)
    have h1 := hf j f hj
    rw [ho, hk] at h1
    have hone' : (cs'.drop j).take 1 = [cs'[j]'(by omega)] := by
      rw [List.drop_eq_getElem_cons (by omega)]
      rfl
    rw [hone'] at h1
    have hys : ys[j]? = some (ys[j]'(by omega)) := List.getElem?_eq_getElem (by omega)
    refine ⟨_, _, ?_, hys, h1.trans hys⟩
    rw [← Go.Deep.add_add, hcell, hv]

theorem plain_of_cell {a : Addr} {v : Value} (h : w.cell? (a.add 0) = some v) : a.spot = none := by
  cases hsp : a.spot with
  | none => rfl
  | some s =>
    unfold World.cell? Addr.add at h
    simp only [if_true, hsp, Option.isSome_some] at h
    split at h <;> simp at h
theorem plain_add {a : Addr} (hs : a.spot = none) (i : Nat) : a.add i = ⟨a.block, a.off + i, none⟩ := by
  cases a; simp only at hs; subst hs
  unfold Addr.add; split <;> simp_all

theorem wf_i64 {n : Int} (h : (Lit.int .i64 n).wf = true) : I64 n := by
  simp only [Lit.wf, Bool.and_eq_true, decide_eq_true_eq] at h
  unfold I64
  exact ⟨Int.le_trans (by decide) h.1, Int.le_trans h.2 (by decide)⟩
theorem wf_u8 {n : Int} (h : (Lit.int .u8 n).wf = true) : 0 ≤ n ∧ n < 256 := by
  simp only [Lit.wf, Bool.and_eq_true, decide_eq_true_eq] at h
  exact ⟨Int.le_trans (by decide) h.1, Int.lt_of_le_of_lt h.2 (by decide)⟩

/-- A slice of bytes. -/
theorem open_bytes {t e : TypeId} {fuel : Nat} {v : Value} {x : DataW H × List MemPlace} (ht : P.underlying t = some (.slice e)) (he : P.underlying e = some (.int .u8)) (hc : P.cellsOf e = 1) (hB : P.bytesOf e = 1)
    (h : DataW.trod enc P w base (fun _ => true) held fuel t [v] = some x) (hw : ∀ n ∈ x.1.weights P t, n ≤ reachBytes) :
    ∃ a n c l, v = .slice a n c ∧ BytesAt w (.slice a n c) l ∧ sliceIn (.slice a n c) (fun b => b < w.heap.size) := by
  rcases open_ints ht he hc h with ⟨hcs, _⟩ | ⟨a, len, cap, zs, hcs, _, hl, hm, hz, hx, hcell, hwf⟩
  · simp at hcs; subst hcs
    exact ⟨none, 0, 0, [], rfl, .nil _, sliceIn_nil⟩
  · simp at hcs; subst hcs
    simp only [if_true] at hz
    have hcap : cap ≤ 140737488351232 := by
      have := hw ((zs.take len).length * 1 + (zs.drop len).length * 1) (by
        rw [hx]
        simp only [DataW.weights, ht, hB, List.mem_cons]
        left
        simp [lits])
      simp only [reachBytes] at this
      have e1 : (zs.take len).length + (zs.drop len).length = zs.length := by rw [List.length_take, List.length_drop]; omega
      omega
    refine ⟨some a, len, cap, (zs.take len).map fun z => UInt8.ofNat z.toNat, rfl, ?_, ?_⟩
    · by_cases h0 : len = 0
      · subst h0
        exact .inl ⟨_, _, rfl, (fun h => by cases h), by simp⟩
      · have hs : a.spot = none := plain_of_cell (hcell 0 (by omega))
        have hll : ((zs.take len).map fun z => UInt8.ofNat z.toNat).length = len := by simp; omega
        refine .inr ⟨a.block, a.off, cap, ?_, by omega, by omega, fun j hj => ?_⟩
        · rw [hll]; cases a; simp only at hs; subst hs; rfl
        · rw [hll] at hj
          have hcj := hcell j (by omega)
          rw [plain_add hs] at hcj
          rw [hcj]
          have hzj : zs.getD j 0 = zs[j] := by simp [List.getElem?_eq_getElem (show j < zs.length by omega)]
          have hr := wf_u8 (hwf zs[j] (List.getElem_mem _))
          have e2 : ((UInt8.ofNat zs[j].toNat).toNat : Int) = zs[j] := by
            rw [UInt8.toNat_ofNat']; omega
          simp only [List.getElem_map, List.getElem_take, hzj, bv, e2]
    · intro b o n c e hn
      simp at e
      obtain ⟨rfl, rfl, rfl⟩ := e
      have := block_lt_of_cell (hcell 0 (by omega))
      exact this

theorem weights_agg {fs : Array Field} {t : TypeId} (hu : P.underlying t = some (.struct fs)) {ys : List (DataW H × List MemPlace)} (hl : ys.length = fs.size) {B : Nat} (hw : ∀ n ∈ (DataW.agg (ys.map (·.1))).weights P t, n ≤ B)
    {j : Nat} {f : Field} {y : DataW H × List MemPlace} (hf : fs[j]? = some f) (hy : ys[j]? = some y) : ∀ n ∈ y.1.weights P f.type, n ≤ B := by
  intro n hn
  refine hw n ?_
  simp only [DataW.weights, hu]
  exact DataW.weights_mem_each (j := j) (t := f.type) (d := y.1) (by simp [hf]) (by simp [hy]) n hn

theorem weights_all {t : TypeId} {l : List (DataW H)} {n : Nat} {d : DataW H} (hd : d ∈ l) (hn : n ∈ d.weights P t) : n ∈ DataW.weightsAll P t l := by
  induction l with
  | nil => cases hd
  | cons x l ih =>
    simp only [DataW.weightsAll, List.mem_append]
    rcases List.mem_cons.1 hd with rfl | h
    · exact .inl hn
    · exact .inr (ih h)
theorem wf_u32 {n : Int} (h : (Lit.int .u32 n).wf = true) : 0 ≤ n ∧ n < 4294967296 := by
  simp only [Lit.wf, Bool.and_eq_true, decide_eq_true_eq] at h
  exact ⟨Int.le_trans (by decide) h.1, Int.lt_of_le_of_lt h.2 (by decide)⟩
/-- A struct of one-cell fields, by value. -/
theorem open_agg_fields {r : Reach} {b0 : Nat} {t : TypeId} {fs : Array Field} {v : Value} {d : DataW H} {p : List MemPlace} (hs : P.underlying t = some (.struct fs)) (hone : oneCellFields P fs = true) (hC : P.cellsOf t = fs.size)
    (hv : Value.okWide P w r b0 t v) (h : DataW.Trod enc P w base spare held t v d p) :
    ∃ (cs : List Value) (ys : List (DataW H × List MemPlace)) (n : Nat), v = .agg cs.toArray ∧ cs.length = fs.size ∧ ys.length = fs.size ∧ d = .agg (ys.map (·.1)) ∧
      ∀ (j : Nat) (f : Field), fs[j]? = some f → ∃ c y, cs[j]? = some c ∧ ys[j]? = some y ∧ DataW.trod enc P w base spare held n f.type [c] = some y := by
  obtain ⟨cs, rfl, hsz⟩ := okWide_struct hs hv
  obtain ⟨fuel, hf⟩ := h
  obtain ⟨ys, n, _, hx, _, hlen, hg⟩ := DataW.trod_struct hs hf
  simp only [Prod.mk.injEq] at hx
  have hcl : cs.toList.length = fs.size := by simpa using hsz.trans hC
  refine ⟨cs.toList, ys, n, by simp, hcl, hlen, hx.1, fun j f hj => ?_⟩
  obtain ⟨ho, hk⟩ := hone_of hone j f hj
  have hjl : j < fs.size := (Array.getElem?_eq_some_iff.1 hj).1
  have h1 := hg j f hj
  rw [ho, hk] at h1
  have hc : cs.toList[j]? = some (cs.toList[j]'(by omega)) := List.getElem?_eq_getElem (by omega)
  have hone' : (cs.toList.drop j).take 1 = [cs.toList[j]'(by omega)] := by
    rw [List.drop_eq_getElem_cons (by omega)]
    rfl
  have hys : ys[j]? = some (ys[j]'(by omega)) := List.getElem?_eq_getElem (by omega)
  refine ⟨_, _, hc, hys, ?_⟩
  have h2 : DataW.trod enc P w base spare held n f.type [cs.toList[j]'(by omega)] = ys[j]? := by
    rw [← hone']; simpa [Value.cells] using h1
  rw [h2, hys]
theorem trod_slice_form {t e : TypeId} {fuel : Nat} {v : Value} {x : DataW H × List MemPlace} (ht : P.underlying t = some (.slice e)) (h : DataW.trod enc P w base spare held fuel t [v] = some x) : ∃ a n c, v = .slice a n c := by
  rcases open_slice ht h with ⟨h0, _⟩ | ⟨a, len, cap, m, n, D, Pl, hcs, _⟩
  · simp at h0; exact ⟨_, _, _, h0⟩
  · simp at hcs; exact ⟨_, _, _, hcs⟩

end
end Go.Proofs.Ytpgnklmmjdkhiaa

/-
  The calls that lie in an argument of the laws of the receiver's queue.
-/
namespace Go.Proofs.Ytpgnklmmjdkhiaa
open Go.RowKit
/-- A call, as it lies in an argument. -/
structure OpZ where
  k : Int
  off : Int
  ov : Value
  f : List UInt8
  sk : Int
  tk : Int
  fn : Bool
  n : Int
def OpZAt (w : World) (b o : Nat) (r : OpZ) : Prop := (∀ j u, [iw r.k, iw r.off, r.ov, iw r.sk, iw r.tk, bo r.fn, iw r.n][j]? = some u → w.cell? ⟨b, o + j, none⟩ = some u) ∧ BytesAt w r.ov r.f ∧ sliceIn r.ov (fun b => b < w.heap.size) ∧ I64 r.n
def OpsZ (w : World) (v : Value) (l : List OpZ) : Prop := ∃ a c, v = .slice a l.length c ∧ l.length * 72 ≤ 140737488351232 ∧ ∀ i (hi : i < l.length), ∃ b o, a = some ⟨b, o, none⟩ ∧ OpZAt w b (o + i * 7) l[i]
end Go.Proofs.Ytpgnklmmjdkhiaa

/-
  A field of a value; pairs of whole numbers compared.
-/
namespace Go.Proofs.Ytpgnklmmjdkhiaa
open Go.RowKit
section
variable {P : Program} {X : Cx} {o : Oper} {m : List (Nat × Value)} {l : List Res}
theorem ru_field {s : TypeId} {x : Operand} {k : Nat} {fs : Array Field} {f : Field} {kk : IntKind} {cs : Array Value} {u : Value} (hu : P.underlying s = some (.struct fs)) (hk : fs[k]? = some f) (hf : P.underlying f.type = some (.int kk)) (ho : o.op = .field s x k) (hx : evM m x = some (.agg cs)) (hc : cs[f.offset]? = some u) : Ru P X o m l u := fun a w hf' _ => by
  unfold execOp; rw [ho]
  simp only [hf'.ev hx, Instr.field, Sem.run_bind, run_underlying hu w, Result.andThen_ok, hk]
  simp [part, isAgg, asAgg, run_underlying hf, hc]
theorem ru_eqa2 {t t' e : TypeId} {x y : Operand} {kk : IntKind} {i : TypeInfo} {a1 b1 a2 b2 : Int} {b : Bool} (hu : P.underlying t = some (.array 2 e)) (hi : P.info? e = some i) (he : P.underlying e = some (.int kk)) (hs : P.cellsOf e = 1) (hm : P.eqGuardType P.depth t = false)
    (ho : o.op = .binOp .eql t x y t') (hx : evM m x = some (.agg #[iw a1, iw b1])) (hy : evM m y = some (.agg #[iw a2, iw b2])) (hv : (a1 == a2 && b1 == b2) = b) : Ru P X o m l (.bool b) :=
  ru_binv ho hx hy (fun w => run_eqGuard_agg w .eql t x y _ _ hm) fun w _ => by
    obtain ⟨n, hn⟩ : ∃ n, (10000 : Nat) = n + 1 + 1 := ⟨9998, rfl⟩
    rw [run_eql_struct, hn, run_equalIn_array w (n + 1) _ _ hu hi, hs]
    subst hv
    have p1 : ∀ (u v : Value), (part e #[u, v] 0).run P w = .ok u w := fun u v => by simp [part, isAgg, run_underlying he]
    have p2 : ∀ (u v : Value), (part e #[u, v] 1).run P w = .ok v w := fun u v => by simp [part, isAgg, run_underlying he]
    show ((Op.eqItems (n + 1) e 1 _ _ [0, 1]).run P w).andThen _ = _
    have q : ∀ (u v : Int), (Op.equalIn (n + 1) e (.int .i64 u) (.int .i64 v)).run P w = .ok (u == v) w := fun u v => run_equalIn_int w n e .i64 kk u v he
    cases h1 : (a1 == a2) <;> cases h2 : (b1 == b2) <;> simp [Op.eqItems, p1, p2, q, h1, h2]
end
end Go.Proofs.Ytpgnklmmjdkhiaa

/-
  What the laws' walks know of a receiver's queue from call to call.
-/
namespace Go.Proofs.Ytpgnklmmjdkhiaa
open Go.RowKit
theorem wrap_id {n : Int} (h : I64 n) : IntKind.i64.wrap n = n := by
  obtain ⟨h1, h2⟩ := h
  rw [IntKind.wrap_i64]; omega
/-- A queue in its bounds; c bytes were read. -/
structure RI (n : Nat) (c : Int) (S : Rq) (ex : List Int) : Prop where
  qv : Qv n S ex
  out : ∀ y ∈ S.late, S.nxt < y.off
  at' : S.nxt - S.hv = c
  c0 : 0 ≤ c
def q0 (n : Nat) : Rq := ⟨List.replicate n ⟨0, [], []⟩, [], [], 0, 0, -1, false⟩
theorem bufAt_rep {n : Nat} {k : Int} {b : Bf} (h : bufAt (List.replicate n ⟨0, [], []⟩) k = some b) : b = ⟨0, [], []⟩ := by
  have := bufAt_mem' h
  exact (List.mem_replicate.1 this).2
theorem qv0 (n : Nat) : Qv n (q0 n) [] := by
  have h1 : ∀ k, rf (q0 n).L k = 0 := fun k => by
    unfold rf
    cases e : bufAt (q0 n).L k with
    | none => rfl
    | some b => rw [bufAt_rep e]
  have h2 : ∀ k, dt (q0 n).L k = [] := fun k => by
    unfold dt
    cases e : bufAt (q0 n).L k with
    | none => rfl
    | some b => rw [bufAt_rep e]
  exact ⟨by simp [q0], fun k => by rw [h1, if_neg (by simp [ids, q0])], by simp [ids, q0], fun k => by rw [h2]; simp, fun x hx => by simp [q0] at hx, trivial, rfl, (by decide : (0 : Int) ≤ 1024), fun y hy => by simp [q0] at hy, by simp [q0], (by decide : (0 : Int) ≤ 0), (by decide : (0 : Int) + 1024 - 0 ≤ 1000000000000000000), rfl⟩
theorem ri0 (n : Nat) : RI n 0 (q0 n) [] := ⟨qv0 n, fun y hy => by simp [q0] at hy, rfl, Int.le_refl _⟩
section
variable {n : Nat} {c : Int} {S : Rq} {ex : List Int} {x : Pc} {j : Int}
theorem RI.facts (h : RI n c S ex) : roomF S = 1024 - S.hv ∧ 0 ≤ S.hv ∧ S.hv ≤ 1024 ∧ S.late.length ≤ 4 ∧ S.nxt = c + S.hv ∧ Lone S.L ∧ S.l.length ≤ 9 := by
  have := h.qv.hv0
  exact ⟨h.qv.room, by omega, h.qv.hv1, h.qv.lateN, by have := h.at'; omega, h.qv.lone, h.qv.lN⟩
theorem RI.get (h : RI n c S []) (hn : ∃ k : Int, 0 ≤ k ∧ k < n ∧ k ∉ ids S []) : ∃ j, (getF S.L).1 = (j, 0) ∧ RI n c { S with L := (getF S.L).2 } [j] := by
  obtain ⟨j, e, hq, _⟩ := h.qv.get hn
  exact ⟨j, e, hq, h.out, h.at', h.c0⟩
theorem RI.free (h : RI 60 c S []) : ∃ k : Int, 0 ≤ k ∧ k < 60 ∧ k ∉ ids S [] := h.qv.few (by simp) (by decide)
theorem RI.set (h : RI n c S [j]) (d : List UInt8) : RI n c { S with L := (ownF S.L j (setF d)).2 } [j] := ⟨(h.qv.set d).1, h.out, h.at', h.c0⟩
theorem RI.put (h : RI n c S [x.buf]) : RI n c (qPutF S x).2 [] := by
  obtain ⟨h1, h2, h3⟩ := h.qv.put h.out
  exact ⟨h1, h2, h3.trans h.at', h.c0⟩
theorem RI.read (h : RI n c S []) (hc : c ≤ 900000000000000000) {most : Int} (hI : IntKind.i64.wrap most = most) :
    (∀ k x, S.l[k]? = some x → RdOk most (rdAt most S k) x) ∧ RI n (c + ((readO most S).length : Int)) (readS most S) [] ∧ (readO most S).length ≤ 1024 := by
  have hf := h.facts
  obtain ⟨r1, r2, r3, r4, r5, r6, r7⟩ := h.qv.read most (by omega) hI
  have hl : (readO most S).length ≤ 1024 := by
    have h1 := congrArg List.length r3
    rw [List.length_append] at h1
    have := h.qv.wt_len
    omega
  refine ⟨r1, ⟨r2, h.out, ?_, by have := h.c0; omega⟩, hl⟩
  have := h.at'
  rw [r7]
  show S.nxt - _ = _
  omega
theorem RI.pos (h : RI n c S ex) : ∀ x ∈ S.l, 0 < x.size := fun x hx => (h.qv.lz x hx).2.1
theorem got_mem {M : List Pc} : ∀ g ∈ gotF M, ∃ y ∈ M, 0 < y.size ∧ g = (y.off, y.fin') := by
  have : ∀ (M : List Pc) (o : List (Int × Int)), (∀ g ∈ o, ∃ y ∈ M, 0 < y.size ∧ g = (y.off, y.fin')) → ∀ k, k ≤ M.length → ∀ g ∈ (M.drop k).foldl (fun o x => if (decide ((0 : Int) < x.size) && decide ((o.length : Int) < 3)) = true then o ++ [(x.off, x.fin')] else o) o, ∃ y ∈ M, 0 < y.size ∧ g = (y.off, y.fin') := by
    intro M o ho k
    induction h : M.length - k generalizing k o with
    | zero => intro hk; rw [List.drop_of_length_le (by omega)]; exact ho
    | succ n ih =>
      intro hk
      rw [List.drop_eq_getElem_cons (by omega), List.foldl_cons]
      refine ih _ ?_ (k + 1) (by omega) (by omega)
      intro g hg
      split at hg
      · rename_i hc
        rcases List.mem_append.1 hg with hg | hg
        · exact ho g hg
        · have : g = (M[k].off, M[k].fin') := by simpa using hg
          simp only [Bool.and_eq_true, decide_eq_true_eq] at hc
          exact ⟨M[k], List.getElem_mem _, hc.1, this⟩
      · exact ho g hg
  intro g hg
  exact this M [] (fun _ h => by simp at h) 0 (Nat.zero_le _) g hg
theorem RI.got (h : RI n c S ex) {k : Nat} {g : Int × Int} (hg : (gotF S.late.reverse)[k]? = some g) : S.nxt < g.1 ∧ g.1 < g.2 ∧ g.2 ≤ c + 1024 := by
  obtain ⟨y, hy, h0, rfl⟩ := got_mem g (List.mem_of_getElem? hg)
  have hm : y ∈ S.late := List.mem_reverse.1 hy
  have hl := h.qv.late y hm
  have ho := h.out y hm
  have := h.at'; have := hl.far; have := hl.off; have := h.qv.nx1; have := hl.fit; have := h.qv.dl y.buf; have := hl.skip
  have hf : y.fin' = y.off + y.size := by unfold Pc.fin'; rw [IntKind.wrap_i64]; omega
  dsimp only
  omega
end
section
variable {X : Cx} {l : List Res}
theorem Inv.apartq {w : World} {i j : Nat} {r r' : Res} (h : Inv X w l) (hi : l[i]? = some r) (hj : l[j]? = some r') (hij : i ≠ j) (b : Nat) (h1 : r.fp b) (h2 : r'.fp b) : False := by
  have hp := List.pairwise_iff_getElem.1 h.1.2
  have hil := (List.getElem?_eq_some_iff.1 hi).1
  have hjl := (List.getElem?_eq_some_iff.1 hj).1
  have ei := (List.getElem?_eq_some_iff.1 hi).2
  have ej := (List.getElem?_eq_some_iff.1 hj).2
  rcases Nat.lt_or_gt_of_ne hij with hlt | hlt
  · have := hp i j hil hjl hlt; rw [ei, ej] at this; exact this b h1 h2
  · have := hp j i hjl hil hlt; rw [ei, ej] at this; exact this b h2 h1
end
theorem fzq_bytes {w : World} {g : Nat} {l : List UInt8} {T : TypeId} (h : Fz w g (l.map bv) T) (hl : l.length ≤ 1000) : BytesAt w (sl g 0 l.length l.length) l := by
  refine .inr ⟨g, 0, l.length, rfl, Nat.le_refl _, by omega, fun j hj => ?_⟩
  rw [h.cell, Nat.zero_add, List.getElem?_map, List.getElem?_eq_getElem hj]; rfl
theorem mineq_in {v : Value} {S : Nat → Prop} (h : ∀ b, v.ownBlock = some b → S b) : sliceIn v S := fun b o n c e _ => h b (by rw [e]; rfl)
/-- A queue that was read of, and what was read. -/
theorem Inv.rdto {X : Cx} {w w' : World} {l : List Res} {d p ab : Nat} {q1 q2 : Option Addr} {c1 c2 : Nat} {S S' : Rq} {v : Value} {f : List UInt8} {U : TypeId} (h : Inv X w (QR d p ab q1 c1 q2 c2 S ++ l)) (h1 : Sep w' (QR d p ab q1 c1 q2 c2 S' ++ [rMine v f U])) (hn : ∀ b, v.ownBlock = some b → w.heap.size ≤ b)
    (hO : Only (fun b => b = d ∨ b = p ∨ b = ab ∨ (Value.slice q1 S.l.length c1).ownBlock = some b) w w') (hG : ∀ b, QG d p ab q1 c1 q2 c2 S b → X.S b ∨ X.w0.heap.size ≤ b) (e : S'.late = S.late) :
    Inv X w' (QR d p ab q1 c1 q2 c2 S' ++ (rMine v f U :: l)) ∧ ∀ b, QG d p ab q1 c1 q2 c2 S' b → X.S b ∨ X.w0.heap.size ≤ b := by
  have hp := List.pairwise_append.1 h.1.2
  have hl : Sep w l := ⟨fun s hs => h.1.1 s (List.mem_append_right _ hs), hp.2.1⟩
  have hdis : ∀ s ∈ l, ∀ b, s.fp b → ¬ QG d p ab q1 c1 q2 c2 S b := fun s hs b hb hq => by
    obtain ⟨r, hr, hrb⟩ := qr_fp.2 hq
    exact hp.2.2 r hr s hs b hrb hb
  have hin : ∀ b, QG d p ab q1 c1 q2 c2 S' b → QG d p ab q1 c1 q2 c2 S b := by
    rintro b (hb | hb | hb | hb | hb)
    · exact .inl hb
    · exact .inr (.inl hb)
    · exact .inr (.inr (.inl hb))
    · exact .inr (.inr (.inr (.inl (by rw [own_eq _ _ _ S'.l.length c1]; exact hb))))
    · exact .inr (.inr (.inr (.inr (by rw [e] at hb; exact hb))))
  have hO' : Only (QG d p ab q1 c1 q2 c2 S) w w' := hO.mono fun b hb => by
    rcases hb with hb | hb | hb | hb
    · exact .inl (.inl hb)
    · exact .inl (.inr (.inl hb))
    · exact .inl (.inr (.inr (.inl hb)))
    · exact .inl (.inr (.inr (.inr (.inl hb))))
  have hv : ∀ s ∈ l, ∀ b, s.fp b → ¬ v.ownBlock = some b := fun s hs b hb hq => by
    have h2 := hn b hq
    have := s.lt w (hl.1 s hs) b hb
    omega
  have hp1 := List.pairwise_append.1 h1.2
  refine ⟨⟨⟨fun s hsm => ?_, List.pairwise_append.2 ⟨hp1.1, List.pairwise_cons.2 ⟨fun s hs b hb hb2 => hv s hs b hb2 hb, hl.2⟩, fun r hr s hsm b hrb hsb => ?_⟩⟩, h.2.trans' hO' hG⟩, fun b hb => hG b (hin b hb)⟩
  · rcases List.mem_append.1 hsm with hm | hm
    · exact h1.1 s (List.mem_append_left _ hm)
    · rcases List.mem_cons.1 hm with rfl | hm
      · exact h1.1 _ (List.mem_append_right _ List.mem_cons_self)
      · exact s.st w w' (hl.1 s hm) (fun b hb => hO'.block b (s.lt w (hl.1 s hm) b hb) (hdis s hm b hb))
  · rcases List.mem_cons.1 hsm with rfl | hm
    · exact hp1.2.2 r hr _ List.mem_cons_self b hrb hsb
    · exact hdis s hm b hsb (hin b (qr_fp.1 ⟨r, hr, hrb⟩))
/-- A new queue beside its pool. -/
theorem Inv.newq {X : Cx} {w w' : World} {d p ab n : Nat} (h : Inv X w [rPool p ab (q0 n).L]) (hd : w.heap.size ≤ d) (h1 : Blk w' d [pt p 0, .slice none 0 0, .slice none 0 0, iw 0, iw 0, iw (-1), bo false] 52) (hO : Only (fun _ => False) w w') : Inv X w' (QR d p ab none 0 none 0 (q0 n)) := by
  have k1 : Inv X w' [rPool p ab (q0 n).L, rBlk d [pt p 0, .slice none 0 0, .slice none 0 0, iw 0, iw 0, iw (-1), bo false] 52] := h.add (r := rBlk d [pt p 0, .slice none 0 0, .slice none 0 0, iw 0, iw 0, iw (-1), bo false] 52) hO h1 (fun b hb => by cases hb; exact hd)
  have k2 := ((k1.nilRow 61 5).nilRow 61 5).reo [1, 0, 2, 3] (by decide)
  exact k2
section
variable {w : World} {d p ab : Nat} {q1 q2 : Option Addr} {c1 c2 : Nat} {S : Rq} {n : Nat} {c : Int} {ex : List Int} {x : Pc}
theorem stat_ri (h : RI n c S ex) (hs : Sep w (QR d p ab q1 c1 q2 c2 S)) : Calls Try.prog 14 #[pt d 0] w fun e w' => e = .returned (.agg #[iw S.nxt, iw S.hv, iw (1024 - S.hv), iw (S.late.length : Int)]) ∧ Only (fun _ => False) w w' :=
  (stat_any hs).mono fun e w2 ⟨h1, h2⟩ => ⟨by rw [h1, h.facts.1], h2⟩
theorem put_ri (h : RI n c S [x.buf]) (hs : Sep w (QR d p ab q1 c1 q2 c2 S)) : Calls Try.prog 10 #[pt d 0, iw x.off, iw x.buf, iw x.skip, iw x.size, bo x.fin] w fun e w' => e = .returned (bo (qPutF S x).1) ∧ QTo w d p ab (QG d p ab q1 c1 q2 c2 S) (qPutF S x).2 w' :=
  put_any (fun T => Qv n T []) (fun T hT => by have := hT.lateN; omega) (fun T i y hT hy h0 => hT.step hy h0) (by have := h.qv.lateN; omega) h.qv.lone h.qv.put_h1 hs
theorem got_ri (h : RI n c S ex) (hs : Sep w (QR d p ab q1 c1 q2 c2 S)) : Calls Try.prog 15 #[pt d 0] w fun e w' => ∃ q c, e = .returned (.slice q (gotF S.late.reverse).length c) ∧ RowsN w' (.slice q (gotF S.late.reverse).length c) ((gotF S.late.reverse).map oRow) 45 2 ∧ (∀ b, (Value.slice q (gotF S.late.reverse).length c).ownBlock = some b → w.heap.size ≤ b) ∧ Only (fun _ => False) w w' :=
  got_any (by have := h.qv.lateN; omega) hs
theorem read_ri (h : RI n c S []) (hc : c ≤ 900000000000000000) {most : Int} (hI : IntKind.i64.wrap most = most) (hs : Sep w (QR d p ab q1 c1 q2 c2 S)) : Calls Try.prog 11 #[pt d 0, iw most] w fun e w' => ∃ q c, e = .returned (.slice q (readO most S).length c) ∧ Sep w' (QR d p ab q1 c1 q2 c2 (readS most S) ++ [rMine (.slice q (readO most S).length c) (readO most S) 5]) ∧ (∀ b, (Value.slice q (readO most S).length c).ownBlock = some b → w.heap.size ≤ b) ∧ Only (fun b => b = d ∨ b = p ∨ b = ab ∨ (Value.slice q1 S.l.length c1).ownBlock = some b) w w' :=
  read_any h.qv.lone (by have := h.qv.lN; omega) h.pos (h.read hc hI).1 hs
end
end Go.Proofs.Ytpgnklmmjdkhiaa

/-
  What the walk of RecvqOrder knows of a receiver's queue from call to call.
-/
namespace Go.Proofs.Ytpgnklmmjdkhiaa
open Go.RowKit
/-- A queue in its bounds that holds pieces of one text; c bytes were read. -/
structure RO (text : List UInt8) (c : Int) (S : Rq) (ex : List Int) : Prop where
  ri : RI 60 c S ex
  tx : Tx text S
theorem ro0 (text : List UInt8) : RO text 0 (q0 60) [] := ⟨ri0 60, rfl, Int.natCast_nonneg _, fun y hy => by simp [q0] at hy, .inl rfl⟩
section
variable {text : List UInt8} {c : Int} {S : Rq} {ex : List Int} {x : Pc} {j : Int}
theorem RO.free (h : RO text c S []) : ∃ k : Int, 0 ≤ k ∧ k < 60 ∧ k ∉ ids S [] := h.ri.free
theorem Tx.turn (h : Tx text S) {L' : List Bf} (hk : ∀ x ∈ S.l ++ S.late, dt L' x.buf = dt S.L x.buf) : Tx text { S with L := L' } := by
  refine ⟨?_, h.nx, fun y hy => ?_, h.last⟩
  · rw [← h.wt]
    exact flatMap_same fun y hy => hk y (List.mem_append_left _ hy)
  · have := h.late y hy
    refine ⟨?_, this.2⟩
    rw [← this.1]
    unfold pcB
    rw [hk y (List.mem_append_right _ hy)]
theorem RO.get (h : RO text c S []) (hn : ∃ k : Int, 0 ≤ k ∧ k < (60 : Nat) ∧ k ∉ ids S []) : ∃ j, (getF S.L).1 = (j, 0) ∧ RO text c { S with L := (getF S.L).2 } [j] := by
  obtain ⟨j, e, hq, _, hk⟩ := h.ri.qv.get hn
  exact ⟨j, e, ⟨hq, h.ri.out, h.ri.at', h.ri.c0⟩, h.tx.turn hk⟩
theorem RO.set (h : RO text c S [j]) {d : List UInt8} (hd : d.length ≤ 288) : (ownF S.L j (setF d)).1 = 0 ∧ RO text c { S with L := (ownF S.L j (setF d)).2 } [j] ∧ dt (ownF S.L j (setF d)).2 j = d := by
  obtain ⟨h1, h2, h3⟩ := h.ri.qv.set d
  exact ⟨(h2 hd).1, ⟨⟨h1, h.ri.out, h.ri.at', h.ri.c0⟩, h.tx.turn h3⟩, (h2 hd).2⟩
theorem fin_text (hx : LateOk S.L (S.nxt + 1024 - S.hv) x) (hp : TxP text S.L x) (hl : text.length ≤ 1000) : x.fin' = x.off + x.size := by
  have := hx.off; have := hx.size; have := hp.upto
  unfold Pc.fin'; rw [IntKind.wrap_i64]; omega
theorem Tx.out (h : Tx text S) {i : Nat} {y : Pc} (hy : S.late[i]? = some y) : Tx text (dropAt S i) ∧ TxP text (dropAt S i).L y := by
  have hm : y ∈ S.late := List.mem_of_getElem? hy
  have hs := split_at hy
  have k := h.late y hm
  refine ⟨⟨h.wt, h.nx, fun z hz => h.late z ?_, h.last⟩, k.1, k.2.1, k.2.2⟩
  rw [hs]
  rcases List.mem_append.1 hz with hz | hz
  · exact List.mem_append_left _ hz
  · exact List.mem_append_right _ (List.mem_cons_of_mem _ hz)
theorem put_order (h1 : fitsF S x = true) (h2 : x.off ≤ S.nxt) (h3 : earlyF S x = false) : qPutF S x = (true, drainF S.late.length (joinF S x)) := by
  have e : orderF S x = (true, drainF S.late.length (joinF S x)) := by
    unfold orderF
    rw [if_neg (show ¬ earlyF S x = true by rw [h3]; decide)]
  unfold qPutF
  rw [if_pos h1, if_pos (decide_eq_true h2), e]
  rfl
/-- What is kept while late pieces are joined. -/
structure DJ (text : List UInt8) (lo : Int) (E : Prop) (T : Rq) : Prop where
  qv : Qv 60 T []
  tx : Tx text T
  lo : lo ≤ T.nxt
  fin : E → T.last = (text.length : Int) ∧ T.nxt = (text.length : Int)
theorem DJ.step {lo : Int} {E : Prop} {T : Rq} (hl : text.length ≤ 1000) (h : DJ text lo E T) {i : Nat} {y : Pc} (hy : T.late[i]? = some y) (h0 : y.off ≤ T.nxt) : DJ text lo E (joinF (dropAt T i) y) := by
  obtain ⟨q1, q2⟩ := h.qv.out hy
  obtain ⟨t1, t2⟩ := h.tx.out hy
  obtain ⟨_, j1, _, j3, _, _, j6⟩ := q1.join q2 h0
  have hf := fin_text q2 t2 hl
  have := h.lo
  have e1 : (dropAt T i).nxt = T.nxt := rfl
  have e2 : (dropAt T i).last = T.last := rfl
  refine ⟨j1, t1.join q1 q2 h0 t2 hl, by omega, fun he => ?_⟩
  obtain ⟨f1, f2⟩ := h.fin he
  have := t2.upto
  refine ⟨?_, by omega⟩
  rw [j6]
  unfold jLast
  split
  · rename_i e
    have := t2.fin e
    omega
  · exact f1
theorem RO.put {a b : Int} {fin : Bool} (h : RO text c S [j]) (hl : text.length ≤ 1000) (h0 : 0 ≤ a) (h1 : a ≤ b) (h2 : b ≤ (text.length : Int)) (hd : dt S.L j = (text.drop a.toNat).take (b.toNat - a.toNat)) (hf : fin = ((b : Int) == (text.length : Int))) :
    RO text c (qPutF S ⟨a, j, 0, b - a, fin⟩).2 [] ∧ (a ≤ S.nxt → b ≤ (qPutF S ⟨a, j, 0, b - a, fin⟩).2.nxt ∧ (b = (text.length : Int) → endedF (qPutF S ⟨a, j, 0, b - a, fin⟩).2 = true)) := by
  obtain ⟨x, ex⟩ : ∃ x : Pc, x = ⟨a, j, 0, b - a, fin⟩ := ⟨_, rfl⟩
  rw [← ex]
  have e1 : x.off = a := by rw [ex]
  have e2 : x.buf = j := by rw [ex]
  have e3 : x.skip = 0 := by rw [ex]
  have e4 : x.size = b - a := by rw [ex]
  have e5 : x.fin = fin := by rw [ex]
  rw [← e2] at h hd
  have hfin : x.fin = true → b = (text.length : Int) := fun e => by rw [e5, hf] at e; simpa using e
  have hfin2 : b = (text.length : Int) → x.fin = true := fun e => by rw [e5, hf, e]; simp
  have hdl : ((dt S.L x.buf).length : Int) = b - a := by rw [hd, List.length_take, List.length_drop]; omega
  have hat := h.ri.at'
  have hc0 := h.ri.c0
  have hnx := h.tx.nx
  have hx : LateOk S.L (S.nxt + 1024 - S.hv) x := ⟨by omega, by omega, by omega, by omega, by omega⟩
  have hp : TxP text S.L x := by
    refine ⟨?_, by omega, fun e => by have := hfin e; omega⟩
    unfold pcB
    rw [e3, e4, e1, hd]
    show List.take _ (List.drop 0 _) = _
    rw [List.drop_zero, List.take_take]
    congr 1; omega
  have hfx := fin_text hx hp hl
  have hri := RI.put (x := x) h.ri
  have hJ : x.off ≤ S.nxt → DJ text (max S.nxt b) (x.fin = true) (joinF S x) := fun ho => by
    obtain ⟨_, j1, _, j3, _, _, j6⟩ := h.ri.qv.join hx ho
    refine ⟨j1, h.tx.join h.ri.qv hx ho hp hl, by omega, fun e => ?_⟩
    have := hfin e
    refine ⟨?_, by omega⟩
    rw [j6]; unfold jLast; rw [if_pos e]; omega
  have hD : x.off ≤ S.nxt → DJ text (max S.nxt b) (x.fin = true) (drainF S.late.length (joinF S x)) := fun ho =>
    (drain_keep _ (fun T i y hT hy h0 => hT.step hl hy h0) S.late.length (joinF S x) (hJ ho) (by rw [join_late]; exact Nat.le_refl _)).1
  have hT1 : Tx text { S with L := (freeF S.L x.buf).2 } := h.tx.turn fun y _ => h.ri.qv.free.2 _
  refine ⟨⟨hri, ?_⟩, fun ha => ?_⟩
  · rcases put_cases S x with e | ⟨_, ho, _, e⟩ | ⟨_, _, _, e⟩
    · rw [e]; exact hT1
    · rw [e]; exact (hD ho).tx
    · rw [e]
      refine ⟨h.tx.wt, h.tx.nx, fun y hy => ?_, ?_⟩
      · rcases List.mem_append.1 hy with hy | hy
        · exact h.tx.late y hy
        · obtain rfl := by simpa using hy
          exact ⟨hp.b, hp.upto, hp.fin⟩
      · show (if x.fin = true then x.fin' else S.last) = -1 ∨ (if x.fin = true then x.fin' else S.last) = (text.length : Int)
        split
        · rename_i e
          have := hp.fin e
          exact .inr (by omega)
        · exact h.tx.last
  · by_cases he : endedF S = true
    · have hnl : S.nxt = (text.length : Int) := by
        unfold endedF at he
        simp only [Bool.and_eq_true, decide_eq_true_eq, beq_iff_eq] at he
        rcases h.tx.last with e | e <;> omega
      rcases put_cases S x with e | ⟨hf1, _⟩ | ⟨hf1, _⟩
      · rw [e]; exact ⟨by show b ≤ S.nxt; omega, fun _ => he⟩
      · exact absurd (fits_of h.ri.qv hf1).2.2 (by rw [he]; simp)
      · exact absurd (fits_of h.ri.qv hf1).2.2 (by rw [he]; simp)
    · have he' : endedF S = false := by simpa using he
      have hfar : farF S.nxt S.late ≤ (text.length : Int) := far_le hnx fun y hy => by
        have k1 := h.ri.qv.late y hy
        have k2 := h.tx.late y hy
        have := fin_text k1 (text := text) ⟨k2.1, k2.2.1, k2.2.2⟩ hl
        have := k2.2.1
        omega
      have hft : fitsF S x = true := fits_mk h.ri.qv (h.ri.qv.used (mem_ex List.mem_cons_self)) hx he' (fun h9 => by
        rcases h.tx.last with e | e
        · omega
        · exact ⟨by omega, fun e6 => by have := hfin e6; omega⟩) (fun e => by have := hfin e; omega)
      by_cases hea : earlyF S x = true
      · have hnb : b ≤ S.nxt ∧ ¬ b = (text.length : Int) := by
          unfold earlyF at hea
          simp only [Bool.or_eq_true, Bool.and_eq_true, decide_eq_true_eq, beq_iff_eq, Bool.not_eq_true'] at hea
          rcases hea with e | ⟨e, e6⟩
          · exact ⟨by omega, by omega⟩
          · refine ⟨by omega, fun e7 => ?_⟩
            rw [hfin2 e7] at e6; cases e6
        refine ⟨?_, fun e => absurd e hnb.2⟩
        rcases put_cases S x with e | ⟨_, _, h9, _⟩ | ⟨_, h9, _⟩
        · rw [e]; exact hnb.1
        · rw [hea] at h9; cases h9
        · omega
      · rw [put_order hft (by omega) (by simpa using hea)]
        have hd9 := hD (by omega)
        refine ⟨by have := hd9.lo; show b ≤ (drainF _ _).nxt; omega, fun e => ?_⟩
        obtain ⟨f1, f2⟩ := hd9.fin (hfin2 e)
        show endedF (drainF _ _) = true
        unfold endedF
        rw [f1, f2]
        simp
theorem RO.read (h : RO text c S []) (hl : text.length ≤ 1000) {most : Int} (hI : IntKind.i64.wrap most = most) :
    RO text (c + ((readO most S).length : Int)) (readS most S) [] ∧ readO most S = (text.drop c.toNat).take (readO most S).length ∧ c + ((readO most S).length : Int) ≤ (text.length : Int) ∧ (readS most S).nxt = S.nxt ∧ (readS most S).last = S.last := by
  have hnx := h.tx.nx; have hc0 := h.ri.c0; have hat := h.ri.at'; have hwl := h.ri.qv.wt_len
  have hf := h.ri.facts
  obtain ⟨r1, r2, r3, r4, r5, r6, r7⟩ := h.ri.qv.read most (by omega) hI
  have hr := (h.ri.read (by omega) hI).2.1
  have hlen := congrArg List.length r3
  rw [List.length_append] at hlen
  have hw : Wt S = (text.drop c.toNat).take (S.nxt.toNat - c.toNat) := by rw [h.tx.wt, List.drop_take, hat]
  have ho : readO most S = (Wt S).take (readO most S).length := by rw [r3]; simp
  refine ⟨⟨hr, ?_, hnx, fun y hy => ?_, h.tx.last⟩, ?_, by omega, rfl, rfl⟩
  · have e : Wt (readS most S) = (Wt S).drop (readO most S).length := by rw [r3]; simp
    have e9 : (readS most S).nxt = S.nxt := rfl
    rw [e, h.tx.wt, List.drop_drop, r7, e9]
    congr 1
    omega
  · have := h.tx.late y hy
    refine ⟨?_, this.2⟩
    rw [← this.1]; unfold pcB; rw [r6 y hy]
  · conv => lhs; rw [ho, hw, List.take_take]
    congr 1; omega
theorem nfree_all {L : List Bf} (h : ∀ k : Int, rf L k = 0) : nfree L = L.length := by
  unfold nfree
  rw [List.countP_eq_length]
  intro b hb
  obtain ⟨k, hk, rfl⟩ := List.getElem_of_mem hb
  have := h (k : Int)
  unfold rf at this
  rw [bufAt_nat, List.getElem?_eq_getElem hk] at this
  simpa using this
/-- When all has come, and all is read. -/
theorem RO.all (h : RO text c S []) (hl : text.length ≤ 1000) (he : endedF S = true) : endedF (readS 2000 S) = true ∧ c + ((readO 2000 S).length : Int) = (text.length : Int) ∧ readO 2000 S = text.drop c.toNat ∧ nfree (readS 2000 S).L = 60 := by
  have hnx := h.tx.nx; have hc0 := h.ri.c0; have hat := h.ri.at'; have hwl := h.ri.qv.wt_len
  have hf := h.ri.facts
  have hI : IntKind.i64.wrap 2000 = 2000 := by decide
  obtain ⟨r1, r2, r3, r4, r5, r6, r7⟩ := h.ri.qv.read 2000 (by omega) hI
  obtain ⟨k1, k2, k3, k4, k5⟩ := h.read hl hI
  have hnl : S.nxt = (text.length : Int) := by
    unfold endedF at he
    simp only [Bool.and_eq_true, decide_eq_true_eq, beq_iff_eq] at he
    rcases h.tx.last with e | e <;> omega
  have hlen := congrArg List.length r3
  rw [List.length_append] at hlen
  have hl0 : (readS 2000 S).l = [] := by
    rcases r5 with e | e
    · exact e
    · omega
  have hh0 : (readS 2000 S).hv = 0 := by rw [r2.hv, hl0]; rfl
  have hlt : S.late = [] := by
    cases e : S.late with
    | nil => rfl
    | cons y t =>
      have hm : y ∈ S.late := by rw [e]; exact List.mem_cons_self
      have a1 := h.ri.out y hm; have a2 := (h.tx.late y hm).2.1; have a3 := (h.ri.qv.late y hm).size
      omega
  have hcl : c + ((readO 2000 S).length : Int) = (text.length : Int) := by omega
  refine ⟨he, hcl, ?_, ?_⟩
  · rw [k2]
    exact List.take_of_length_le (by rw [List.length_drop]; omega)
  · have : nfree (readS 2000 S).L = (readS 2000 S).L.length := nfree_all fun k => by
      rw [r2.rfs, if_neg]
      have e : ids (readS 2000 S) [] = [] := by
        unfold ids
        rw [hl0]
        show [] ++ (S.late.map Pc.buf ++ []) = []
        rw [hlt]; rfl
      rw [e]; simp
    rw [this]; exact r2.len
end
theorem rem_in (o : Int) {n : Int} (h : 0 < n) : -n < Int.tmod o n ∧ Int.tmod o n < n ∧ 0 ≤ Int.tmod (Int.tmod o n + n) n ∧ Int.tmod (Int.tmod o n + n) n < n := by
  have a1 : Int.tmod o n < n := Int.tmod_lt_of_pos o h
  have a2 : -n < Int.tmod o n := Int.lt_tmod_of_pos o h
  have a3 : Int.tmod (Int.tmod o n + n) n = (Int.tmod o n + n) % n := Int.tmod_eq_emod_of_nonneg (by omega)
  exact ⟨a2, a1, by rw [a3]; exact Int.emod_nonneg _ (by omega), by rw [a3]; exact Int.emod_lt_of_pos _ h⟩
theorem bytes_cap {w : World} {q : Option Addr} {n c : Nat} {f : List UInt8} (h : BytesAt w (.slice q n c) f) : n = f.length ∧ n ≤ c := by
  rcases h with ⟨a, c', e, hn, hf⟩ | ⟨b, o, cap, e, h1, _⟩
  · simp only [Value.slice.injEq] at e
    subst hf
    exact ⟨e.2.1, by omega⟩
  · simp only [Value.slice.injEq] at e
    exact ⟨e.2.1, by omega⟩
theorem cut_in {w : World} {q : Option Addr} {n c l0 h0 m0 m1 : Nat} {f : List UInt8} {P : Nat → Prop} (hb : BytesAt w (.slice q n c) f) (h : sliceIn (.slice q n c) P) (hn : h0 ≤ n) : sliceIn (.slice (if m0 = l0 then q else q.map (·.add (l0 * 1))) (h0 - l0) m1) P := by
  intro b o k cap hv hk
  simp only [Value.slice.injEq] at hv
  obtain ⟨e1, e2, e3⟩ := hv
  rcases hb with ⟨a, c', e, hn0, hf⟩ | ⟨g, o9, cap9, e, h1, _⟩
  · simp only [Value.slice.injEq] at e
    omega
  · simp only [Value.slice.injEq] at e
    have hq := e.1
    subst hq
    have hg : g = b := by
      split at e1
      · have e4 := Option.some.inj e1
        exact congrArg Addr.block e4
      · have e4 := Option.some.inj e1
        have e5 := congrArg Addr.block e4
        unfold Addr.add at e5
        split at e5 <;> exact e5
    subst hg
    exact h g o9 n c rfl (by omega)
end Go.Proofs.Ytpgnklmmjdkhiaa

/-
  awake.
-/
namespace Go.Proofs.Ytpgnklmmjdkhiaa
open Go.RowKit
set_option maxRecDepth 100000
set_option maxHeartbeats 4000000
def aw1 : Rq := { q0 9 with L := (getF (q0 9).L).2 }
def aw2 : Rq := { aw1 with L := (ownF aw1.L 0 (setF [99, 100])).2 }
def aw3 : Rq := (qPutF aw2 ⟨2, 0, 0, 2, true⟩).2
def aw4 : Rq := { aw3 with L := (getF aw3.L).2 }
def aw5 : Rq := { aw4 with L := (ownF aw4.L 1 (setF [120, 97, 98])).2 }
def aw6 : Rq := (qPutF aw5 ⟨0, 1, 1, 2, false⟩).2
def aw7 : Rq := readS 3 aw6
def aw8 : Rq := readS 9 aw7
theorem aw1_g : (getF (q0 9).L).1 = (0, 0) := by decide +kernel
theorem aw4_g : (getF aw3.L).1 = (1, 0) := by decide +kernel
theorem aw3_b : (qPutF aw2 ⟨2, 0, 0, 2, true⟩).1 = true := by decide +kernel
theorem aw6_b : (qPutF aw5 ⟨0, 1, 1, 2, false⟩).1 = true := by decide +kernel
theorem aw3_g : gotF aw3.late.reverse = [(2, 4)] := by decide +kernel
theorem aw6_e : endedF aw6 = true := by decide +kernel
theorem aw7_o : readO 3 aw6 = [97, 98, 99] := by decide +kernel
theorem aw8_o : readO 9 aw7 = [100] := by decide +kernel
theorem aw8_n : nfree aw8.L = 9 := by decide +kernel
theorem aw1_r : RI 9 0 aw1 [0] := by
  obtain ⟨j, e, h⟩ := (ri0 9).get ⟨8, by decide +kernel⟩
  rw [aw1_g] at e
  simp only [Prod.mk.injEq, and_true] at e
  subst e; exact h
theorem aw2_r : RI 9 0 aw2 [0] := aw1_r.set _
theorem aw3_r : RI 9 0 aw3 [] := RI.put (x := ⟨2, 0, 0, 2, true⟩) aw2_r
theorem aw4_r : RI 9 0 aw4 [1] := by
  obtain ⟨j, e, h⟩ := aw3_r.get ⟨8, by decide +kernel⟩
  rw [aw4_g] at e
  simp only [Prod.mk.injEq, and_true] at e
  subst e; exact h
theorem aw5_r : RI 9 0 aw5 [1] := aw4_r.set _
theorem aw6_r : RI 9 0 aw6 [] := RI.put (x := ⟨0, 1, 1, 2, false⟩) aw5_r
theorem aw7_r : RI 9 3 aw7 [] := by
  have h := (aw6_r.read (by decide) (most := 3) (by decide)).2.1
  rw [aw7_o] at h; exact h
section
variable {w : World} {d p ab : Nat} {q1 q2 : Option Addr} {c1 c2 : Nat}
theorem got_aw (hs : Sep w (QR d p ab q1 c1 q2 c2 aw3)) : Calls Try.prog 15 #[pt d 0] w fun e w' => ∃ q c, e = .returned (.slice q 1 c) ∧ RowsN w' (.slice q 1 c) [[iw 2, iw 4]] 45 2 ∧ (∀ b, (Value.slice q 1 c).ownBlock = some b → w.heap.size ≤ b) ∧ Only (fun _ => False) w w' := by
  have h := got_ri aw3_r hs
  rw [aw3_g] at h; exact h
theorem read_aw7 (hs : Sep w (QR d p ab q1 c1 q2 c2 aw6)) : Calls Try.prog 11 #[pt d 0, iw 3] w fun e w' => ∃ q c, e = .returned (.slice q 3 c) ∧ Sep w' (QR d p ab q1 c1 q2 c2 aw7 ++ [rMine (.slice q 3 c) [97, 98, 99] 5]) ∧ (∀ b, (Value.slice q 3 c).ownBlock = some b → w.heap.size ≤ b) ∧ Only (fun b => b = d ∨ b = p ∨ b = ab ∨ (Value.slice q1 aw6.l.length c1).ownBlock = some b) w w' := by
  have h := read_ri aw6_r (by decide) (most := 3) (by decide) hs
  rw [aw7_o] at h; exact h
theorem read_aw8 (hs : Sep w (QR d p ab q1 c1 q2 c2 aw7)) : Calls Try.prog 11 #[pt d 0, iw 9] w fun e w' => ∃ q c, e = .returned (.slice q 1 c) ∧ Sep w' (QR d p ab q1 c1 q2 c2 aw8 ++ [rMine (.slice q 1 c) [100] 5]) ∧ (∀ b, (Value.slice q 1 c).ownBlock = some b → w.heap.size ≤ b) ∧ Only (fun b => b = d ∨ b = p ∨ b = ab ∨ (Value.slice q1 aw7.l.length c1).ownBlock = some b) w w' := by
  have h := read_ri aw7_r (by decide) (most := 9) (by decide) hs
  rw [aw8_o] at h; exact h
end
theorem awake_g (w : World) (G : Nat → Prop) : Calls Try.prog 5 #[] w fun e w' => e = .returned (bo true) ∧ Only G w w' := by
  refine calls_sc (l0 := []) (args := []) G Try.func5 rfl 96 Try.ntmps5 (le_b rfl) ⟨⟨by simp, List.Pairwise.nil⟩, Only.refl _ _⟩ ?_
  show SC _ _ _ _ [] []
  refine SC.seq ?_
  refine SC.region ?_
  refine SL.ru rfl rfl (lt_b rfl) (ru_assign rfl rfl) ?_
  refine SL.nil ?_
  refine SC.of_SE ?_
  refine SC.norm [(0, bo false)] [] ⟨rfl, trivial⟩ rfl ?_
  refine SC.seq ?_
  refine SC.region ?_
  refine SL.call (ζ := Nat × Nat) (fun z => Value.tuple #[pt z.1 0, iw 0]) (fun z => [rPool z.1 z.2 (q0 9).L]) (fun z => w.heap.size ≤ z.1 ∧ w.heap.size ≤ z.2) rfl rfl co6 rfl rfl rfl (lt_b rfl) (fun w1 hI => (new_in (n := 9) (by decide) (by decide)).mono fun e w2 ⟨p, ab, k1, k2, k3, k4, k5⟩ => ⟨(p, ab), k1, hI.add (r := rPool p ab (q0 9).L) k5 k2 (fun b hb => hb.elim (fun e => e ▸ k3) (fun e => e ▸ k4)), Nat.le_trans hI.2.size k3, Nat.le_trans hI.2.size k4⟩) ?_
  rintro ⟨p, ab⟩ ⟨hp, hab⟩
  dsimp only at hp hab
  refine SL.ru rfl rfl (lt_b rfl) (ru_move rfl rfl) ?_
  refine SL.ru rfl rfl (lt_b rfl) (ru_extract rfl rfl rfl) ?_
  refine SL.ru rfl rfl (lt_b rfl) (ru_extract rfl rfl rfl) ?_
  refine SL.ru rfl rfl (lt_b rfl) (ru_assign rfl rfl) ?_
  refine SL.ru rfl rfl (lt_b rfl) (ru_assign rfl rfl) ?_
  refine SL.nil ?_
  refine SC.of_SE ?_
  refine SC.norm [(0, bo false), (1, pt p 0), (2, iw 0)] [rPool p ab (q0 9).L] ⟨rfl, rfl, rfl, trivial⟩ rfl ?_
  refine SC.seq ?_
  refine SC.seq ?_
  refine SC.region ?_
  refine SL.ru rfl rfl (lt_b rfl) (ru_move rfl rfl) ?_
  refine SL.ru rfl rfl (lt_b rfl) (ru_ne (b := false) rfl rfl rfl rfl) ?_
  refine SL.ru rfl rfl (lt_b rfl) (ru_move rfl rfl) ?_
  refine SL.rug rfl rfl rfl rfl (lt_b rfl) (ru_move rfl rfl) ?_
  refine SL.rug rfl rfl rfl rfl (lt_b rfl) (ru_eqnil Try.underlying25 rfl rfl rfl rfl) ?_
  refine SL.ru rfl rfl (lt_b rfl) (ru_pick (u := bo true) (v := bo false) rfl rfl rfl rfl) ?_
  refine SL.nil ?_
  refine SC.of_SE ?_
  refine SC.norm [(0, bo false), (1, pt p 0), (23, bo false)] [rPool p ab (q0 9).L] ⟨rfl, rfl, rfl, trivial⟩ rfl ?_
  refine SC.no rfl ?_
  refine SC.skip ?_
  refine SC.of_SE ?_
  refine SC.norm [(0, bo false), (1, pt p 0)] [rPool p ab (q0 9).L] ⟨rfl, rfl, trivial⟩ rfl ?_
  refine SC.seq ?_
  refine SC.region ?_
  refine SL.ru rfl rfl (lt_b rfl) (ru_move rfl rfl) ?_
  refine SL.call (ζ := Nat) (fun z => pt z 0) (fun z => QR z p ab none 0 none 0 (q0 9)) (fun z => w.heap.size ≤ z) rfl rfl co7 rfl rfl rfl (lt_b rfl) (fun w1 hI => newq_any.mono fun e w2 ⟨d, h1, h2, h3, h4⟩ => ⟨d, h1, Inv.newq hI h2 h3 h4, Nat.le_trans hI.2.size h2⟩) ?_
  intro d hd
  have hG0 : ∀ b, QG d p ab none 0 none 0 (q0 9) b → G b ∨ w.heap.size ≤ b := by rintro b (rfl | rfl | rfl | h | h); exact .inr hd; exact .inr hp; exact .inr hab; cases h; cases h
  refine SL.ru rfl rfl (lt_b rfl) (ru_assign rfl rfl) ?_
  refine SL.nil ?_
  refine SC.of_SE ?_
  refine SC.norm [(0, bo false), (1, pt p 0), (3, pt d 0)] [rBlk d [pt p 0, Value.slice none (((q0 9).l).length) 0, Value.slice none (((q0 9).late).length) 0, iw ((q0 9).nxt), iw ((q0 9).hv), iw ((q0 9).last), bo ((q0 9).gone)] 52, rPool p ab ((q0 9).L), rRowN (.slice none (((q0 9).l).length) 0) (pRows ((q0 9).l)) 61 5, rRowN (.slice none (((q0 9).late).length) 0) (pRows ((q0 9).late)) 61 5] ⟨rfl, rfl, rfl, trivial⟩ rfl ?_
  refine SC.seq ?_
  refine SC.seq ?_
  refine SC.region ?_
  refine SL.ru rfl rfl (lt_b rfl) (ru_move rfl rfl) ?_
  refine SL.ru rfl rfl (lt_b rfl) (ru_eqnil Try.underlying29 rfl rfl rfl rfl) ?_
  refine SL.nil ?_
  refine SC.of_SE ?_
  refine SC.norm [(0, bo false), (1, pt p 0), (3, pt d 0), (27, bo false)] [rBlk d [pt p 0, Value.slice none (((q0 9).l).length) 0, Value.slice none (((q0 9).late).length) 0, iw ((q0 9).nxt), iw ((q0 9).hv), iw ((q0 9).last), bo ((q0 9).gone)] 52, rPool p ab ((q0 9).L), rRowN (.slice none (((q0 9).l).length) 0) (pRows ((q0 9).l)) 61 5, rRowN (.slice none (((q0 9).late).length) 0) (pRows ((q0 9).late)) 61 5] ⟨rfl, rfl, rfl, rfl, trivial⟩ rfl ?_
  refine SC.no rfl ?_
  refine SC.skip ?_
  refine SC.of_SE ?_
  refine SC.norm [(0, bo false), (1, pt p 0), (3, pt d 0)] [rBlk d [pt p 0, Value.slice none (((q0 9).l).length) 0, Value.slice none (((q0 9).late).length) 0, iw ((q0 9).nxt), iw ((q0 9).hv), iw ((q0 9).last), bo ((q0 9).gone)] 52, rPool p ab ((q0 9).L), rRowN (.slice none (((q0 9).l).length) 0) (pRows ((q0 9).l)) 61 5, rRowN (.slice none (((q0 9).late).length) 0) (pRows ((q0 9).late)) 61 5] ⟨rfl, rfl, rfl, trivial⟩ rfl ?_
  refine SC.seq ?_
  refine SC.region ?_
  refine SL.ru rfl rfl (lt_b rfl) (ru_move rfl rfl) ?_
  refine SL.call (ζ := Unit) (fun _z => Value.tuple #[iw 0, iw 0]) (fun _z => QR d p ab none 0 none 0 aw1 ++ []) (fun _z => True) rfl rfl co8 rfl rfl rfl (lt_b rfl) (fun w1 hI => (get_any (hI.1.get (i := 1) rfl)).mono fun e w2 ⟨h1, h2⟩ => ⟨(), by rw [h1, aw1_g], hI.poolTo (i := 1) rfl (fun b hb => hG0 b (hb.elim (fun e => .inr (.inl e)) (fun e => .inr (.inr (.inl e))))) h2, trivial⟩) ?_
  rintro ⟨⟩ _
  refine SL.ru rfl rfl (lt_b rfl) (ru_move rfl rfl) ?_
  refine SL.ru rfl rfl (lt_b rfl) (ru_extract rfl rfl rfl) ?_
  refine SL.ru rfl rfl (lt_b rfl) (ru_extract rfl rfl rfl) ?_
  refine SL.ru rfl rfl (lt_b rfl) (ru_assign rfl rfl) ?_
  refine SL.ru rfl rfl (lt_b rfl) (ru_assign rfl rfl) ?_
  refine SL.nil ?_
  refine SC.of_SE ?_
  refine SC.norm [(0, bo false), (1, pt p 0), (3, pt d 0), (4, iw 0)] [rBlk d [pt p 0, Value.slice none aw1.l.length 0, Value.slice none aw1.late.length 0, iw aw1.nxt, iw aw1.hv, iw aw1.last, bo aw1.gone] 52, rPool p ab aw1.L, rRowN (.slice none aw1.l.length 0) (pRows aw1.l) 61 5, rRowN (.slice none aw1.late.length 0) (pRows aw1.late) 61 5] ⟨rfl, rfl, rfl, rfl, trivial⟩ rfl ?_
  refine SC.seq ?_
  refine SC.region ?_
  refine SL.ru rfl rfl (lt_b rfl) (ru_move rfl rfl) ?_
  refine SL.ru rfl rfl (lt_b rfl) (ru_move rfl rfl) ?_
  refine SL.buildSlice (size := 1) (vals := [(0, Value.int .u8 99), (1, Value.int .u8 100)]) (z := [Value.int .u8 0]) (cs := [Value.int .u8 99, Value.int .u8 100]) rfl rfl (lt_b rfl) rfl Try.underlying22 (by kernel_rfl) rfl rfl (by kernel_rfl) fun b1 hb1 => ?_
  refine SL.mark (i := 4) rfl rfl (lt_b rfl) rfl Try.underlying22 Try.underlying5 rfl rfl (.inr hb1) ?_
  refine SL.call (ζ := Unit) (fun _z => iw ((ownF aw1.L 0 (setF [99, 100])).1)) (fun _z => QR d p ab none 0 none 0 aw2 ++ [rFz b1 [Value.int .u8 99, Value.int .u8 100] 5]) (fun _z => True) rfl rfl co9 rfl rfl rfl (lt_b rfl) (fun w1 hI => (set_any (hI.1.get (i := 1) rfl) 0 (fzq_bytes (l := [99, 100]) (hI.1.get (i := 4) rfl) (by decide)) (mineq_in fun b hb e => hI.apartq (i := 4) (j := 1) rfl rfl (by decide) b (by cases hb; rfl) (.inr e))).mono fun e w2 ⟨h1, h2⟩ => ⟨(), by rw [h1], hI.poolTo (i := 1) rfl (fun b hb => hG0 b (hb.elim (fun e => .inr (.inl e)) (fun e => .inr (.inr (.inl e))))) h2, trivial⟩) ?_
  rintro ⟨⟩ _
  refine SL.nil ?_
  refine SE.keep 4 ?_
  refine SC.of_SE ?_
  refine SC.norm [(0, bo false), (1, pt p 0), (3, pt d 0), (4, iw 0)] [rBlk d [pt p 0, Value.slice none aw2.l.length 0, Value.slice none aw2.late.length 0, iw aw2.nxt, iw aw2.hv, iw aw2.last, bo aw2.gone] 52, rPool p ab aw2.L, rRowN (.slice none aw2.l.length 0) (pRows aw2.l) 61 5, rRowN (.slice none aw2.late.length 0) (pRows aw2.late) 61 5] ⟨rfl, rfl, rfl, rfl, trivial⟩ rfl ?_
  refine SC.seq ?_
  refine SC.region ?_
  refine SL.ru rfl rfl (lt_b rfl) (ru_move rfl rfl) ?_
  refine SL.ru rfl rfl (lt_b rfl) (ru_move rfl rfl) ?_
  refine SL.call (ζ := Option Addr × Nat × Option Addr × Nat) (fun z => bo true) (fun z => QR d p ab z.1 z.2.1 z.2.2.1 z.2.2.2 aw3 ++ []) (fun z => ∀ b, QG d p ab z.1 z.2.1 z.2.2.1 z.2.2.2 aw3 b → G b ∨ w.heap.size ≤ b) rfl rfl co10 rfl rfl rfl (lt_b rfl) (fun w5 hI => (put_ri (x := (⟨2, 0, 0, 2, true⟩ : Pc)) aw2_r (Inv.four hI)).mono fun e w2 ⟨h1, k⟩ => by obtain ⟨a1, a2, a3, a4, k1, k2⟩ := Inv.qto (l := []) hI k hG0; exact ⟨(a1, a2, a3, a4), by rw [h1, aw3_b], k1, k2⟩) ?_
  rintro ⟨qa3, ca4, qb5, cb6⟩ hG2
  dsimp only at hG2
  refine SL.ru rfl rfl (lt_b rfl) (ru_assign rfl rfl) ?_
  refine SL.nil ?_
  refine SC.of_SE ?_
  refine SC.norm [(0, bo false), (1, pt p 0), (3, pt d 0), (6, bo true)] [rBlk d [pt p 0, Value.slice qa3 aw3.l.length ca4, Value.slice qb5 aw3.late.length cb6, iw aw3.nxt, iw aw3.hv, iw aw3.last, bo aw3.gone] 52, rPool p ab aw3.L, rRowN (.slice qa3 aw3.l.length ca4) (pRows aw3.l) 61 5, rRowN (.slice qb5 aw3.late.length cb6) (pRows aw3.late) 61 5] ⟨rfl, rfl, rfl, rfl, trivial⟩ rfl ?_
  refine SC.seq ?_
  refine SC.region ?_
  refine SL.ru rfl rfl (lt_b rfl) (ru_move rfl rfl) ?_
  refine SL.call (ζ := Option Addr × Nat) (fun z => Value.slice z.1 1 z.2) (fun z => [rBlk d [pt p 0, Value.slice qa3 aw3.l.length ca4, Value.slice qb5 aw3.late.length cb6, iw aw3.nxt, iw aw3.hv, iw aw3.last, bo aw3.gone] 52, rPool p ab aw3.L, rRowN (.slice qa3 aw3.l.length ca4) (pRows aw3.l) 61 5, rRowN (.slice qb5 aw3.late.length cb6) (pRows aw3.late) 61 5] ++ [rRowN (.slice z.1 1 z.2) [[iw 2, iw 4]] 45 2]) (fun z => True) rfl rfl co15 rfl rfl rfl (lt_b rfl) (fun w5 hI => (got_aw (Inv.four hI)).mono fun e w2 ⟨q, c, h1, h2, h3, h4⟩ => ⟨(q, c), h1, hI.add (r := rRowN (.slice q 1 c) [[iw 2, iw 4]] 45 2) h4 h2 h3, trivial⟩) ?_
  rintro ⟨q7, c8⟩ _
  refine SL.ru rfl rfl (lt_b rfl) (ru_assign rfl rfl) ?_
  refine SL.nil ?_
  refine SC.of_SE ?_
  refine SC.norm [(0, bo false), (1, pt p 0), (3, pt d 0), (6, bo true), (7, Value.slice q7 1 c8)] [rBlk d [pt p 0, Value.slice qa3 aw3.l.length ca4, Value.slice qb5 aw3.late.length cb6, iw aw3.nxt, iw aw3.hv, iw aw3.last, bo aw3.gone] 52, rPool p ab aw3.L, rRowN (.slice qa3 aw3.l.length ca4) (pRows aw3.l) 61 5, rRowN (.slice qb5 aw3.late.length cb6) (pRows aw3.late) 61 5, rRowN (.slice q7 1 c8) [[iw 2, iw 4]] 45 2] ⟨rfl, rfl, rfl, rfl, rfl, trivial⟩ rfl ?_
  refine SC.seq ?_
  refine SC.region ?_
  refine SL.ru rfl rfl (lt_b rfl) (ru_move rfl rfl) ?_
  refine SL.call (ζ := Unit) (fun _z => Value.tuple #[iw 1, iw 0]) (fun _z => QR d p ab qa3 ca4 qb5 cb6 aw4 ++ [rRowN (.slice q7 1 c8) [[iw 2, iw 4]] 45 2]) (fun _z => True) rfl rfl co8 rfl rfl rfl (lt_b rfl) (fun w1 hI => (get_any (hI.1.get (i := 1) rfl)).mono fun e w2 ⟨h1, h2⟩ => ⟨(), by rw [h1, aw4_g], hI.poolTo (i := 1) rfl (fun b hb => hG2 b (hb.elim (fun e => .inr (.inl e)) (fun e => .inr (.inr (.inl e))))) h2, trivial⟩) ?_
  rintro ⟨⟩ _
  refine SL.ru rfl rfl (lt_b rfl) (ru_move rfl rfl) ?_
  refine SL.ru rfl rfl (lt_b rfl) (ru_extract rfl rfl rfl) ?_
  refine SL.ru rfl rfl (lt_b rfl) (ru_extract rfl rfl rfl) ?_
  refine SL.ru rfl rfl (lt_b rfl) (ru_assign rfl rfl) ?_
  refine SL.ru rfl rfl (lt_b rfl) (ru_assign rfl rfl) ?_
  refine SL.nil ?_
  refine SC.of_SE ?_
  refine SC.norm [(0, bo false), (1, pt p 0), (3, pt d 0), (6, bo true), (7, Value.slice q7 1 c8), (8, iw 1)] [rBlk d [pt p 0, Value.slice qa3 aw4.l.length ca4, Value.slice qb5 aw4.late.length cb6, iw aw4.nxt, iw aw4.hv, iw aw4.last, bo aw4.gone] 52, rPool p ab aw4.L, rRowN (.slice qa3 aw4.l.length ca4) (pRows aw4.l) 61 5, rRowN (.slice qb5 aw4.late.length cb6) (pRows aw4.late) 61 5, rRowN (.slice q7 1 c8) [[iw 2, iw 4]] 45 2] ⟨rfl, rfl, rfl, rfl, rfl, rfl, trivial⟩ rfl ?_
  refine SC.seq ?_
  refine SC.region ?_
  refine SL.ru rfl rfl (lt_b rfl) (ru_move rfl rfl) ?_
  refine SL.ru rfl rfl (lt_b rfl) (ru_move rfl rfl) ?_
  refine SL.buildSlice (size := 1) (vals := [(0, Value.int .u8 120), (1, Value.int .u8 97), (2, Value.int .u8 98)]) (z := [Value.int .u8 0]) (cs := [Value.int .u8 120, Value.int .u8 97, Value.int .u8 98]) rfl rfl (lt_b rfl) rfl Try.underlying22 (by kernel_rfl) rfl rfl (by kernel_rfl) fun b9 hb9 => ?_
  refine SL.mark (i := 5) rfl rfl (lt_b rfl) rfl Try.underlying22 Try.underlying5 rfl rfl (.inr hb9) ?_
  refine SL.call (ζ := Unit) (fun _z => iw ((ownF aw4.L 1 (setF [120, 97, 98])).1)) (fun _z => QR d p ab qa3 ca4 qb5 cb6 aw5 ++ [rRowN (.slice q7 1 c8) [[iw 2, iw 4]] 45 2, rFz b9 [Value.int .u8 120, Value.int .u8 97, Value.int .u8 98] 5]) (fun _z => True) rfl rfl co9 rfl rfl rfl (lt_b rfl) (fun w1 hI => (set_any (hI.1.get (i := 1) rfl) 1 (fzq_bytes (l := [120, 97, 98]) (hI.1.get (i := 5) rfl) (by decide)) (mineq_in fun b hb e => hI.apartq (i := 5) (j := 1) rfl rfl (by decide) b (by cases hb; rfl) (.inr e))).mono fun e w2 ⟨h1, h2⟩ => ⟨(), by rw [h1], hI.poolTo (i := 1) rfl (fun b hb => hG2 b (hb.elim (fun e => .inr (.inl e)) (fun e => .inr (.inr (.inl e))))) h2, trivial⟩) ?_
  rintro ⟨⟩ _
  refine SL.nil ?_
  refine SE.keep 5 ?_
  refine SC.of_SE ?_
  refine SC.norm [(0, bo false), (1, pt p 0), (3, pt d 0), (6, bo true), (7, Value.slice q7 1 c8), (8, iw 1)] [rBlk d [pt p 0, Value.slice qa3 aw5.l.length ca4, Value.slice qb5 aw5.late.length cb6, iw aw5.nxt, iw aw5.hv, iw aw5.last, bo aw5.gone] 52, rPool p ab aw5.L, rRowN (.slice qa3 aw5.l.length ca4) (pRows aw5.l) 61 5, rRowN (.slice qb5 aw5.late.length cb6) (pRows aw5.late) 61 5, rRowN (.slice q7 1 c8) [[iw 2, iw 4]] 45 2] ⟨rfl, rfl, rfl, rfl, rfl, rfl, trivial⟩ rfl ?_
  refine SC.seq ?_
  refine SC.region ?_
  refine SL.ru rfl rfl (lt_b rfl) (ru_move rfl rfl) ?_
  refine SL.ru rfl rfl (lt_b rfl) (ru_move rfl rfl) ?_
  refine SL.call (ζ := Option Addr × Nat × Option Addr × Nat) (fun z => bo true) (fun z => QR d p ab z.1 z.2.1 z.2.2.1 z.2.2.2 aw6 ++ [rRowN (.slice q7 1 c8) [[iw 2, iw 4]] 45 2]) (fun z => ∀ b, QG d p ab z.1 z.2.1 z.2.2.1 z.2.2.2 aw6 b → G b ∨ w.heap.size ≤ b) rfl rfl co10 rfl rfl rfl (lt_b rfl) (fun w5 hI => (put_ri (x := (⟨0, 1, 1, 2, false⟩ : Pc)) aw5_r (Inv.four hI)).mono fun e w2 ⟨h1, k⟩ => by obtain ⟨a1, a2, a3, a4, k1, k2⟩ := Inv.qto (l := [rRowN (.slice q7 1 c8) [[iw 2, iw 4]] 45 2]) hI k hG2; exact ⟨(a1, a2, a3, a4), by rw [h1, aw6_b], k1, k2⟩) ?_
  rintro ⟨qa11, ca12, qb13, cb14⟩ hG10
  dsimp only at hG10
  refine SL.ru rfl rfl (lt_b rfl) (ru_assign rfl rfl) ?_
  refine SL.nil ?_
  refine SC.of_SE ?_
  refine SC.norm [(0, bo false), (1, pt p 0), (3, pt d 0), (6, bo true), (7, Value.slice q7 1 c8), (10, bo true)] [rBlk d [pt p 0, Value.slice qa11 aw6.l.length ca12, Value.slice qb13 aw6.late.length cb14, iw aw6.nxt, iw aw6.hv, iw aw6.last, bo aw6.gone] 52, rPool p ab aw6.L, rRowN (.slice qa11 aw6.l.length ca12) (pRows aw6.l) 61 5, rRowN (.slice qb13 aw6.late.length cb14) (pRows aw6.late) 61 5, rRowN (.slice q7 1 c8) [[iw 2, iw 4]] 45 2] ⟨rfl, rfl, rfl, rfl, rfl, rfl, trivial⟩ rfl ?_
  refine SC.seq ?_
  refine SC.region ?_
  refine SL.ru rfl rfl (lt_b rfl) (ru_move rfl rfl) ?_
  refine SL.callv (bo true) rfl rfl co12 rfl rfl rfl (lt_b rfl) (fun w hI => H_only hI ((ended_any (hI.1.get (i := 0) rfl)).mono fun e w2 ⟨h1, h2⟩ => ⟨h1.trans (congrArg (fun b => Ending.returned (bo b)) aw6_e), h2⟩)) ?_
  refine SL.ru rfl rfl (lt_b rfl) (ru_assign rfl rfl) ?_
  refine SL.nil ?_
  refine SC.of_SE ?_
  refine SC.norm [(0, bo false), (1, pt p 0), (3, pt d 0), (6, bo true), (7, Value.slice q7 1 c8), (10, bo true), (11, bo true)] [rBlk d [pt p 0, Value.slice qa11 aw6.l.length ca12, Value.slice qb13 aw6.late.length cb14, iw aw6.nxt, iw aw6.hv, iw aw6.last, bo aw6.gone] 52, rPool p ab aw6.L, rRowN (.slice qa11 aw6.l.length ca12) (pRows aw6.l) 61 5, rRowN (.slice qb13 aw6.late.length cb14) (pRows aw6.late) 61 5, rRowN (.slice q7 1 c8) [[iw 2, iw 4]] 45 2] ⟨rfl, rfl, rfl, rfl, rfl, rfl, rfl, trivial⟩ rfl ?_
  refine SC.seq ?_
  refine SC.region ?_
  refine SL.ru rfl rfl (lt_b rfl) (ru_move rfl rfl) ?_
  refine SL.call (ζ := Option Addr × Nat) (fun z => Value.slice z.1 3 z.2) (fun z => QR d p ab qa11 ca12 qb13 cb14 aw7 ++ rMine (.slice z.1 3 z.2) [97, 98, 99] 5 :: [rRowN (.slice q7 1 c8) [[iw 2, iw 4]] 45 2]) (fun z => ∀ b, QG d p ab qa11 ca12 qb13 cb14 aw7 b → G b ∨ w.heap.size ≤ b) rfl rfl co11 rfl rfl rfl (lt_b rfl) (fun w5 hI => (read_aw7 (Inv.four hI)).mono fun e w2 ⟨q, c, h1, h2, h3, h4⟩ => by obtain ⟨k1, k2⟩ := Inv.rdto (l := [rRowN (.slice q7 1 c8) [[iw 2, iw 4]] 45 2]) hI h2 h3 h4 hG10 rfl; exact ⟨(q, c), h1, k1, k2⟩) ?_
  rintro ⟨q16, c17⟩ hG15
  refine SL.ru rfl rfl (lt_b rfl) (ru_assign rfl rfl) ?_
  refine SL.nil ?_
  refine SC.of_SE ?_
  refine SC.norm [(0, bo false), (1, pt p 0), (3, pt d 0), (6, bo true), (7, Value.slice q7 1 c8), (10, bo true), (11, bo true), (12, Value.slice q16 3 c17)] [rBlk d [pt p 0, Value.slice qa11 aw7.l.length ca12, Value.slice qb13 aw7.late.length cb14, iw aw7.nxt, iw aw7.hv, iw aw7.last, bo aw7.gone] 52, rPool p ab aw7.L, rRowN (.slice qa11 aw7.l.length ca12) (pRows aw7.l) 61 5, rRowN (.slice qb13 aw7.late.length cb14) (pRows aw7.late) 61 5, rMine (.slice q16 3 c17) [97, 98, 99] 5, rRowN (.slice q7 1 c8) [[iw 2, iw 4]] 45 2] ⟨rfl, rfl, rfl, rfl, rfl, rfl, rfl, rfl, trivial⟩ rfl ?_
  refine SC.seq ?_
  refine SC.region ?_
  refine SL.ru rfl rfl (lt_b rfl) (ru_move rfl rfl) ?_
  refine SL.call (ζ := Option Addr × Nat) (fun z => Value.slice z.1 1 z.2) (fun z => QR d p ab qa11 ca12 qb13 cb14 aw8 ++ rMine (.slice z.1 1 z.2) [100] 5 :: [rMine (.slice q16 3 c17) [97, 98, 99] 5, rRowN (.slice q7 1 c8) [[iw 2, iw 4]] 45 2]) (fun z => ∀ b, QG d p ab qa11 ca12 qb13 cb14 aw8 b → G b ∨ w.heap.size ≤ b) rfl rfl co11 rfl rfl rfl (lt_b rfl) (fun w5 hI => (read_aw8 (Inv.four hI)).mono fun e w2 ⟨q, c, h1, h2, h3, h4⟩ => by obtain ⟨k1, k2⟩ := Inv.rdto (l := [rMine (.slice q16 3 c17) [97, 98, 99] 5, rRowN (.slice q7 1 c8) [[iw 2, iw 4]] 45 2]) hI h2 h3 h4 hG15 rfl; exact ⟨(q, c), h1, k1, k2⟩) ?_
  rintro ⟨q19, c20⟩ hG18
  refine SL.ru rfl rfl (lt_b rfl) (ru_assign rfl rfl) ?_
  refine SL.nil ?_
  refine SC.of_SE ?_
  refine SC.norm [(0, bo false), (1, pt p 0), (6, bo true), (7, Value.slice q7 1 c8), (10, bo true), (11, bo true), (12, Value.slice q16 3 c17), (13, Value.slice q19 1 c20)] [rBlk d [pt p 0, Value.slice qa11 aw8.l.length ca12, Value.slice qb13 aw8.late.length cb14, iw aw8.nxt, iw aw8.hv, iw aw8.last, bo aw8.gone] 52, rPool p ab aw8.L, rRowN (.slice qa11 aw8.l.length ca12) (pRows aw8.l) 61 5, rRowN (.slice qb13 aw8.late.length cb14) (pRows aw8.late) 61 5, rMine (.slice q19 1 c20) [100] 5, rMine (.slice q16 3 c17) [97, 98, 99] 5, rRowN (.slice q7 1 c8) [[iw 2, iw 4]] 45 2] ⟨rfl, rfl, rfl, rfl, rfl, rfl, rfl, rfl, trivial⟩ rfl ?_
  refine SC.seq ?_
  refine SC.region ?_
  refine SL.ru rfl rfl (lt_b rfl) (ru_move rfl rfl) ?_
  refine SL.ru rfl rfl (lt_b rfl) (ru_move rfl rfl) ?_
  refine SL.rug rfl rfl rfl rfl (lt_b rfl) (ru_move rfl rfl) ?_
  refine SL.ru rfl rfl (lt_b rfl) (ru_pick (u := bo true) (v := bo false) rfl rfl rfl rfl) ?_
  refine SL.ru rfl rfl (lt_b rfl) (ru_move rfl rfl) ?_
  refine SL.rug rfl rfl rfl rfl (lt_b rfl) (ru_move rfl rfl) ?_
  refine SL.ru rfl rfl (lt_b rfl) (ru_pick (u := bo true) (v := bo false) rfl rfl rfl rfl) ?_
  refine SL.ru rfl rfl (lt_b rfl) (ru_move rfl rfl) ?_
  refine SL.rug rfl rfl rfl rfl (lt_b rfl) (ru_move rfl rfl) ?_
  refine SL.rug rfl rfl rfl rfl (lt_b rfl) (ru_len Try.underlying43 rfl rfl) ?_
  refine SL.rug rfl rfl rfl rfl (lt_b rfl) (ru_eq (b := true) rfl rfl rfl rfl) ?_
  refine SL.ru rfl rfl (lt_b rfl) (ru_pick (u := bo true) (v := bo false) rfl rfl rfl rfl) ?_
  refine SL.ru rfl rfl (lt_b rfl) (ru_move rfl rfl) ?_
  refine SL.rug rfl rfl rfl rfl (lt_b rfl) (ru_move rfl rfl) ?_
  refine SL.rug rfl rfl rfl rfl (lt_b rfl) (ru_index_rowN (ri := 6) si43 rfl rfl rfl rfl (by decide) (by decide)) ?_
  refine SL.rug rfl rfl rfl rfl (lt_b rfl) (ru_loada_rowN (ri := 6) (i := (0 : Int).toNat) (r := [iw 2, iw 4]) ta45 rfl rfl rfl rfl rfl rfl) ?_
  refine SL.rug rfl rfl rfl rfl (lt_b rfl) (ru_build (vals := [(0, iw 2), (1, iw 4)]) (cells := [iw 2, iw 4]) rfl rfl (by kernel_rfl)) ?_
  refine SL.rug rfl rfl rfl rfl (lt_b rfl) (ru_eqa2 (b := true) Try.underlying45 rfl Try.underlying3 (by kernel_rfl) (by kernel_rfl) rfl rfl rfl (by decide)) ?_
  refine SL.ru rfl rfl (lt_b rfl) (ru_pick (u := bo true) (v := bo false) rfl rfl rfl rfl) ?_
  refine SL.ru rfl rfl (lt_b rfl) (ru_move rfl rfl) ?_
  refine SL.rug rfl rfl rfl rfl (lt_b rfl) (ru_move rfl rfl) ?_
  refine SL.rug rfl rfl rfl rfl (lt_b rfl) (ru_str (f := [97, 98, 99]) Try.underlying22 Try.underlying5 Try.underlying9 rfl rfl (fun w hI => mine_bytes hI (j := 5) rfl (by decide))) ?_
  refine SL.rug rfl rfl rfl rfl (lt_b rfl) (ru_streq (f := [97, 98, 99]) (h := [97, 98, 99]) (b := true) Try.underlying9 rfl rfl rfl (by simp)) ?_
  refine SL.ru rfl rfl (lt_b rfl) (ru_pick (u := bo true) (v := bo false) rfl rfl rfl rfl) ?_
  refine SL.ru rfl rfl (lt_b rfl) (ru_move rfl rfl) ?_
  refine SL.rug rfl rfl rfl rfl (lt_b rfl) (ru_move rfl rfl) ?_
  refine SL.rug rfl rfl rfl rfl (lt_b rfl) (ru_str (f := [100]) Try.underlying22 Try.underlying5 Try.underlying9 rfl rfl (fun w hI => mine_bytes hI (j := 4) rfl (by decide))) ?_
  refine SL.rug rfl rfl rfl rfl (lt_b rfl) (ru_streq (f := [100]) (h := [100]) (b := true) Try.underlying9 rfl rfl rfl (by simp)) ?_
  refine SL.ru rfl rfl (lt_b rfl) (ru_pick (u := bo true) (v := bo false) rfl rfl rfl rfl) ?_
  refine SL.ru rfl rfl (lt_b rfl) (ru_move rfl rfl) ?_
  refine SL.rug rfl rfl rfl rfl (lt_b rfl) (ru_move rfl rfl) ?_
  refine SL.callvg (iw 9) rfl rfl rfl rfl co13 rfl rfl rfl (lt_b rfl) (fun w hI => H_only hI ((left_any (hI.1.get (i := 1) rfl)).mono fun e w2 ⟨h1, h2⟩ => ⟨by rw [h1, aw8_n]; rfl, h2 ▸ Only.refl _ _⟩)) ?_
  refine SL.rug rfl rfl rfl rfl (lt_b rfl) (ru_eq (b := true) rfl rfl rfl rfl) ?_
  refine SL.ru rfl rfl (lt_b rfl) (ru_pick (u := bo true) (v := bo false) rfl rfl rfl rfl) ?_
  refine SL.ru rfl rfl (lt_b rfl) (ru_assign rfl rfl) ?_
  refine SL.nil ?_
  refine SC.of_SE ?_
  refine SC.norm [(0, bo true)] [rBlk d [pt p 0, Value.slice qa11 aw8.l.length ca12, Value.slice qb13 aw8.late.length cb14, iw aw8.nxt, iw aw8.hv, iw aw8.last, bo aw8.gone] 52, rPool p ab aw8.L, rRowN (.slice qa11 aw8.l.length ca12) (pRows aw8.l) 61 5, rRowN (.slice qb13 aw8.late.length cb14) (pRows aw8.late) 61 5, rMine (.slice q19 1 c20) [100] 5, rMine (.slice q16 3 c17) [97, 98, 99] 5, rRowN (.slice q7 1 c8) [[iw 2, iw 4]] 45 2] ⟨rfl, trivial⟩ rfl ?_
  refine SC.ret ?_
  refine SE.res (.inl rfl) (res1 Try.results5 rfl) fun w1 hI => ⟨rfl, hI.2⟩
theorem awake_any (w : World) : Calls Try.prog 5 #[] w fun e w' => e = .returned (bo true) ∧ Only (fun _ => False) w w' := awake_g w _

end Go.Proofs.Ytpgnklmmjdkhiaa
