/-
  An event (the reference's).
-/
import Derived.Test.YtloejpkefoagfaaNicApp
namespace Go.Proofs.Ytloejpkefoagfaa
open Go.RowKit
set_option maxRecDepth 100000
set_option maxHeartbeats 4000000
theorem q_event1 {w : World} {d : Nat} {A : NicA} {tv cv : Nat → Value} (h6 : 0 ≤ A.r 6 ∧ A.r 6 < 8) (h : Blk w d (nc A tv cv) 58) : Calls Try.prog 38 #[pt d 0, iw 1] w fun e w' => e = .returned (.tuple #[]) ∧ Blk w' d (nc { A with r := up A.r 6 (ev (A.r 6) 1) } tv cv) 58 ∧ Only (fun b => b = d) w w' := by
  refine calls_sc (l0 := _) (args := [pt d 0, iw 1]) (fun b => b = d) Try.func38 rfl 24 Try.ntmps38 (le_b rfl) (Inv.one h) ?_
  show SC _ _ _ _ [(0, pt d 0), (1, iw 1)] [rBlk d (nc A tv cv) 58]
  refine SC.seq ?_
  refine SC.region ?_
  refine SL.ru rfl rfl (lt_b rfl) (ru_move rfl rfl) ?_
  refine SL.ru rfl rfl (lt_b rfl) (ru_nilCheck rfl rfl) ?_
  refine SL.ru rfl rfl (lt_b rfl) (ru_fieldAddr (o2 := 0) fd58_0 rfl rfl rfl) ?_
  refine SL.ru rfl rfl (lt_b rfl) (ru_indexA (o2 := 6) ar44 rfl rfl rfl (by decide) (by decide) rfl) ?_
  refine SL.ru rfl rfl (lt_b rfl) (ru_load (i := 0) (v := iw (A.r 6)) ts3 rfl rfl rfl (nc_r (by decide))) ?_
  refine SL.ru rfl rfl (lt_b rfl) (ru_move rfl rfl) ?_
  refine SL.ru rfl rfl (lt_b rfl) (ru_quo (r := (IntKind.i64.wrap (Int.tdiv (A.r 6) 1))) rfl rfl rfl (by decide) rfl) ?_
  refine SL.ru rfl rfl (lt_b rfl) (ru_rem (r := (Int.tmod (IntKind.i64.wrap (Int.tdiv (A.r 6) 1)) 2)) rfl rfl rfl (by decide) rfl) ?_
  refine SL.ru rfl rfl (lt_b rfl) (ru_eq (b := (((Int.tmod (IntKind.i64.wrap (Int.tdiv (A.r 6) 1)) 2) : Int) == 0)) rfl rfl rfl rfl) ?_
  refine SL.nil ?_
  refine SC.of_SE ?_
  refine SC.norm [(0, pt d 0), (1, iw 1), (12, bo (((Int.tmod (IntKind.i64.wrap (Int.tdiv (A.r 6) 1)) 2) : Int) == 0))] [rBlk d (nc A tv cv) 58] ⟨rfl, rfl, rfl, trivial⟩ rfl ?_
  refine SC.both (((Int.tmod (IntKind.i64.wrap (Int.tdiv (A.r 6) 1)) 2) : Int) == 0) rfl (fun h1 => ?_) (fun h1 => ?_)
  · skip
    refine SC.region_tail 11 (by kernel_rfl) (by kernel_rfl) ?_
    refine SQ.ru rfl rfl (lt_b rfl) (ru_move rfl rfl) ?_
    refine SQ.ru rfl rfl (lt_b rfl) (ru_move rfl rfl) ?_
    refine SQ.ru rfl rfl (lt_b rfl) (ru_nilCheck rfl rfl) ?_
    refine SQ.ru rfl rfl (lt_b rfl) (ru_fieldAddr (o2 := 0) fd58_0 rfl rfl rfl) ?_
    refine SQ.ru rfl rfl (lt_b rfl) (ru_indexA (o2 := 6) ar44 rfl rfl rfl (by decide) (by decide) rfl) ?_
    refine SQ.ru rfl rfl (lt_b rfl) (ru_load (i := 0) (v := iw (A.r 6)) ts3 rfl rfl rfl (nc_r (by decide))) ?_
    refine SQ.ru rfl rfl (lt_b rfl) (ru_move rfl rfl) ?_
    refine SQ.ru rfl rfl (lt_b rfl) (ru_add (r := (IntKind.i64.wrap ((A.r 6) + 1))) rfl rfl rfl rfl) ?_
    refine SQ.ru rfl rfl (lt_b rfl) (ru_nilCheck rfl rfl) ?_
    refine SQ.ru rfl rfl (lt_b rfl) (ru_fieldAddr (o2 := 0) fd58_0 rfl rfl rfl) ?_
    refine SQ.ru rfl rfl (lt_b rfl) (ru_indexA (o2 := 6) ar44 rfl rfl rfl (by decide) (by decide) rfl) ?_
    refine SQ.nilL ?_
    refine SL.store (i := 0) (c' := (nc { A with r := up A.r 6 (IntKind.i64.wrap ((A.r 6) + 1)) } tv cv)) rfl rfl ts3 rfl rfl rfl rfl rfl (by rw [nc_len]; omega) (.inl rfl) (set_r (by decide) (IntKind.i64.wrap ((A.r 6) + 1))) ?_
    refine SL.nil ?_
    refine SE.res (.inr rfl) (res0 Try.results38) fun w1 hI => ⟨rfl, ?_, hI.2⟩
    rw [ev_t1 h6 h1] at hI
    exact hI.1.get (i := 0) rfl
  · skip
    refine SC.skip ?_
    refine SE.res (.inr rfl) (res0 Try.results38) fun w1 hI => ⟨rfl, ?_, hI.2⟩
    rw [ev_f1 h6 h1, up_id]
    exact hI.1.get (i := 0) rfl

theorem q_event2 {w : World} {d : Nat} {A : NicA} {tv cv : Nat → Value} (h6 : 0 ≤ A.r 6 ∧ A.r 6 < 8) (h : Blk w d (nc A tv cv) 58) : Calls Try.prog 38 #[pt d 0, iw 2] w fun e w' => e = .returned (.tuple #[]) ∧ Blk w' d (nc { A with r := up A.r 6 (ev (A.r 6) 2) } tv cv) 58 ∧ Only (fun b => b = d) w w' := by
  refine calls_sc (l0 := _) (args := [pt d 0, iw 2]) (fun b => b = d) Try.func38 rfl 24 Try.ntmps38 (le_b rfl) (Inv.one h) ?_
  show SC _ _ _ _ [(0, pt d 0), (1, iw 2)] [rBlk d (nc A tv cv) 58]
  refine SC.seq ?_
  refine SC.region ?_
  refine SL.ru rfl rfl (lt_b rfl) (ru_move rfl rfl) ?_
  refine SL.ru rfl rfl (lt_b rfl) (ru_nilCheck rfl rfl) ?_
  refine SL.ru rfl rfl (lt_b rfl) (ru_fieldAddr (o2 := 0) fd58_0 rfl rfl rfl) ?_
  refine SL.ru rfl rfl (lt_b rfl) (ru_indexA (o2 := 6) ar44 rfl rfl rfl (by decide) (by decide) rfl) ?_
  refine SL.ru rfl rfl (lt_b rfl) (ru_load (i := 0) (v := iw (A.r 6)) ts3 rfl rfl rfl (nc_r (by decide))) ?_
  refine SL.ru rfl rfl (lt_b rfl) (ru_move rfl rfl) ?_
  refine SL.ru rfl rfl (lt_b rfl) (ru_quo (r := (IntKind.i64.wrap (Int.tdiv (A.r 6) 2))) rfl rfl rfl (by decide) rfl) ?_
  refine SL.ru rfl rfl (lt_b rfl) (ru_rem (r := (Int.tmod (IntKind.i64.wrap (Int.tdiv (A.r 6) 2)) 2)) rfl rfl rfl (by decide) rfl) ?_
  refine SL.ru rfl rfl (lt_b rfl) (ru_eq (b := (((Int.tmod (IntKind.i64.wrap (Int.tdiv (A.r 6) 2)) 2) : Int) == 0)) rfl rfl rfl rfl) ?_
  refine SL.nil ?_
  refine SC.of_SE ?_
  refine SC.norm [(0, pt d 0), (1, iw 2), (12, bo (((Int.tmod (IntKind.i64.wrap (Int.tdiv (A.r 6) 2)) 2) : Int) == 0))] [rBlk d (nc A tv cv) 58] ⟨rfl, rfl, rfl, trivial⟩ rfl ?_
  refine SC.both (((Int.tmod (IntKind.i64.wrap (Int.tdiv (A.r 6) 2)) 2) : Int) == 0) rfl (fun h1 => ?_) (fun h1 => ?_)
  · skip
    refine SC.region_tail 11 (by kernel_rfl) (by kernel_rfl) ?_
    refine SQ.ru rfl rfl (lt_b rfl) (ru_move rfl rfl) ?_
    refine SQ.ru rfl rfl (lt_b rfl) (ru_move rfl rfl) ?_
    refine SQ.ru rfl rfl (lt_b rfl) (ru_nilCheck rfl rfl) ?_
    refine SQ.ru rfl rfl (lt_b rfl) (ru_fieldAddr (o2 := 0) fd58_0 rfl rfl rfl) ?_
    refine SQ.ru rfl rfl (lt_b rfl) (ru_indexA (o2 := 6) ar44 rfl rfl rfl (by decide) (by decide) rfl) ?_
    refine SQ.ru rfl rfl (lt_b rfl) (ru_load (i := 0) (v := iw (A.r 6)) ts3 rfl rfl rfl (nc_r (by decide))) ?_
    refine SQ.ru rfl rfl (lt_b rfl) (ru_move rfl rfl) ?_
    refine SQ.ru rfl rfl (lt_b rfl) (ru_add (r := (IntKind.i64.wrap ((A.r 6) + 2))) rfl rfl rfl rfl) ?_
    refine SQ.ru rfl rfl (lt_b rfl) (ru_nilCheck rfl rfl) ?_
    refine SQ.ru rfl rfl (lt_b rfl) (ru_fieldAddr (o2 := 0) fd58_0 rfl rfl rfl) ?_
    refine SQ.ru rfl rfl (lt_b rfl) (ru_indexA (o2 := 6) ar44 rfl rfl rfl (by decide) (by decide) rfl) ?_
    refine SQ.nilL ?_
    refine SL.store (i := 0) (c' := (nc { A with r := up A.r 6 (IntKind.i64.wrap ((A.r 6) + 2)) } tv cv)) rfl rfl ts3 rfl rfl rfl rfl rfl (by rw [nc_len]; omega) (.inl rfl) (set_r (by decide) (IntKind.i64.wrap ((A.r 6) + 2))) ?_
    refine SL.nil ?_
    refine SE.res (.inr rfl) (res0 Try.results38) fun w1 hI => ⟨rfl, ?_, hI.2⟩
    rw [ev_t2 h6 h1] at hI
    exact hI.1.get (i := 0) rfl
  · skip
    refine SC.skip ?_
    refine SE.res (.inr rfl) (res0 Try.results38) fun w1 hI => ⟨rfl, ?_, hI.2⟩
    rw [ev_f2 h6 h1, up_id]
    exact hI.1.get (i := 0) rfl

theorem q_event4 {w : World} {d : Nat} {A : NicA} {tv cv : Nat → Value} (h6 : 0 ≤ A.r 6 ∧ A.r 6 < 8) (h : Blk w d (nc A tv cv) 58) : Calls Try.prog 38 #[pt d 0, iw 4] w fun e w' => e = .returned (.tuple #[]) ∧ Blk w' d (nc { A with r := up A.r 6 (ev (A.r 6) 4) } tv cv) 58 ∧ Only (fun b => b = d) w w' := by
  refine calls_sc (l0 := _) (args := [pt d 0, iw 4]) (fun b => b = d) Try.func38 rfl 24 Try.ntmps38 (le_b rfl) (Inv.one h) ?_
  show SC _ _ _ _ [(0, pt d 0), (1, iw 4)] [rBlk d (nc A tv cv) 58]
  refine SC.seq ?_
  refine SC.region ?_
  refine SL.ru rfl rfl (lt_b rfl) (ru_move rfl rfl) ?_
  refine SL.ru rfl rfl (lt_b rfl) (ru_nilCheck rfl rfl) ?_
  refine SL.ru rfl rfl (lt_b rfl) (ru_fieldAddr (o2 := 0) fd58_0 rfl rfl rfl) ?_
  refine SL.ru rfl rfl (lt_b rfl) (ru_indexA (o2 := 6) ar44 rfl rfl rfl (by decide) (by decide) rfl) ?_
  refine SL.ru rfl rfl (lt_b rfl) (ru_load (i := 0) (v := iw (A.r 6)) ts3 rfl rfl rfl (nc_r (by decide))) ?_
  refine SL.ru rfl rfl (lt_b rfl) (ru_move rfl rfl) ?_
  refine SL.ru rfl rfl (lt_b rfl) (ru_quo (r := (IntKind.i64.wrap (Int.tdiv (A.r 6) 4))) rfl rfl rfl (by decide) rfl) ?_
  refine SL.ru rfl rfl (lt_b rfl) (ru_rem (r := (Int.tmod (IntKind.i64.wrap (Int.tdiv (A.r 6) 4)) 2)) rfl rfl rfl (by decide) rfl) ?_
  refine SL.ru rfl rfl (lt_b rfl) (ru_eq (b := (((Int.tmod (IntKind.i64.wrap (Int.tdiv (A.r 6) 4)) 2) : Int) == 0)) rfl rfl rfl rfl) ?_
  refine SL.nil ?_
  refine SC.of_SE ?_
  refine SC.norm [(0, pt d 0), (1, iw 4), (12, bo (((Int.tmod (IntKind.i64.wrap (Int.tdiv (A.r 6) 4)) 2) : Int) == 0))] [rBlk d (nc A tv cv) 58] ⟨rfl, rfl, rfl, trivial⟩ rfl ?_
  refine SC.both (((Int.tmod (IntKind.i64.wrap (Int.tdiv (A.r 6) 4)) 2) : Int) == 0) rfl (fun h1 => ?_) (fun h1 => ?_)
  · skip
    refine SC.region_tail 11 (by kernel_rfl) (by kernel_rfl) ?_
    refine SQ.ru rfl rfl (lt_b rfl) (ru_move rfl rfl) ?_
    refine SQ.ru rfl rfl (lt_b rfl) (ru_move rfl rfl) ?_
    refine SQ.ru rfl rfl (lt_b rfl) (ru_nilCheck rfl rfl) ?_
    refine SQ.ru rfl rfl (lt_b rfl) (ru_fieldAddr (o2 := 0) fd58_0 rfl rfl rfl) ?_
    refine SQ.ru rfl rfl (lt_b rfl) (ru_indexA (o2 := 6) ar44 rfl rfl rfl (by decide) (by decide) rfl) ?_
    refine SQ.ru rfl rfl (lt_b rfl) (ru_load (i := 0) (v := iw (A.r 6)) ts3 rfl rfl rfl (nc_r (by decide))) ?_
    refine SQ.ru rfl rfl (lt_b rfl) (ru_move rfl rfl) ?_
    refine SQ.ru rfl rfl (lt_b rfl) (ru_add (r := (IntKind.i64.wrap ((A.r 6) + 4))) rfl rfl rfl rfl) ?_
    refine SQ.ru rfl rfl (lt_b rfl) (ru_nilCheck rfl rfl) ?_
    refine SQ.ru rfl rfl (lt_b rfl) (ru_fieldAddr (o2 := 0) fd58_0 rfl rfl rfl) ?_
    refine SQ.ru rfl rfl (lt_b rfl) (ru_indexA (o2 := 6) ar44 rfl rfl rfl (by decide) (by decide) rfl) ?_
    refine SQ.nilL ?_
    refine SL.store (i := 0) (c' := (nc { A with r := up A.r 6 (IntKind.i64.wrap ((A.r 6) + 4)) } tv cv)) rfl rfl ts3 rfl rfl rfl rfl rfl (by rw [nc_len]; omega) (.inl rfl) (set_r (by decide) (IntKind.i64.wrap ((A.r 6) + 4))) ?_
    refine SL.nil ?_
    refine SE.res (.inr rfl) (res0 Try.results38) fun w1 hI => ⟨rfl, ?_, hI.2⟩
    rw [ev_t4 h6 h1] at hI
    exact hI.1.get (i := 0) rfl
  · skip
    refine SC.skip ?_
    refine SE.res (.inr rfl) (res0 Try.results38) fun w1 hI => ⟨rfl, ?_, hI.2⟩
    rw [ev_f4 h6 h1, up_id]
    exact hI.1.get (i := 0) rfl

end Go.Proofs.Ytloejpkefoagfaa
