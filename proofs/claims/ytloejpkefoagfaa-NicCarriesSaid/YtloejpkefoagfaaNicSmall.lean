/-
  The device's small functions.
-/
import Derived.Test.YtloejpkefoagfaaNicF
import Derived.Test.YtloejpkefoagfaaTab
import Derived.Lib.Hide
import Derived.Outline
namespace Go.Proofs.Ytloejpkefoagfaa
open Go.RowKit
set_option maxRecDepth 100000
set_option maxHeartbeats 4000000
set_option linter.unusedVariables false
theorem next_any (w : World) {i : Int} (h : 0 ≤ i ∧ i < 16) : Calls Try.prog 23 #[.int .i64 i] w fun e w' => e = .returned (.int .i64 (nx i)) ∧ w = w' := by
  obtain ⟨h0, h1⟩ := h
  go_enter Try.func23, Try.ntmps23
  go_wp2
  go_ret
  exact ⟨by unfold nx; rfl, rfl⟩

theorem copied_any {w : World} {v : Value} {f : List UInt8} (hb : BytesAt w v f) : Calls Try.prog 25 #[v] w fun e w' => e = .returned (sl w.heap.size 0 f.length f.length) ∧ Blk w' w.heap.size (f.map bv) 5 ∧ Only (fun _ => False) w w' := by
  obtain ⟨a, c, rfl⟩ := hb.form
  have hl := hb.len
  have hmk := fun w => make_u8 (P := Try.prog) (n := f.length) Try.underlying30 (by kernel_rfl) (by omega) w
  have HB := Lib.hid hb
  clear hb
  go_enter Try.func25, Try.ntmps25
  go_wp2_with (at_builtin; refine wpList_room (x := .tmp 5) (y := .tmp 6) (t := 30) (e := 5) (g := w.heap.size) (n := 0) (cap := f.length) (c := (madeCells #[.int .u8 0] f.length).toList) (f := f) (by rfl) (by rfl) Try.underlying30 (by kernel_rfl) (by rfl) (by rfl) (Blk.new' w _ _) (HB.out.only ((Only.refl (fun _ => False) w).alloc _) (fun _ _ _ _ _ _ h => h)) (by omega) (by rw [made_len]; omega) ?_; intro w1 hB hO)
  have HO := Lib.hid (And.intro hB (Only.step (((Only.refl (fun _ => False) w).alloc _)) hO (by intro k hk; omega)))
  clear hB hO
  go_wp2
  go_ret
  obtain ⟨hB, hO⟩ := HO.out
  refine ⟨rfl, ?_, hO⟩
  rw [List.take_zero, List.drop_eq_nil_of_le (by rw [made_len]; omega)] at hB
  simpa using hB

theorem p_off {w : World} {d : Nat} {F : Nat → Prop} {A : NicA} (hk : NicOk A) (h : NicAt 68 w d F A)  : Calls Try.prog 26 #[pt d 0] w fun e w' => e = .returned (bo (offB A)) ∧ Only (fun _ => False) w w' := by
  have hok := hk
  obtain ⟨r2, r3, r4, r5, r6, _, _, _⟩ := hok
  obtain ⟨tv, cv, hI⟩ := h.inv 17 (fun _ => False)
  refine calls_sc (l0 := _) (args := [pt d 0]) (fun _ => False) Try.func26 rfl 17 Try.ntmps26 (le_b rfl) hI ?_
  show SC _ _ _ _ [(0, pt d 0)] [rBlk d (nc A tv cv) 68, rFrs F tv cv A.tb A.cb]
  refine SC.seq ?_
  refine SC.region ?_
  refine SL.ru rfl rfl (lt_b rfl) (ru_assign rfl rfl) ?_
  refine SL.nil ?_
  refine SC.of_SE ?_
  refine SC.norm [(0, pt d 0), (2, bo false)] [rBlk d (nc A tv cv) 68, rFrs F tv cv A.tb A.cb] ⟨rfl, rfl, trivial⟩ rfl ?_
  refine SC.seq ?_
  refine SC.region ?_
  refine SL.ru rfl rfl (lt_b rfl) (ru_move rfl rfl) ?_
  refine SL.ru rfl rfl (lt_b rfl) (ru_nilCheck rfl rfl) ?_
  refine SL.ru rfl rfl (lt_b rfl) (ru_fieldAddr (o2 := 0) fd68_0 rfl rfl rfl) ?_
  refine SL.ru rfl rfl (lt_b rfl) (ru_indexA (o2 := 0) ar44 rfl rfl rfl (by decide) (by decide) rfl) ?_
  refine SL.ru rfl rfl (lt_b rfl) (ru_load (i := 0) (v := iw (A.r 0)) ts3 rfl rfl rfl (nc_r (by decide))) ?_
  refine SL.ru rfl rfl (lt_b rfl) (ru_ne (b := (((A.r 0) : Int) != 1)) rfl rfl rfl rfl) ?_
  refine SL.ru rfl rfl (lt_b rfl) (ru_move rfl rfl) ?_
  refine SL.join 7 [(0, pt d 0), (2, bo false), (3, pt d 0), (4, pt d 0), (5, pt d 0), (6, pt d 0), (7, iw (A.r 0)), (8, bo (((A.r 0) : Int) != 1)), (9, bo (((A.r 0) : Int) != 1)), (16, bo ((((A.r 0) : Int) != 1) || (((A.r 1) : Int) != 1)))] [rBlk d (nc A tv cv) 68, rFrs F tv cv A.tb A.cb] ?_ ?_
  rotate_left
  · intro K hK
    rcases tf (((A.r 0) : Int) != 1) with h1 | h1
    · skip
      refine SL.norm [(0, pt d 0), (2, bo false), (3, pt d 0), (4, pt d 0), (5, pt d 0), (6, pt d 0), (7, iw (A.r 0)), (8, bo true), (9, bo true)] [rBlk d (nc A tv cv) 68, rFrs F tv cv A.tb A.cb] ⟨rfl, rfl, rfl, rfl, rfl, rfl, rfl, (congrArg (fun x => some (Value.bool x)) h1), (congrArg (fun x => some (Value.bool x)) h1), trivial⟩ rfl ?_
      refine SL.off (b := true) rfl rfl rfl rfl rfl (lt_b rfl) ?_
      refine SL.off (b := true) rfl rfl rfl rfl rfl (lt_b rfl) ?_
      refine SL.off (b := true) rfl rfl rfl rfl rfl (lt_b rfl) ?_
      refine SL.off (b := true) rfl rfl rfl rfl rfl (lt_b rfl) ?_
      refine SL.off (b := true) rfl rfl rfl rfl rfl (lt_b rfl) ?_
      refine SL.off (b := true) rfl rfl rfl rfl rfl (lt_b rfl) ?_
      refine SL.ru rfl rfl (lt_b rfl) (ru_pick (u := bo true) (v := undef) rfl rfl rfl rfl) ?_
      exact SL.joined hK ⟨rfl, rfl, rfl, rfl, rfl, rfl, rfl, (congrArg (fun x => some (Value.bool x)) h1.symm), (congrArg (fun x => some (Value.bool x)) h1.symm), (congrArg (fun x => some (Value.bool (x || (((A.r 1) : Int) != 1)))) h1.symm), trivial⟩ rfl
    · skip
      refine SL.norm [(0, pt d 0), (2, bo false), (3, pt d 0), (4, pt d 0), (5, pt d 0), (6, pt d 0), (7, iw (A.r 0)), (8, bo false), (9, bo false)] [rBlk d (nc A tv cv) 68, rFrs F tv cv A.tb A.cb] ⟨rfl, rfl, rfl, rfl, rfl, rfl, rfl, (congrArg (fun x => some (Value.bool x)) h1), (congrArg (fun x => some (Value.bool x)) h1), trivial⟩ rfl ?_
      refine SL.rug rfl rfl rfl rfl (lt_b rfl) (ru_move rfl rfl) ?_
      refine SL.rug rfl rfl rfl rfl (lt_b rfl) (ru_nilCheck rfl rfl) ?_
      refine SL.rug rfl rfl rfl rfl (lt_b rfl) (ru_fieldAddr (o2 := 0) fd68_0 rfl rfl rfl) ?_
      refine SL.rug rfl rfl rfl rfl (lt_b rfl) (ru_indexA (o2 := 1) ar44 rfl rfl rfl (by decide) (by decide) rfl) ?_
      refine SL.rug rfl rfl rfl rfl (lt_b rfl) (ru_load (i := 0) (v := iw (A.r 1)) ts3 rfl rfl rfl (nc_r (by decide))) ?_
      refine SL.rug rfl rfl rfl rfl (lt_b rfl) (ru_ne (b := (((A.r 1) : Int) != 1)) rfl rfl rfl rfl) ?_
      refine SL.ru rfl rfl (lt_b rfl) (ru_pick (u := bo true) (v := bo (((A.r 1) : Int) != 1)) rfl rfl rfl rfl) ?_
      exact SL.joined hK ⟨rfl, rfl, rfl, rfl, rfl, rfl, rfl, (congrArg (fun x => some (Value.bool x)) h1.symm), (congrArg (fun x => some (Value.bool x)) h1.symm), (congrArg (fun x => some (Value.bool (x || (((A.r 1) : Int) != 1)))) h1.symm), trivial⟩ rfl
  skip
  refine SL.ru rfl rfl (lt_b rfl) (ru_assign rfl rfl) ?_
  refine SL.nil ?_
  refine SC.of_SE ?_
  refine SC.norm [(2, bo ((((A.r 0) : Int) != 1) || (((A.r 1) : Int) != 1)))] [rBlk d (nc A tv cv) 68, rFrs F tv cv A.tb A.cb] ⟨rfl, trivial⟩ rfl ?_
  refine SC.ret ?_
  refine SE.res (.inl rfl) (res1 Try.results26 rfl) fun w1 hI => ?_
  exact ⟨rfl, hI.2⟩

theorem q_off {w : World} {d : Nat} {F : Nat → Prop} {A : NicA} (hk : NicOk A) (h : NicAt 58 w d F A)  : Calls Try.prog 37 #[pt d 0] w fun e w' => e = .returned (bo (offB A)) ∧ Only (fun _ => False) w w' := by
  have hok := hk
  obtain ⟨r2, r3, r4, r5, r6, _, _, _⟩ := hok
  obtain ⟨tv, cv, hI⟩ := h.inv 17 (fun _ => False)
  refine calls_sc (l0 := _) (args := [pt d 0]) (fun _ => False) Try.func37 rfl 17 Try.ntmps37 (le_b rfl) hI ?_
  show SC _ _ _ _ [(0, pt d 0)] [rBlk d (nc A tv cv) 58, rFrs F tv cv A.tb A.cb]
  refine SC.seq ?_
  refine SC.region ?_
  refine SL.ru rfl rfl (lt_b rfl) (ru_assign rfl rfl) ?_
  refine SL.nil ?_
  refine SC.of_SE ?_
  refine SC.norm [(0, pt d 0), (2, bo false)] [rBlk d (nc A tv cv) 58, rFrs F tv cv A.tb A.cb] ⟨rfl, rfl, trivial⟩ rfl ?_
  refine SC.seq ?_
  refine SC.region ?_
  refine SL.ru rfl rfl (lt_b rfl) (ru_move rfl rfl) ?_
  refine SL.ru rfl rfl (lt_b rfl) (ru_nilCheck rfl rfl) ?_
  refine SL.ru rfl rfl (lt_b rfl) (ru_fieldAddr (o2 := 0) fd58_0 rfl rfl rfl) ?_
  refine SL.ru rfl rfl (lt_b rfl) (ru_indexA (o2 := 0) ar44 rfl rfl rfl (by decide) (by decide) rfl) ?_
  refine SL.ru rfl rfl (lt_b rfl) (ru_load (i := 0) (v := iw (A.r 0)) ts3 rfl rfl rfl (nc_r (by decide))) ?_
  refine SL.ru rfl rfl (lt_b rfl) (ru_ne (b := (((A.r 0) : Int) != 1)) rfl rfl rfl rfl) ?_
  refine SL.ru rfl rfl (lt_b rfl) (ru_move rfl rfl) ?_
  refine SL.join 7 [(0, pt d 0), (2, bo false), (3, pt d 0), (4, pt d 0), (5, pt d 0), (6, pt d 0), (7, iw (A.r 0)), (8, bo (((A.r 0) : Int) != 1)), (9, bo (((A.r 0) : Int) != 1)), (16, bo ((((A.r 0) : Int) != 1) || (((A.r 1) : Int) != 1)))] [rBlk d (nc A tv cv) 58, rFrs F tv cv A.tb A.cb] ?_ ?_
  rotate_left
  · intro K hK
    rcases tf (((A.r 0) : Int) != 1) with h1 | h1
    · skip
      refine SL.norm [(0, pt d 0), (2, bo false), (3, pt d 0), (4, pt d 0), (5, pt d 0), (6, pt d 0), (7, iw (A.r 0)), (8, bo true), (9, bo true)] [rBlk d (nc A tv cv) 58, rFrs F tv cv A.tb A.cb] ⟨rfl, rfl, rfl, rfl, rfl, rfl, rfl, (congrArg (fun x => some (Value.bool x)) h1), (congrArg (fun x => some (Value.bool x)) h1), trivial⟩ rfl ?_
      refine SL.off (b := true) rfl rfl rfl rfl rfl (lt_b rfl) ?_
      refine SL.off (b := true) rfl rfl rfl rfl rfl (lt_b rfl) ?_
      refine SL.off (b := true) rfl rfl rfl rfl rfl (lt_b rfl) ?_
      refine SL.off (b := true) rfl rfl rfl rfl rfl (lt_b rfl) ?_
      refine SL.off (b := true) rfl rfl rfl rfl rfl (lt_b rfl) ?_
      refine SL.off (b := true) rfl rfl rfl rfl rfl (lt_b rfl) ?_
      refine SL.ru rfl rfl (lt_b rfl) (ru_pick (u := bo true) (v := undef) rfl rfl rfl rfl) ?_
      exact SL.joined hK ⟨rfl, rfl, rfl, rfl, rfl, rfl, rfl, (congrArg (fun x => some (Value.bool x)) h1.symm), (congrArg (fun x => some (Value.bool x)) h1.symm), (congrArg (fun x => some (Value.bool (x || (((A.r 1) : Int) != 1)))) h1.symm), trivial⟩ rfl
    · skip
      refine SL.norm [(0, pt d 0), (2, bo false), (3, pt d 0), (4, pt d 0), (5, pt d 0), (6, pt d 0), (7, iw (A.r 0)), (8, bo false), (9, bo false)] [rBlk d (nc A tv cv) 58, rFrs F tv cv A.tb A.cb] ⟨rfl, rfl, rfl, rfl, rfl, rfl, rfl, (congrArg (fun x => some (Value.bool x)) h1), (congrArg (fun x => some (Value.bool x)) h1), trivial⟩ rfl ?_
      refine SL.rug rfl rfl rfl rfl (lt_b rfl) (ru_move rfl rfl) ?_
      refine SL.rug rfl rfl rfl rfl (lt_b rfl) (ru_nilCheck rfl rfl) ?_
      refine SL.rug rfl rfl rfl rfl (lt_b rfl) (ru_fieldAddr (o2 := 0) fd58_0 rfl rfl rfl) ?_
      refine SL.rug rfl rfl rfl rfl (lt_b rfl) (ru_indexA (o2 := 1) ar44 rfl rfl rfl (by decide) (by decide) rfl) ?_
      refine SL.rug rfl rfl rfl rfl (lt_b rfl) (ru_load (i := 0) (v := iw (A.r 1)) ts3 rfl rfl rfl (nc_r (by decide))) ?_
      refine SL.rug rfl rfl rfl rfl (lt_b rfl) (ru_ne (b := (((A.r 1) : Int) != 1)) rfl rfl rfl rfl) ?_
      refine SL.ru rfl rfl (lt_b rfl) (ru_pick (u := bo true) (v := bo (((A.r 1) : Int) != 1)) rfl rfl rfl rfl) ?_
      exact SL.joined hK ⟨rfl, rfl, rfl, rfl, rfl, rfl, rfl, (congrArg (fun x => some (Value.bool x)) h1.symm), (congrArg (fun x => some (Value.bool x)) h1.symm), (congrArg (fun x => some (Value.bool (x || (((A.r 1) : Int) != 1)))) h1.symm), trivial⟩ rfl
  skip
  refine SL.ru rfl rfl (lt_b rfl) (ru_assign rfl rfl) ?_
  refine SL.nil ?_
  refine SC.of_SE ?_
  refine SC.norm [(2, bo ((((A.r 0) : Int) != 1) || (((A.r 1) : Int) != 1)))] [rBlk d (nc A tv cv) 58, rFrs F tv cv A.tb A.cb] ⟨rfl, trivial⟩ rfl ?_
  refine SC.ret ?_
  refine SE.res (.inl rfl) (res1 Try.results37 rfl) fun w1 hI => ?_
  exact ⟨rfl, hI.2⟩

end Go.Proofs.Ytloejpkefoagfaa
