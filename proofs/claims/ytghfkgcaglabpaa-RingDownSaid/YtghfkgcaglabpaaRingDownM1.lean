/-
  What the proof of RingDown stands on, part 1: each theorem by itself, under the conditions that it names.
-/
import Derived.Test.YtghfkgcaglabpaaRingDownM0
import Derived.Lib.Hide
import Derived.Outline
/-
  The device's small functions.
-/
namespace Go.Proofs.Ytghfkgcaglabpaa
open Go.RowKit
set_option maxRecDepth 100000
set_option maxHeartbeats 4000000
theorem next_any (w : World) {i : Int} (h : 0 ≤ i ∧ i < 16) : Calls Try.prog 42 #[.int .i64 i] w fun e w' => e = .returned (.int .i64 (nx i)) ∧ w = w' := by
  obtain ⟨h0, h1⟩ := h
  go_enter Try.func42, Try.ntmps42
  go_wp2
  go_ret
  exact ⟨by unfold nx; rfl, rfl⟩

theorem copied_any {w : World} {v : Value} {f : List UInt8} (hb : BytesAt w v f) : Calls Try.prog 43 #[v] w fun e w' => e = .returned (sl w.heap.size 0 f.length f.length) ∧ Blk w' w.heap.size (f.map bv) 5 ∧ Only (fun _ => False) w w' := by
  obtain ⟨a, c, rfl⟩ := hb.form
  have hl := hb.len
  have hmk := fun w => make_u8 (P := Try.prog) (n := f.length) Try.underlying28 (by kernel_rfl) (by omega) w
  have HB := Lib.hid hb
  clear hb
  go_enter Try.func43, Try.ntmps43
  go_wp2_with (at_builtin; refine wpList_room (x := .tmp 5) (y := .tmp 6) (t := 28) (e := 5) (g := w.heap.size) (n := 0) (cap := f.length) (c := (madeCells #[.int .u8 0] f.length).toList) (f := f) (by rfl) (by rfl) Try.underlying28 (by kernel_rfl) (by rfl) (by rfl) (Blk.new' w _ _) (HB.out.only ((Only.refl (fun _ => False) w).alloc _) (fun _ _ _ _ _ _ h => h)) (by omega) (by rw [made_len]; omega) ?_; intro w1 hB hO)
  have HO := Lib.hid (And.intro hB (Only.step (((Only.refl (fun _ => False) w).alloc _)) hO (by intro k hk; omega)))
  clear hB hO
  go_wp2
  go_ret
  obtain ⟨hB, hO⟩ := HO.out
  refine ⟨rfl, ?_, hO⟩
  rw [List.take_zero, List.drop_eq_nil_of_le (by rw [made_len]; omega)] at hB
  simpa using hB

theorem p_off {w : World} {d : Nat} {F : Nat → Prop} {A : NicA} (hk : NicOk A) (h : NicAt 99 w d F A)  : Calls Try.prog 41 #[pt d 0] w fun e w' => e = .returned (bo (offB A)) ∧ Only (fun _ => False) w w' := by
  have hok := hk
  obtain ⟨r2, r3, r4, r5, r6, _, _, _⟩ := hok
  obtain ⟨tv, cv, hI⟩ := h.inv 17 (fun _ => False)
  refine calls_sc (l0 := _) (args := [pt d 0]) (fun _ => False) Try.func41 rfl 17 Try.ntmps41 (le_b rfl) hI ?_
  show SC _ _ _ _ [(0, pt d 0)] [rBlk d (nc A tv cv) 99, rFrs F tv cv A.tb A.cb]
  refine SC.sr ?_
  refine SL.as ?_
  refine SL.nn [(0, pt d 0), (2, bo false)] [rBlk d (nc A tv cv) 99, rFrs F tv cv A.tb A.cb] ⟨rfl, rfl, trivial⟩ ?_
  refine SC.sr ?_
  refine SL.mv ?_
  refine SL.nk ?_
  refine SL.uu (ru_fieldAddr (o2 := 0) fd99_0 rfl rfl rfl) ?_
  refine SL.uu (ru_indexA (o2 := 0) ar91 rfl rfl rfl (by decide) (by decide) rfl) ?_
  refine SL.uu (ru_load (i := 0) (v := iw (A.r 0)) ts3 rfl rfl rfl (nc_r (by decide))) ?_
  refine SL.uu (ru_ne (b := (((A.r 0) : Int) != 1)) rfl rfl rfl rfl) ?_
  refine SL.mv ?_
  refine SL.join 7 [(0, pt d 0), (2, bo false), (3, pt d 0), (4, pt d 0), (5, pt d 0), (6, pt d 0), (7, iw (A.r 0)), (8, bo (((A.r 0) : Int) != 1)), (9, bo (((A.r 0) : Int) != 1)), (16, bo ((((A.r 0) : Int) != 1) || (((A.r 1) : Int) != 1)))] [rBlk d (nc A tv cv) 99, rFrs F tv cv A.tb A.cb] ?_ ?_
  rotate_left
  · intro K hK
    rcases tf (((A.r 0) : Int) != 1) with h1 | h1
    · skip
      refine SL.norm [(0, pt d 0), (2, bo false), (3, pt d 0), (4, pt d 0), (5, pt d 0), (6, pt d 0), (7, iw (A.r 0)), (8, bo true), (9, bo true)] _ ⟨rfl, rfl, rfl, rfl, rfl, rfl, rfl, (congrArg (fun x => some (Value.bool x)) h1), (congrArg (fun x => some (Value.bool x)) h1), trivial⟩ rfl ?_
      refine SL.oo ?_
      refine SL.oo ?_
      refine SL.oo ?_
      refine SL.oo ?_
      refine SL.oo ?_
      refine SL.oo ?_
      refine SL.uu (ru_pick (u := bo true) (v := undef) rfl rfl rfl rfl) ?_
      exact SL.joined hK ⟨rfl, rfl, rfl, rfl, rfl, rfl, rfl, (congrArg (fun x => some (Value.bool x)) h1.symm), (congrArg (fun x => some (Value.bool x)) h1.symm), (congrArg (fun x => some (Value.bool (x || (((A.r 1) : Int) != 1)))) h1.symm), trivial⟩ rfl
    refine SL.norm [(0, pt d 0), (2, bo false), (3, pt d 0), (4, pt d 0), (5, pt d 0), (6, pt d 0), (7, iw (A.r 0)), (8, bo false), (9, bo false)] _ ⟨rfl, rfl, rfl, rfl, rfl, rfl, rfl, (congrArg (fun x => some (Value.bool x)) h1), (congrArg (fun x => some (Value.bool x)) h1), trivial⟩ rfl ?_
    refine SL.gg (ru_move rfl rfl) ?_
    refine SL.gg (ru_nilCheck rfl rfl) ?_
    refine SL.gg (ru_fieldAddr (o2 := 0) fd99_0 rfl rfl rfl) ?_
    refine SL.gg (ru_indexA (o2 := 1) ar91 rfl rfl rfl (by decide) (by decide) rfl) ?_
    refine SL.gg (ru_load (i := 0) (v := iw (A.r 1)) ts3 rfl rfl rfl (nc_r (by decide))) ?_
    refine SL.gg (ru_ne (b := (((A.r 1) : Int) != 1)) rfl rfl rfl rfl) ?_
    refine SL.uu (ru_pick (u := bo true) (v := bo (((A.r 1) : Int) != 1)) rfl rfl rfl rfl) ?_
    exact SL.joined hK ⟨rfl, rfl, rfl, rfl, rfl, rfl, rfl, (congrArg (fun x => some (Value.bool x)) h1.symm), (congrArg (fun x => some (Value.bool x)) h1.symm), (congrArg (fun x => some (Value.bool (x || (((A.r 1) : Int) != 1)))) h1.symm), trivial⟩ rfl
  skip
  refine SL.as ?_
  refine SL.nn [(2, bo ((((A.r 0) : Int) != 1) || (((A.r 1) : Int) != 1)))] _ ⟨rfl, trivial⟩ ?_
  refine SC.ret ?_
  refine SE.res (.inl rfl) (res1 Try.results41 rfl) fun w1 hI => ?_
  exact ⟨rfl, hI.2⟩

theorem q_off {w : World} {d : Nat} {F : Nat → Prop} {A : NicA} (hk : NicOk A) (h : NicAt 108 w d F A)  : Calls Try.prog 77 #[pt d 0] w fun e w' => e = .returned (bo (offB A)) ∧ Only (fun _ => False) w w' := by
  have hok := hk
  obtain ⟨r2, r3, r4, r5, r6, _, _, _⟩ := hok
  obtain ⟨tv, cv, hI⟩ := h.inv 17 (fun _ => False)
  refine calls_sc (l0 := _) (args := [pt d 0]) (fun _ => False) Try.func77 rfl 17 Try.ntmps77 (le_b rfl) hI ?_
  show SC _ _ _ _ [(0, pt d 0)] [rBlk d (nc A tv cv) 108, rFrs F tv cv A.tb A.cb]
  refine SC.sr ?_
  refine SL.as ?_
  refine SL.nn [(0, pt d 0), (2, bo false)] [rBlk d (nc A tv cv) 108, rFrs F tv cv A.tb A.cb] ⟨rfl, rfl, trivial⟩ ?_
  refine SC.sr ?_
  refine SL.mv ?_
  refine SL.nk ?_
  refine SL.uu (ru_fieldAddr (o2 := 0) fd108_0 rfl rfl rfl) ?_
  refine SL.uu (ru_indexA (o2 := 0) ar91 rfl rfl rfl (by decide) (by decide) rfl) ?_
  refine SL.uu (ru_load (i := 0) (v := iw (A.r 0)) ts3 rfl rfl rfl (nc_r (by decide))) ?_
  refine SL.uu (ru_ne (b := (((A.r 0) : Int) != 1)) rfl rfl rfl rfl) ?_
  refine SL.mv ?_
  refine SL.join 7 [(0, pt d 0), (2, bo false), (3, pt d 0), (4, pt d 0), (5, pt d 0), (6, pt d 0), (7, iw (A.r 0)), (8, bo (((A.r 0) : Int) != 1)), (9, bo (((A.r 0) : Int) != 1)), (16, bo ((((A.r 0) : Int) != 1) || (((A.r 1) : Int) != 1)))] [rBlk d (nc A tv cv) 108, rFrs F tv cv A.tb A.cb] ?_ ?_
  rotate_left
  · intro K hK
    rcases tf (((A.r 0) : Int) != 1) with h1 | h1
    · skip
      refine SL.norm [(0, pt d 0), (2, bo false), (3, pt d 0), (4, pt d 0), (5, pt d 0), (6, pt d 0), (7, iw (A.r 0)), (8, bo true), (9, bo true)] _ ⟨rfl, rfl, rfl, rfl, rfl, rfl, rfl, (congrArg (fun x => some (Value.bool x)) h1), (congrArg (fun x => some (Value.bool x)) h1), trivial⟩ rfl ?_
      refine SL.oo ?_
      refine SL.oo ?_
      refine SL.oo ?_
      refine SL.oo ?_
      refine SL.oo ?_
      refine SL.oo ?_
      refine SL.uu (ru_pick (u := bo true) (v := undef) rfl rfl rfl rfl) ?_
      exact SL.joined hK ⟨rfl, rfl, rfl, rfl, rfl, rfl, rfl, (congrArg (fun x => some (Value.bool x)) h1.symm), (congrArg (fun x => some (Value.bool x)) h1.symm), (congrArg (fun x => some (Value.bool (x || (((A.r 1) : Int) != 1)))) h1.symm), trivial⟩ rfl
    refine SL.norm [(0, pt d 0), (2, bo false), (3, pt d 0), (4, pt d 0), (5, pt d 0), (6, pt d 0), (7, iw (A.r 0)), (8, bo false), (9, bo false)] _ ⟨rfl, rfl, rfl, rfl, rfl, rfl, rfl, (congrArg (fun x => some (Value.bool x)) h1), (congrArg (fun x => some (Value.bool x)) h1), trivial⟩ rfl ?_
    refine SL.gg (ru_move rfl rfl) ?_
    refine SL.gg (ru_nilCheck rfl rfl) ?_
    refine SL.gg (ru_fieldAddr (o2 := 0) fd108_0 rfl rfl rfl) ?_
    refine SL.gg (ru_indexA (o2 := 1) ar91 rfl rfl rfl (by decide) (by decide) rfl) ?_
    refine SL.gg (ru_load (i := 0) (v := iw (A.r 1)) ts3 rfl rfl rfl (nc_r (by decide))) ?_
    refine SL.gg (ru_ne (b := (((A.r 1) : Int) != 1)) rfl rfl rfl rfl) ?_
    refine SL.uu (ru_pick (u := bo true) (v := bo (((A.r 1) : Int) != 1)) rfl rfl rfl rfl) ?_
    exact SL.joined hK ⟨rfl, rfl, rfl, rfl, rfl, rfl, rfl, (congrArg (fun x => some (Value.bool x)) h1.symm), (congrArg (fun x => some (Value.bool x)) h1.symm), (congrArg (fun x => some (Value.bool (x || (((A.r 1) : Int) != 1)))) h1.symm), trivial⟩ rfl
  skip
  refine SL.as ?_
  refine SL.nn [(2, bo ((((A.r 0) : Int) != 1) || (((A.r 1) : Int) != 1)))] _ ⟨rfl, trivial⟩ ?_
  refine SC.ret ?_
  refine SE.res (.inl rfl) (res1 Try.results77 rfl) fun w1 hI => ?_
  exact ⟨rfl, hI.2⟩

end Go.Proofs.Ytghfkgcaglabpaa

/-
  Whose is a descriptor.
-/
namespace Go.Proofs.Ytghfkgcaglabpaa
open Go.RowKit
set_option maxRecDepth 100000
set_option maxHeartbeats 4000000
theorem p_hosttx {w : World} {d : Nat} {F : Nat → Prop} {A : NicA} (hk : NicOk A) (h : NicAt 99 w d F A) (i : Int) : Calls Try.prog 64 #[pt d 0, iw i, iw 4, iw 5] w fun e w' => e = .returned (bo (hostB i (A.r 4) (A.r 5))) ∧ Only (fun _ => False) w w' := by
  have hok := hk
  obtain ⟨r2, r3, r4, r5, r6, _, _, _⟩ := hok
  obtain ⟨tv, cv, hI⟩ := h.inv 35 (fun _ => False)
  refine calls_sc (l0 := _) (args := [pt d 0, iw i, iw 4, iw 5]) (fun _ => False) Try.func64 rfl 35 Try.ntmps64 (le_b rfl) hI ?_
  show SC _ _ _ _ [(0, pt d 0), (1, iw i), (2, iw 4), (3, iw 5)] [rBlk d (nc A tv cv) 99, rFrs F tv cv A.tb A.cb]
  refine SC.sr ?_
  refine SL.as ?_
  refine SL.nn [(0, pt d 0), (1, iw i), (2, iw 4), (3, iw 5), (8, bo false)] [rBlk d (nc A tv cv) 99, rFrs F tv cv A.tb A.cb] ⟨rfl, rfl, rfl, rfl, rfl, trivial⟩ ?_
  refine SC.scope ?_
  refine SC.seq ?_
  refine SC.sr ?_
  refine SL.mv ?_
  refine SL.uu (ru_lt (b := (decide ((i : Int) < 0))) rfl rfl rfl rfl) ?_
  refine SL.mv ?_
  refine SL.join 3 [(0, pt d 0), (1, iw i), (2, iw 4), (3, iw 5), (8, bo false), (10, iw i), (11, bo (decide ((i : Int) < 0))), (12, bo (decide ((i : Int) < 0))), (15, bo ((decide ((i : Int) < 0)) || (decide ((16 : Int) ≤ i))))] [rBlk d (nc A tv cv) 99, rFrs F tv cv A.tb A.cb] ?_ ?_
  rotate_left
  · intro K hK
    rcases tf (decide ((i : Int) < 0)) with h1 | h1
    · skip
      refine SL.norm [(0, pt d 0), (1, iw i), (2, iw 4), (3, iw 5), (8, bo false), (10, iw i), (11, bo true), (12, bo true)] _ ⟨rfl, rfl, rfl, rfl, rfl, rfl, (congrArg (fun x => some (Value.bool x)) h1), (congrArg (fun x => some (Value.bool x)) h1), trivial⟩ rfl ?_
      refine SL.oo ?_
      refine SL.oo ?_
      refine SL.uu (ru_pick (u := bo true) (v := undef) rfl rfl rfl rfl) ?_
      exact SL.joined hK ⟨rfl, rfl, rfl, rfl, rfl, rfl, (congrArg (fun x => some (Value.bool x)) h1.symm), (congrArg (fun x => some (Value.bool x)) h1.symm), (congrArg (fun x => some (Value.bool (x || (decide ((16 : Int) ≤ i))))) h1.symm), trivial⟩ rfl
    refine SL.norm [(0, pt d 0), (1, iw i), (2, iw 4), (3, iw 5), (8, bo false), (10, iw i), (11, bo false), (12, bo false)] _ ⟨rfl, rfl, rfl, rfl, rfl, rfl, (congrArg (fun x => some (Value.bool x)) h1), (congrArg (fun x => some (Value.bool x)) h1), trivial⟩ rfl ?_
    refine SL.gg (ru_move rfl rfl) ?_
    refine SL.gg (ru_ge (b := (decide ((16 : Int) ≤ i))) rfl rfl rfl rfl) ?_
    refine SL.uu (ru_pick (u := bo true) (v := bo (decide ((16 : Int) ≤ i))) rfl rfl rfl rfl) ?_
    exact SL.joined hK ⟨rfl, rfl, rfl, rfl, rfl, rfl, (congrArg (fun x => some (Value.bool x)) h1.symm), (congrArg (fun x => some (Value.bool x)) h1.symm), (congrArg (fun x => some (Value.bool (x || (decide ((16 : Int) ≤ i))))) h1.symm), trivial⟩ rfl
  skip
  refine SL.nn [(0, pt d 0), (1, iw i), (2, iw 4), (3, iw 5), (8, bo false), (15, bo ((decide ((i : Int) < 0)) || (decide ((16 : Int) ≤ i))))] _ ⟨rfl, rfl, rfl, rfl, rfl, rfl, trivial⟩ ?_
  refine SC.both ((decide ((i : Int) < 0)) || (decide ((16 : Int) ≤ i))) rfl (fun h2 => ?_) (fun h2 => ?_)
  · skip
    refine SC.sr ?_
    refine SL.as ?_
    refine SL.nn [(0, pt d 0), (1, iw i), (2, iw 4), (3, iw 5), (8, bo false)] _ ⟨rfl, rfl, rfl, rfl, rfl, trivial⟩ ?_
    refine SC.ret ?_
    refine SE.passr ?_
    refine SE.scoper ?_
    refine SE.res (.inl rfl) (res1 Try.results64 rfl) fun w1 hI => ⟨ret_bo ?_, hI.2⟩
    exact host_out h2
  have hi := host_in h2
  refine SC.skip ?_
  refine SC.of_SE ?_
  refine SC.norm [(0, pt d 0), (1, iw i), (2, iw 4), (3, iw 5), (8, bo false)] _ ⟨rfl, rfl, rfl, rfl, rfl, trivial⟩ rfl ?_
  refine SC.seq ?_
  refine SC.label ?_
  refine SC.of_SE ?_
  refine SC.norm [(0, pt d 0), (1, iw i), (2, iw 4), (3, iw 5), (8, bo false)] _ ⟨rfl, rfl, rfl, rfl, rfl, trivial⟩ rfl ?_
  refine SC.seq ?_
  refine SC.sr ?_
  refine SL.mv ?_
  refine SL.mv ?_
  refine SL.nk ?_
  refine SL.uu (ru_fieldAddr (o2 := 0) fd99_0 rfl rfl rfl) ?_
  refine SL.uu (ru_indexA (o2 := 4) ar91 rfl rfl rfl (by decide) (by decide) rfl) ?_
  refine SL.uu (ru_load (i := 0) (v := iw (A.r 4)) ts3 rfl rfl rfl (nc_r (by decide))) ?_
  refine SL.as ?_
  refine SL.nn [(0, pt d 0), (1, iw i), (3, iw 5), (8, bo false), (9, iw (A.r 4))] _ ⟨rfl, rfl, rfl, rfl, rfl, trivial⟩ ?_
  refine SC.block ?_
  refine SC.loop (γ := Unit) (fun n _ => [(0, pt d 0), (1, iw i), (3, iw 5), (8, bo false), (9, iw (((A.r 5) - (n : Int)) % 16))]) (fun n _ => [rBlk d (nc A tv cv) 99, rFrs F tv cv A.tb A.cb]) (fun n _ => n ≤ (((A.r 5) - (A.r 4)) % 16).toNat ∧ ∀ j : Nat, n < j → j ≤ (((A.r 5) - (A.r 4)) % 16).toNat → ((A.r 5) - (j : Int)) % 16 ≠ i) ((((A.r 5) - (A.r 4)) % 16).toNat) () ⟨Nat.le_refl _, fun j h1 h2 => by omega⟩ ⟨rfl, rfl, rfl, rfl, (congrArg (fun x => some (iw x)) (show A.r 4 = ((A.r 5) - ((((((A.r 5) - (A.r 4)) % 16).toNat : Nat) : Int) : Int)) % 16 by omega)), trivial⟩ rfl ?_
  rintro n ⟨⟩ ⟨hn, hne⟩
  rcases Nat.eq_zero_or_pos n with h0 | h0
  · skip
    refine SC.seq ?_
    refine SC.sr ?_
    refine SL.mv ?_
    refine SL.mv ?_
    refine SL.mv ?_
    refine SL.nk ?_
    refine SL.uu (ru_fieldAddr (o2 := 0) fd99_0 rfl rfl rfl) ?_
    refine SL.uu (ru_indexA (o2 := 5) ar91 rfl rfl rfl (by decide) (by decide) rfl) ?_
    refine SL.uu (ru_load (i := 0) (v := iw (A.r 5)) ts3 rfl rfl rfl (nc_r (by decide))) ?_
    refine SL.uu (ru_ne (b := (((((A.r 5) - (n : Int)) % 16) : Int) != (A.r 5))) rfl rfl rfl rfl) ?_
    refine SL.nn [(0, pt d 0), (1, iw i), (3, iw 5), (8, bo false), (9, iw (((A.r 5) - (n : Int)) % 16)), (29, bo (((((A.r 5) - (n : Int)) % 16) : Int) != (A.r 5)))] _ ⟨rfl, rfl, rfl, rfl, rfl, rfl, trivial⟩ ?_
    refine SC.no (show some (Value.bool (((((A.r 5) - (n : Int)) % 16) : Int) != (A.r 5))) = some (Value.bool false) from congrArg (fun x => some (Value.bool x)) (bne_f (by omega))) ?_
    refine SC.exit ?_
    refine SE.passe ?_
    refine SE.passe ?_
    refine SE.blke ?_
    refine SC.of_SE ?_
    refine SC.norm [(8, bo false)] _ ⟨rfl, trivial⟩ rfl ?_
    refine SC.sr ?_
    refine SL.as ?_
    refine SL.nn [(8, bo true)] _ ⟨rfl, trivial⟩ ?_
    refine SC.ret ?_
    refine SE.scoper ?_
    refine SE.res (.inl rfl) (res1 Try.results64 rfl) fun w1 hI => ⟨ret_bo ?_, hI.2⟩
    exact host_yes hi (by omega) (fun j h1 h2 => hne j (by omega) h2)
  refine SC.seq ?_
  refine SC.sr ?_
  refine SL.mv ?_
  refine SL.mv ?_
  refine SL.mv ?_
  refine SL.nk ?_
  refine SL.uu (ru_fieldAddr (o2 := 0) fd99_0 rfl rfl rfl) ?_
  refine SL.uu (ru_indexA (o2 := 5) ar91 rfl rfl rfl (by decide) (by decide) rfl) ?_
  refine SL.uu (ru_load (i := 0) (v := iw (A.r 5)) ts3 rfl rfl rfl (nc_r (by decide))) ?_
  refine SL.uu (ru_ne (b := (((((A.r 5) - (n : Int)) % 16) : Int) != (A.r 5))) rfl rfl rfl rfl) ?_
  refine SL.nn [(0, pt d 0), (1, iw i), (3, iw 5), (8, bo false), (9, iw (((A.r 5) - (n : Int)) % 16)), (29, bo (((((A.r 5) - (n : Int)) % 16) : Int) != (A.r 5)))] _ ⟨rfl, rfl, rfl, rfl, rfl, rfl, trivial⟩ ?_
  refine SC.yes (show some (Value.bool (((((A.r 5) - (n : Int)) % 16) : Int) != (A.r 5))) = some (Value.bool true) from congrArg (fun x => some (Value.bool x)) (bne_t (by omega))) ?_
  refine SC.skip ?_
  refine SC.of_SE ?_
  refine SC.norm [(0, pt d 0), (1, iw i), (3, iw 5), (8, bo false), (9, iw (((A.r 5) - (n : Int)) % 16))] _ ⟨rfl, rfl, rfl, rfl, rfl, trivial⟩ rfl ?_
  refine SC.seq ?_
  refine SC.block ?_
  refine SC.seq ?_
  refine SC.sr ?_
  refine SL.mv ?_
  refine SL.mv ?_
  refine SL.uu (ru_ne (b := (((((A.r 5) - (n : Int)) % 16) : Int) != i)) rfl rfl rfl rfl) ?_
  refine SL.nn [(0, pt d 0), (1, iw i), (3, iw 5), (8, bo false), (9, iw (((A.r 5) - (n : Int)) % 16)), (34, bo (((((A.r 5) - (n : Int)) % 16) : Int) != i))] _ ⟨rfl, rfl, rfl, rfl, rfl, rfl, trivial⟩ ?_
  refine SC.both (((((A.r 5) - (n : Int)) % 16) : Int) != i) rfl (fun h3 => ?_) (fun h3 => ?_)
  · skip
    have hq := h3
    refine SC.exit ?_
    refine SE.passe ?_
    refine SE.blke ?_
    refine SC.of_SE ?_
    refine SC.norm [(0, pt d 0), (1, iw i), (3, iw 5), (8, bo false), (9, iw (((A.r 5) - (n : Int)) % 16))] _ ⟨rfl, rfl, rfl, rfl, rfl, trivial⟩ rfl ?_
    refine SC.region ?_
    refine SL.mv ?_
    refine SL.callv (iw (nx (((A.r 5) - (n : Int)) % 16))) rfl rfl co42 rfl rfl rfl (lt_b rfl) (fun w hI => H_same hI (next_any w (by omega))) ?_
    refine SL.as ?_
    refine SL.nil ?_
    refine SE.again (n - 1) () (by omega) ⟨by omega, fun j h1 h2 => ?_⟩ ⟨rfl, rfl, rfl, rfl, (congrArg (fun x => some (iw x)) (show nx (((A.r 5) - (n : Int)) % 16) = ((A.r 5) - (((n - 1 : Nat) : Int) : Int)) % 16 by unfold nx; omega)), trivial⟩ rfl
    by_cases e : j = n
    · subst e; simpa using hq
    · exact hne j (by omega) h2
  have hq := h3
  refine SC.skip ?_
  refine SC.of_SE ?_
  refine SC.norm [(0, pt d 0), (1, iw i), (3, iw 5), (8, bo false), (9, iw (((A.r 5) - (n : Int)) % 16))] _ ⟨rfl, rfl, rfl, rfl, rfl, trivial⟩ rfl ?_
  refine SC.sr ?_
  refine SL.as ?_
  refine SL.nn [(0, pt d 0), (1, iw i), (3, iw 5), (8, bo false), (9, iw (((A.r 5) - (n : Int)) % 16))] _ ⟨rfl, rfl, rfl, rfl, rfl, trivial⟩ ?_
  refine SC.ret ?_
  refine SE.blkr ?_
  refine SE.passr ?_
  refine SE.passr ?_
  refine SE.blkr ?_
  refine SE.passr ?_
  refine SE.scoper ?_
  refine SE.res (.inl rfl) (res1 Try.results64 rfl) fun w1 hI => ⟨ret_bo ?_, hI.2⟩
  exact host_no h0 hn hq

theorem p_hostrx {w : World} {d : Nat} {F : Nat → Prop} {A : NicA} (hk : NicOk A) (h : NicAt 99 w d F A) (i : Int) : Calls Try.prog 64 #[pt d 0, iw i, iw 2, iw 3] w fun e w' => e = .returned (bo (hostB i (A.r 2) (A.r 3))) ∧ Only (fun _ => False) w w' := by
  have hok := hk
  obtain ⟨r2, r3, r4, r5, r6, _, _, _⟩ := hok
  obtain ⟨tv, cv, hI⟩ := h.inv 35 (fun _ => False)
  refine calls_sc (l0 := _) (args := [pt d 0, iw i, iw 2, iw 3]) (fun _ => False) Try.func64 rfl 35 Try.ntmps64 (le_b rfl) hI ?_
  show SC _ _ _ _ [(0, pt d 0), (1, iw i), (2, iw 2), (3, iw 3)] [rBlk d (nc A tv cv) 99, rFrs F tv cv A.tb A.cb]
  refine SC.sr ?_
  refine SL.as ?_
  refine SL.nn [(0, pt d 0), (1, iw i), (2, iw 2), (3, iw 3), (8, bo false)] [rBlk d (nc A tv cv) 99, rFrs F tv cv A.tb A.cb] ⟨rfl, rfl, rfl, rfl, rfl, trivial⟩ ?_
  refine SC.scope ?_
  refine SC.seq ?_
  refine SC.sr ?_
  refine SL.mv ?_
  refine SL.uu (ru_lt (b := (decide ((i : Int) < 0))) rfl rfl rfl rfl) ?_
  refine SL.mv ?_
  refine SL.join 3 [(0, pt d 0), (1, iw i), (2, iw 2), (3, iw 3), (8, bo false), (10, iw i), (11, bo (decide ((i : Int) < 0))), (12, bo (decide ((i : Int) < 0))), (15, bo ((decide ((i : Int) < 0)) || (decide ((16 : Int) ≤ i))))] [rBlk d (nc A tv cv) 99, rFrs F tv cv A.tb A.cb] ?_ ?_
  rotate_left
  · intro K hK
    rcases tf (decide ((i : Int) < 0)) with h1 | h1
    · skip
      refine SL.norm [(0, pt d 0), (1, iw i), (2, iw 2), (3, iw 3), (8, bo false), (10, iw i), (11, bo true), (12, bo true)] _ ⟨rfl, rfl, rfl, rfl, rfl, rfl, (congrArg (fun x => some (Value.bool x)) h1), (congrArg (fun x => some (Value.bool x)) h1), trivial⟩ rfl ?_
      refine SL.oo ?_
      refine SL.oo ?_
      refine SL.uu (ru_pick (u := bo true) (v := undef) rfl rfl rfl rfl) ?_
      exact SL.joined hK ⟨rfl, rfl, rfl, rfl, rfl, rfl, (congrArg (fun x => some (Value.bool x)) h1.symm), (congrArg (fun x => some (Value.bool x)) h1.symm), (congrArg (fun x => some (Value.bool (x || (decide ((16 : Int) ≤ i))))) h1.symm), trivial⟩ rfl
    refine SL.norm [(0, pt d 0), (1, iw i), (2, iw 2), (3, iw 3), (8, bo false), (10, iw i), (11, bo false), (12, bo false)] _ ⟨rfl, rfl, rfl, rfl, rfl, rfl, (congrArg (fun x => some (Value.bool x)) h1), (congrArg (fun x => some (Value.bool x)) h1), trivial⟩ rfl ?_
    refine SL.gg (ru_move rfl rfl) ?_
    refine SL.gg (ru_ge (b := (decide ((16 : Int) ≤ i))) rfl rfl rfl rfl) ?_
    refine SL.uu (ru_pick (u := bo true) (v := bo (decide ((16 : Int) ≤ i))) rfl rfl rfl rfl) ?_
    exact SL.joined hK ⟨rfl, rfl, rfl, rfl, rfl, rfl, (congrArg (fun x => some (Value.bool x)) h1.symm), (congrArg (fun x => some (Value.bool x)) h1.symm), (congrArg (fun x => some (Value.bool (x || (decide ((16 : Int) ≤ i))))) h1.symm), trivial⟩ rfl
  skip
  refine SL.nn [(0, pt d 0), (1, iw i), (2, iw 2), (3, iw 3), (8, bo false), (15, bo ((decide ((i : Int) < 0)) || (decide ((16 : Int) ≤ i))))] _ ⟨rfl, rfl, rfl, rfl, rfl, rfl, trivial⟩ ?_
  refine SC.both ((decide ((i : Int) < 0)) || (decide ((16 : Int) ≤ i))) rfl (fun h2 => ?_) (fun h2 => ?_)
  · skip
    refine SC.sr ?_
    refine SL.as ?_
    refine SL.nn [(0, pt d 0), (1, iw i), (2, iw 2), (3, iw 3), (8, bo false)] _ ⟨rfl, rfl, rfl, rfl, rfl, trivial⟩ ?_
    refine SC.ret ?_
    refine SE.passr ?_
    refine SE.scoper ?_
    refine SE.res (.inl rfl) (res1 Try.results64 rfl) fun w1 hI => ⟨ret_bo ?_, hI.2⟩
    exact host_out h2
  have hi := host_in h2
  refine SC.skip ?_
  refine SC.of_SE ?_
  refine SC.norm [(0, pt d 0), (1, iw i), (2, iw 2), (3, iw 3), (8, bo false)] _ ⟨rfl, rfl, rfl, rfl, rfl, trivial⟩ rfl ?_
  refine SC.seq ?_
  refine SC.label ?_
  refine SC.of_SE ?_
  refine SC.norm [(0, pt d 0), (1, iw i), (2, iw 2), (3, iw 3), (8, bo false)] _ ⟨rfl, rfl, rfl, rfl, rfl, trivial⟩ rfl ?_
  refine SC.seq ?_
  refine SC.sr ?_
  refine SL.mv ?_
  refine SL.mv ?_
  refine SL.nk ?_
  refine SL.uu (ru_fieldAddr (o2 := 0) fd99_0 rfl rfl rfl) ?_
  refine SL.uu (ru_indexA (o2 := 2) ar91 rfl rfl rfl (by decide) (by decide) rfl) ?_
  refine SL.uu (ru_load (i := 0) (v := iw (A.r 2)) ts3 rfl rfl rfl (nc_r (by decide))) ?_
  refine SL.as ?_
  refine SL.nn [(0, pt d 0), (1, iw i), (3, iw 3), (8, bo false), (9, iw (A.r 2))] _ ⟨rfl, rfl, rfl, rfl, rfl, trivial⟩ ?_
  refine SC.block ?_
  refine SC.loop (γ := Unit) (fun n _ => [(0, pt d 0), (1, iw i), (3, iw 3), (8, bo false), (9, iw (((A.r 3) - (n : Int)) % 16))]) (fun n _ => [rBlk d (nc A tv cv) 99, rFrs F tv cv A.tb A.cb]) (fun n _ => n ≤ (((A.r 3) - (A.r 2)) % 16).toNat ∧ ∀ j : Nat, n < j → j ≤ (((A.r 3) - (A.r 2)) % 16).toNat → ((A.r 3) - (j : Int)) % 16 ≠ i) ((((A.r 3) - (A.r 2)) % 16).toNat) () ⟨Nat.le_refl _, fun j h1 h2 => by omega⟩ ⟨rfl, rfl, rfl, rfl, (congrArg (fun x => some (iw x)) (show A.r 2 = ((A.r 3) - ((((((A.r 3) - (A.r 2)) % 16).toNat : Nat) : Int) : Int)) % 16 by omega)), trivial⟩ rfl ?_
  rintro n ⟨⟩ ⟨hn, hne⟩
  rcases Nat.eq_zero_or_pos n with h0 | h0
  · skip
    refine SC.seq ?_
    refine SC.sr ?_
    refine SL.mv ?_
    refine SL.mv ?_
    refine SL.mv ?_
    refine SL.nk ?_
    refine SL.uu (ru_fieldAddr (o2 := 0) fd99_0 rfl rfl rfl) ?_
    refine SL.uu (ru_indexA (o2 := 3) ar91 rfl rfl rfl (by decide) (by decide) rfl) ?_
    refine SL.uu (ru_load (i := 0) (v := iw (A.r 3)) ts3 rfl rfl rfl (nc_r (by decide))) ?_
    refine SL.uu (ru_ne (b := (((((A.r 3) - (n : Int)) % 16) : Int) != (A.r 3))) rfl rfl rfl rfl) ?_
    refine SL.nn [(0, pt d 0), (1, iw i), (3, iw 3), (8, bo false), (9, iw (((A.r 3) - (n : Int)) % 16)), (29, bo (((((A.r 3) - (n : Int)) % 16) : Int) != (A.r 3)))] _ ⟨rfl, rfl, rfl, rfl, rfl, rfl, trivial⟩ ?_
    refine SC.no (show some (Value.bool (((((A.r 3) - (n : Int)) % 16) : Int) != (A.r 3))) = some (Value.bool false) from congrArg (fun x => some (Value.bool x)) (bne_f (by omega))) ?_
    refine SC.exit ?_
    refine SE.passe ?_
    refine SE.passe ?_
    refine SE.blke ?_
    refine SC.of_SE ?_
    refine SC.norm [(8, bo false)] _ ⟨rfl, trivial⟩ rfl ?_
    refine SC.sr ?_
    refine SL.as ?_
    refine SL.nn [(8, bo true)] _ ⟨rfl, trivial⟩ ?_
    refine SC.ret ?_
    refine SE.scoper ?_
    refine SE.res (.inl rfl) (res1 Try.results64 rfl) fun w1 hI => ⟨ret_bo ?_, hI.2⟩
    exact host_yes hi (by omega) (fun j h1 h2 => hne j (by omega) h2)
  refine SC.seq ?_
  refine SC.sr ?_
  refine SL.mv ?_
  refine SL.mv ?_
  refine SL.mv ?_
  refine SL.nk ?_
  refine SL.uu (ru_fieldAddr (o2 := 0) fd99_0 rfl rfl rfl) ?_
  refine SL.uu (ru_indexA (o2 := 3) ar91 rfl rfl rfl (by decide) (by decide) rfl) ?_
  refine SL.uu (ru_load (i := 0) (v := iw (A.r 3)) ts3 rfl rfl rfl (nc_r (by decide))) ?_
  refine SL.uu (ru_ne (b := (((((A.r 3) - (n : Int)) % 16) : Int) != (A.r 3))) rfl rfl rfl rfl) ?_
  refine SL.nn [(0, pt d 0), (1, iw i), (3, iw 3), (8, bo false), (9, iw (((A.r 3) - (n : Int)) % 16)), (29, bo (((((A.r 3) - (n : Int)) % 16) : Int) != (A.r 3)))] _ ⟨rfl, rfl, rfl, rfl, rfl, rfl, trivial⟩ ?_
  refine SC.yes (show some (Value.bool (((((A.r 3) - (n : Int)) % 16) : Int) != (A.r 3))) = some (Value.bool true) from congrArg (fun x => some (Value.bool x)) (bne_t (by omega))) ?_
  refine SC.skip ?_
  refine SC.of_SE ?_
  refine SC.norm [(0, pt d 0), (1, iw i), (3, iw 3), (8, bo false), (9, iw (((A.r 3) - (n : Int)) % 16))] _ ⟨rfl, rfl, rfl, rfl, rfl, trivial⟩ rfl ?_
  refine SC.seq ?_
  refine SC.block ?_
  refine SC.seq ?_
  refine SC.sr ?_
  refine SL.mv ?_
  refine SL.mv ?_
  refine SL.uu (ru_ne (b := (((((A.r 3) - (n : Int)) % 16) : Int) != i)) rfl rfl rfl rfl) ?_
  refine SL.nn [(0, pt d 0), (1, iw i), (3, iw 3), (8, bo false), (9, iw (((A.r 3) - (n : Int)) % 16)), (34, bo (((((A.r 3) - (n : Int)) % 16) : Int) != i))] _ ⟨rfl, rfl, rfl, rfl, rfl, rfl, trivial⟩ ?_
  refine SC.both (((((A.r 3) - (n : Int)) % 16) : Int) != i) rfl (fun h3 => ?_) (fun h3 => ?_)
  · skip
    have hq := h3
    refine SC.exit ?_
    refine SE.passe ?_
    refine SE.blke ?_
    refine SC.of_SE ?_
    refine SC.norm [(0, pt d 0), (1, iw i), (3, iw 3), (8, bo false), (9, iw (((A.r 3) - (n : Int)) % 16))] _ ⟨rfl, rfl, rfl, rfl, rfl, trivial⟩ rfl ?_
    refine SC.region ?_
    refine SL.mv ?_
    refine SL.callv (iw (nx (((A.r 3) - (n : Int)) % 16))) rfl rfl co42 rfl rfl rfl (lt_b rfl) (fun w hI => H_same hI (next_any w (by omega))) ?_
    refine SL.as ?_
    refine SL.nil ?_
    refine SE.again (n - 1) () (by omega) ⟨by omega, fun j h1 h2 => ?_⟩ ⟨rfl, rfl, rfl, rfl, (congrArg (fun x => some (iw x)) (show nx (((A.r 3) - (n : Int)) % 16) = ((A.r 3) - (((n - 1 : Nat) : Int) : Int)) % 16 by unfold nx; omega)), trivial⟩ rfl
    by_cases e : j = n
    · subst e; simpa using hq
    · exact hne j (by omega) h2
  have hq := h3
  refine SC.skip ?_
  refine SC.of_SE ?_
  refine SC.norm [(0, pt d 0), (1, iw i), (3, iw 3), (8, bo false), (9, iw (((A.r 3) - (n : Int)) % 16))] _ ⟨rfl, rfl, rfl, rfl, rfl, trivial⟩ rfl ?_
  refine SC.sr ?_
  refine SL.as ?_
  refine SL.nn [(0, pt d 0), (1, iw i), (3, iw 3), (8, bo false), (9, iw (((A.r 3) - (n : Int)) % 16))] _ ⟨rfl, rfl, rfl, rfl, rfl, trivial⟩ ?_
  refine SC.ret ?_
  refine SE.blkr ?_
  refine SE.passr ?_
  refine SE.passr ?_
  refine SE.blkr ?_
  refine SE.passr ?_
  refine SE.scoper ?_
  refine SE.res (.inl rfl) (res1 Try.results64 rfl) fun w1 hI => ⟨ret_bo ?_, hI.2⟩
  exact host_no h0 hn hq

theorem dev_q {a b : Int} (h : (a == b) = false) : (a != b) = true := by simpa using h
theorem dev_e {a b : Int} (h : (a == b) = true) : (a != b) = false := by simpa using h
theorem dev_nx {t : Int} {n : Nat} (h : 0 < n) : Int.tmod (IntKind.i64.wrap ((t - (n : Int)) % 16 + 1)) 16 = (t - ((n - 1 : Nat) : Int)) % 16 := by
  rw [IntKind.wrap_i64, Int.tmod_eq_emod_of_nonneg (by omega)]; omega
theorem devices_any {w : World} {i h t : Int} (hi : 0 ≤ i ∧ i < 16) (hh : 0 ≤ h ∧ h < 16) (ht : 0 ≤ t ∧ t < 16) : Calls Try.prog 83 #[.int .i64 i, .int .i64 h, .int .i64 t] w fun e w' => e = .returned (bo (!hostB i h t)) ∧ Only (fun _ => False) w w' := by
  refine calls_sc (l0 := []) (args := [iw i, iw h, iw t]) (fun _ => False) Try.func83 rfl 18 Try.ntmps83 (le_b rfl) ⟨⟨by simp, List.Pairwise.nil⟩, Only.refl _ _⟩ ?_
  show SC _ _ _ _ [(0, iw i), (1, iw h), (2, iw t)] []
  refine SC.sr ?_
  refine SL.as ?_
  refine SL.nn [(0, iw i), (1, iw h), (2, iw t), (6, bo false)] [] ⟨rfl, rfl, rfl, rfl, trivial⟩ ?_
  refine SC.seq ?_
  refine SC.sr ?_
  refine SL.mv ?_
  refine SL.as ?_
  refine SL.nn [(0, iw i), (2, iw t), (6, bo false), (7, iw h)] _ ⟨rfl, rfl, rfl, rfl, trivial⟩ ?_
  refine SC.block ?_
  refine SC.loop (γ := Unit) (fun n _ => [(0, iw i), (2, iw t), (6, bo false), (7, iw ((t - (n : Int)) % 16))]) (fun n _ => []) (fun n _ => n ≤ ((t - h) % 16).toNat ∧ ∀ j : Nat, n < j → j ≤ ((t - h) % 16).toNat → (t - (j : Int)) % 16 ≠ i) (((t - h) % 16).toNat) () ⟨Nat.le_refl _, fun j h1 h2 => by omega⟩ ⟨rfl, rfl, rfl, (congrArg (fun x => some (iw x)) (show h = (t - (((((t - h) % 16).toNat : Nat) : Int) : Int)) % 16 by omega)), trivial⟩ rfl ?_
  rintro n ⟨⟩ ⟨hn, hne⟩
  rcases Nat.eq_zero_or_pos n with h0 | h0
  · skip
    refine SC.seq ?_
    refine SC.sr ?_
    refine SL.mv ?_
    refine SL.mv ?_
    refine SL.uu (ru_ne (b := ((((t - (n : Int)) % 16) : Int) != t)) rfl rfl rfl rfl) ?_
    refine SL.nn [(0, iw i), (2, iw t), (6, bo false), (7, iw ((t - (n : Int)) % 16)), (11, bo ((((t - (n : Int)) % 16) : Int) != t))] _ ⟨rfl, rfl, rfl, rfl, rfl, trivial⟩ ?_
    refine SC.no (show some (Value.bool ((((t - (n : Int)) % 16) : Int) != t)) = some (Value.bool false) from congrArg (fun x => some (Value.bool x)) (bne_f (by omega))) ?_
    refine SC.exit ?_
    refine SE.passe ?_
    refine SE.passe ?_
    refine SE.blke ?_
    refine SC.of_SE ?_
    refine SC.norm [(6, bo false)] _ ⟨rfl, trivial⟩ rfl ?_
    refine SC.sr ?_
    refine SL.as ?_
    refine SL.nn [(6, bo false)] _ ⟨rfl, trivial⟩ ?_
    refine SC.ret ?_
    refine SE.res (.inl rfl) (res1 Try.results83 rfl) fun w1 hI => ⟨ret_bo ?_, hI.2⟩
    exact congrArg (!·) (host_yes hi ht (fun j h1 h2 => hne j (by omega) h2))
  refine SC.seq ?_
  refine SC.sr ?_
  refine SL.mv ?_
  refine SL.mv ?_
  refine SL.uu (ru_ne (b := ((((t - (n : Int)) % 16) : Int) != t)) rfl rfl rfl rfl) ?_
  refine SL.nn [(0, iw i), (2, iw t), (6, bo false), (7, iw ((t - (n : Int)) % 16)), (11, bo ((((t - (n : Int)) % 16) : Int) != t))] _ ⟨rfl, rfl, rfl, rfl, rfl, trivial⟩ ?_
  refine SC.yes (show some (Value.bool ((((t - (n : Int)) % 16) : Int) != t)) = some (Value.bool true) from congrArg (fun x => some (Value.bool x)) (bne_t (by omega))) ?_
  refine SC.skip ?_
  refine SC.of_SE ?_
  refine SC.norm [(0, iw i), (2, iw t), (6, bo false), (7, iw ((t - (n : Int)) % 16))] _ ⟨rfl, rfl, rfl, rfl, trivial⟩ rfl ?_
  refine SC.seq ?_
  refine SC.block ?_
  refine SC.sr ?_
  refine SL.mv ?_
  refine SL.mv ?_
  refine SL.uu (ru_eq (b := ((((t - (n : Int)) % 16) : Int) == i)) rfl rfl rfl rfl) ?_
  refine SL.nn [(0, iw i), (2, iw t), (6, bo false), (7, iw ((t - (n : Int)) % 16)), (17, bo ((((t - (n : Int)) % 16) : Int) == i))] _ ⟨rfl, rfl, rfl, rfl, rfl, trivial⟩ ?_
  refine SC.both ((((t - (n : Int)) % 16) : Int) == i) rfl (fun h1 => ?_) (fun h1 => ?_)
  · skip
    have hq := dev_e h1
    refine SC.sr ?_
    refine SL.as ?_
    refine SL.nn [(0, iw i), (2, iw t), (6, bo true), (7, iw ((t - (n : Int)) % 16))] _ ⟨rfl, rfl, rfl, rfl, trivial⟩ ?_
    refine SC.ret ?_
    refine SE.blkr ?_
    refine SE.passr ?_
    refine SE.passr ?_
    refine SE.blkr ?_
    refine SE.passr ?_
    refine SE.res (.inl rfl) (res1 Try.results83 rfl) fun w1 hI => ⟨ret_bo ?_, hI.2⟩
    exact congrArg (!·) (host_no h0 hn hq)
  have hq := dev_q h1
  refine SC.skip ?_
  refine SE.blkn ?_
  refine SC.of_SE ?_
  refine SC.norm [(0, iw i), (2, iw t), (6, bo false), (7, iw ((t - (n : Int)) % 16))] _ ⟨rfl, rfl, rfl, rfl, trivial⟩ rfl ?_
  refine SC.region ?_
  refine SL.mv ?_
  refine SL.uu (ru_add (r := (IntKind.i64.wrap (((t - (n : Int)) % 16) + 1))) rfl rfl rfl rfl) ?_
  refine SL.uu (ru_rem (r := (Int.tmod (IntKind.i64.wrap (((t - (n : Int)) % 16) + 1)) 16)) rfl rfl rfl (by decide) rfl) ?_
  refine SL.as ?_
  refine SL.nil ?_
  refine SE.again (n - 1) () (by omega) ⟨by omega, fun j h1 h2 => ?_⟩ ⟨rfl, rfl, rfl, (congrArg (fun x => some (iw x)) (show Int.tmod (IntKind.i64.wrap (((t - (n : Int)) % 16) + 1)) 16 = (t - (((n - 1 : Nat) : Int) : Int)) % 16 from dev_nx (by omega))), trivial⟩ rfl
  by_cases e : j = n
  · subst e; simpa using hq
  · exact hne j (by omega) h2

end Go.Proofs.Ytghfkgcaglabpaa

/-
  A device's ends where a frame was laid down in bytes of one's own; its events.
-/
namespace Go.Proofs.Ytghfkgcaglabpaa
open Go.RowKit

theorem appV_new {t : World} {e : TypeId} {n k : Nat} (h : k ≤ t.heap.size) : ∀ b, (appV t e n).ownBlock = some b → k ≤ b := fun b hb => by have := appV_own hb; omega
theorem nil_in {S : Nat → Prop} {n c : Nat} : sliceIn (.slice none n c) S := fun b o n c e _ => by simp at e
theorem mine_in {v : Value} {S : Nat → Prop} (h : ∀ b, v.ownBlock = some b → S b) : sliceIn v S := fun b o n c e _ => h b (by rw [e]; rfl)
theorem NicAt.fin_txM {T U : TypeId} {w w' : World} {d n i : Nat} {F : Nat → Prop} {A : NicA} {tv cv : Nat → Value} {f : List UInt8} {v : Value} (hf : f.length ≤ 140737488351232) (hg : ∀ b, v.ownBlock = some b → w.heap.size ≤ b)
    (h : Inv ⟨n, w, fun b => b = d⟩ w' [rBlk d (nc A (up tv i v) cv) T, rFrs F tv cv A.tb A.cb, rMine v f U]) : NicTo T w d F { A with tb := up A.tb i f } w' := by
  have hd := h.1.2
  simp only [List.pairwise_cons] at hd
  have h1 : Blk w' d (nc A (up tv i v) cv) T := h.1.1 (rBlk d (nc A (up tv i v) cv) T) (by simp)
  have h2 : FrsAt w' F tv cv A.tb A.cb := h.1.1 (rFrs F tv cv A.tb A.cb) (by simp)
  have h3 : OwnBytes w' 0 U v f := h.1.1 (rMine v f U) (by simp)
  refine ⟨fun b => F b ∨ v.ownBlock = some b, ⟨up tv i v, cv, h1, ?_, ?_, ?_, ?_⟩, fun b hb => hb.imp id (fun e => hg b e), h.2⟩
  · rintro (hF | e)
    · exact hd.1 (rFrs F tv cv A.tb A.cb) (by simp) d rfl hF
    · exact hd.1 (rMine v f U) (by simp) d rfl e
  · rintro b (hF | e)
    · exact h2.1 b hF
    · exact (World.ownsRow.lt h3 b e).2
  · intro j hj
    by_cases e : j = i
    · subst e
      show BytesAt w' (up tv j _ j) (up A.tb j f j) ∧ sliceIn (up tv j _ j) _
      rw [up_same, up_same]
      exact ⟨h3.bytes hf, mine_in fun b hb => .inr hb⟩
    · show BytesAt w' (up tv i _ j) (up A.tb i f j) ∧ sliceIn (up tv i _ j) _
      rw [up_ne _ _ e, up_ne _ _ e]
      exact ⟨(h2.2.1 j hj).1, fun b o n c hv hn => .inl ((h2.2.1 j hj).2 b o n c hv hn)⟩
  · intro j hj
    exact ⟨(h2.2.2 j hj).1, fun b o n c hv hn => .inl ((h2.2.2 j hj).2 b o n c hv hn)⟩
theorem NicAt.fin_rxM {T U : TypeId} {w w' : World} {d n i : Nat} {F : Nat → Prop} {A : NicA} {tv cv : Nat → Value} {f : List UInt8} {v : Value} (hf : f.length ≤ 140737488351232) (hg : ∀ b, v.ownBlock = some b → w.heap.size ≤ b)
    (h : Inv ⟨n, w, fun b => b = d⟩ w' [rBlk d (nc A tv (up cv i v)) T, rFrs F tv cv A.tb A.cb, rMine v f U]) : NicTo T w d F { A with cb := up A.cb i f } w' := by
  have hd := h.1.2
  simp only [List.pairwise_cons] at hd
  have h1 : Blk w' d (nc A tv (up cv i v)) T := h.1.1 (rBlk d (nc A tv (up cv i v)) T) (by simp)
  have h2 : FrsAt w' F tv cv A.tb A.cb := h.1.1 (rFrs F tv cv A.tb A.cb) (by simp)
  have h3 : OwnBytes w' 0 U v f := h.1.1 (rMine v f U) (by simp)
  refine ⟨fun b => F b ∨ v.ownBlock = some b, ⟨tv, up cv i v, h1, ?_, ?_, ?_, ?_⟩, fun b hb => hb.imp id (fun e => hg b e), h.2⟩
  · rintro (hF | e)
    · exact hd.1 (rFrs F tv cv A.tb A.cb) (by simp) d rfl hF
    · exact hd.1 (rMine v f U) (by simp) d rfl e
  · rintro b (hF | e)
    · exact h2.1 b hF
    · exact (World.ownsRow.lt h3 b e).2
  · intro j hj
    exact ⟨(h2.2.1 j hj).1, fun b o n c hv hn => .inl ((h2.2.1 j hj).2 b o n c hv hn)⟩
  · intro j hj
    by_cases e : j = i
    · subst e
      show BytesAt w' (up cv j _ j) (up A.cb j f j) ∧ sliceIn (up cv j _ j) _
      rw [up_same, up_same]
      exact ⟨h3.bytes hf, mine_in fun b hb => .inr hb⟩
    · show BytesAt w' (up cv i _ j) (up A.cb i f j) ∧ sliceIn (up cv i _ j) _
      rw [up_ne _ _ e, up_ne _ _ e]
      exact ⟨(h2.2.2 j hj).1, fun b o n c hv hn => .inl ((h2.2.2 j hj).2 b o n c hv hn)⟩
theorem nx_q {x : Int} (h : 0 ≤ x ∧ x < 16) : Int.tmod (IntKind.i64.wrap (x + 1)) 16 = nx x := by
  rw [IntKind.wrap_i64, Int.tmod_eq_emod_of_nonneg (by omega)]; unfold nx; omega
theorem host_in3 {i : Int} {x y : Bool} (e : (((decide ((i : Int) < 0) || decide ((16 : Int) ≤ i)) || x) || y) = false) : 0 ≤ i ∧ i < 16 := by
  simp only [Bool.or_eq_false_iff, decide_eq_false_iff_not] at e; omega
section
variable {x : Int} (h : 0 ≤ x ∧ x < 8)
include h
theorem ev_t1 (e : ((Int.tmod (IntKind.i64.wrap (Int.tdiv x 1)) 2 : Int) == 0) = true) : IntKind.i64.wrap (x + 1) = ev x 1 := by
  obtain ⟨n, hn, rfl⟩ : ∃ n : Nat, n < 8 ∧ x = (n : Int) := ⟨x.toNat, by omega, by omega⟩
  have k : ∀ k : Fin 8, ((Int.tmod (IntKind.i64.wrap (Int.tdiv (k.val : Int) 1)) 2 : Int) == 0) = true → IntKind.i64.wrap ((k.val : Int) + 1) = ev (k.val : Int) 1 := by decide +kernel
  exact k ⟨n, hn⟩ e
theorem ev_f1 (e : ((Int.tmod (IntKind.i64.wrap (Int.tdiv x 1)) 2 : Int) == 0) = false) : ev x 1 = x := by
  obtain ⟨n, hn, rfl⟩ : ∃ n : Nat, n < 8 ∧ x = (n : Int) := ⟨x.toNat, by omega, by omega⟩
  have k : ∀ k : Fin 8, ((Int.tmod (IntKind.i64.wrap (Int.tdiv (k.val : Int) 1)) 2 : Int) == 0) = false → ev (k.val : Int) 1 = (k.val : Int) := by decide +kernel
  exact k ⟨n, hn⟩ e
theorem ev_t2 (e : ((Int.tmod (IntKind.i64.wrap (Int.tdiv x 2)) 2 : Int) == 0) = true) : IntKind.i64.wrap (x + 2) = ev x 2 := by
  obtain ⟨n, hn, rfl⟩ : ∃ n : Nat, n < 8 ∧ x = (n : Int) := ⟨x.toNat, by omega, by omega⟩
  have k : ∀ k : Fin 8, ((Int.tmod (IntKind.i64.wrap (Int.tdiv (k.val : Int) 2)) 2 : Int) == 0) = true → IntKind.i64.wrap ((k.val : Int) + 2) = ev (k.val : Int) 2 := by decide +kernel
  exact k ⟨n, hn⟩ e
theorem ev_f2 (e : ((Int.tmod (IntKind.i64.wrap (Int.tdiv x 2)) 2 : Int) == 0) = false) : ev x 2 = x := by
  obtain ⟨n, hn, rfl⟩ : ∃ n : Nat, n < 8 ∧ x = (n : Int) := ⟨x.toNat, by omega, by omega⟩
  have k : ∀ k : Fin 8, ((Int.tmod (IntKind.i64.wrap (Int.tdiv (k.val : Int) 2)) 2 : Int) == 0) = false → ev (k.val : Int) 2 = (k.val : Int) := by decide +kernel
  exact k ⟨n, hn⟩ e
theorem ev_t4 (e : ((Int.tmod (IntKind.i64.wrap (Int.tdiv x 4)) 2 : Int) == 0) = true) : IntKind.i64.wrap (x + 4) = ev x 4 := by
  obtain ⟨n, hn, rfl⟩ : ∃ n : Nat, n < 8 ∧ x = (n : Int) := ⟨x.toNat, by omega, by omega⟩
  have k : ∀ k : Fin 8, ((Int.tmod (IntKind.i64.wrap (Int.tdiv (k.val : Int) 4)) 2 : Int) == 0) = true → IntKind.i64.wrap ((k.val : Int) + 4) = ev (k.val : Int) 4 := by decide +kernel
  exact k ⟨n, hn⟩ e
theorem ev_f4 (e : ((Int.tmod (IntKind.i64.wrap (Int.tdiv x 4)) 2 : Int) == 0) = false) : ev x 4 = x := by
  obtain ⟨n, hn, rfl⟩ : ∃ n : Nat, n < 8 ∧ x = (n : Int) := ⟨x.toNat, by omega, by omega⟩
  have k : ∀ k : Fin 8, ((Int.tmod (IntKind.i64.wrap (Int.tdiv (k.val : Int) 4)) 2 : Int) == 0) = false → ev (k.val : Int) 4 = (k.val : Int) := by decide +kernel
  exact k ⟨n, hn⟩ e
end
end Go.Proofs.Ytghfkgcaglabpaa

/-
  What a device's other calls do (the program's).
-/
namespace Go.Proofs.Ytghfkgcaglabpaa
open Go.RowKit
set_option maxRecDepth 100000
set_option maxHeartbeats 4000000
theorem p_settx {w : World} {d : Nat} {F : Nat → Prop} {A : NicA} (hk : NicOk A) (h : NicAt 99 w d F A) {v : Value} {f : List UInt8} (hb : BytesAt w v f) (hs : sliceIn v (fun b => ¬ b = d)) (i : Int) : Calls Try.prog 35 #[pt d 0, iw i, v] w fun e w' => e = .returned (iw (setTxF A i f).1) ∧ NicTo 99 w d F (setTxF A i f).2 w' := by
  have hok := hk
  obtain ⟨r2, r3, r4, r5, r6, _, _, _⟩ := hok
  obtain ⟨a, c, rfl⟩ := hb.form
  have hbl := hb.len
  obtain ⟨tv, cv, hI⟩ := h.inv 28 (fun b => b = d)
  refine calls_sc (l0 := _) (args := [pt d 0, iw i, Value.slice a f.length c]) (fun b => b = d) Try.func35 rfl 28 Try.ntmps35 (le_b rfl) hI ?_
  show SC _ _ _ _ [(0, pt d 0), (1, iw i), (2, Value.slice a f.length c)] [rBlk d (nc A tv cv) 99, rFrs F tv cv A.tb A.cb]
  refine SC.sr ?_
  refine SL.as ?_
  refine SL.nn [(0, pt d 0), (1, iw i), (2, Value.slice a f.length c), (6, iw 0)] [rBlk d (nc A tv cv) 99, rFrs F tv cv A.tb A.cb] ⟨rfl, rfl, rfl, rfl, trivial⟩ ?_
  refine SC.seq ?_
  refine SC.block ?_
  refine SC.sr ?_
  refine SL.mv ?_
  refine SL.mv ?_
  refine SL.callv (bo (hostB i (A.r 4) (A.r 5))) rfl rfl co64 rfl rfl rfl (lt_b rfl) (fun w hI => H_only hI (p_hosttx hk (NicAt.of hI) i)) ?_
  refine SL.uu (ru_not (c := (!(hostB i (A.r 4) (A.r 5)))) rfl rfl rfl) ?_
  refine SL.as ?_
  refine SL.nn [(0, pt d 0), (1, iw i), (2, Value.slice a f.length c), (6, iw 0), (7, bo (!(hostB i (A.r 4) (A.r 5))))] _ ⟨rfl, rfl, rfl, rfl, rfl, trivial⟩ ?_
  refine SC.both (!(hostB i (A.r 4) (A.r 5))) rfl (fun h1 => ?_) (fun h1 => ?_)
  · skip
    refine SC.sr ?_
    refine SL.as ?_
    refine SL.nn [(0, pt d 0), (1, iw i), (2, Value.slice a f.length c), (6, iw 1)] _ ⟨rfl, rfl, rfl, rfl, trivial⟩ ?_
    refine SC.ret ?_
    refine SE.blkr ?_
    refine SE.passr ?_
    refine SE.res (.inl rfl) (res1 Try.results35 rfl) fun w1 hI => ?_
    have e : setTxF A i f = (1, A) := by
      try simp at h1
      unfold setTxF
      (repeat' split) <;> first | rfl | (exfalso; omega) | (exfalso; simp_all; done) | (exfalso; simp_all; omega)
    rw [e]
    exact ⟨rfl, NicAt.fin hI⟩
  have hi := host_bd1 h1
  refine SC.sr ?_
  refine SL.mv ?_
  refine SL.uu (ru_len Try.underlying28 rfl rfl) ?_
  refine SL.uu (ru_eq (b := (((f.length : Int) : Int) == 0)) rfl rfl rfl rfl) ?_
  refine SL.as ?_
  refine SL.nn [(0, pt d 0), (1, iw i), (2, Value.slice a f.length c), (6, iw 0), (12, bo (((f.length : Int) : Int) == 0))] _ ⟨rfl, rfl, rfl, rfl, rfl, trivial⟩ ?_
  refine SC.both (((f.length : Int) : Int) == 0) rfl (fun h2 => ?_) (fun h2 => ?_)
  · skip
    refine SC.sr ?_
    refine SL.as ?_
    refine SL.nn [(0, pt d 0), (1, iw i), (2, Value.slice a f.length c), (6, iw 3)] _ ⟨rfl, rfl, rfl, rfl, trivial⟩ ?_
    refine SC.ret ?_
    refine SE.blkr ?_
    refine SE.passr ?_
    refine SE.res (.inl rfl) (res1 Try.results35 rfl) fun w1 hI => ?_
    have e : setTxF A i f = (3, A) := by
      try simp at h1 h2
      unfold setTxF
      (repeat' split) <;> first | rfl | (exfalso; omega) | (exfalso; simp_all; done) | (exfalso; simp_all; omega)
    rw [e]
    exact ⟨rfl, NicAt.fin hI⟩
  refine SC.sr ?_
  refine SL.mv ?_
  refine SL.uu (ru_len Try.underlying28 rfl rfl) ?_
  refine SL.uu (ru_gt (b := (decide ((274 : Int) < (f.length : Int)))) rfl rfl rfl rfl) ?_
  refine SL.as ?_
  refine SL.nn [(0, pt d 0), (1, iw i), (2, Value.slice a f.length c), (6, iw 0), (16, bo (decide ((274 : Int) < (f.length : Int))))] _ ⟨rfl, rfl, rfl, rfl, rfl, trivial⟩ ?_
  refine SC.both (decide ((274 : Int) < (f.length : Int))) rfl (fun h3 => ?_) (fun h3 => ?_)
  · skip
    refine SC.sr ?_
    refine SL.as ?_
    refine SL.nn [(0, pt d 0), (1, iw i), (2, Value.slice a f.length c), (6, iw 2)] _ ⟨rfl, rfl, rfl, rfl, trivial⟩ ?_
    refine SC.ret ?_
    refine SE.blkr ?_
    refine SE.passr ?_
    refine SE.res (.inl rfl) (res1 Try.results35 rfl) fun w1 hI => ?_
    have e : setTxF A i f = (2, A) := by
      try simp at h1 h2 h3
      unfold setTxF
      (repeat' split) <;> first | rfl | (exfalso; omega) | (exfalso; simp_all; done) | (exfalso; simp_all; omega)
    rw [e]
    exact ⟨rfl, NicAt.fin hI⟩
  refine SC.skip ?_
  refine SE.blkn ?_
  refine SC.of_SE ?_
  refine SC.norm [(0, pt d 0), (1, iw i), (2, Value.slice a f.length c), (6, iw 0)] _ ⟨rfl, rfl, rfl, rfl, trivial⟩ rfl ?_
  refine SC.seq ?_
  refine SC.region_alloc 8 3 (fun b4 => rBlk b4 (f.map bv) 5) (by kernel_rfl) (by kernel_rfl) rfl (fun b4 hb4 => ?_)
  refine SS.ru _ CA.base rfl rfl rfl (lt_b rfl) (ru_move rfl rfl) ?_
  refine SS.ru _ CA.base rfl rfl rfl (lt_b rfl) (ru_move rfl rfl) ?_
  refine SS.ru _ CA.base rfl rfl rfl (lt_b rfl) (ru_move rfl rfl) ?_
  refine SS.newcall (sl b4 0 f.length f.length) rfl rfl co43 rfl rfl rfl (lt_b rfl) (fun w hI hz => (copied_any (hb.only hI.2 hs)).mono fun e w2 ⟨h1, h2, h3⟩ => ⟨by rw [h1, hz], hI.add h3 (hz ▸ h2) (fun q hq => by cases hq; rw [hz]; exact Nat.le_refl _)⟩) ?_
  refine SS.ru _ CA.base rfl rfl rfl (lt_b rfl) (ru_nilCheck rfl rfl) ?_
  refine SS.ru _ CA.base rfl rfl rfl (lt_b rfl) (ru_fieldAddr (o2 := 8) fd99_1 rfl rfl rfl) ?_
  refine SS.ru _ CA.base rfl rfl rfl (lt_b rfl) (ru_indexA (o2 := 8 + i.toNat * 2) ar94 rfl rfl rfl (by omega) (by omega) rfl) ?_
  refine SS.ru _ CA.base rfl rfl rfl (lt_b rfl) (ru_fieldAddr (o2 := (8 + i.toNat * 2)) fd93_0 rfl rfl rfl) ?_
  refine SS.nilA ?_
  refine SL.store (i := 0) (c' := (nc A (up tv i.toNat (sl b4 0 f.length f.length)) cv)) rfl rfl ts28 rfl rfl rfl rfl rfl (by rw [nc_len]; omega) (.inl rfl) (set_tv (by omega) (sl b4 0 f.length f.length)) ?_
  refine SL.nn [(6, iw 0)] [rBlk d (nc A (up tv i.toNat (sl b4 0 f.length f.length)) cv) 99, rFrs F tv cv A.tb A.cb, rBlk b4 (f.map bv) 5] ⟨rfl, trivial⟩ ?_
  refine SC.sr ?_
  refine SL.as ?_
  refine SL.nn [(6, iw 0)] _ ⟨rfl, trivial⟩ ?_
  refine SC.ret ?_
  refine SE.res (.inl rfl) (res1 Try.results35 rfl) fun w1 hI => ?_
  have e : setTxF A i f = (0, { A with tb := up A.tb i.toNat f }) := by
    try simp at h1 h2 h3
    unfold setTxF
    (repeat' split) <;> first | rfl | (exfalso; omega) | (exfalso; simp_all; done) | (exfalso; simp_all; omega)
  rw [e]
  exact ⟨rfl, NicAt.fin_tx hbl hb4 hI⟩

theorem p_setrx {w : World} {d : Nat} {F : Nat → Prop} {A : NicA} (hk : NicOk A) (h : NicAt 99 w d F A) (i room : Int) : Calls Try.prog 79 #[pt d 0, iw i, iw room] w fun e w' => e = .returned (iw (setRxF A i room).1) ∧ NicTo 99 w d F (setRxF A i room).2 w' := by
  have hok := hk
  obtain ⟨r2, r3, r4, r5, r6, _, _, _⟩ := hok
  obtain ⟨tv, cv, hI⟩ := h.inv 26 (fun b => b = d)
  refine calls_sc (l0 := _) (args := [pt d 0, iw i, iw room]) (fun b => b = d) Try.func79 rfl 26 Try.ntmps79 (le_b rfl) hI ?_
  show SC _ _ _ _ [(0, pt d 0), (1, iw i), (2, iw room)] [rBlk d (nc A tv cv) 99, rFrs F tv cv A.tb A.cb]
  refine SC.sr ?_
  refine SL.as ?_
  refine SL.nn [(0, pt d 0), (1, iw i), (2, iw room), (6, iw 0)] [rBlk d (nc A tv cv) 99, rFrs F tv cv A.tb A.cb] ⟨rfl, rfl, rfl, rfl, trivial⟩ ?_
  refine SC.seq ?_
  refine SC.sr ?_
  refine SL.mv ?_
  refine SL.mv ?_
  refine SL.callv (bo (hostB i (A.r 2) (A.r 3))) rfl rfl co64 rfl rfl rfl (lt_b rfl) (fun w hI => H_only hI (p_hostrx hk (NicAt.of hI) i)) ?_
  refine SL.uu (ru_not (c := (!(hostB i (A.r 2) (A.r 3)))) rfl rfl rfl) ?_
  refine SL.mv ?_
  refine SL.join 3 [(0, pt d 0), (1, iw i), (2, iw room), (6, iw 0), (7, pt d 0), (8, iw i), (9, bo (hostB i (A.r 2) (A.r 3))), (10, bo (!(hostB i (A.r 2) (A.r 3)))), (11, bo (!(hostB i (A.r 2) (A.r 3)))), (14, bo ((!(hostB i (A.r 2) (A.r 3))) || (decide ((room : Int) < 0))))] [rBlk d (nc A tv cv) 99, rFrs F tv cv A.tb A.cb] ?_ ?_
  rotate_left
  · intro K hK
    rcases tf (!(hostB i (A.r 2) (A.r 3))) with h1 | h1
    · skip
      refine SL.norm [(0, pt d 0), (1, iw i), (2, iw room), (6, iw 0), (7, pt d 0), (8, iw i), (9, bo (hostB i (A.r 2) (A.r 3))), (10, bo true), (11, bo true)] _ ⟨rfl, rfl, rfl, rfl, rfl, rfl, rfl, (congrArg (fun x => some (Value.bool x)) h1), (congrArg (fun x => some (Value.bool x)) h1), trivial⟩ rfl ?_
      refine SL.oo ?_
      refine SL.oo ?_
      refine SL.uu (ru_pick (u := bo true) (v := undef) rfl rfl rfl rfl) ?_
      exact SL.joined hK ⟨rfl, rfl, rfl, rfl, rfl, rfl, rfl, (congrArg (fun x => some (Value.bool x)) h1.symm), (congrArg (fun x => some (Value.bool x)) h1.symm), (congrArg (fun x => some (Value.bool (x || (decide ((room : Int) < 0))))) h1.symm), trivial⟩ rfl
    refine SL.norm [(0, pt d 0), (1, iw i), (2, iw room), (6, iw 0), (7, pt d 0), (8, iw i), (9, bo (hostB i (A.r 2) (A.r 3))), (10, bo false), (11, bo false)] _ ⟨rfl, rfl, rfl, rfl, rfl, rfl, rfl, (congrArg (fun x => some (Value.bool x)) h1), (congrArg (fun x => some (Value.bool x)) h1), trivial⟩ rfl ?_
    refine SL.gg (ru_move rfl rfl) ?_
    refine SL.gg (ru_lt (b := (decide ((room : Int) < 0))) rfl rfl rfl rfl) ?_
    refine SL.uu (ru_pick (u := bo true) (v := bo (decide ((room : Int) < 0))) rfl rfl rfl rfl) ?_
    exact SL.joined hK ⟨rfl, rfl, rfl, rfl, rfl, rfl, rfl, (congrArg (fun x => some (Value.bool x)) h1.symm), (congrArg (fun x => some (Value.bool x)) h1.symm), (congrArg (fun x => some (Value.bool (x || (decide ((room : Int) < 0))))) h1.symm), trivial⟩ rfl
  skip
  refine SL.mv ?_
  refine SL.join 3 [(0, pt d 0), (1, iw i), (2, iw room), (6, iw 0), (7, pt d 0), (8, iw i), (9, bo (hostB i (A.r 2) (A.r 3))), (10, bo (!(hostB i (A.r 2) (A.r 3)))), (11, bo (!(hostB i (A.r 2) (A.r 3)))), (14, bo ((!(hostB i (A.r 2) (A.r 3))) || (decide ((room : Int) < 0)))), (15, bo ((!(hostB i (A.r 2) (A.r 3))) || (decide ((room : Int) < 0)))), (18, bo (((!(hostB i (A.r 2) (A.r 3))) || (decide ((room : Int) < 0))) || (decide ((65535 : Int) < room))))] [rBlk d (nc A tv cv) 99, rFrs F tv cv A.tb A.cb] ?_ ?_
  rotate_left
  · intro K hK
    rcases tf ((!(hostB i (A.r 2) (A.r 3))) || (decide ((room : Int) < 0))) with h2 | h2
    · skip
      refine SL.norm [(0, pt d 0), (1, iw i), (2, iw room), (6, iw 0), (7, pt d 0), (8, iw i), (9, bo (hostB i (A.r 2) (A.r 3))), (10, bo (!(hostB i (A.r 2) (A.r 3)))), (11, bo (!(hostB i (A.r 2) (A.r 3)))), (14, bo true), (15, bo true)] _ ⟨rfl, rfl, rfl, rfl, rfl, rfl, rfl, rfl, rfl, (congrArg (fun x => some (Value.bool x)) h2), (congrArg (fun x => some (Value.bool x)) h2), trivial⟩ rfl ?_
      refine SL.oo ?_
      refine SL.oo ?_
      refine SL.uu (ru_pick (u := bo true) (v := undef) rfl rfl rfl rfl) ?_
      exact SL.joined hK ⟨rfl, rfl, rfl, rfl, rfl, rfl, rfl, rfl, rfl, (congrArg (fun x => some (Value.bool x)) h2.symm), (congrArg (fun x => some (Value.bool x)) h2.symm), (congrArg (fun x => some (Value.bool (x || (decide ((65535 : Int) < room))))) h2.symm), trivial⟩ rfl
    refine SL.norm [(0, pt d 0), (1, iw i), (2, iw room), (6, iw 0), (7, pt d 0), (8, iw i), (9, bo (hostB i (A.r 2) (A.r 3))), (10, bo (!(hostB i (A.r 2) (A.r 3)))), (11, bo (!(hostB i (A.r 2) (A.r 3)))), (14, bo false), (15, bo false)] _ ⟨rfl, rfl, rfl, rfl, rfl, rfl, rfl, rfl, rfl, (congrArg (fun x => some (Value.bool x)) h2), (congrArg (fun x => some (Value.bool x)) h2), trivial⟩ rfl ?_
    refine SL.gg (ru_move rfl rfl) ?_
    refine SL.gg (ru_gt (b := (decide ((65535 : Int) < room))) rfl rfl rfl rfl) ?_
    refine SL.uu (ru_pick (u := bo true) (v := bo (decide ((65535 : Int) < room))) rfl rfl rfl rfl) ?_
    exact SL.joined hK ⟨rfl, rfl, rfl, rfl, rfl, rfl, rfl, rfl, rfl, (congrArg (fun x => some (Value.bool x)) h2.symm), (congrArg (fun x => some (Value.bool x)) h2.symm), (congrArg (fun x => some (Value.bool (x || (decide ((65535 : Int) < room))))) h2.symm), trivial⟩ rfl
  skip
  refine SL.nn [(0, pt d 0), (1, iw i), (2, iw room), (6, iw 0), (18, bo (((!(hostB i (A.r 2) (A.r 3))) || (decide ((room : Int) < 0))) || (decide ((65535 : Int) < room))))] _ ⟨rfl, rfl, rfl, rfl, rfl, trivial⟩ ?_
  refine SC.both (((!(hostB i (A.r 2) (A.r 3))) || (decide ((room : Int) < 0))) || (decide ((65535 : Int) < room))) rfl (fun h3 => ?_) (fun h3 => ?_)
  · skip
    refine SC.sr ?_
    refine SL.as ?_
    refine SL.nn [(0, pt d 0), (1, iw i), (2, iw room), (6, iw 1)] _ ⟨rfl, rfl, rfl, rfl, trivial⟩ ?_
    refine SC.ret ?_
    refine SE.passr ?_
    refine SE.res (.inl rfl) (res1 Try.results79 rfl) fun w1 hI => ?_
    have e : setRxF A i room = (1, A) := by
      try simp at h3
      unfold setRxF
      (repeat' split) <;> first | rfl | (exfalso; omega) | (exfalso; simp_all; done) | (exfalso; simp_all; omega)
    rw [e]
    exact ⟨rfl, NicAt.fin hI⟩
  have hi := host_bd3 h3
  refine SC.skip ?_
  refine SC.of_SE ?_
  refine SC.norm [(0, pt d 0), (1, iw i), (2, iw room), (6, iw 0)] _ ⟨rfl, rfl, rfl, rfl, trivial⟩ rfl ?_
  refine SC.sr ?_
  refine SL.mv ?_
  refine SL.mv ?_
  refine SL.mv ?_
  refine SL.uu (ru_build (vals := [(0, iw room)]) (cells := [iw room, bo false, Value.slice none 0 0, bo false]) rfl rfl (by kernel_rfl)) ?_
  refine SL.nk ?_
  refine SL.uu (ru_fieldAddr (o2 := 40) fd99_2 rfl rfl rfl) ?_
  refine SL.uu (ru_indexA (o2 := 40 + i.toNat * 4) ar97 rfl rfl rfl (by omega) (by omega) rfl) ?_
  refine SL.storea (i := 0) (vs := [iw room, bo false, Value.slice none 0 0, bo false]) (c' := (nc { A with room := up A.room i.toNat room, has := up A.has i.toNat false, bad := up A.bad i.toNat false } tv (up cv i.toNat (Value.slice none 0 0)))) rfl rfl ta96 rfl rfl rfl rfl rfl rfl (by rw [nc_len]; simp; omega) (.inl rfl) (set_rx (by omega) room false false (Value.slice none 0 0)) ?_
  refine SL.nn [(6, iw 0)] [rBlk d (nc { A with room := up A.room i.toNat room, has := up A.has i.toNat false, bad := up A.bad i.toNat false } tv (up cv i.toNat (Value.slice none 0 0))) 99, rFrs F tv cv A.tb A.cb] ⟨rfl, trivial⟩ ?_
  refine SC.sr ?_
  refine SL.as ?_
  refine SL.nn [(6, iw 0)] _ ⟨rfl, trivial⟩ ?_
  refine SC.ret ?_
  refine SE.res (.inl rfl) (res1 Try.results79 rfl) fun w1 hI => ?_
  have e : setRxF A i room = (0, { A with cb := up A.cb i.toNat [], room := up A.room i.toNat room, has := up A.has i.toNat false, bad := up A.bad i.toNat false }) := by
    try simp at h3
    unfold setRxF
    (repeat' split) <;> first | rfl | (exfalso; omega) | (exfalso; simp_all; done) | (exfalso; simp_all; omega)
  rw [e]
  exact ⟨rfl, NicAt.fin_no hI⟩

theorem p_give {w : World} {d : Nat} {F : Nat → Prop} {A : NicA} (hk : NicOk A) (h : NicAt 99 w d F A) {v : Value} {f : List UInt8} (hb : BytesAt w v f) (hs : sliceIn v (fun b => ¬ b = d)) (bad : Bool) : Calls Try.prog 13 #[pt d 0, v, bo bad] w fun e w' => e = .returned (iw (giveF A f bad).1) ∧ NicTo 99 w d F (giveF A f bad).2 w' := by
  have hok := hk
  obtain ⟨r2, r3, r4, r5, r6, _, _, _⟩ := hok
  obtain ⟨a, c, rfl⟩ := hb.form
  have hbl := hb.len
  obtain ⟨tv, cv, hI⟩ := h.inv 84 (fun b => b = d)
  refine calls_sc (l0 := _) (args := [pt d 0, Value.slice a f.length c, bo bad]) (fun b => b = d) Try.func13 rfl 84 Try.ntmps13 (le_b rfl) hI ?_
  show SC _ _ _ _ [(0, pt d 0), (1, Value.slice a f.length c), (2, bo bad)] [rBlk d (nc A tv cv) 99, rFrs F tv cv A.tb A.cb]
  refine SC.sr ?_
  refine SL.as ?_
  refine SL.nn [(0, pt d 0), (1, Value.slice a f.length c), (2, bo bad), (6, iw 0)] [rBlk d (nc A tv cv) 99, rFrs F tv cv A.tb A.cb] ⟨rfl, rfl, rfl, rfl, trivial⟩ ?_
  refine SC.sr ?_
  refine SL.mv ?_
  refine SL.nk ?_
  refine SL.uu (ru_fieldAddr (o2 := 0) fd99_0 rfl rfl rfl) ?_
  refine SL.uu (ru_indexA (o2 := 2) ar91 rfl rfl rfl (by decide) (by decide) rfl) ?_
  refine SL.uu (ru_load (i := 0) (v := iw (A.r 2)) ts3 rfl rfl rfl (nc_r (by decide))) ?_
  refine SL.as ?_
  refine SL.nn [(0, pt d 0), (1, Value.slice a f.length c), (2, bo bad), (6, iw 0), (7, iw (A.r 2))] _ ⟨rfl, rfl, rfl, rfl, rfl, trivial⟩ ?_
  refine SC.seq ?_
  refine SC.block ?_
  refine SC.sr ?_
  refine SL.mv ?_
  refine SL.callv (bo (offB A)) rfl rfl co41 rfl rfl rfl (lt_b rfl) (fun w hI => H_only hI (p_off hk (NicAt.of hI))) ?_
  refine SL.as ?_
  refine SL.nn [(0, pt d 0), (1, Value.slice a f.length c), (2, bo bad), (6, iw 0), (7, iw (A.r 2)), (13, bo (offB A))] _ ⟨rfl, rfl, rfl, rfl, rfl, rfl, trivial⟩ ?_
  refine SC.both (offB A) rfl (fun h1 => ?_) (fun h1 => ?_)
  · skip
    refine SC.sr ?_
    refine SL.as ?_
    refine SL.nn [(0, pt d 0), (1, Value.slice a f.length c), (2, bo bad), (6, iw 20), (7, iw (A.r 2))] _ ⟨rfl, rfl, rfl, rfl, rfl, trivial⟩ ?_
    refine SC.ret ?_
    refine SE.blkr ?_
    refine SE.passr ?_
    refine SE.res (.inl rfl) (res1 Try.results13 rfl) fun w1 hI => ?_
    have e : giveF A f bad = (20, A) := by
      try simp at h1
      unfold giveF
      (repeat' split) <;> first | rfl | (exfalso; omega) | (exfalso; simp_all; done) | (exfalso; simp_all; omega)
    rw [e]
    exact ⟨rfl, NicAt.fin hI⟩
  refine SC.sr ?_
  refine SL.mv ?_
  refine SL.mv ?_
  refine SL.nk ?_
  refine SL.uu (ru_fieldAddr (o2 := 0) fd99_0 rfl rfl rfl) ?_
  refine SL.uu (ru_indexA (o2 := 3) ar91 rfl rfl rfl (by decide) (by decide) rfl) ?_
  refine SL.uu (ru_load (i := 0) (v := iw (A.r 3)) ts3 rfl rfl rfl (nc_r (by decide))) ?_
  refine SL.uu (ru_eq (b := (((A.r 2) : Int) == (A.r 3))) rfl rfl rfl rfl) ?_
  refine SL.as ?_
  refine SL.nn [(0, pt d 0), (1, Value.slice a f.length c), (2, bo bad), (6, iw 0), (7, iw (A.r 2)), (16, bo (((A.r 2) : Int) == (A.r 3)))] _ ⟨rfl, rfl, rfl, rfl, rfl, rfl, trivial⟩ ?_
  refine SC.both (((A.r 2) : Int) == (A.r 3)) rfl (fun h2 => ?_) (fun h2 => ?_)
  · skip
    refine SC.seq ?_
    refine SC.region_tail 9 (by kernel_rfl) (by kernel_rfl) ?_
    refine SQ.uu (ru_move rfl rfl) ?_
    refine SQ.uu (ru_nilCheck rfl rfl) ?_
    refine SQ.uu (ru_fieldAddr (o2 := 0) fd99_0 rfl rfl rfl) ?_
    refine SQ.uu (ru_indexA (o2 := 7) ar91 rfl rfl rfl (by decide) (by decide) rfl) ?_
    refine SQ.uu (ru_load (i := 0) (v := iw (A.r 7)) ts3 rfl rfl rfl (nc_r (by decide))) ?_
    refine SQ.uu (ru_add (r := (IntKind.i64.wrap ((A.r 7) + 1))) rfl rfl rfl rfl) ?_
    refine SQ.uu (ru_nilCheck rfl rfl) ?_
    refine SQ.uu (ru_fieldAddr (o2 := 0) fd99_0 rfl rfl rfl) ?_
    refine SQ.uu (ru_indexA (o2 := 7) ar91 rfl rfl rfl (by decide) (by decide) rfl) ?_
    refine SQ.nilL ?_
    refine SL.store (i := 0) (c' := (nc { A with r := up A.r 7 (IntKind.i64.wrap ((A.r 7) + 1)) } tv cv)) rfl rfl ts3 rfl rfl rfl rfl rfl (by rw [nc_len]; omega) (.inl rfl) (set_r (by decide) (IntKind.i64.wrap ((A.r 7) + 1))) ?_
    refine SL.nn [(0, pt d 0), (1, Value.slice a f.length c), (2, bo bad), (6, iw 0), (7, iw (A.r 2))] [rBlk d (nc { A with r := up A.r 7 (IntKind.i64.wrap ((A.r 7) + 1)) } tv cv) 99, rFrs F tv cv A.tb A.cb] ⟨rfl, rfl, rfl, rfl, rfl, trivial⟩ ?_
    refine SC.sr ?_
    refine SL.as ?_
    refine SL.nn [(0, pt d 0), (1, Value.slice a f.length c), (2, bo bad), (6, iw 21), (7, iw (A.r 2))] _ ⟨rfl, rfl, rfl, rfl, rfl, trivial⟩ ?_
    refine SC.ret ?_
    refine SE.blkr ?_
    refine SE.passr ?_
    refine SE.res (.inl rfl) (res1 Try.results13 rfl) fun w1 hI => ?_
    have e : giveF A f bad = (21, { A with r := up A.r 7 (IntKind.i64.wrap ((A.r 7) + 1)) }) := by
      try simp at h1 h2
      unfold giveF
      (repeat' split) <;> first | rfl | (exfalso; omega) | (exfalso; simp_all; done) | (exfalso; simp_all; omega)
    rw [e]
    exact ⟨rfl, NicAt.fin hI⟩
  refine SC.sr ?_
  refine SL.mv ?_
  refine SL.uu (ru_len Try.underlying28 rfl rfl) ?_
  refine SL.mv ?_
  refine SL.mv ?_
  refine SL.nk ?_
  refine SL.uu (ru_fieldAddr (o2 := 40) fd99_2 rfl rfl rfl) ?_
  refine SL.uu (ru_indexA (o2 := 40 + ((A.r 2).toNat) * 4) ar97 rfl rfl rfl (by omega) (by omega) rfl) ?_
  refine SL.uu (ru_fieldAddr (o2 := (40 + ((A.r 2).toNat) * 4)) fd96_0 rfl rfl rfl) ?_
  refine SL.uu (ru_load (i := 0) (v := iw (A.room ((A.r 2).toNat))) ts3 rfl rfl rfl (nc_room (by omega))) ?_
  refine SL.uu (ru_gt (b := (decide (((A.room ((A.r 2).toNat)) : Int) < (f.length : Int)))) rfl rfl rfl rfl) ?_
  refine SL.as ?_
  refine SL.nn [(0, pt d 0), (1, Value.slice a f.length c), (2, bo bad), (6, iw 0), (7, iw (A.r 2)), (33, bo (decide (((A.room ((A.r 2).toNat)) : Int) < (f.length : Int))))] _ ⟨rfl, rfl, rfl, rfl, rfl, rfl, trivial⟩ ?_
  refine SC.both (decide (((A.room ((A.r 2).toNat)) : Int) < (f.length : Int))) rfl (fun h3 => ?_) (fun h3 => ?_)
  · skip
    refine SC.seq ?_
    refine SC.region_tail 9 (by kernel_rfl) (by kernel_rfl) ?_
    refine SQ.uu (ru_move rfl rfl) ?_
    refine SQ.uu (ru_nilCheck rfl rfl) ?_
    refine SQ.uu (ru_fieldAddr (o2 := 0) fd99_0 rfl rfl rfl) ?_
    refine SQ.uu (ru_indexA (o2 := 7) ar91 rfl rfl rfl (by decide) (by decide) rfl) ?_
    refine SQ.uu (ru_load (i := 0) (v := iw (A.r 7)) ts3 rfl rfl rfl (nc_r (by decide))) ?_
    refine SQ.uu (ru_add (r := (IntKind.i64.wrap ((A.r 7) + 1))) rfl rfl rfl rfl) ?_
    refine SQ.uu (ru_nilCheck rfl rfl) ?_
    refine SQ.uu (ru_fieldAddr (o2 := 0) fd99_0 rfl rfl rfl) ?_
    refine SQ.uu (ru_indexA (o2 := 7) ar91 rfl rfl rfl (by decide) (by decide) rfl) ?_
    refine SQ.nilL ?_
    refine SL.store (i := 0) (c' := (nc { A with r := up A.r 7 (IntKind.i64.wrap ((A.r 7) + 1)) } tv cv)) rfl rfl ts3 rfl rfl rfl rfl rfl (by rw [nc_len]; omega) (.inl rfl) (set_r (by decide) (IntKind.i64.wrap ((A.r 7) + 1))) ?_
    refine SL.nn [(0, pt d 0), (1, Value.slice a f.length c), (2, bo bad), (6, iw 0), (7, iw (A.r 2))] [rBlk d (nc { A with r := up A.r 7 (IntKind.i64.wrap ((A.r 7) + 1)) } tv cv) 99, rFrs F tv cv A.tb A.cb] ⟨rfl, rfl, rfl, rfl, rfl, trivial⟩ ?_
    refine SC.sr ?_
    refine SL.as ?_
    refine SL.nn [(0, pt d 0), (1, Value.slice a f.length c), (2, bo bad), (6, iw 2), (7, iw (A.r 2))] _ ⟨rfl, rfl, rfl, rfl, rfl, trivial⟩ ?_
    refine SC.ret ?_
    refine SE.blkr ?_
    refine SE.passr ?_
    refine SE.res (.inl rfl) (res1 Try.results13 rfl) fun w1 hI => ?_
    have e : giveF A f bad = (2, { A with r := up A.r 7 (IntKind.i64.wrap ((A.r 7) + 1)) }) := by
      try simp at h1 h2 h3
      unfold giveF
      (repeat' split) <;> first | rfl | (exfalso; omega) | (exfalso; simp_all; done) | (exfalso; simp_all; omega)
    rw [e]
    exact ⟨rfl, NicAt.fin hI⟩
  refine SC.skip ?_
  refine SE.blkn ?_
  refine SC.of_SE ?_
  refine SC.norm [(0, pt d 0), (1, Value.slice a f.length c), (2, bo bad), (6, iw 0), (7, iw (A.r 2))] _ ⟨rfl, rfl, rfl, rfl, rfl, trivial⟩ rfl ?_
  refine SC.seq ?_
  refine SC.region_alloc 16 10 (fun b4 => rBlk b4 (f.map bv) 5) (by kernel_rfl) (by kernel_rfl) rfl (fun b4 hb4 => ?_)
  refine SS.ru _ CA.base rfl rfl rfl (lt_b rfl) (ru_move rfl rfl) ?_
  refine SS.ru _ CA.base rfl rfl rfl (lt_b rfl) (ru_move rfl rfl) ?_
  refine SS.ru _ CA.base rfl rfl rfl (lt_b rfl) (ru_move rfl rfl) ?_
  refine SS.ru _ CA.base rfl rfl rfl (lt_b rfl) (ru_move rfl rfl) ?_
  refine SS.ru _ CA.base rfl rfl rfl (lt_b rfl) (ru_nilCheck rfl rfl) ?_
  refine SS.ru _ CA.base rfl rfl rfl (lt_b rfl) (ru_fieldAddr (o2 := 40) fd99_2 rfl rfl rfl) ?_
  refine SS.ru _ CA.base rfl rfl rfl (lt_b rfl) (ru_indexA (o2 := 40 + ((A.r 2).toNat) * 4) ar97 rfl rfl rfl (by omega) (by omega) rfl) ?_
  refine SS.ru _ CA.base rfl rfl rfl (lt_b rfl) (ru_fieldAddr (o2 := (40 + ((A.r 2).toNat) * 4)) fd96_0 rfl rfl rfl) ?_
  refine SS.ru _ CA.base rfl rfl rfl (lt_b rfl) (ru_load (i := 0) (v := iw (A.room ((A.r 2).toNat))) ts3 rfl rfl rfl (nc_room (by omega))) ?_
  refine SS.ru _ CA.base rfl rfl rfl (lt_b rfl) (ru_move rfl rfl) ?_
  refine SS.newcall (sl b4 0 f.length f.length) rfl rfl co43 rfl rfl rfl (lt_b rfl) (fun w hI hz => (copied_any (hb.only hI.2 hs)).mono fun e w2 ⟨h1, h2, h3⟩ => ⟨by rw [h1, hz], hI.add h3 (hz ▸ h2) (fun q hq => by cases hq; rw [hz]; exact Nat.le_refl _)⟩) ?_
  refine SS.ru _ CA.base rfl rfl rfl (lt_b rfl) (ru_move rfl rfl) ?_
  refine SS.ru _ CA.base rfl rfl rfl (lt_b rfl) (ru_build (vals := [(0, iw (A.room ((A.r 2).toNat))), (1, bo true), (2, sl b4 0 f.length f.length), (3, bo bad)]) (cells := [iw (A.room ((A.r 2).toNat)), bo true, sl b4 0 f.length f.length, bo bad]) rfl rfl (by kernel_rfl)) ?_
  refine SS.ru _ CA.base rfl rfl rfl (lt_b rfl) (ru_nilCheck rfl rfl) ?_
  refine SS.ru _ CA.base rfl rfl rfl (lt_b rfl) (ru_fieldAddr (o2 := 40) fd99_2 rfl rfl rfl) ?_
  refine SS.ru _ CA.base rfl rfl rfl (lt_b rfl) (ru_indexA (o2 := 40 + ((A.r 2).toNat) * 4) ar97 rfl rfl rfl (by omega) (by omega) rfl) ?_
  refine SS.nilA ?_
  refine SL.storea (i := 0) (vs := [iw (A.room ((A.r 2).toNat)), bo true, sl b4 0 f.length f.length, bo bad]) (c' := (nc { A with room := up A.room ((A.r 2).toNat) (A.room ((A.r 2).toNat)), has := up A.has ((A.r 2).toNat) true, bad := up A.bad ((A.r 2).toNat) bad } tv (up cv ((A.r 2).toNat) (sl b4 0 f.length f.length)))) rfl rfl ta96 rfl rfl rfl rfl rfl rfl (by rw [nc_len]; simp; omega) (.inl rfl) (set_rx (by omega) (A.room ((A.r 2).toNat)) true bad (sl b4 0 f.length f.length)) ?_
  refine SL.nn [(0, pt d 0), (6, iw 0), (7, iw (A.r 2))] [rBlk d (nc { A with room := up A.room ((A.r 2).toNat) (A.room ((A.r 2).toNat)), has := up A.has ((A.r 2).toNat) true, bad := up A.bad ((A.r 2).toNat) bad } tv (up cv ((A.r 2).toNat) (sl b4 0 f.length f.length))) 99, rFrs F tv cv A.tb A.cb, rBlk b4 (f.map bv) 5] ⟨rfl, rfl, rfl, trivial⟩ ?_
  refine SC.seq ?_
  refine SC.region_tail 6 (by kernel_rfl) (by kernel_rfl) ?_
  refine SQ.uu (ru_move rfl rfl) ?_
  refine SQ.uu (ru_move rfl rfl) ?_
  refine SQ.call (iw (nx (A.r 2))) rfl rfl co42 rfl rfl rfl (lt_b rfl) (fun w hI => H_same hI (next_any w (by omega))) ?_
  refine SQ.uu (ru_nilCheck rfl rfl) ?_
  refine SQ.uu (ru_fieldAddr (o2 := 0) fd99_0 rfl rfl rfl) ?_
  refine SQ.uu (ru_indexA (o2 := 2) ar91 rfl rfl rfl (by decide) (by decide) rfl) ?_
  refine SQ.nilL ?_
  refine SL.store (i := 0) (c' := (nc { A with r := up A.r 2 (nx (A.r 2)), room := up A.room ((A.r 2).toNat) (A.room ((A.r 2).toNat)), has := up A.has ((A.r 2).toNat) true, bad := up A.bad ((A.r 2).toNat) bad } tv (up cv ((A.r 2).toNat) (sl b4 0 f.length f.length)))) rfl rfl ts3 rfl rfl rfl rfl rfl (by rw [nc_len]; omega) (.inl rfl) (set_r (by decide) (nx (A.r 2))) ?_
  refine SL.nn [(0, pt d 0), (6, iw 0)] [rBlk d (nc { A with r := up A.r 2 (nx (A.r 2)), room := up A.room ((A.r 2).toNat) (A.room ((A.r 2).toNat)), has := up A.has ((A.r 2).toNat) true, bad := up A.bad ((A.r 2).toNat) bad } tv (up cv ((A.r 2).toNat) (sl b4 0 f.length f.length))) 99, rFrs F tv cv A.tb A.cb, rBlk b4 (f.map bv) 5] ⟨rfl, rfl, trivial⟩ ?_
  refine SC.seq ?_
  refine SC.region_tail 9 (by kernel_rfl) (by kernel_rfl) ?_
  refine SQ.uu (ru_move rfl rfl) ?_
  refine SQ.uu (ru_nilCheck rfl rfl) ?_
  refine SQ.uu (ru_fieldAddr (o2 := 0) fd99_0 rfl rfl rfl) ?_
  refine SQ.uu (ru_indexA (o2 := 6) ar91 rfl rfl rfl (by decide) (by decide) rfl) ?_
  refine SQ.uu (ru_load (i := 0) (v := iw (A.r 6)) ts3 rfl rfl rfl (nc_r (by decide))) ?_
  refine SQ.uu (ru_or (r := (bits .or .i64 (A.r 6) 1)) rfl rfl rfl rfl) ?_
  refine SQ.uu (ru_nilCheck rfl rfl) ?_
  refine SQ.uu (ru_fieldAddr (o2 := 0) fd99_0 rfl rfl rfl) ?_
  refine SQ.uu (ru_indexA (o2 := 6) ar91 rfl rfl rfl (by decide) (by decide) rfl) ?_
  refine SQ.nilL ?_
  refine SL.store (i := 0) (c' := (nc { A with r := up (up A.r 2 (nx (A.r 2))) 6 (bits .or .i64 (A.r 6) 1), room := up A.room ((A.r 2).toNat) (A.room ((A.r 2).toNat)), has := up A.has ((A.r 2).toNat) true, bad := up A.bad ((A.r 2).toNat) bad } tv (up cv ((A.r 2).toNat) (sl b4 0 f.length f.length)))) rfl rfl ts3 rfl rfl rfl rfl rfl (by rw [nc_len]; omega) (.inl rfl) (set_r (by decide) (bits .or .i64 (A.r 6) 1)) ?_
  refine SL.nn [(6, iw 0)] [rBlk d (nc { A with r := up (up A.r 2 (nx (A.r 2))) 6 (bits .or .i64 (A.r 6) 1), room := up A.room ((A.r 2).toNat) (A.room ((A.r 2).toNat)), has := up A.has ((A.r 2).toNat) true, bad := up A.bad ((A.r 2).toNat) bad } tv (up cv ((A.r 2).toNat) (sl b4 0 f.length f.length))) 99, rFrs F tv cv A.tb A.cb, rBlk b4 (f.map bv) 5] ⟨rfl, trivial⟩ ?_
  refine SC.sr ?_
  refine SL.as ?_
  refine SL.nn [(6, iw 0)] _ ⟨rfl, trivial⟩ ?_
  refine SC.ret ?_
  refine SE.res (.inl rfl) (res1 Try.results13 rfl) fun w1 hI => ?_
  have e : giveF A f bad = (0, { A with cb := up A.cb (A.r 2).toNat f, r := up (up A.r 2 (nx (A.r 2))) 6 (bits .or .i64 (A.r 6) 1), room := up A.room ((A.r 2).toNat) (A.room ((A.r 2).toNat)), has := up A.has ((A.r 2).toNat) true, bad := up A.bad ((A.r 2).toNat) bad }) := by
    try simp at h1 h2 h3
    unfold giveF
    (repeat' split) <;> first | rfl | (exfalso; omega) | (exfalso; simp_all; done) | (exfalso; simp_all; omega)
  rw [e]
  exact ⟨rfl, NicAt.fin_rx hbl hb4 hI⟩

theorem p_take {w : World} {d : Nat} {F : Nat → Prop} {A : NicA} (hk : NicOk A) (h : NicAt 99 w d F A)  : Calls Try.prog 12 #[pt d 0] w fun e w' => ∃ v, e = .returned (.tuple #[.agg #[v, bo false, iw (takeR A).1.1.2], iw (takeR A).1.2]) ∧ NicAt 99 w' d F (takeR A).2 ∧ Only (fun b => b = d) w w' ∧ Out 5 w w' v (takeR A).1.1.1 := by
  have hok := hk
  obtain ⟨r2, r3, r4, r5, r6, _, _, _⟩ := hok
  obtain ⟨tv, cv, hI⟩ := h.inv 54 (fun b => b = d)
  refine calls_sc (l0 := _) (args := [pt d 0]) (fun b => b = d) Try.func12 rfl 54 Try.ntmps12 (le_b rfl) hI ?_
  show SC _ _ _ _ [(0, pt d 0)] [rBlk d (nc A tv cv) 99, rFrs F tv cv A.tb A.cb]
  refine SC.sr ?_
  refine SL.alloca rfl rfl (lt_b rfl) ta49 rfl fun b1 hb1 => ?_
  refine SL.as ?_
  refine SL.nn [(0, pt d 0), (2, pt b1 0), (3, iw 0)] [rBlk d (nc A tv cv) 99, rFrs F tv cv A.tb A.cb, rBlk b1 [Value.slice none 0 0, bo false, iw 0] 49] ⟨rfl, rfl, rfl, trivial⟩ ?_
  refine SC.sr ?_
  refine SL.mv ?_
  refine SL.nk ?_
  refine SL.uu (ru_fieldAddr (o2 := 0) fd99_0 rfl rfl rfl) ?_
  refine SL.uu (ru_indexA (o2 := 4) ar91 rfl rfl rfl (by decide) (by decide) rfl) ?_
  refine SL.uu (ru_load (i := 0) (v := iw (A.r 4)) ts3 rfl rfl rfl (nc_r (by decide))) ?_
  refine SL.as ?_
  refine SL.nn [(0, pt d 0), (2, pt b1 0), (3, iw 0), (4, iw (A.r 4))] _ ⟨rfl, rfl, rfl, rfl, trivial⟩ ?_
  refine SC.seq ?_
  refine SC.block ?_
  refine SC.sr ?_
  refine SL.mv ?_
  refine SL.callv (bo (offB A)) rfl rfl co41 rfl rfl rfl (lt_b rfl) (fun w hI => H_only hI (p_off hk (NicAt.of hI))) ?_
  refine SL.as ?_
  refine SL.nn [(0, pt d 0), (2, pt b1 0), (3, iw 0), (4, iw (A.r 4)), (10, bo (offB A))] _ ⟨rfl, rfl, rfl, rfl, rfl, trivial⟩ ?_
  refine SC.both (offB A) rfl (fun h2 => ?_) (fun h2 => ?_)
  · skip
    refine SC.sr ?_
    refine SL.uu (ru_build (vals := []) (cells := [Value.slice none 0 0, bo false, iw 0]) rfl rfl (by kernel_rfl)) ?_
    refine SL.storea (i := 2) (vs := [Value.slice none 0 0, bo false, iw 0]) (c' := [Value.slice none 0 0, bo false, iw 0]) rfl rfl ta49 rfl rfl rfl rfl rfl rfl (le_b rfl) (.inr hb1) rfl ?_
    refine SL.as ?_
    refine SL.nn [(0, pt d 0), (2, pt b1 0), (3, iw 20), (4, iw (A.r 4))] _ ⟨rfl, rfl, rfl, rfl, trivial⟩ ?_
    refine SC.ret ?_
    refine SE.blkr ?_
    refine SE.passr ?_
    refine SE.res (.inl rfl) (res_ct (z := [Value.slice none 0 0, bo false, iw 0]) (c := [Value.slice none 0 0, bo false, iw 0]) Try.results12 ta49 rfl rfl 2 rfl rfl) fun w1 hI => ?_
    have e : takeR A = ((([], 0), 20), A) := by
      try simp at h2
      unfold takeR
      (repeat' split) <;> first | rfl | (exfalso; omega) | (exfalso; simp_all; done) | (exfalso; simp_all; omega)
    rw [e]
    exact ⟨_, rfl, NicAt.of hI, hI.2, .inl ⟨rfl, rfl⟩⟩
  refine SC.sr ?_
  refine SL.mv ?_
  refine SL.mv ?_
  refine SL.nk ?_
  refine SL.uu (ru_fieldAddr (o2 := 0) fd99_0 rfl rfl rfl) ?_
  refine SL.uu (ru_indexA (o2 := 5) ar91 rfl rfl rfl (by decide) (by decide) rfl) ?_
  refine SL.uu (ru_load (i := 0) (v := iw (A.r 5)) ts3 rfl rfl rfl (nc_r (by decide))) ?_
  refine SL.uu (ru_eq (b := (((A.r 4) : Int) == (A.r 5))) rfl rfl rfl rfl) ?_
  refine SL.as ?_
  refine SL.nn [(0, pt d 0), (2, pt b1 0), (3, iw 0), (4, iw (A.r 4)), (14, bo (((A.r 4) : Int) == (A.r 5)))] _ ⟨rfl, rfl, rfl, rfl, rfl, trivial⟩ ?_
  refine SC.both (((A.r 4) : Int) == (A.r 5)) rfl (fun h3 => ?_) (fun h3 => ?_)
  · skip
    refine SC.sr ?_
    refine SL.uu (ru_build (vals := []) (cells := [Value.slice none 0 0, bo false, iw 0]) rfl rfl (by kernel_rfl)) ?_
    refine SL.storea (i := 2) (vs := [Value.slice none 0 0, bo false, iw 0]) (c' := [Value.slice none 0 0, bo false, iw 0]) rfl rfl ta49 rfl rfl rfl rfl rfl rfl (le_b rfl) (.inr hb1) rfl ?_
    refine SL.as ?_
    refine SL.nn [(0, pt d 0), (2, pt b1 0), (3, iw 7), (4, iw (A.r 4))] _ ⟨rfl, rfl, rfl, rfl, trivial⟩ ?_
    refine SC.ret ?_
    refine SE.blkr ?_
    refine SE.passr ?_
    refine SE.res (.inl rfl) (res_ct (z := [Value.slice none 0 0, bo false, iw 0]) (c := [Value.slice none 0 0, bo false, iw 0]) Try.results12 ta49 rfl rfl 2 rfl rfl) fun w1 hI => ?_
    have e : takeR A = ((([], 0), 7), A) := by
      try simp at h2 h3
      unfold takeR
      (repeat' split) <;> first | rfl | (exfalso; omega) | (exfalso; simp_all; done) | (exfalso; simp_all; omega)
    rw [e]
    exact ⟨_, rfl, NicAt.of hI, hI.2, .inl ⟨rfl, rfl⟩⟩
  refine SC.skip ?_
  refine SE.blkn ?_
  refine SC.of_SE ?_
  refine SC.norm [(0, pt d 0), (2, pt b1 0), (3, iw 0), (4, iw (A.r 4))] _ ⟨rfl, rfl, rfl, rfl, trivial⟩ rfl ?_
  refine SC.seq ?_
  refine SC.region_tail 6 (by kernel_rfl) (by kernel_rfl) ?_
  refine SQ.uu (ru_move rfl rfl) ?_
  refine SQ.uu (ru_move rfl rfl) ?_
  refine SQ.call (iw (nx (A.r 4))) rfl rfl co42 rfl rfl rfl (lt_b rfl) (fun w hI => H_same hI (next_any w (by omega))) ?_
  refine SQ.uu (ru_nilCheck rfl rfl) ?_
  refine SQ.uu (ru_fieldAddr (o2 := 0) fd99_0 rfl rfl rfl) ?_
  refine SQ.uu (ru_indexA (o2 := 4) ar91 rfl rfl rfl (by decide) (by decide) rfl) ?_
  refine SQ.nilL ?_
  refine SL.store (i := 0) (c' := (nc { A with r := up A.r 4 (nx (A.r 4)) } tv cv)) rfl rfl ts3 rfl rfl rfl rfl rfl (by rw [nc_len]; omega) (.inl rfl) (set_r (by decide) (nx (A.r 4))) ?_
  refine SL.nn [(0, pt d 0), (2, pt b1 0), (3, iw 0), (4, iw (A.r 4))] [rBlk d (nc { A with r := up A.r 4 (nx (A.r 4)) } tv cv) 99, rFrs F tv cv A.tb A.cb, rBlk b1 [Value.slice none 0 0, bo false, iw 0] 49] ⟨rfl, rfl, rfl, rfl, trivial⟩ ?_
  refine SC.seq ?_
  refine SC.region_tail 9 (by kernel_rfl) (by kernel_rfl) ?_
  refine SQ.uu (ru_move rfl rfl) ?_
  refine SQ.uu (ru_nilCheck rfl rfl) ?_
  refine SQ.uu (ru_fieldAddr (o2 := 0) fd99_0 rfl rfl rfl) ?_
  refine SQ.uu (ru_indexA (o2 := 6) ar91 rfl rfl rfl (by decide) (by decide) rfl) ?_
  refine SQ.uu (ru_load (i := 0) (v := iw (A.r 6)) ts3 rfl rfl rfl (nc_r (by decide))) ?_
  refine SQ.uu (ru_or (r := (bits .or .i64 (A.r 6) 2)) rfl rfl rfl rfl) ?_
  refine SQ.uu (ru_nilCheck rfl rfl) ?_
  refine SQ.uu (ru_fieldAddr (o2 := 0) fd99_0 rfl rfl rfl) ?_
  refine SQ.uu (ru_indexA (o2 := 6) ar91 rfl rfl rfl (by decide) (by decide) rfl) ?_
  refine SQ.nilL ?_
  refine SL.store (i := 0) (c' := (nc { A with r := up (up A.r 4 (nx (A.r 4))) 6 (bits .or .i64 (A.r 6) 2) } tv cv)) rfl rfl ts3 rfl rfl rfl rfl rfl (by rw [nc_len]; omega) (.inl rfl) (set_r (by decide) (bits .or .i64 (A.r 6) 2)) ?_
  refine SL.nn [(0, pt d 0), (2, pt b1 0), (3, iw 0), (4, iw (A.r 4))] [rBlk d (nc { A with r := up (up A.r 4 (nx (A.r 4))) 6 (bits .or .i64 (A.r 6) 2) } tv cv) 99, rFrs F tv cv A.tb A.cb, rBlk b1 [Value.slice none 0 0, bo false, iw 0] 49] ⟨rfl, rfl, rfl, rfl, trivial⟩ ?_
  refine SC.seq ?_
  refine SC.region_alloc 16 7 (fun b4 => rBlk b4 ((A.tb (A.r 4).toNat).map bv) 5) (by kernel_rfl) (by kernel_rfl) rfl (fun b4 hb4 => ?_)
  refine SS.ru _ CA.base rfl rfl rfl (lt_b rfl) (ru_move rfl rfl) ?_
  refine SS.ru _ CA.base rfl rfl rfl (lt_b rfl) (ru_move rfl rfl) ?_
  refine SS.ru _ CA.base rfl rfl rfl (lt_b rfl) (ru_nilCheck rfl rfl) ?_
  refine SS.ru _ CA.base rfl rfl rfl (lt_b rfl) (ru_fieldAddr (o2 := 8) fd99_1 rfl rfl rfl) ?_
  refine SS.ru _ CA.base rfl rfl rfl (lt_b rfl) (ru_indexA (o2 := 8 + ((A.r 4).toNat) * 2) ar94 rfl rfl rfl (by omega) (by omega) rfl) ?_
  refine SS.ru _ CA.base rfl rfl rfl (lt_b rfl) (ru_fieldAddr (o2 := (8 + ((A.r 4).toNat) * 2)) fd93_0 rfl rfl rfl) ?_
  refine SS.ru _ CA.base rfl rfl rfl (lt_b rfl) (ru_load (i := 0) (v := tv ((A.r 4).toNat)) ts28 rfl rfl rfl (nc_tv (by omega))) ?_
  refine SS.newcall (sl b4 0 ((A.tb (A.r 4).toNat).length) ((A.tb (A.r 4).toNat).length)) rfl rfl co43 rfl rfl rfl (lt_b rfl) (fun w hI hz => (copied_any (frs_tx hI (by omega))).mono fun e w2 ⟨h1, h2, h3⟩ => ⟨by rw [h1, hz], hI.add h3 (hz ▸ h2) (fun q hq => by cases hq; rw [hz]; exact Nat.le_refl _)⟩) ?_
  refine SS.ru _ CA.base rfl rfl rfl (lt_b rfl) (ru_move rfl rfl) ?_
  refine SS.ru _ CA.base rfl rfl rfl (lt_b rfl) (ru_move rfl rfl) ?_
  refine SS.ru _ CA.base rfl rfl rfl (lt_b rfl) (ru_nilCheck rfl rfl) ?_
  refine SS.ru _ CA.base rfl rfl rfl (lt_b rfl) (ru_fieldAddr (o2 := 8) fd99_1 rfl rfl rfl) ?_
  refine SS.ru _ CA.base rfl rfl rfl (lt_b rfl) (ru_indexA (o2 := 8 + ((A.r 4).toNat) * 2) ar94 rfl rfl rfl (by omega) (by omega) rfl) ?_
  refine SS.ru _ CA.base rfl rfl rfl (lt_b rfl) (ru_fieldAddr (o2 := (8 + ((A.r 4).toNat) * 2 + 1)) fd93_1 rfl rfl rfl) ?_
  refine SS.ru _ CA.base rfl rfl rfl (lt_b rfl) (ru_load (i := 0) (v := iw (A.tp ((A.r 4).toNat))) ts3 rfl rfl rfl (nc_tp (by omega))) ?_
  refine SS.ru _ CA.base rfl rfl rfl (lt_b rfl) (ru_build (vals := [(0, sl b4 0 ((A.tb (A.r 4).toNat).length) ((A.tb (A.r 4).toNat).length)), (2, iw (A.tp ((A.r 4).toNat)))]) (cells := [sl b4 0 ((A.tb (A.r 4).toNat).length) ((A.tb (A.r 4).toNat).length), bo false, iw (A.tp ((A.r 4).toNat))]) rfl rfl (by kernel_rfl)) ?_
  refine SS.nilA ?_
  refine SL.storea (i := 2) (vs := [sl b4 0 ((A.tb (A.r 4).toNat).length) ((A.tb (A.r 4).toNat).length), bo false, iw (A.tp ((A.r 4).toNat))]) (c' := [sl b4 0 ((A.tb (A.r 4).toNat).length) ((A.tb (A.r 4).toNat).length), bo false, iw (A.tp ((A.r 4).toNat))]) rfl rfl ta49 rfl rfl rfl rfl rfl rfl (le_b rfl) (.inr hb1) rfl ?_
  refine SL.as ?_
  refine SL.nn [(2, pt b1 0), (3, iw 0)] [rBlk d (nc { A with r := up (up A.r 4 (nx (A.r 4))) 6 (bits .or .i64 (A.r 6) 2) } tv cv) 99, rFrs F tv cv A.tb A.cb, rBlk b1 [sl b4 0 ((A.tb (A.r 4).toNat).length) ((A.tb (A.r 4).toNat).length), bo false, iw (A.tp ((A.r 4).toNat))] 49, rBlk b4 ((A.tb (A.r 4).toNat).map bv) 5] ⟨rfl, rfl, trivial⟩ ?_
  refine SC.ret ?_
  refine SE.res (.inl rfl) (res_ct (z := [Value.slice none 0 0, bo false, iw 0]) (c := [sl b4 0 ((A.tb (A.r 4).toNat).length) ((A.tb (A.r 4).toNat).length), bo false, iw (A.tp ((A.r 4).toNat))]) Try.results12 ta49 rfl rfl 2 rfl rfl) fun w1 hI => ?_
  have e : takeR A = (((A.tb (A.r 4).toNat, A.tp (A.r 4).toNat), 0), takeF A) := by
    try simp at h2 h3
    unfold takeR
    (repeat' split) <;> first | rfl | (exfalso; omega) | (exfalso; simp_all; done) | (exfalso; simp_all; omega)
  rw [e]
  exact ⟨_, rfl, NicAt.of hI, hI.2, .inr ⟨b4, hb4, rfl, hI.1.get (i := 3) rfl⟩⟩

theorem p_rx {w : World} {d : Nat} {F : Nat → Prop} {A : NicA} (hk : NicOk A) (h : NicAt 99 w d F A) (i : Int) : Calls Try.prog 58 #[pt d 0, iw i] w fun e w' => ∃ v, e = .returned (.tuple #[v, bo (rxR A i).1.2, iw (rxR A i).2]) ∧ Only (fun _ => False) w w' ∧ Out 5 w w' v (rxR A i).1.1 := by
  have hok := hk
  obtain ⟨r2, r3, r4, r5, r6, _, _, _⟩ := hok
  obtain ⟨tv, cv, hI⟩ := h.inv 38 (fun _ => False)
  refine calls_sc (l0 := _) (args := [pt d 0, iw i]) (fun _ => False) Try.func58 rfl 38 Try.ntmps58 (le_b rfl) hI ?_
  show SC _ _ _ _ [(0, pt d 0), (1, iw i)] [rBlk d (nc A tv cv) 99, rFrs F tv cv A.tb A.cb]
  refine SC.sr ?_
  refine SL.as ?_
  refine SL.as ?_
  refine SL.as ?_
  refine SL.nn [(0, pt d 0), (1, iw i), (4, Value.slice none 0 0), (5, bo false), (6, iw 0)] [rBlk d (nc A tv cv) 99, rFrs F tv cv A.tb A.cb] ⟨rfl, rfl, rfl, rfl, rfl, trivial⟩ ?_
  refine SC.seq ?_
  refine SC.block ?_
  refine SC.sr ?_
  refine SL.mv ?_
  refine SL.uu (ru_lt (b := (decide ((i : Int) < 0))) rfl rfl rfl rfl) ?_
  refine SL.mv ?_
  refine SL.join 3 [(0, pt d 0), (1, iw i), (4, Value.slice none 0 0), (5, bo false), (6, iw 0), (8, iw i), (9, bo (decide ((i : Int) < 0))), (10, bo (decide ((i : Int) < 0))), (13, bo ((decide ((i : Int) < 0)) || (decide ((16 : Int) ≤ i))))] [rBlk d (nc A tv cv) 99, rFrs F tv cv A.tb A.cb] ?_ ?_
  rotate_left
  · intro K hK
    rcases tf (decide ((i : Int) < 0)) with h1 | h1
    · skip
      refine SL.norm [(0, pt d 0), (1, iw i), (4, Value.slice none 0 0), (5, bo false), (6, iw 0), (8, iw i), (9, bo true), (10, bo true)] _ ⟨rfl, rfl, rfl, rfl, rfl, rfl, (congrArg (fun x => some (Value.bool x)) h1), (congrArg (fun x => some (Value.bool x)) h1), trivial⟩ rfl ?_
      refine SL.oo ?_
      refine SL.oo ?_
      refine SL.uu (ru_pick (u := bo true) (v := undef) rfl rfl rfl rfl) ?_
      exact SL.joined hK ⟨rfl, rfl, rfl, rfl, rfl, rfl, (congrArg (fun x => some (Value.bool x)) h1.symm), (congrArg (fun x => some (Value.bool x)) h1.symm), (congrArg (fun x => some (Value.bool (x || (decide ((16 : Int) ≤ i))))) h1.symm), trivial⟩ rfl
    refine SL.norm [(0, pt d 0), (1, iw i), (4, Value.slice none 0 0), (5, bo false), (6, iw 0), (8, iw i), (9, bo false), (10, bo false)] _ ⟨rfl, rfl, rfl, rfl, rfl, rfl, (congrArg (fun x => some (Value.bool x)) h1), (congrArg (fun x => some (Value.bool x)) h1), trivial⟩ rfl ?_
    refine SL.gg (ru_move rfl rfl) ?_
    refine SL.gg (ru_ge (b := (decide ((16 : Int) ≤ i))) rfl rfl rfl rfl) ?_
    refine SL.uu (ru_pick (u := bo true) (v := bo (decide ((16 : Int) ≤ i))) rfl rfl rfl rfl) ?_
    exact SL.joined hK ⟨rfl, rfl, rfl, rfl, rfl, rfl, (congrArg (fun x => some (Value.bool x)) h1.symm), (congrArg (fun x => some (Value.bool x)) h1.symm), (congrArg (fun x => some (Value.bool (x || (decide ((16 : Int) ≤ i))))) h1.symm), trivial⟩ rfl
  skip
  refine SL.as ?_
  refine SL.nn [(0, pt d 0), (1, iw i), (4, Value.slice none 0 0), (5, bo false), (6, iw 0), (7, bo ((decide ((i : Int) < 0)) || (decide ((16 : Int) ≤ i))))] _ ⟨rfl, rfl, rfl, rfl, rfl, rfl, trivial⟩ ?_
  refine SC.both ((decide ((i : Int) < 0)) || (decide ((16 : Int) ≤ i))) rfl (fun h2 => ?_) (fun h2 => ?_)
  · skip
    refine SC.sr ?_
    refine SL.as ?_
    refine SL.as ?_
    refine SL.as ?_
    refine SL.nn [(0, pt d 0), (1, iw i), (4, Value.slice none 0 0), (5, bo false), (6, iw 1)] _ ⟨rfl, rfl, rfl, rfl, rfl, trivial⟩ ?_
    refine SC.ret ?_
    refine SE.blkr ?_
    refine SE.passr ?_
    refine SE.res (.inl rfl) (res3 Try.results58 rfl rfl rfl) fun w1 hI => ?_
    have e : rxR A i = (([], false), 1) := by
      try simp at h2
      unfold rxR
      (repeat' split) <;> first | rfl | (exfalso; omega) | (exfalso; simp_all; done) | (exfalso; simp_all; omega)
    rw [e]
    exact ⟨_, rfl, hI.2, .inl ⟨rfl, rfl⟩⟩
  have hi := host_in h2
  refine SC.sr ?_
  refine SL.mv ?_
  refine SL.mv ?_
  refine SL.nk ?_
  refine SL.uu (ru_fieldAddr (o2 := 40) fd99_2 rfl rfl rfl) ?_
  refine SL.uu (ru_indexA (o2 := 40 + i.toNat * 4) ar97 rfl rfl rfl (by omega) (by omega) rfl) ?_
  refine SL.uu (ru_fieldAddr (o2 := (40 + i.toNat * 4 + 1)) fd96_1 rfl rfl rfl) ?_
  refine SL.uu (ru_load (i := 0) (v := bo (A.has i.toNat)) ts4 rfl rfl rfl (nc_has (by omega))) ?_
  refine SL.uu (ru_not (c := (!(A.has i.toNat))) rfl rfl rfl) ?_
  refine SL.as ?_
  refine SL.nn [(0, pt d 0), (1, iw i), (4, Value.slice none 0 0), (5, bo false), (6, iw 0), (14, bo (!(A.has i.toNat)))] _ ⟨rfl, rfl, rfl, rfl, rfl, rfl, trivial⟩ ?_
  refine SC.both (!(A.has i.toNat)) rfl (fun h3 => ?_) (fun h3 => ?_)
  · skip
    refine SC.sr ?_
    refine SL.as ?_
    refine SL.as ?_
    refine SL.as ?_
    refine SL.nn [(0, pt d 0), (1, iw i), (4, Value.slice none 0 0), (5, bo false), (6, iw 7)] _ ⟨rfl, rfl, rfl, rfl, rfl, trivial⟩ ?_
    refine SC.ret ?_
    refine SE.blkr ?_
    refine SE.passr ?_
    refine SE.res (.inl rfl) (res3 Try.results58 rfl rfl rfl) fun w1 hI => ?_
    have e : rxR A i = (([], false), 7) := by
      try simp at h2 h3
      unfold rxR
      (repeat' split) <;> first | rfl | (exfalso; omega) | (exfalso; simp_all; done) | (exfalso; simp_all; omega)
    rw [e]
    exact ⟨_, rfl, hI.2, .inl ⟨rfl, rfl⟩⟩
  refine SC.skip ?_
  refine SE.blkn ?_
  refine SC.of_SE ?_
  refine SC.norm [(0, pt d 0), (1, iw i), (4, Value.slice none 0 0), (5, bo false), (6, iw 0)] _ ⟨rfl, rfl, rfl, rfl, rfl, trivial⟩ rfl ?_
  refine SC.seq ?_
  refine SC.region_alloc0 7 (fun b4 => rBlk b4 ((A.cb i.toNat).map bv) 5) (by kernel_rfl) (by kernel_rfl) (by kernel_rfl) rfl (fun b4 hb4 => ?_)
  refine SS.ru _ CA.base rfl rfl rfl (lt_b rfl) (ru_move rfl rfl) ?_
  refine SS.ru _ CA.base rfl rfl rfl (lt_b rfl) (ru_move rfl rfl) ?_
  refine SS.ru _ CA.base rfl rfl rfl (lt_b rfl) (ru_nilCheck rfl rfl) ?_
  refine SS.ru _ CA.base rfl rfl rfl (lt_b rfl) (ru_fieldAddr (o2 := 40) fd99_2 rfl rfl rfl) ?_
  refine SS.ru _ CA.base rfl rfl rfl (lt_b rfl) (ru_indexA (o2 := 40 + i.toNat * 4) ar97 rfl rfl rfl (by omega) (by omega) rfl) ?_
  refine SS.ru _ CA.base rfl rfl rfl (lt_b rfl) (ru_fieldAddr (o2 := (40 + i.toNat * 4 + 2)) fd96_2 rfl rfl rfl) ?_
  refine SS.ru _ CA.base rfl rfl rfl (lt_b rfl) (ru_load (i := 0) (v := cv i.toNat) ts28 rfl rfl rfl (nc_cv (by omega))) ?_
  refine SS.newcall (sl b4 0 ((A.cb i.toNat).length) ((A.cb i.toNat).length)) rfl rfl co43 rfl rfl rfl (lt_b rfl) (fun w hI hz => (copied_any (frs_rx hI (by omega))).mono fun e w2 ⟨h1, h2, h3⟩ => ⟨by rw [h1, hz], hI.add h3 (hz ▸ h2) (fun q hq => by cases hq; rw [hz]; exact Nat.le_refl _)⟩) ?_
  refine SS.ru _ CA.base rfl rfl rfl (lt_b rfl) (ru_move rfl rfl) ?_
  refine SS.ru _ CA.base rfl rfl rfl (lt_b rfl) (ru_move rfl rfl) ?_
  refine SS.ru _ CA.base rfl rfl rfl (lt_b rfl) (ru_nilCheck rfl rfl) ?_
  refine SS.ru _ CA.base rfl rfl rfl (lt_b rfl) (ru_fieldAddr (o2 := 40) fd99_2 rfl rfl rfl) ?_
  refine SS.ru _ CA.base rfl rfl rfl (lt_b rfl) (ru_indexA (o2 := 40 + i.toNat * 4) ar97 rfl rfl rfl (by omega) (by omega) rfl) ?_
  refine SS.ru _ CA.base rfl rfl rfl (lt_b rfl) (ru_fieldAddr (o2 := (40 + i.toNat * 4 + 3)) fd96_3 rfl rfl rfl) ?_
  refine SS.ru _ CA.base rfl rfl rfl (lt_b rfl) (ru_load (i := 0) (v := bo (A.bad i.toNat)) ts4 rfl rfl rfl (nc_bad (by omega))) ?_
  refine SS.ru _ CA.base rfl rfl rfl (lt_b rfl) (ru_assign rfl rfl) ?_
  refine SS.ru _ CA.base rfl rfl rfl (lt_b rfl) (ru_assign rfl rfl) ?_
  refine SS.ru _ CA.base rfl rfl rfl (lt_b rfl) (ru_assign rfl rfl) ?_
  refine SS.nilE ?_
  refine SC.of_SE ?_
  refine SC.norm [(4, sl b4 0 ((A.cb i.toNat).length) ((A.cb i.toNat).length)), (5, bo (A.bad i.toNat)), (6, iw 0)] [rBlk d (nc A tv cv) 99, rFrs F tv cv A.tb A.cb, rBlk b4 ((A.cb i.toNat).map bv) 5] ⟨rfl, rfl, rfl, trivial⟩ rfl ?_
  refine SC.ret ?_
  refine SE.res (.inl rfl) (res3 Try.results58 rfl rfl rfl) fun w1 hI => ?_
  have e : rxR A i = ((A.cb i.toNat, A.bad i.toNat), 0) := by
    try simp at h2 h3
    unfold rxR
    (repeat' split) <;> first | rfl | (exfalso; omega) | (exfalso; simp_all; done) | (exfalso; simp_all; omega)
  rw [e]
  exact ⟨_, rfl, hI.2, .inr ⟨b4, hb4, rfl, hI.1.get (i := 2) rfl⟩⟩

end Go.Proofs.Ytghfkgcaglabpaa

/-
  An event (the reference's).
-/
namespace Go.Proofs.Ytghfkgcaglabpaa
open Go.RowKit
set_option maxRecDepth 100000
set_option maxHeartbeats 4000000
theorem q_event1 {w : World} {d : Nat} {A : NicA} {tv cv : Nat → Value} (h6 : 0 ≤ A.r 6 ∧ A.r 6 < 8) (h : Blk w d (nc A tv cv) 108) : Calls Try.prog 78 #[pt d 0, iw 1] w fun e w' => e = .returned (.tuple #[]) ∧ Blk w' d (nc { A with r := up A.r 6 (ev (A.r 6) 1) } tv cv) 108 ∧ Only (fun b => b = d) w w' := by
  refine calls_sc (l0 := _) (args := [pt d 0, iw 1]) (fun b => b = d) Try.func78 rfl 24 Try.ntmps78 (le_b rfl) (Inv.one h) ?_
  show SC _ _ _ _ [(0, pt d 0), (1, iw 1)] [rBlk d (nc A tv cv) 108]
  refine SC.sr ?_
  refine SL.mv ?_
  refine SL.nk ?_
  refine SL.uu (ru_fieldAddr (o2 := 0) fd108_0 rfl rfl rfl) ?_
  refine SL.uu (ru_indexA (o2 := 6) ar91 rfl rfl rfl (by decide) (by decide) rfl) ?_
  refine SL.uu (ru_load (i := 0) (v := iw (A.r 6)) ts3 rfl rfl rfl (nc_r (by decide))) ?_
  refine SL.mv ?_
  refine SL.uu (ru_quo (r := (IntKind.i64.wrap (Int.tdiv (A.r 6) 1))) rfl rfl rfl (by decide) rfl) ?_
  refine SL.uu (ru_rem (r := (Int.tmod (IntKind.i64.wrap (Int.tdiv (A.r 6) 1)) 2)) rfl rfl rfl (by decide) rfl) ?_
  refine SL.uu (ru_eq (b := (((Int.tmod (IntKind.i64.wrap (Int.tdiv (A.r 6) 1)) 2) : Int) == 0)) rfl rfl rfl rfl) ?_
  refine SL.nn [(0, pt d 0), (1, iw 1), (12, bo (((Int.tmod (IntKind.i64.wrap (Int.tdiv (A.r 6) 1)) 2) : Int) == 0))] [rBlk d (nc A tv cv) 108] ⟨rfl, rfl, rfl, trivial⟩ ?_
  refine SC.both (((Int.tmod (IntKind.i64.wrap (Int.tdiv (A.r 6) 1)) 2) : Int) == 0) rfl (fun h1 => ?_) (fun h1 => ?_)
  · skip
    refine SC.region_tail 11 (by kernel_rfl) (by kernel_rfl) ?_
    refine SQ.uu (ru_move rfl rfl) ?_
    refine SQ.uu (ru_move rfl rfl) ?_
    refine SQ.uu (ru_nilCheck rfl rfl) ?_
    refine SQ.uu (ru_fieldAddr (o2 := 0) fd108_0 rfl rfl rfl) ?_
    refine SQ.uu (ru_indexA (o2 := 6) ar91 rfl rfl rfl (by decide) (by decide) rfl) ?_
    refine SQ.uu (ru_load (i := 0) (v := iw (A.r 6)) ts3 rfl rfl rfl (nc_r (by decide))) ?_
    refine SQ.uu (ru_move rfl rfl) ?_
    refine SQ.uu (ru_add (r := (IntKind.i64.wrap ((A.r 6) + 1))) rfl rfl rfl rfl) ?_
    refine SQ.uu (ru_nilCheck rfl rfl) ?_
    refine SQ.uu (ru_fieldAddr (o2 := 0) fd108_0 rfl rfl rfl) ?_
    refine SQ.uu (ru_indexA (o2 := 6) ar91 rfl rfl rfl (by decide) (by decide) rfl) ?_
    refine SQ.nilL ?_
    refine SL.store (i := 0) (c' := (nc { A with r := up A.r 6 (IntKind.i64.wrap ((A.r 6) + 1)) } tv cv)) rfl rfl ts3 rfl rfl rfl rfl rfl (by rw [nc_len]; omega) (.inl rfl) (set_r (by decide) (IntKind.i64.wrap ((A.r 6) + 1))) ?_
    refine SL.nil ?_
    refine SE.res (.inr rfl) (res0 Try.results78) fun w1 hI => ⟨rfl, ?_, hI.2⟩
    rw [ev_t1 h6 h1] at hI
    exact hI.1.get (i := 0) rfl
  refine SC.skip ?_
  refine SE.res (.inr rfl) (res0 Try.results78) fun w1 hI => ⟨rfl, ?_, hI.2⟩
  rw [ev_f1 h6 h1, up_id]
  exact hI.1.get (i := 0) rfl

theorem q_event2 {w : World} {d : Nat} {A : NicA} {tv cv : Nat → Value} (h6 : 0 ≤ A.r 6 ∧ A.r 6 < 8) (h : Blk w d (nc A tv cv) 108) : Calls Try.prog 78 #[pt d 0, iw 2] w fun e w' => e = .returned (.tuple #[]) ∧ Blk w' d (nc { A with r := up A.r 6 (ev (A.r 6) 2) } tv cv) 108 ∧ Only (fun b => b = d) w w' := by
  refine calls_sc (l0 := _) (args := [pt d 0, iw 2]) (fun b => b = d) Try.func78 rfl 24 Try.ntmps78 (le_b rfl) (Inv.one h) ?_
  show SC _ _ _ _ [(0, pt d 0), (1, iw 2)] [rBlk d (nc A tv cv) 108]
  refine SC.sr ?_
  refine SL.mv ?_
  refine SL.nk ?_
  refine SL.uu (ru_fieldAddr (o2 := 0) fd108_0 rfl rfl rfl) ?_
  refine SL.uu (ru_indexA (o2 := 6) ar91 rfl rfl rfl (by decide) (by decide) rfl) ?_
  refine SL.uu (ru_load (i := 0) (v := iw (A.r 6)) ts3 rfl rfl rfl (nc_r (by decide))) ?_
  refine SL.mv ?_
  refine SL.uu (ru_quo (r := (IntKind.i64.wrap (Int.tdiv (A.r 6) 2))) rfl rfl rfl (by decide) rfl) ?_
  refine SL.uu (ru_rem (r := (Int.tmod (IntKind.i64.wrap (Int.tdiv (A.r 6) 2)) 2)) rfl rfl rfl (by decide) rfl) ?_
  refine SL.uu (ru_eq (b := (((Int.tmod (IntKind.i64.wrap (Int.tdiv (A.r 6) 2)) 2) : Int) == 0)) rfl rfl rfl rfl) ?_
  refine SL.nn [(0, pt d 0), (1, iw 2), (12, bo (((Int.tmod (IntKind.i64.wrap (Int.tdiv (A.r 6) 2)) 2) : Int) == 0))] [rBlk d (nc A tv cv) 108] ⟨rfl, rfl, rfl, trivial⟩ ?_
  refine SC.both (((Int.tmod (IntKind.i64.wrap (Int.tdiv (A.r 6) 2)) 2) : Int) == 0) rfl (fun h1 => ?_) (fun h1 => ?_)
  · skip
    refine SC.region_tail 11 (by kernel_rfl) (by kernel_rfl) ?_
    refine SQ.uu (ru_move rfl rfl) ?_
    refine SQ.uu (ru_move rfl rfl) ?_
    refine SQ.uu (ru_nilCheck rfl rfl) ?_
    refine SQ.uu (ru_fieldAddr (o2 := 0) fd108_0 rfl rfl rfl) ?_
    refine SQ.uu (ru_indexA (o2 := 6) ar91 rfl rfl rfl (by decide) (by decide) rfl) ?_
    refine SQ.uu (ru_load (i := 0) (v := iw (A.r 6)) ts3 rfl rfl rfl (nc_r (by decide))) ?_
    refine SQ.uu (ru_move rfl rfl) ?_
    refine SQ.uu (ru_add (r := (IntKind.i64.wrap ((A.r 6) + 2))) rfl rfl rfl rfl) ?_
    refine SQ.uu (ru_nilCheck rfl rfl) ?_
    refine SQ.uu (ru_fieldAddr (o2 := 0) fd108_0 rfl rfl rfl) ?_
    refine SQ.uu (ru_indexA (o2 := 6) ar91 rfl rfl rfl (by decide) (by decide) rfl) ?_
    refine SQ.nilL ?_
    refine SL.store (i := 0) (c' := (nc { A with r := up A.r 6 (IntKind.i64.wrap ((A.r 6) + 2)) } tv cv)) rfl rfl ts3 rfl rfl rfl rfl rfl (by rw [nc_len]; omega) (.inl rfl) (set_r (by decide) (IntKind.i64.wrap ((A.r 6) + 2))) ?_
    refine SL.nil ?_
    refine SE.res (.inr rfl) (res0 Try.results78) fun w1 hI => ⟨rfl, ?_, hI.2⟩
    rw [ev_t2 h6 h1] at hI
    exact hI.1.get (i := 0) rfl
  refine SC.skip ?_
  refine SE.res (.inr rfl) (res0 Try.results78) fun w1 hI => ⟨rfl, ?_, hI.2⟩
  rw [ev_f2 h6 h1, up_id]
  exact hI.1.get (i := 0) rfl

theorem q_event4 {w : World} {d : Nat} {A : NicA} {tv cv : Nat → Value} (h6 : 0 ≤ A.r 6 ∧ A.r 6 < 8) (h : Blk w d (nc A tv cv) 108) : Calls Try.prog 78 #[pt d 0, iw 4] w fun e w' => e = .returned (.tuple #[]) ∧ Blk w' d (nc { A with r := up A.r 6 (ev (A.r 6) 4) } tv cv) 108 ∧ Only (fun b => b = d) w w' := by
  refine calls_sc (l0 := _) (args := [pt d 0, iw 4]) (fun b => b = d) Try.func78 rfl 24 Try.ntmps78 (le_b rfl) (Inv.one h) ?_
  show SC _ _ _ _ [(0, pt d 0), (1, iw 4)] [rBlk d (nc A tv cv) 108]
  refine SC.sr ?_
  refine SL.mv ?_
  refine SL.nk ?_
  refine SL.uu (ru_fieldAddr (o2 := 0) fd108_0 rfl rfl rfl) ?_
  refine SL.uu (ru_indexA (o2 := 6) ar91 rfl rfl rfl (by decide) (by decide) rfl) ?_
  refine SL.uu (ru_load (i := 0) (v := iw (A.r 6)) ts3 rfl rfl rfl (nc_r (by decide))) ?_
  refine SL.mv ?_
  refine SL.uu (ru_quo (r := (IntKind.i64.wrap (Int.tdiv (A.r 6) 4))) rfl rfl rfl (by decide) rfl) ?_
  refine SL.uu (ru_rem (r := (Int.tmod (IntKind.i64.wrap (Int.tdiv (A.r 6) 4)) 2)) rfl rfl rfl (by decide) rfl) ?_
  refine SL.uu (ru_eq (b := (((Int.tmod (IntKind.i64.wrap (Int.tdiv (A.r 6) 4)) 2) : Int) == 0)) rfl rfl rfl rfl) ?_
  refine SL.nn [(0, pt d 0), (1, iw 4), (12, bo (((Int.tmod (IntKind.i64.wrap (Int.tdiv (A.r 6) 4)) 2) : Int) == 0))] [rBlk d (nc A tv cv) 108] ⟨rfl, rfl, rfl, trivial⟩ ?_
  refine SC.both (((Int.tmod (IntKind.i64.wrap (Int.tdiv (A.r 6) 4)) 2) : Int) == 0) rfl (fun h1 => ?_) (fun h1 => ?_)
  · skip
    refine SC.region_tail 11 (by kernel_rfl) (by kernel_rfl) ?_
    refine SQ.uu (ru_move rfl rfl) ?_
    refine SQ.uu (ru_move rfl rfl) ?_
    refine SQ.uu (ru_nilCheck rfl rfl) ?_
    refine SQ.uu (ru_fieldAddr (o2 := 0) fd108_0 rfl rfl rfl) ?_
    refine SQ.uu (ru_indexA (o2 := 6) ar91 rfl rfl rfl (by decide) (by decide) rfl) ?_
    refine SQ.uu (ru_load (i := 0) (v := iw (A.r 6)) ts3 rfl rfl rfl (nc_r (by decide))) ?_
    refine SQ.uu (ru_move rfl rfl) ?_
    refine SQ.uu (ru_add (r := (IntKind.i64.wrap ((A.r 6) + 4))) rfl rfl rfl rfl) ?_
    refine SQ.uu (ru_nilCheck rfl rfl) ?_
    refine SQ.uu (ru_fieldAddr (o2 := 0) fd108_0 rfl rfl rfl) ?_
    refine SQ.uu (ru_indexA (o2 := 6) ar91 rfl rfl rfl (by decide) (by decide) rfl) ?_
    refine SQ.nilL ?_
    refine SL.store (i := 0) (c' := (nc { A with r := up A.r 6 (IntKind.i64.wrap ((A.r 6) + 4)) } tv cv)) rfl rfl ts3 rfl rfl rfl rfl rfl (by rw [nc_len]; omega) (.inl rfl) (set_r (by decide) (IntKind.i64.wrap ((A.r 6) + 4))) ?_
    refine SL.nil ?_
    refine SE.res (.inr rfl) (res0 Try.results78) fun w1 hI => ⟨rfl, ?_, hI.2⟩
    rw [ev_t4 h6 h1] at hI
    exact hI.1.get (i := 0) rfl
  refine SC.skip ?_
  refine SE.res (.inr rfl) (res0 Try.results78) fun w1 hI => ⟨rfl, ?_, hI.2⟩
  rw [ev_f4 h6 h1, up_id]
  exact hI.1.get (i := 0) rfl

end Go.Proofs.Ytghfkgcaglabpaa

/-
  What a device's other calls do (the reference's).
-/
namespace Go.Proofs.Ytghfkgcaglabpaa
open Go.RowKit
set_option maxRecDepth 100000
set_option maxHeartbeats 4000000
theorem q_settx {w : World} {d : Nat} {F : Nat → Prop} {A : NicA} (hk : NicOk A) (h : NicAt 108 w d F A) {v : Value} {f : List UInt8} (hb : BytesAt w v f) (hs : sliceIn v (fun b => ¬ b = d)) (i : Int) : Calls Try.prog 71 #[pt d 0, iw i, v] w fun e w' => e = .returned (iw (setTxF A i f).1) ∧ NicTo 108 w d F (setTxF A i f).2 w' := by
  have hok := hk
  obtain ⟨r2, r3, r4, r5, r6, _, _, _⟩ := hok
  obtain ⟨a, c, rfl⟩ := hb.form
  have hbl := hb.len
  obtain ⟨tv, cv, hI⟩ := h.inv 41 (fun b => b = d)
  refine calls_sc (l0 := _) (args := [pt d 0, iw i, Value.slice a f.length c]) (fun b => b = d) Try.func71 rfl 41 Try.ntmps71 (le_b rfl) hI ?_
  show SC _ _ _ _ [(0, pt d 0), (1, iw i), (2, Value.slice a f.length c)] [rBlk d (nc A tv cv) 108, rFrs F tv cv A.tb A.cb]
  refine SC.sr ?_
  refine SL.as ?_
  refine SL.nn [(0, pt d 0), (1, iw i), (2, Value.slice a f.length c), (6, iw 0)] [rBlk d (nc A tv cv) 108, rFrs F tv cv A.tb A.cb] ⟨rfl, rfl, rfl, rfl, trivial⟩ ?_
  refine SC.seq ?_
  refine SC.sr ?_
  refine SL.mv ?_
  refine SL.uu (ru_lt (b := (decide ((i : Int) < 0))) rfl rfl rfl rfl) ?_
  refine SL.mv ?_
  refine SL.join 3 [(0, pt d 0), (1, iw i), (2, Value.slice a f.length c), (6, iw 0), (8, iw i), (9, bo (decide ((i : Int) < 0))), (10, bo (decide ((i : Int) < 0))), (13, bo ((decide ((i : Int) < 0)) || (decide ((16 : Int) ≤ i))))] [rBlk d (nc A tv cv) 108, rFrs F tv cv A.tb A.cb] ?_ ?_
  rotate_left
  · intro K hK
    rcases tf (decide ((i : Int) < 0)) with h1 | h1
    · skip
      refine SL.norm [(0, pt d 0), (1, iw i), (2, Value.slice a f.length c), (6, iw 0), (8, iw i), (9, bo true), (10, bo true)] _ ⟨rfl, rfl, rfl, rfl, rfl, (congrArg (fun x => some (Value.bool x)) h1), (congrArg (fun x => some (Value.bool x)) h1), trivial⟩ rfl ?_
      refine SL.oo ?_
      refine SL.oo ?_
      refine SL.uu (ru_pick (u := bo true) (v := undef) rfl rfl rfl rfl) ?_
      exact SL.joined hK ⟨rfl, rfl, rfl, rfl, rfl, (congrArg (fun x => some (Value.bool x)) h1.symm), (congrArg (fun x => some (Value.bool x)) h1.symm), (congrArg (fun x => some (Value.bool (x || (decide ((16 : Int) ≤ i))))) h1.symm), trivial⟩ rfl
    refine SL.norm [(0, pt d 0), (1, iw i), (2, Value.slice a f.length c), (6, iw 0), (8, iw i), (9, bo false), (10, bo false)] _ ⟨rfl, rfl, rfl, rfl, rfl, (congrArg (fun x => some (Value.bool x)) h1), (congrArg (fun x => some (Value.bool x)) h1), trivial⟩ rfl ?_
    refine SL.gg (ru_move rfl rfl) ?_
    refine SL.gg (ru_ge (b := (decide ((16 : Int) ≤ i))) rfl rfl rfl rfl) ?_
    refine SL.uu (ru_pick (u := bo true) (v := bo (decide ((16 : Int) ≤ i))) rfl rfl rfl rfl) ?_
    exact SL.joined hK ⟨rfl, rfl, rfl, rfl, rfl, (congrArg (fun x => some (Value.bool x)) h1.symm), (congrArg (fun x => some (Value.bool x)) h1.symm), (congrArg (fun x => some (Value.bool (x || (decide ((16 : Int) ≤ i))))) h1.symm), trivial⟩ rfl
  skip
  refine SL.nn [(0, pt d 0), (1, iw i), (2, Value.slice a f.length c), (6, iw 0), (13, bo ((decide ((i : Int) < 0)) || (decide ((16 : Int) ≤ i))))] _ ⟨rfl, rfl, rfl, rfl, rfl, trivial⟩ ?_
  refine SC.both ((decide ((i : Int) < 0)) || (decide ((16 : Int) ≤ i))) rfl (fun h2 => ?_) (fun h2 => ?_)
  · skip
    have hbd := fun (e : hostB i (A.r 4) (A.r 5) = true) => host_bd e
    refine SC.sr ?_
    refine SL.as ?_
    refine SL.nn [(0, pt d 0), (1, iw i), (2, Value.slice a f.length c), (6, iw 1)] _ ⟨rfl, rfl, rfl, rfl, trivial⟩ ?_
    refine SC.ret ?_
    refine SE.passr ?_
    refine SE.res (.inl rfl) (res1 Try.results71 rfl) fun w1 hI => ?_
    have e : setTxF A i f = (1, A) := by
      try simp at h2
      unfold setTxF
      (repeat' split) <;> first | rfl | (exfalso; omega) | (exfalso; simp_all; done) | (exfalso; simp_all; omega)
    rw [e]
    exact ⟨rfl, NicAt.fin hI⟩
  have hi := host_in h2
  refine SC.skip ?_
  refine SC.of_SE ?_
  refine SC.norm [(0, pt d 0), (1, iw i), (2, Value.slice a f.length c), (6, iw 0)] _ ⟨rfl, rfl, rfl, rfl, trivial⟩ rfl ?_
  refine SC.seq ?_
  refine SC.region_quiet (by kernel_rfl) (by kernel_rfl) ?_
  refine SQ.uu (ru_move rfl rfl) ?_
  refine SQ.uu (ru_move rfl rfl) ?_
  refine SQ.uu (ru_nilCheck rfl rfl) ?_
  refine SQ.uu (ru_fieldAddr (o2 := 0) fd108_0 rfl rfl rfl) ?_
  refine SQ.uu (ru_indexA (o2 := 4) ar91 rfl rfl rfl (by decide) (by decide) rfl) ?_
  refine SQ.uu (ru_load (i := 0) (v := iw (A.r 4)) ts3 rfl rfl rfl (nc_r (by decide))) ?_
  refine SQ.uu (ru_move rfl rfl) ?_
  refine SQ.uu (ru_nilCheck rfl rfl) ?_
  refine SQ.uu (ru_fieldAddr (o2 := 0) fd108_0 rfl rfl rfl) ?_
  refine SQ.uu (ru_indexA (o2 := 5) ar91 rfl rfl rfl (by decide) (by decide) rfl) ?_
  refine SQ.uu (ru_load (i := 0) (v := iw (A.r 5)) ts3 rfl rfl rfl (nc_r (by decide))) ?_
  refine SQ.call (bo (!(hostB i (A.r 4) (A.r 5)))) rfl rfl co83 rfl rfl rfl (lt_b rfl) (fun w hI => H_only hI (devices_any (by omega) (by omega) (by omega))) ?_
  refine SQ.uu (ru_assign rfl rfl) ?_
  refine SQ.nilE ?_
  refine SC.of_SE ?_
  refine SC.norm [(0, pt d 0), (1, iw i), (2, Value.slice a f.length c), (6, iw 0), (7, bo (!(hostB i (A.r 4) (A.r 5))))] _ ⟨rfl, rfl, rfl, rfl, rfl, trivial⟩ rfl ?_
  refine SC.seq ?_
  refine SC.sr ?_
  refine SL.mv ?_
  refine SL.nn [(0, pt d 0), (1, iw i), (2, Value.slice a f.length c), (6, iw 0), (26, bo (!(hostB i (A.r 4) (A.r 5))))] _ ⟨rfl, rfl, rfl, rfl, rfl, trivial⟩ ?_
  refine SC.both (!(hostB i (A.r 4) (A.r 5))) rfl (fun h3 => ?_) (fun h3 => ?_)
  · skip
    refine SC.sr ?_
    refine SL.as ?_
    refine SL.nn [(0, pt d 0), (1, iw i), (2, Value.slice a f.length c), (6, iw 1)] _ ⟨rfl, rfl, rfl, rfl, trivial⟩ ?_
    refine SC.ret ?_
    refine SE.passr ?_
    refine SE.res (.inl rfl) (res1 Try.results71 rfl) fun w1 hI => ?_
    have e : setTxF A i f = (1, A) := by
      try simp at h2 h3
      unfold setTxF
      (repeat' split) <;> first | rfl | (exfalso; omega) | (exfalso; simp_all; done) | (exfalso; simp_all; omega)
    rw [e]
    exact ⟨rfl, NicAt.fin hI⟩
  refine SC.skip ?_
  refine SC.of_SE ?_
  refine SC.norm [(0, pt d 0), (1, iw i), (2, Value.slice a f.length c), (6, iw 0)] _ ⟨rfl, rfl, rfl, rfl, trivial⟩ rfl ?_
  refine SC.seq ?_
  refine SC.sr ?_
  refine SL.mv ?_
  refine SL.uu (ru_len Try.underlying28 rfl rfl) ?_
  refine SL.uu (ru_eq (b := (((f.length : Int) : Int) == 0)) rfl rfl rfl rfl) ?_
  refine SL.nn [(0, pt d 0), (1, iw i), (2, Value.slice a f.length c), (6, iw 0), (29, bo (((f.length : Int) : Int) == 0))] _ ⟨rfl, rfl, rfl, rfl, rfl, trivial⟩ ?_
  refine SC.both (((f.length : Int) : Int) == 0) rfl (fun h4 => ?_) (fun h4 => ?_)
  · skip
    refine SC.sr ?_
    refine SL.as ?_
    refine SL.nn [(0, pt d 0), (1, iw i), (2, Value.slice a f.length c), (6, iw 3)] _ ⟨rfl, rfl, rfl, rfl, trivial⟩ ?_
    refine SC.ret ?_
    refine SE.passr ?_
    refine SE.res (.inl rfl) (res1 Try.results71 rfl) fun w1 hI => ?_
    have e : setTxF A i f = (3, A) := by
      try simp at h2 h3 h4
      unfold setTxF
      (repeat' split) <;> first | rfl | (exfalso; omega) | (exfalso; simp_all; done) | (exfalso; simp_all; omega)
    rw [e]
    exact ⟨rfl, NicAt.fin hI⟩
  refine SC.skip ?_
  refine SC.of_SE ?_
  refine SC.norm [(0, pt d 0), (1, iw i), (2, Value.slice a f.length c), (6, iw 0)] _ ⟨rfl, rfl, rfl, rfl, trivial⟩ rfl ?_
  refine SC.seq ?_
  refine SC.sr ?_
  refine SL.mv ?_
  refine SL.uu (ru_len Try.underlying28 rfl rfl) ?_
  refine SL.uu (ru_gt (b := (decide ((274 : Int) < (f.length : Int)))) rfl rfl rfl rfl) ?_
  refine SL.nn [(0, pt d 0), (1, iw i), (2, Value.slice a f.length c), (6, iw 0), (32, bo (decide ((274 : Int) < (f.length : Int))))] _ ⟨rfl, rfl, rfl, rfl, rfl, trivial⟩ ?_
  refine SC.both (decide ((274 : Int) < (f.length : Int))) rfl (fun h5 => ?_) (fun h5 => ?_)
  · skip
    refine SC.sr ?_
    refine SL.as ?_
    refine SL.nn [(0, pt d 0), (1, iw i), (2, Value.slice a f.length c), (6, iw 2)] _ ⟨rfl, rfl, rfl, rfl, trivial⟩ ?_
    refine SC.ret ?_
    refine SE.passr ?_
    refine SE.res (.inl rfl) (res1 Try.results71 rfl) fun w1 hI => ?_
    have e : setTxF A i f = (2, A) := by
      try simp at h2 h3 h4 h5
      unfold setTxF
      (repeat' split) <;> first | rfl | (exfalso; omega) | (exfalso; simp_all; done) | (exfalso; simp_all; omega)
    rw [e]
    exact ⟨rfl, NicAt.fin hI⟩
  refine SC.skip ?_
  refine SC.of_SE ?_
  refine SC.norm [(0, pt d 0), (1, iw i), (2, Value.slice a f.length c), (6, iw 0)] _ ⟨rfl, rfl, rfl, rfl, trivial⟩ rfl ?_
  refine SC.seq ?_
  refine SC.region_app 8 3 (fun t6 => rMine (appV t6 5 f.length) f 5) (by kernel_rfl) (by kernel_rfl) rfl (fun t6 ht6 => ?_)
  refine SS.ru _ CT.base rfl rfl rfl (lt_b rfl) (ru_move rfl rfl) ?_
  refine SS.ru _ CT.base rfl rfl rfl (lt_b rfl) (ru_move rfl rfl) ?_
  refine SS.ru _ CT.base rfl rfl rfl (lt_b rfl) (ru_move rfl rfl) ?_
  refine SS.append0 (f := f) rfl rfl (lt_b rfl) rfl Try.underlying28 (by kernel_rfl) rfl rfl (fun w hI => (hb.only hI.2 hs)) ?_
  refine SS.ru _ CT.base rfl rfl rfl (lt_b rfl) (ru_nilCheck rfl rfl) ?_
  refine SS.ru _ CT.base rfl rfl rfl (lt_b rfl) (ru_fieldAddr (o2 := 8) fd108_1 rfl rfl rfl) ?_
  refine SS.ru _ CT.base rfl rfl rfl (lt_b rfl) (ru_indexA (o2 := 8 + i.toNat * 2) ar103 rfl rfl rfl (by omega) (by omega) rfl) ?_
  refine SS.ru _ CT.base rfl rfl rfl (lt_b rfl) (ru_fieldAddr (o2 := (8 + i.toNat * 2)) fd102_0 rfl rfl rfl) ?_
  refine SS.nilT ?_
  refine SL.store (i := 0) (c' := (nc A (up tv i.toNat (Value.slice (appA t6 f.length) f.length (appC t6 5 f.length))) cv)) rfl rfl ts28 rfl rfl rfl rfl rfl (by rw [nc_len]; omega) (.inl rfl) (set_tv (by omega) (Value.slice (appA t6 f.length) f.length (appC t6 5 f.length))) ?_
  refine SL.nn [(6, iw 0)] [rBlk d (nc A (up tv i.toNat (Value.slice (appA t6 f.length) f.length (appC t6 5 f.length))) cv) 108, rFrs F tv cv A.tb A.cb, rMine (appV t6 5 f.length) f 5] ⟨rfl, trivial⟩ ?_
  refine SC.sr ?_
  refine SL.as ?_
  refine SL.nn [(6, iw 0)] _ ⟨rfl, trivial⟩ ?_
  refine SC.ret ?_
  refine SE.res (.inl rfl) (res1 Try.results71 rfl) fun w1 hI => ?_
  have e : setTxF A i f = (0, { A with tb := up A.tb i.toNat f }) := by
    try simp at h2 h3 h4 h5
    unfold setTxF
    (repeat' split) <;> first | rfl | (exfalso; omega) | (exfalso; simp_all; done) | (exfalso; simp_all; omega)
  rw [e]
  exact ⟨rfl, NicAt.fin_txM hbl (appV_new ht6) hI⟩

theorem q_setrx {w : World} {d : Nat} {F : Nat → Prop} {A : NicA} (hk : NicOk A) (h : NicAt 108 w d F A) (i room : Int) : Calls Try.prog 88 #[pt d 0, iw i, iw room] w fun e w' => e = .returned (iw (setRxF A i room).1) ∧ NicTo 108 w d F (setRxF A i room).2 w' := by
  have hok := hk
  obtain ⟨r2, r3, r4, r5, r6, _, _, _⟩ := hok
  obtain ⟨tv, cv, hI⟩ := h.inv 42 (fun b => b = d)
  refine calls_sc (l0 := _) (args := [pt d 0, iw i, iw room]) (fun b => b = d) Try.func88 rfl 42 Try.ntmps88 (le_b rfl) hI ?_
  show SC _ _ _ _ [(0, pt d 0), (1, iw i), (2, iw room)] [rBlk d (nc A tv cv) 108, rFrs F tv cv A.tb A.cb]
  refine SC.sr ?_
  refine SL.as ?_
  refine SL.nn [(0, pt d 0), (1, iw i), (2, iw room), (6, iw 0)] [rBlk d (nc A tv cv) 108, rFrs F tv cv A.tb A.cb] ⟨rfl, rfl, rfl, rfl, trivial⟩ ?_
  refine SC.seq ?_
  refine SC.sr ?_
  refine SL.mv ?_
  refine SL.uu (ru_lt (b := (decide ((i : Int) < 0))) rfl rfl rfl rfl) ?_
  refine SL.mv ?_
  refine SL.join 3 [(0, pt d 0), (1, iw i), (2, iw room), (6, iw 0), (8, iw i), (9, bo (decide ((i : Int) < 0))), (10, bo (decide ((i : Int) < 0))), (13, bo ((decide ((i : Int) < 0)) || (decide ((16 : Int) ≤ i))))] [rBlk d (nc A tv cv) 108, rFrs F tv cv A.tb A.cb] ?_ ?_
  rotate_left
  · intro K hK
    rcases tf (decide ((i : Int) < 0)) with h1 | h1
    · skip
      refine SL.norm [(0, pt d 0), (1, iw i), (2, iw room), (6, iw 0), (8, iw i), (9, bo true), (10, bo true)] _ ⟨rfl, rfl, rfl, rfl, rfl, (congrArg (fun x => some (Value.bool x)) h1), (congrArg (fun x => some (Value.bool x)) h1), trivial⟩ rfl ?_
      refine SL.oo ?_
      refine SL.oo ?_
      refine SL.uu (ru_pick (u := bo true) (v := undef) rfl rfl rfl rfl) ?_
      exact SL.joined hK ⟨rfl, rfl, rfl, rfl, rfl, (congrArg (fun x => some (Value.bool x)) h1.symm), (congrArg (fun x => some (Value.bool x)) h1.symm), (congrArg (fun x => some (Value.bool (x || (decide ((16 : Int) ≤ i))))) h1.symm), trivial⟩ rfl
    refine SL.norm [(0, pt d 0), (1, iw i), (2, iw room), (6, iw 0), (8, iw i), (9, bo false), (10, bo false)] _ ⟨rfl, rfl, rfl, rfl, rfl, (congrArg (fun x => some (Value.bool x)) h1), (congrArg (fun x => some (Value.bool x)) h1), trivial⟩ rfl ?_
    refine SL.gg (ru_move rfl rfl) ?_
    refine SL.gg (ru_ge (b := (decide ((16 : Int) ≤ i))) rfl rfl rfl rfl) ?_
    refine SL.uu (ru_pick (u := bo true) (v := bo (decide ((16 : Int) ≤ i))) rfl rfl rfl rfl) ?_
    exact SL.joined hK ⟨rfl, rfl, rfl, rfl, rfl, (congrArg (fun x => some (Value.bool x)) h1.symm), (congrArg (fun x => some (Value.bool x)) h1.symm), (congrArg (fun x => some (Value.bool (x || (decide ((16 : Int) ≤ i))))) h1.symm), trivial⟩ rfl
  skip
  refine SL.mv ?_
  refine SL.join 3 [(0, pt d 0), (1, iw i), (2, iw room), (6, iw 0), (8, iw i), (9, bo (decide ((i : Int) < 0))), (10, bo (decide ((i : Int) < 0))), (13, bo ((decide ((i : Int) < 0)) || (decide ((16 : Int) ≤ i)))), (14, bo ((decide ((i : Int) < 0)) || (decide ((16 : Int) ≤ i)))), (17, bo (((decide ((i : Int) < 0)) || (decide ((16 : Int) ≤ i))) || (decide ((room : Int) < 0))))] [rBlk d (nc A tv cv) 108, rFrs F tv cv A.tb A.cb] ?_ ?_
  rotate_left
  · intro K hK
    rcases tf ((decide ((i : Int) < 0)) || (decide ((16 : Int) ≤ i))) with h2 | h2
    · skip
      refine SL.norm [(0, pt d 0), (1, iw i), (2, iw room), (6, iw 0), (8, iw i), (9, bo (decide ((i : Int) < 0))), (10, bo (decide ((i : Int) < 0))), (13, bo true), (14, bo true)] _ ⟨rfl, rfl, rfl, rfl, rfl, rfl, rfl, (congrArg (fun x => some (Value.bool x)) h2), (congrArg (fun x => some (Value.bool x)) h2), trivial⟩ rfl ?_
      refine SL.oo ?_
      refine SL.oo ?_
      refine SL.uu (ru_pick (u := bo true) (v := undef) rfl rfl rfl rfl) ?_
      exact SL.joined hK ⟨rfl, rfl, rfl, rfl, rfl, rfl, rfl, (congrArg (fun x => some (Value.bool x)) h2.symm), (congrArg (fun x => some (Value.bool x)) h2.symm), (congrArg (fun x => some (Value.bool (x || (decide ((room : Int) < 0))))) h2.symm), trivial⟩ rfl
    refine SL.norm [(0, pt d 0), (1, iw i), (2, iw room), (6, iw 0), (8, iw i), (9, bo (decide ((i : Int) < 0))), (10, bo (decide ((i : Int) < 0))), (13, bo false), (14, bo false)] _ ⟨rfl, rfl, rfl, rfl, rfl, rfl, rfl, (congrArg (fun x => some (Value.bool x)) h2), (congrArg (fun x => some (Value.bool x)) h2), trivial⟩ rfl ?_
    refine SL.gg (ru_move rfl rfl) ?_
    refine SL.gg (ru_lt (b := (decide ((room : Int) < 0))) rfl rfl rfl rfl) ?_
    refine SL.uu (ru_pick (u := bo true) (v := bo (decide ((room : Int) < 0))) rfl rfl rfl rfl) ?_
    exact SL.joined hK ⟨rfl, rfl, rfl, rfl, rfl, rfl, rfl, (congrArg (fun x => some (Value.bool x)) h2.symm), (congrArg (fun x => some (Value.bool x)) h2.symm), (congrArg (fun x => some (Value.bool (x || (decide ((room : Int) < 0))))) h2.symm), trivial⟩ rfl
  skip
  refine SL.mv ?_
  refine SL.join 3 [(0, pt d 0), (1, iw i), (2, iw room), (6, iw 0), (8, iw i), (9, bo (decide ((i : Int) < 0))), (10, bo (decide ((i : Int) < 0))), (13, bo ((decide ((i : Int) < 0)) || (decide ((16 : Int) ≤ i)))), (14, bo ((decide ((i : Int) < 0)) || (decide ((16 : Int) ≤ i)))), (17, bo (((decide ((i : Int) < 0)) || (decide ((16 : Int) ≤ i))) || (decide ((room : Int) < 0)))), (18, bo (((decide ((i : Int) < 0)) || (decide ((16 : Int) ≤ i))) || (decide ((room : Int) < 0)))), (21, bo ((((decide ((i : Int) < 0)) || (decide ((16 : Int) ≤ i))) || (decide ((room : Int) < 0))) || (decide ((65535 : Int) < room))))] [rBlk d (nc A tv cv) 108, rFrs F tv cv A.tb A.cb] ?_ ?_
  rotate_left
  · intro K hK
    rcases tf (((decide ((i : Int) < 0)) || (decide ((16 : Int) ≤ i))) || (decide ((room : Int) < 0))) with h3 | h3
    · skip
      refine SL.norm [(0, pt d 0), (1, iw i), (2, iw room), (6, iw 0), (8, iw i), (9, bo (decide ((i : Int) < 0))), (10, bo (decide ((i : Int) < 0))), (13, bo ((decide ((i : Int) < 0)) || (decide ((16 : Int) ≤ i)))), (14, bo ((decide ((i : Int) < 0)) || (decide ((16 : Int) ≤ i)))), (17, bo true), (18, bo true)] _ ⟨rfl, rfl, rfl, rfl, rfl, rfl, rfl, rfl, rfl, (congrArg (fun x => some (Value.bool x)) h3), (congrArg (fun x => some (Value.bool x)) h3), trivial⟩ rfl ?_
      refine SL.oo ?_
      refine SL.oo ?_
      refine SL.uu (ru_pick (u := bo true) (v := undef) rfl rfl rfl rfl) ?_
      exact SL.joined hK ⟨rfl, rfl, rfl, rfl, rfl, rfl, rfl, rfl, rfl, (congrArg (fun x => some (Value.bool x)) h3.symm), (congrArg (fun x => some (Value.bool x)) h3.symm), (congrArg (fun x => some (Value.bool (x || (decide ((65535 : Int) < room))))) h3.symm), trivial⟩ rfl
    refine SL.norm [(0, pt d 0), (1, iw i), (2, iw room), (6, iw 0), (8, iw i), (9, bo (decide ((i : Int) < 0))), (10, bo (decide ((i : Int) < 0))), (13, bo ((decide ((i : Int) < 0)) || (decide ((16 : Int) ≤ i)))), (14, bo ((decide ((i : Int) < 0)) || (decide ((16 : Int) ≤ i)))), (17, bo false), (18, bo false)] _ ⟨rfl, rfl, rfl, rfl, rfl, rfl, rfl, rfl, rfl, (congrArg (fun x => some (Value.bool x)) h3), (congrArg (fun x => some (Value.bool x)) h3), trivial⟩ rfl ?_
    refine SL.gg (ru_move rfl rfl) ?_
    refine SL.gg (ru_gt (b := (decide ((65535 : Int) < room))) rfl rfl rfl rfl) ?_
    refine SL.uu (ru_pick (u := bo true) (v := bo (decide ((65535 : Int) < room))) rfl rfl rfl rfl) ?_
    exact SL.joined hK ⟨rfl, rfl, rfl, rfl, rfl, rfl, rfl, rfl, rfl, (congrArg (fun x => some (Value.bool x)) h3.symm), (congrArg (fun x => some (Value.bool x)) h3.symm), (congrArg (fun x => some (Value.bool (x || (decide ((65535 : Int) < room))))) h3.symm), trivial⟩ rfl
  skip
  refine SL.nn [(0, pt d 0), (1, iw i), (2, iw room), (6, iw 0), (21, bo ((((decide ((i : Int) < 0)) || (decide ((16 : Int) ≤ i))) || (decide ((room : Int) < 0))) || (decide ((65535 : Int) < room))))] _ ⟨rfl, rfl, rfl, rfl, rfl, trivial⟩ ?_
  refine SC.both ((((decide ((i : Int) < 0)) || (decide ((16 : Int) ≤ i))) || (decide ((room : Int) < 0))) || (decide ((65535 : Int) < room))) rfl (fun h4 => ?_) (fun h4 => ?_)
  · skip
    have hbd := fun (e : hostB i (A.r 2) (A.r 3) = true) => host_bd e
    refine SC.sr ?_
    refine SL.as ?_
    refine SL.nn [(0, pt d 0), (1, iw i), (2, iw room), (6, iw 1)] _ ⟨rfl, rfl, rfl, rfl, trivial⟩ ?_
    refine SC.ret ?_
    refine SE.passr ?_
    refine SE.res (.inl rfl) (res1 Try.results88 rfl) fun w1 hI => ?_
    have e : setRxF A i room = (1, A) := by
      try simp at h4
      unfold setRxF
      (repeat' split) <;> first | rfl | (exfalso; omega) | (exfalso; simp_all; done) | (exfalso; simp_all; omega)
    rw [e]
    exact ⟨rfl, NicAt.fin hI⟩
  have hi := host_in3 h4
  refine SC.skip ?_
  refine SC.of_SE ?_
  refine SC.norm [(0, pt d 0), (1, iw i), (2, iw room), (6, iw 0)] _ ⟨rfl, rfl, rfl, rfl, trivial⟩ rfl ?_
  refine SC.seq ?_
  refine SC.region_quiet (by kernel_rfl) (by kernel_rfl) ?_
  refine SQ.uu (ru_move rfl rfl) ?_
  refine SQ.uu (ru_move rfl rfl) ?_
  refine SQ.uu (ru_nilCheck rfl rfl) ?_
  refine SQ.uu (ru_fieldAddr (o2 := 0) fd108_0 rfl rfl rfl) ?_
  refine SQ.uu (ru_indexA (o2 := 2) ar91 rfl rfl rfl (by decide) (by decide) rfl) ?_
  refine SQ.uu (ru_load (i := 0) (v := iw (A.r 2)) ts3 rfl rfl rfl (nc_r (by decide))) ?_
  refine SQ.uu (ru_move rfl rfl) ?_
  refine SQ.uu (ru_nilCheck rfl rfl) ?_
  refine SQ.uu (ru_fieldAddr (o2 := 0) fd108_0 rfl rfl rfl) ?_
  refine SQ.uu (ru_indexA (o2 := 3) ar91 rfl rfl rfl (by decide) (by decide) rfl) ?_
  refine SQ.uu (ru_load (i := 0) (v := iw (A.r 3)) ts3 rfl rfl rfl (nc_r (by decide))) ?_
  refine SQ.call (bo (!(hostB i (A.r 2) (A.r 3)))) rfl rfl co83 rfl rfl rfl (lt_b rfl) (fun w hI => H_only hI (devices_any (by omega) (by omega) (by omega))) ?_
  refine SQ.uu (ru_assign rfl rfl) ?_
  refine SQ.nilE ?_
  refine SC.of_SE ?_
  refine SC.norm [(0, pt d 0), (1, iw i), (2, iw room), (6, iw 0), (7, bo (!(hostB i (A.r 2) (A.r 3))))] _ ⟨rfl, rfl, rfl, rfl, rfl, trivial⟩ rfl ?_
  refine SC.seq ?_
  refine SC.sr ?_
  refine SL.mv ?_
  refine SL.nn [(0, pt d 0), (1, iw i), (2, iw room), (6, iw 0), (34, bo (!(hostB i (A.r 2) (A.r 3))))] _ ⟨rfl, rfl, rfl, rfl, rfl, trivial⟩ ?_
  refine SC.both (!(hostB i (A.r 2) (A.r 3))) rfl (fun h5 => ?_) (fun h5 => ?_)
  · skip
    refine SC.sr ?_
    refine SL.as ?_
    refine SL.nn [(0, pt d 0), (1, iw i), (2, iw room), (6, iw 1)] _ ⟨rfl, rfl, rfl, rfl, trivial⟩ ?_
    refine SC.ret ?_
    refine SE.passr ?_
    refine SE.res (.inl rfl) (res1 Try.results88 rfl) fun w1 hI => ?_
    have e : setRxF A i room = (1, A) := by
      try simp at h4 h5
      unfold setRxF
      (repeat' split) <;> first | rfl | (exfalso; omega) | (exfalso; simp_all; done) | (exfalso; simp_all; omega)
    rw [e]
    exact ⟨rfl, NicAt.fin hI⟩
  refine SC.skip ?_
  refine SC.of_SE ?_
  refine SC.norm [(0, pt d 0), (1, iw i), (2, iw room), (6, iw 0)] _ ⟨rfl, rfl, rfl, rfl, trivial⟩ rfl ?_
  refine SC.sr ?_
  refine SL.mv ?_
  refine SL.mv ?_
  refine SL.mv ?_
  refine SL.uu (ru_build (vals := [(0, iw room)]) (cells := [iw room, bo false, Value.slice none 0 0, bo false]) rfl rfl (by kernel_rfl)) ?_
  refine SL.nk ?_
  refine SL.uu (ru_fieldAddr (o2 := 40) fd108_2 rfl rfl rfl) ?_
  refine SL.uu (ru_indexA (o2 := 40 + i.toNat * 4) ar106 rfl rfl rfl (by omega) (by omega) rfl) ?_
  refine SL.storea (i := 0) (vs := [iw room, bo false, Value.slice none 0 0, bo false]) (c' := (nc { A with room := up A.room i.toNat room, has := up A.has i.toNat false, bad := up A.bad i.toNat false } tv (up cv i.toNat (Value.slice none 0 0)))) rfl rfl ta105 rfl rfl rfl rfl rfl rfl (by rw [nc_len]; simp; omega) (.inl rfl) (set_rx (by omega) room false false (Value.slice none 0 0)) ?_
  refine SL.nn [(6, iw 0)] [rBlk d (nc { A with room := up A.room i.toNat room, has := up A.has i.toNat false, bad := up A.bad i.toNat false } tv (up cv i.toNat (Value.slice none 0 0))) 108, rFrs F tv cv A.tb A.cb] ⟨rfl, trivial⟩ ?_
  refine SC.sr ?_
  refine SL.as ?_
  refine SL.nn [(6, iw 0)] _ ⟨rfl, trivial⟩ ?_
  refine SC.ret ?_
  refine SE.res (.inl rfl) (res1 Try.results88 rfl) fun w1 hI => ?_
  have e : setRxF A i room = (0, { A with cb := up A.cb i.toNat [], room := up A.room i.toNat room, has := up A.has i.toNat false, bad := up A.bad i.toNat false }) := by
    try simp at h4 h5
    unfold setRxF
    (repeat' split) <;> first | rfl | (exfalso; omega) | (exfalso; simp_all; done) | (exfalso; simp_all; omega)
  rw [e]
  exact ⟨rfl, NicAt.fin_no hI⟩

theorem q_give {w : World} {d : Nat} {F : Nat → Prop} {A : NicA} (hk : NicOk A) (h : NicAt 108 w d F A) {v : Value} {f : List UInt8} (hb : BytesAt w v f) (hs : sliceIn v (fun b => ¬ b = d)) (bad : Bool) : Calls Try.prog 50 #[pt d 0, v, bo bad] w fun e w' => e = .returned (iw (giveF A f bad).1) ∧ NicTo 108 w d F (giveF A f bad).2 w' := by
  have hok := hk
  obtain ⟨r2, r3, r4, r5, r6, _, _, _⟩ := hok
  obtain ⟨a, c, rfl⟩ := hb.form
  have hbl := hb.len
  obtain ⟨tv, cv, hI⟩ := h.inv 77 (fun b => b = d)
  refine calls_sc (l0 := _) (args := [pt d 0, Value.slice a f.length c, bo bad]) (fun b => b = d) Try.func50 rfl 77 Try.ntmps50 (le_b rfl) hI ?_
  show SC _ _ _ _ [(0, pt d 0), (1, Value.slice a f.length c), (2, bo bad)] [rBlk d (nc A tv cv) 108, rFrs F tv cv A.tb A.cb]
  refine SC.sr ?_
  refine SL.as ?_
  refine SL.nn [(0, pt d 0), (1, Value.slice a f.length c), (2, bo bad), (6, iw 0)] [rBlk d (nc A tv cv) 108, rFrs F tv cv A.tb A.cb] ⟨rfl, rfl, rfl, rfl, trivial⟩ ?_
  refine SC.sr ?_
  refine SL.mv ?_
  refine SL.callv (bo (offB A)) rfl rfl co77 rfl rfl rfl (lt_b rfl) (fun w hI => H_only hI (q_off hk (NicAt.of hI))) ?_
  refine SL.as ?_
  refine SL.nn [(0, pt d 0), (1, Value.slice a f.length c), (2, bo bad), (6, iw 0), (7, bo (offB A))] _ ⟨rfl, rfl, rfl, rfl, rfl, trivial⟩ ?_
  refine SC.seq ?_
  refine SC.sr ?_
  refine SL.mv ?_
  refine SL.nn [(0, pt d 0), (1, Value.slice a f.length c), (2, bo bad), (6, iw 0), (11, bo (offB A))] _ ⟨rfl, rfl, rfl, rfl, rfl, trivial⟩ ?_
  refine SC.both (offB A) rfl (fun h1 => ?_) (fun h1 => ?_)
  · skip
    refine SC.sr ?_
    refine SL.as ?_
    refine SL.nn [(0, pt d 0), (1, Value.slice a f.length c), (2, bo bad), (6, iw 20)] _ ⟨rfl, rfl, rfl, rfl, trivial⟩ ?_
    refine SC.ret ?_
    refine SE.passr ?_
    refine SE.res (.inl rfl) (res1 Try.results50 rfl) fun w1 hI => ?_
    have e : giveF A f bad = (20, A) := by
      try simp at h1
      unfold giveF
      (repeat' split) <;> first | rfl | (exfalso; omega) | (exfalso; simp_all; done) | (exfalso; simp_all; omega)
    rw [e]
    exact ⟨rfl, NicAt.fin hI⟩
  refine SC.skip ?_
  refine SC.of_SE ?_
  refine SC.norm [(0, pt d 0), (1, Value.slice a f.length c), (2, bo bad), (6, iw 0)] _ ⟨rfl, rfl, rfl, rfl, trivial⟩ rfl ?_
  refine SC.sr ?_
  refine SL.mv ?_
  refine SL.nk ?_
  refine SL.uu (ru_fieldAddr (o2 := 0) fd108_0 rfl rfl rfl) ?_
  refine SL.uu (ru_indexA (o2 := 2) ar91 rfl rfl rfl (by decide) (by decide) rfl) ?_
  refine SL.uu (ru_load (i := 0) (v := iw (A.r 2)) ts3 rfl rfl rfl (nc_r (by decide))) ?_
  refine SL.as ?_
  refine SL.nn [(0, pt d 0), (1, Value.slice a f.length c), (2, bo bad), (6, iw 0), (8, iw (A.r 2))] _ ⟨rfl, rfl, rfl, rfl, rfl, trivial⟩ ?_
  refine SC.seq ?_
  refine SC.sr ?_
  refine SL.mv ?_
  refine SL.mv ?_
  refine SL.nk ?_
  refine SL.uu (ru_fieldAddr (o2 := 0) fd108_0 rfl rfl rfl) ?_
  refine SL.uu (ru_indexA (o2 := 3) ar91 rfl rfl rfl (by decide) (by decide) rfl) ?_
  refine SL.uu (ru_load (i := 0) (v := iw (A.r 3)) ts3 rfl rfl rfl (nc_r (by decide))) ?_
  refine SL.uu (ru_eq (b := (((A.r 2) : Int) == (A.r 3))) rfl rfl rfl rfl) ?_
  refine SL.nn [(0, pt d 0), (1, Value.slice a f.length c), (2, bo bad), (6, iw 0), (8, iw (A.r 2)), (23, bo (((A.r 2) : Int) == (A.r 3)))] _ ⟨rfl, rfl, rfl, rfl, rfl, rfl, trivial⟩ ?_
  refine SC.both (((A.r 2) : Int) == (A.r 3)) rfl (fun h2 => ?_) (fun h2 => ?_)
  · skip
    refine SC.seq ?_
    refine SC.region_tail 9 (by kernel_rfl) (by kernel_rfl) ?_
    refine SQ.uu (ru_move rfl rfl) ?_
    refine SQ.uu (ru_nilCheck rfl rfl) ?_
    refine SQ.uu (ru_fieldAddr (o2 := 0) fd108_0 rfl rfl rfl) ?_
    refine SQ.uu (ru_indexA (o2 := 7) ar91 rfl rfl rfl (by decide) (by decide) rfl) ?_
    refine SQ.uu (ru_load (i := 0) (v := iw (A.r 7)) ts3 rfl rfl rfl (nc_r (by decide))) ?_
    refine SQ.uu (ru_add (r := (IntKind.i64.wrap ((A.r 7) + 1))) rfl rfl rfl rfl) ?_
    refine SQ.uu (ru_nilCheck rfl rfl) ?_
    refine SQ.uu (ru_fieldAddr (o2 := 0) fd108_0 rfl rfl rfl) ?_
    refine SQ.uu (ru_indexA (o2 := 7) ar91 rfl rfl rfl (by decide) (by decide) rfl) ?_
    refine SQ.nilL ?_
    refine SL.store (i := 0) (c' := (nc { A with r := up A.r 7 (IntKind.i64.wrap ((A.r 7) + 1)) } tv cv)) rfl rfl ts3 rfl rfl rfl rfl rfl (by rw [nc_len]; omega) (.inl rfl) (set_r (by decide) (IntKind.i64.wrap ((A.r 7) + 1))) ?_
    refine SL.nn [(0, pt d 0), (1, Value.slice a f.length c), (2, bo bad), (6, iw 0), (8, iw (A.r 2))] [rBlk d (nc { A with r := up A.r 7 (IntKind.i64.wrap ((A.r 7) + 1)) } tv cv) 108, rFrs F tv cv A.tb A.cb] ⟨rfl, rfl, rfl, rfl, rfl, trivial⟩ ?_
    refine SC.sr ?_
    refine SL.as ?_
    refine SL.nn [(0, pt d 0), (1, Value.slice a f.length c), (2, bo bad), (6, iw 21), (8, iw (A.r 2))] _ ⟨rfl, rfl, rfl, rfl, rfl, trivial⟩ ?_
    refine SC.ret ?_
    refine SE.passr ?_
    refine SE.res (.inl rfl) (res1 Try.results50 rfl) fun w1 hI => ?_
    have e : giveF A f bad = (21, { A with r := up A.r 7 (IntKind.i64.wrap ((A.r 7) + 1)) }) := by
      try simp at h1 h2
      unfold giveF
      (repeat' split) <;> first | rfl | (exfalso; omega) | (exfalso; simp_all; done) | (exfalso; simp_all; omega)
    rw [e]
    exact ⟨rfl, NicAt.fin hI⟩
  refine SC.skip ?_
  refine SC.of_SE ?_
  refine SC.norm [(0, pt d 0), (1, Value.slice a f.length c), (2, bo bad), (6, iw 0), (8, iw (A.r 2))] _ ⟨rfl, rfl, rfl, rfl, rfl, trivial⟩ rfl ?_
  refine SC.seq ?_
  refine SC.sr ?_
  refine SL.mv ?_
  refine SL.uu (ru_len Try.underlying28 rfl rfl) ?_
  refine SL.mv ?_
  refine SL.mv ?_
  refine SL.nk ?_
  refine SL.uu (ru_fieldAddr (o2 := 40) fd108_2 rfl rfl rfl) ?_
  refine SL.uu (ru_indexA (o2 := 40 + ((A.r 2).toNat) * 4) ar106 rfl rfl rfl (by omega) (by omega) rfl) ?_
  refine SL.uu (ru_fieldAddr (o2 := (40 + ((A.r 2).toNat) * 4)) fd105_0 rfl rfl rfl) ?_
  refine SL.uu (ru_load (i := 0) (v := iw (A.room ((A.r 2).toNat))) ts3 rfl rfl rfl (nc_room (by omega))) ?_
  refine SL.uu (ru_gt (b := (decide (((A.room ((A.r 2).toNat)) : Int) < (f.length : Int)))) rfl rfl rfl rfl) ?_
  refine SL.nn [(0, pt d 0), (1, Value.slice a f.length c), (2, bo bad), (6, iw 0), (8, iw (A.r 2)), (42, bo (decide (((A.room ((A.r 2).toNat)) : Int) < (f.length : Int))))] _ ⟨rfl, rfl, rfl, rfl, rfl, rfl, trivial⟩ ?_
  refine SC.both (decide (((A.room ((A.r 2).toNat)) : Int) < (f.length : Int))) rfl (fun h3 => ?_) (fun h3 => ?_)
  · skip
    refine SC.seq ?_
    refine SC.region_tail 9 (by kernel_rfl) (by kernel_rfl) ?_
    refine SQ.uu (ru_move rfl rfl) ?_
    refine SQ.uu (ru_nilCheck rfl rfl) ?_
    refine SQ.uu (ru_fieldAddr (o2 := 0) fd108_0 rfl rfl rfl) ?_
    refine SQ.uu (ru_indexA (o2 := 7) ar91 rfl rfl rfl (by decide) (by decide) rfl) ?_
    refine SQ.uu (ru_load (i := 0) (v := iw (A.r 7)) ts3 rfl rfl rfl (nc_r (by decide))) ?_
    refine SQ.uu (ru_add (r := (IntKind.i64.wrap ((A.r 7) + 1))) rfl rfl rfl rfl) ?_
    refine SQ.uu (ru_nilCheck rfl rfl) ?_
    refine SQ.uu (ru_fieldAddr (o2 := 0) fd108_0 rfl rfl rfl) ?_
    refine SQ.uu (ru_indexA (o2 := 7) ar91 rfl rfl rfl (by decide) (by decide) rfl) ?_
    refine SQ.nilL ?_
    refine SL.store (i := 0) (c' := (nc { A with r := up A.r 7 (IntKind.i64.wrap ((A.r 7) + 1)) } tv cv)) rfl rfl ts3 rfl rfl rfl rfl rfl (by rw [nc_len]; omega) (.inl rfl) (set_r (by decide) (IntKind.i64.wrap ((A.r 7) + 1))) ?_
    refine SL.nn [(0, pt d 0), (1, Value.slice a f.length c), (2, bo bad), (6, iw 0), (8, iw (A.r 2))] [rBlk d (nc { A with r := up A.r 7 (IntKind.i64.wrap ((A.r 7) + 1)) } tv cv) 108, rFrs F tv cv A.tb A.cb] ⟨rfl, rfl, rfl, rfl, rfl, trivial⟩ ?_
    refine SC.sr ?_
    refine SL.as ?_
    refine SL.nn [(0, pt d 0), (1, Value.slice a f.length c), (2, bo bad), (6, iw 2), (8, iw (A.r 2))] _ ⟨rfl, rfl, rfl, rfl, rfl, trivial⟩ ?_
    refine SC.ret ?_
    refine SE.passr ?_
    refine SE.res (.inl rfl) (res1 Try.results50 rfl) fun w1 hI => ?_
    have e : giveF A f bad = (2, { A with r := up A.r 7 (IntKind.i64.wrap ((A.r 7) + 1)) }) := by
      try simp at h1 h2 h3
      unfold giveF
      (repeat' split) <;> first | rfl | (exfalso; omega) | (exfalso; simp_all; done) | (exfalso; simp_all; omega)
    rw [e]
    exact ⟨rfl, NicAt.fin hI⟩
  refine SC.skip ?_
  refine SC.of_SE ?_
  refine SC.norm [(0, pt d 0), (1, Value.slice a f.length c), (2, bo bad), (6, iw 0), (8, iw (A.r 2))] _ ⟨rfl, rfl, rfl, rfl, rfl, trivial⟩ rfl ?_
  refine SC.seq ?_
  refine SC.region_app 16 10 (fun t4 => rMine (appV t4 5 f.length) f 5) (by kernel_rfl) (by kernel_rfl) rfl (fun t4 ht4 => ?_)
  refine SS.ru _ CT.base rfl rfl rfl (lt_b rfl) (ru_move rfl rfl) ?_
  refine SS.ru _ CT.base rfl rfl rfl (lt_b rfl) (ru_move rfl rfl) ?_
  refine SS.ru _ CT.base rfl rfl rfl (lt_b rfl) (ru_move rfl rfl) ?_
  refine SS.ru _ CT.base rfl rfl rfl (lt_b rfl) (ru_move rfl rfl) ?_
  refine SS.ru _ CT.base rfl rfl rfl (lt_b rfl) (ru_nilCheck rfl rfl) ?_
  refine SS.ru _ CT.base rfl rfl rfl (lt_b rfl) (ru_fieldAddr (o2 := 40) fd108_2 rfl rfl rfl) ?_
  refine SS.ru _ CT.base rfl rfl rfl (lt_b rfl) (ru_indexA (o2 := 40 + ((A.r 2).toNat) * 4) ar106 rfl rfl rfl (by omega) (by omega) rfl) ?_
  refine SS.ru _ CT.base rfl rfl rfl (lt_b rfl) (ru_fieldAddr (o2 := (40 + ((A.r 2).toNat) * 4)) fd105_0 rfl rfl rfl) ?_
  refine SS.ru _ CT.base rfl rfl rfl (lt_b rfl) (ru_load (i := 0) (v := iw (A.room ((A.r 2).toNat))) ts3 rfl rfl rfl (nc_room (by omega))) ?_
  refine SS.ru _ CT.base rfl rfl rfl (lt_b rfl) (ru_move rfl rfl) ?_
  refine SS.append0 (f := f) rfl rfl (lt_b rfl) rfl Try.underlying28 (by kernel_rfl) rfl rfl (fun w hI => (hb.only hI.2 hs)) ?_
  refine SS.ru _ CT.base rfl rfl rfl (lt_b rfl) (ru_move rfl rfl) ?_
  refine SS.ru _ CT.base rfl rfl rfl (lt_b rfl) (ru_build (vals := [(0, iw (A.room ((A.r 2).toNat))), (1, bo true), (2, Value.slice (appA t4 f.length) f.length (appC t4 5 f.length)), (3, bo bad)]) (cells := [iw (A.room ((A.r 2).toNat)), bo true, Value.slice (appA t4 f.length) f.length (appC t4 5 f.length), bo bad]) rfl rfl (by kernel_rfl)) ?_
  refine SS.ru _ CT.base rfl rfl rfl (lt_b rfl) (ru_nilCheck rfl rfl) ?_
  refine SS.ru _ CT.base rfl rfl rfl (lt_b rfl) (ru_fieldAddr (o2 := 40) fd108_2 rfl rfl rfl) ?_
  refine SS.ru _ CT.base rfl rfl rfl (lt_b rfl) (ru_indexA (o2 := 40 + ((A.r 2).toNat) * 4) ar106 rfl rfl rfl (by omega) (by omega) rfl) ?_
  refine SS.nilT ?_
  refine SL.storea (i := 0) (vs := [iw (A.room ((A.r 2).toNat)), bo true, Value.slice (appA t4 f.length) f.length (appC t4 5 f.length), bo bad]) (c' := (nc { A with room := up A.room ((A.r 2).toNat) (A.room ((A.r 2).toNat)), has := up A.has ((A.r 2).toNat) true, bad := up A.bad ((A.r 2).toNat) bad } tv (up cv ((A.r 2).toNat) (Value.slice (appA t4 f.length) f.length (appC t4 5 f.length))))) rfl rfl ta105 rfl rfl rfl rfl rfl rfl (by rw [nc_len]; simp; omega) (.inl rfl) (set_rx (by omega) (A.room ((A.r 2).toNat)) true bad (Value.slice (appA t4 f.length) f.length (appC t4 5 f.length))) ?_
  refine SL.nn [(0, pt d 0), (6, iw 0), (8, iw (A.r 2))] [rBlk d (nc { A with room := up A.room ((A.r 2).toNat) (A.room ((A.r 2).toNat)), has := up A.has ((A.r 2).toNat) true, bad := up A.bad ((A.r 2).toNat) bad } tv (up cv ((A.r 2).toNat) (Value.slice (appA t4 f.length) f.length (appC t4 5 f.length)))) 108, rFrs F tv cv A.tb A.cb, rMine (appV t4 5 f.length) f 5] ⟨rfl, rfl, rfl, trivial⟩ ?_
  refine SC.sr ?_
  refine SL.mv ?_
  refine SL.mv ?_
  refine SL.uu (ru_add (r := (IntKind.i64.wrap ((A.r 2) + 1))) rfl rfl rfl rfl) ?_
  refine SL.uu (ru_rem (r := (nx (A.r 2))) rfl rfl rfl (by decide) (nx_q r2)) ?_
  refine SL.nk ?_
  refine SL.uu (ru_fieldAddr (o2 := 0) fd108_0 rfl rfl rfl) ?_
  refine SL.uu (ru_indexA (o2 := 2) ar91 rfl rfl rfl (by decide) (by decide) rfl) ?_
  refine SL.store (i := 0) (c' := (nc { A with r := up A.r 2 (nx (A.r 2)), room := up A.room ((A.r 2).toNat) (A.room ((A.r 2).toNat)), has := up A.has ((A.r 2).toNat) true, bad := up A.bad ((A.r 2).toNat) bad } tv (up cv ((A.r 2).toNat) (Value.slice (appA t4 f.length) f.length (appC t4 5 f.length))))) rfl rfl ts3 rfl rfl rfl rfl rfl (by rw [nc_len]; omega) (.inl rfl) (set_r (by decide) (nx (A.r 2))) ?_
  refine SL.nn [(0, pt d 0), (6, iw 0)] [rBlk d (nc { A with r := up A.r 2 (nx (A.r 2)), room := up A.room ((A.r 2).toNat) (A.room ((A.r 2).toNat)), has := up A.has ((A.r 2).toNat) true, bad := up A.bad ((A.r 2).toNat) bad } tv (up cv ((A.r 2).toNat) (Value.slice (appA t4 f.length) f.length (appC t4 5 f.length)))) 108, rFrs F tv cv A.tb A.cb, rMine (appV t4 5 f.length) f 5] ⟨rfl, rfl, trivial⟩ ?_
  refine SC.sr ?_
  refine SL.mv ?_
  refine SL.call (ζ := Unit) (fun _ => Value.tuple #[]) (fun _ => [rBlk d (nc { A with r := up (up A.r 2 (nx (A.r 2))) 6 (ev (A.r 6) 1), room := up A.room ((A.r 2).toNat) (A.room ((A.r 2).toNat)), has := up A.has ((A.r 2).toNat) true, bad := up A.bad ((A.r 2).toNat) bad } tv (up cv ((A.r 2).toNat) (Value.slice (appA t4 f.length) f.length (appC t4 5 f.length)))) 108, rFrs F tv cv A.tb A.cb, rMine (appV t4 5 f.length) f 5]) (fun _ => True) rfl rfl co78 rfl rfl rfl (lt_b rfl) (fun w hI => (q_event1 (A := { A with r := up A.r 2 (nx (A.r 2)), room := up A.room ((A.r 2).toNat) (A.room ((A.r 2).toNat)), has := up A.has ((A.r 2).toNat) true, bad := up A.bad ((A.r 2).toNat) bad }) r6 (hI.1.get (i := 0) rfl)).mono fun e w2 ⟨h1, h2, h3⟩ => ⟨(), h1, hI.upd (i := 0) rfl h3 (fun b hb => .inl hb) h2 (fun b hb => .inl hb), trivial⟩) ?_
  intro _ _
  refine SL.nn [(6, iw 0)] [rBlk d (nc { A with r := up (up A.r 2 (nx (A.r 2))) 6 (ev (A.r 6) 1), room := up A.room ((A.r 2).toNat) (A.room ((A.r 2).toNat)), has := up A.has ((A.r 2).toNat) true, bad := up A.bad ((A.r 2).toNat) bad } tv (up cv ((A.r 2).toNat) (Value.slice (appA t4 f.length) f.length (appC t4 5 f.length)))) 108, rFrs F tv cv A.tb A.cb, rMine (appV t4 5 f.length) f 5] ⟨rfl, trivial⟩ ?_
  refine SC.sr ?_
  refine SL.as ?_
  refine SL.nn [(6, iw 0)] _ ⟨rfl, trivial⟩ ?_
  refine SC.ret ?_
  refine SE.res (.inl rfl) (res1 Try.results50 rfl) fun w1 hI => ?_
  have e : giveF A f bad = (0, { A with cb := up A.cb (A.r 2).toNat f, r := up (up A.r 2 (nx (A.r 2))) 6 (ev (A.r 6) 1), room := up A.room ((A.r 2).toNat) (A.room ((A.r 2).toNat)), has := up A.has ((A.r 2).toNat) true, bad := up A.bad ((A.r 2).toNat) bad }) := by
    try simp at h1 h2 h3
    unfold giveF
    (repeat' split) <;> first | rfl | (exfalso; omega) | (exfalso; simp_all; done) | (exfalso; simp_all; omega)
  rw [e]
  exact ⟨rfl, NicAt.fin_rxM hbl (appV_new ht4) hI⟩

theorem q_take {w : World} {d : Nat} {F : Nat → Prop} {A : NicA} (hk : NicOk A) (h : NicAt 108 w d F A)  : Calls Try.prog 49 #[pt d 0] w fun e w' => ∃ v, e = .returned (.tuple #[.agg #[v, bo false, iw (takeR A).1.1.2], iw (takeR A).1.2]) ∧ NicAt 108 w' d F (takeR A).2 ∧ Only (fun b => b = d) w w' ∧ Lent F w' v (takeR A).1.1.1 := by
  have hok := hk
  obtain ⟨r2, r3, r4, r5, r6, _, _, _⟩ := hok
  obtain ⟨tv, cv, hI⟩ := h.inv 47 (fun b => b = d)
  obtain ⟨qa, qc, et⟩ : ∃ qa qc, tv (A.r 4).toNat = .slice qa (A.tb (A.r 4).toNat).length qc := ((show FrsAt w F tv cv A.tb A.cb from hI.1.get (i := 1) rfl).2.1 _ (by omega)).1.form
  refine calls_sc (l0 := _) (args := [pt d 0]) (fun b => b = d) Try.func49 rfl 47 Try.ntmps49 (le_b rfl) hI ?_
  show SC _ _ _ _ [(0, pt d 0)] [rBlk d (nc A tv cv) 108, rFrs F tv cv A.tb A.cb]
  refine SC.sr ?_
  refine SL.alloca rfl rfl (lt_b rfl) ta49 rfl fun b1 hb1 => ?_
  refine SL.as ?_
  refine SL.nn [(0, pt d 0), (2, pt b1 0), (3, iw 0)] [rBlk d (nc A tv cv) 108, rFrs F tv cv A.tb A.cb, rBlk b1 [Value.slice none 0 0, bo false, iw 0] 49] ⟨rfl, rfl, rfl, trivial⟩ ?_
  refine SC.sr ?_
  refine SL.mv ?_
  refine SL.callv (bo (offB A)) rfl rfl co77 rfl rfl rfl (lt_b rfl) (fun w hI => H_only hI (q_off hk (NicAt.of hI))) ?_
  refine SL.as ?_
  refine SL.nn [(0, pt d 0), (2, pt b1 0), (3, iw 0), (4, bo (offB A))] _ ⟨rfl, rfl, rfl, rfl, trivial⟩ ?_
  refine SC.seq ?_
  refine SC.sr ?_
  refine SL.mv ?_
  refine SL.nn [(0, pt d 0), (2, pt b1 0), (3, iw 0), (8, bo (offB A))] _ ⟨rfl, rfl, rfl, rfl, trivial⟩ ?_
  refine SC.both (offB A) rfl (fun h2 => ?_) (fun h2 => ?_)
  · skip
    refine SC.sr ?_
    refine SL.uu (ru_build (vals := []) (cells := [Value.slice none 0 0, bo false, iw 0]) rfl rfl (by kernel_rfl)) ?_
    refine SL.storea (i := 2) (vs := [Value.slice none 0 0, bo false, iw 0]) (c' := [Value.slice none 0 0, bo false, iw 0]) rfl rfl ta49 rfl rfl rfl rfl rfl rfl (le_b rfl) (.inr hb1) rfl ?_
    refine SL.as ?_
    refine SL.nn [(0, pt d 0), (2, pt b1 0), (3, iw 20)] _ ⟨rfl, rfl, rfl, trivial⟩ ?_
    refine SC.ret ?_
    refine SE.passr ?_
    refine SE.res (.inl rfl) (res_ct (z := [Value.slice none 0 0, bo false, iw 0]) (c := [Value.slice none 0 0, bo false, iw 0]) Try.results49 ta49 rfl rfl 2 rfl rfl) fun w1 hI => ?_
    have e : takeR A = ((([], 0), 20), A) := by
      try simp at h2
      unfold takeR
      (repeat' split) <;> first | rfl | (exfalso; omega) | (exfalso; simp_all; done) | (exfalso; simp_all; omega)
    rw [e]
    exact ⟨_, rfl, NicAt.of hI, hI.2, BytesAt.nil _, nil_in⟩
  refine SC.skip ?_
  refine SC.of_SE ?_
  refine SC.norm [(0, pt d 0), (2, pt b1 0), (3, iw 0)] _ ⟨rfl, rfl, rfl, trivial⟩ rfl ?_
  refine SC.sr ?_
  refine SL.mv ?_
  refine SL.nk ?_
  refine SL.uu (ru_fieldAddr (o2 := 0) fd108_0 rfl rfl rfl) ?_
  refine SL.uu (ru_indexA (o2 := 4) ar91 rfl rfl rfl (by decide) (by decide) rfl) ?_
  refine SL.uu (ru_load (i := 0) (v := iw (A.r 4)) ts3 rfl rfl rfl (nc_r (by decide))) ?_
  refine SL.as ?_
  refine SL.nn [(0, pt d 0), (2, pt b1 0), (3, iw 0), (5, iw (A.r 4))] _ ⟨rfl, rfl, rfl, rfl, trivial⟩ ?_
  refine SC.seq ?_
  refine SC.sr ?_
  refine SL.mv ?_
  refine SL.mv ?_
  refine SL.nk ?_
  refine SL.uu (ru_fieldAddr (o2 := 0) fd108_0 rfl rfl rfl) ?_
  refine SL.uu (ru_indexA (o2 := 5) ar91 rfl rfl rfl (by decide) (by decide) rfl) ?_
  refine SL.uu (ru_load (i := 0) (v := iw (A.r 5)) ts3 rfl rfl rfl (nc_r (by decide))) ?_
  refine SL.uu (ru_eq (b := (((A.r 4) : Int) == (A.r 5))) rfl rfl rfl rfl) ?_
  refine SL.nn [(0, pt d 0), (2, pt b1 0), (3, iw 0), (5, iw (A.r 4)), (21, bo (((A.r 4) : Int) == (A.r 5)))] _ ⟨rfl, rfl, rfl, rfl, rfl, trivial⟩ ?_
  refine SC.both (((A.r 4) : Int) == (A.r 5)) rfl (fun h3 => ?_) (fun h3 => ?_)
  · skip
    refine SC.sr ?_
    refine SL.uu (ru_build (vals := []) (cells := [Value.slice none 0 0, bo false, iw 0]) rfl rfl (by kernel_rfl)) ?_
    refine SL.storea (i := 2) (vs := [Value.slice none 0 0, bo false, iw 0]) (c' := [Value.slice none 0 0, bo false, iw 0]) rfl rfl ta49 rfl rfl rfl rfl rfl rfl (le_b rfl) (.inr hb1) rfl ?_
    refine SL.as ?_
    refine SL.nn [(0, pt d 0), (2, pt b1 0), (3, iw 7), (5, iw (A.r 4))] _ ⟨rfl, rfl, rfl, rfl, trivial⟩ ?_
    refine SC.ret ?_
    refine SE.passr ?_
    refine SE.res (.inl rfl) (res_ct (z := [Value.slice none 0 0, bo false, iw 0]) (c := [Value.slice none 0 0, bo false, iw 0]) Try.results49 ta49 rfl rfl 2 rfl rfl) fun w1 hI => ?_
    have e : takeR A = ((([], 0), 7), A) := by
      try simp at h2 h3
      unfold takeR
      (repeat' split) <;> first | rfl | (exfalso; omega) | (exfalso; simp_all; done) | (exfalso; simp_all; omega)
    rw [e]
    exact ⟨_, rfl, NicAt.of hI, hI.2, BytesAt.nil _, nil_in⟩
  refine SC.skip ?_
  refine SC.of_SE ?_
  refine SC.norm [(0, pt d 0), (2, pt b1 0), (3, iw 0), (5, iw (A.r 4))] _ ⟨rfl, rfl, rfl, rfl, trivial⟩ rfl ?_
  refine SC.sr ?_
  refine SL.mv ?_
  refine SL.mv ?_
  refine SL.uu (ru_add (r := (IntKind.i64.wrap ((A.r 4) + 1))) rfl rfl rfl rfl) ?_
  refine SL.uu (ru_rem (r := (nx (A.r 4))) rfl rfl rfl (by decide) (nx_q r4)) ?_
  refine SL.nk ?_
  refine SL.uu (ru_fieldAddr (o2 := 0) fd108_0 rfl rfl rfl) ?_
  refine SL.uu (ru_indexA (o2 := 4) ar91 rfl rfl rfl (by decide) (by decide) rfl) ?_
  refine SL.store (i := 0) (c' := (nc { A with r := up A.r 4 (nx (A.r 4)) } tv cv)) rfl rfl ts3 rfl rfl rfl rfl rfl (by rw [nc_len]; omega) (.inl rfl) (set_r (by decide) (nx (A.r 4))) ?_
  refine SL.nn [(0, pt d 0), (2, pt b1 0), (3, iw 0), (5, iw (A.r 4))] [rBlk d (nc { A with r := up A.r 4 (nx (A.r 4)) } tv cv) 108, rFrs F tv cv A.tb A.cb, rBlk b1 [Value.slice none 0 0, bo false, iw 0] 49] ⟨rfl, rfl, rfl, rfl, trivial⟩ ?_
  refine SC.sr ?_
  refine SL.mv ?_
  refine SL.call (ζ := Unit) (fun _ => Value.tuple #[]) (fun _ => [rBlk d (nc { A with r := up (up A.r 4 (nx (A.r 4))) 6 (ev (A.r 6) 2) } tv cv) 108, rFrs F tv cv A.tb A.cb, rBlk b1 [Value.slice none 0 0, bo false, iw 0] 49]) (fun _ => True) rfl rfl co78 rfl rfl rfl (lt_b rfl) (fun w hI => (q_event2 (A := { A with r := up A.r 4 (nx (A.r 4)) }) r6 (hI.1.get (i := 0) rfl)).mono fun e w2 ⟨h1, h2, h3⟩ => ⟨(), h1, hI.upd (i := 0) rfl h3 (fun b hb => .inl hb) h2 (fun b hb => .inl hb), trivial⟩) ?_
  intro _ _
  refine SL.nn [(0, pt d 0), (2, pt b1 0), (3, iw 0), (5, iw (A.r 4))] [rBlk d (nc { A with r := up (up A.r 4 (nx (A.r 4))) 6 (ev (A.r 6) 2) } tv cv) 108, rFrs F tv cv A.tb A.cb, rBlk b1 [Value.slice none 0 0, bo false, iw 0] 49] ⟨rfl, rfl, rfl, rfl, trivial⟩ ?_
  refine SC.seq ?_
  refine SC.region_tail 15 (by kernel_rfl) (by kernel_rfl) ?_
  refine SQ.uu (ru_move rfl rfl) ?_
  refine SQ.uu (ru_move rfl rfl) ?_
  refine SQ.uu (ru_nilCheck rfl rfl) ?_
  refine SQ.uu (ru_fieldAddr (o2 := 8) fd108_1 rfl rfl rfl) ?_
  refine SQ.uu (ru_indexA (o2 := 8 + ((A.r 4).toNat) * 2) ar103 rfl rfl rfl (by omega) (by omega) rfl) ?_
  refine SQ.uu (ru_fieldAddr (o2 := (8 + ((A.r 4).toNat) * 2)) fd102_0 rfl rfl rfl) ?_
  refine SQ.uu (ru_load (i := 0) (v := Value.slice qa ((A.tb (A.r 4).toNat).length) qc) ts28 rfl rfl rfl ((nc_tv (by omega)).trans (congrArg some et))) ?_
  refine SQ.uu (ru_move rfl rfl) ?_
  refine SQ.uu (ru_move rfl rfl) ?_
  refine SQ.uu (ru_nilCheck rfl rfl) ?_
  refine SQ.uu (ru_fieldAddr (o2 := 8) fd108_1 rfl rfl rfl) ?_
  refine SQ.uu (ru_indexA (o2 := 8 + ((A.r 4).toNat) * 2) ar103 rfl rfl rfl (by omega) (by omega) rfl) ?_
  refine SQ.uu (ru_fieldAddr (o2 := (8 + ((A.r 4).toNat) * 2 + 1)) fd102_1 rfl rfl rfl) ?_
  refine SQ.uu (ru_load (i := 0) (v := iw (A.tp ((A.r 4).toNat))) ts3 rfl rfl rfl (nc_tp (by omega))) ?_
  refine SQ.uu (ru_build (vals := [(0, Value.slice qa ((A.tb (A.r 4).toNat).length) qc), (2, iw (A.tp ((A.r 4).toNat)))]) (cells := [Value.slice qa ((A.tb (A.r 4).toNat).length) qc, bo false, iw (A.tp ((A.r 4).toNat))]) rfl rfl (by kernel_rfl)) ?_
  refine SQ.nilL ?_
  refine SL.storea (i := 2) (vs := [Value.slice qa ((A.tb (A.r 4).toNat).length) qc, bo false, iw (A.tp ((A.r 4).toNat))]) (c' := [Value.slice qa ((A.tb (A.r 4).toNat).length) qc, bo false, iw (A.tp ((A.r 4).toNat))]) rfl rfl ta49 rfl rfl rfl rfl rfl rfl (le_b rfl) (.inr hb1) rfl ?_
  refine SL.as ?_
  refine SL.nn [(2, pt b1 0), (3, iw 0)] [rBlk d (nc { A with r := up (up A.r 4 (nx (A.r 4))) 6 (ev (A.r 6) 2) } tv cv) 108, rFrs F tv cv A.tb A.cb, rBlk b1 [Value.slice qa ((A.tb (A.r 4).toNat).length) qc, bo false, iw (A.tp ((A.r 4).toNat))] 49] ⟨rfl, rfl, trivial⟩ ?_
  refine SC.ret ?_
  refine SE.res (.inl rfl) (res_ct (z := [Value.slice none 0 0, bo false, iw 0]) (c := [Value.slice qa ((A.tb (A.r 4).toNat).length) qc, bo false, iw (A.tp ((A.r 4).toNat))]) Try.results49 ta49 rfl rfl 2 rfl rfl) fun w1 hI => ?_
  have e : takeR A = (((A.tb (A.r 4).toNat, A.tp (A.r 4).toNat), 0), takeF A) := by
    try simp at h2 h3
    unfold takeR
    (repeat' split) <;> first | rfl | (exfalso; omega) | (exfalso; simp_all; done) | (exfalso; simp_all; omega)
  rw [e]
  exact ⟨_, rfl, NicAt.of hI, hI.2, by rw [← et]; exact (show FrsAt w1 F tv cv A.tb A.cb from hI.1.get (i := 1) rfl).2.1 _ (by omega)⟩

theorem q_rx {w : World} {d : Nat} {F : Nat → Prop} {A : NicA} (hk : NicOk A) (h : NicAt 108 w d F A) (i : Int) : Calls Try.prog 86 #[pt d 0, iw i] w fun e w' => ∃ v, e = .returned (.tuple #[v, bo (rxR A i).1.2, iw (rxR A i).2]) ∧ Only (fun _ => False) w w' ∧ Lent F w' v (rxR A i).1.1 := by
  have hok := hk
  obtain ⟨r2, r3, r4, r5, r6, _, _, _⟩ := hok
  obtain ⟨tv, cv, hI⟩ := h.inv 35 (fun _ => False)
  refine calls_sc (l0 := _) (args := [pt d 0, iw i]) (fun _ => False) Try.func86 rfl 35 Try.ntmps86 (le_b rfl) hI ?_
  show SC _ _ _ _ [(0, pt d 0), (1, iw i)] [rBlk d (nc A tv cv) 108, rFrs F tv cv A.tb A.cb]
  refine SC.sr ?_
  refine SL.as ?_
  refine SL.as ?_
  refine SL.as ?_
  refine SL.nn [(0, pt d 0), (1, iw i), (4, Value.slice none 0 0), (5, bo false), (6, iw 0)] [rBlk d (nc A tv cv) 108, rFrs F tv cv A.tb A.cb] ⟨rfl, rfl, rfl, rfl, rfl, trivial⟩ ?_
  refine SC.seq ?_
  refine SC.sr ?_
  refine SL.mv ?_
  refine SL.uu (ru_lt (b := (decide ((i : Int) < 0))) rfl rfl rfl rfl) ?_
  refine SL.mv ?_
  refine SL.join 3 [(0, pt d 0), (1, iw i), (4, Value.slice none 0 0), (5, bo false), (6, iw 0), (7, iw i), (8, bo (decide ((i : Int) < 0))), (9, bo (decide ((i : Int) < 0))), (12, bo ((decide ((i : Int) < 0)) || (decide ((16 : Int) ≤ i))))] [rBlk d (nc A tv cv) 108, rFrs F tv cv A.tb A.cb] ?_ ?_
  rotate_left
  · intro K hK
    rcases tf (decide ((i : Int) < 0)) with h1 | h1
    · skip
      refine SL.norm [(0, pt d 0), (1, iw i), (4, Value.slice none 0 0), (5, bo false), (6, iw 0), (7, iw i), (8, bo true), (9, bo true)] _ ⟨rfl, rfl, rfl, rfl, rfl, rfl, (congrArg (fun x => some (Value.bool x)) h1), (congrArg (fun x => some (Value.bool x)) h1), trivial⟩ rfl ?_
      refine SL.oo ?_
      refine SL.oo ?_
      refine SL.uu (ru_pick (u := bo true) (v := undef) rfl rfl rfl rfl) ?_
      exact SL.joined hK ⟨rfl, rfl, rfl, rfl, rfl, rfl, (congrArg (fun x => some (Value.bool x)) h1.symm), (congrArg (fun x => some (Value.bool x)) h1.symm), (congrArg (fun x => some (Value.bool (x || (decide ((16 : Int) ≤ i))))) h1.symm), trivial⟩ rfl
    refine SL.norm [(0, pt d 0), (1, iw i), (4, Value.slice none 0 0), (5, bo false), (6, iw 0), (7, iw i), (8, bo false), (9, bo false)] _ ⟨rfl, rfl, rfl, rfl, rfl, rfl, (congrArg (fun x => some (Value.bool x)) h1), (congrArg (fun x => some (Value.bool x)) h1), trivial⟩ rfl ?_
    refine SL.gg (ru_move rfl rfl) ?_
    refine SL.gg (ru_ge (b := (decide ((16 : Int) ≤ i))) rfl rfl rfl rfl) ?_
    refine SL.uu (ru_pick (u := bo true) (v := bo (decide ((16 : Int) ≤ i))) rfl rfl rfl rfl) ?_
    exact SL.joined hK ⟨rfl, rfl, rfl, rfl, rfl, rfl, (congrArg (fun x => some (Value.bool x)) h1.symm), (congrArg (fun x => some (Value.bool x)) h1.symm), (congrArg (fun x => some (Value.bool (x || (decide ((16 : Int) ≤ i))))) h1.symm), trivial⟩ rfl
  skip
  refine SL.nn [(0, pt d 0), (1, iw i), (4, Value.slice none 0 0), (5, bo false), (6, iw 0), (12, bo ((decide ((i : Int) < 0)) || (decide ((16 : Int) ≤ i))))] _ ⟨rfl, rfl, rfl, rfl, rfl, rfl, trivial⟩ ?_
  refine SC.both ((decide ((i : Int) < 0)) || (decide ((16 : Int) ≤ i))) rfl (fun h2 => ?_) (fun h2 => ?_)
  · skip
    refine SC.sr ?_
    refine SL.as ?_
    refine SL.as ?_
    refine SL.as ?_
    refine SL.nn [(0, pt d 0), (1, iw i), (4, Value.slice none 0 0), (5, bo false), (6, iw 1)] _ ⟨rfl, rfl, rfl, rfl, rfl, trivial⟩ ?_
    refine SC.ret ?_
    refine SE.passr ?_
    refine SE.res (.inl rfl) (res3 Try.results86 rfl rfl rfl) fun w1 hI => ?_
    have e : rxR A i = (([], false), 1) := by
      try simp at h2
      unfold rxR
      (repeat' split) <;> first | rfl | (exfalso; omega) | (exfalso; simp_all; done) | (exfalso; simp_all; omega)
    rw [e]
    exact ⟨_, rfl, hI.2, BytesAt.nil _, nil_in⟩
  have hi := host_in h2
  refine SC.skip ?_
  refine SC.of_SE ?_
  refine SC.norm [(0, pt d 0), (1, iw i), (4, Value.slice none 0 0), (5, bo false), (6, iw 0)] _ ⟨rfl, rfl, rfl, rfl, rfl, trivial⟩ rfl ?_
  refine SC.seq ?_
  refine SC.sr ?_
  refine SL.mv ?_
  refine SL.mv ?_
  refine SL.nk ?_
  refine SL.uu (ru_fieldAddr (o2 := 40) fd108_2 rfl rfl rfl) ?_
  refine SL.uu (ru_indexA (o2 := 40 + i.toNat * 4) ar106 rfl rfl rfl (by omega) (by omega) rfl) ?_
  refine SL.uu (ru_fieldAddr (o2 := (40 + i.toNat * 4 + 1)) fd105_1 rfl rfl rfl) ?_
  refine SL.uu (ru_load (i := 0) (v := bo (A.has i.toNat)) ts4 rfl rfl rfl (nc_has (by omega))) ?_
  refine SL.uu (ru_not (c := (!(A.has i.toNat))) rfl rfl rfl) ?_
  refine SL.nn [(0, pt d 0), (1, iw i), (4, Value.slice none 0 0), (5, bo false), (6, iw 0), (20, bo (!(A.has i.toNat)))] _ ⟨rfl, rfl, rfl, rfl, rfl, rfl, trivial⟩ ?_
  refine SC.both (!(A.has i.toNat)) rfl (fun h3 => ?_) (fun h3 => ?_)
  · skip
    refine SC.sr ?_
    refine SL.as ?_
    refine SL.as ?_
    refine SL.as ?_
    refine SL.nn [(0, pt d 0), (1, iw i), (4, Value.slice none 0 0), (5, bo false), (6, iw 7)] _ ⟨rfl, rfl, rfl, rfl, rfl, trivial⟩ ?_
    refine SC.ret ?_
    refine SE.passr ?_
    refine SE.res (.inl rfl) (res3 Try.results86 rfl rfl rfl) fun w1 hI => ?_
    have e : rxR A i = (([], false), 7) := by
      try simp at h2 h3
      unfold rxR
      (repeat' split) <;> first | rfl | (exfalso; omega) | (exfalso; simp_all; done) | (exfalso; simp_all; omega)
    rw [e]
    exact ⟨_, rfl, hI.2, BytesAt.nil _, nil_in⟩
  refine SC.skip ?_
  refine SC.of_SE ?_
  refine SC.norm [(0, pt d 0), (1, iw i), (4, Value.slice none 0 0), (5, bo false), (6, iw 0)] _ ⟨rfl, rfl, rfl, rfl, rfl, trivial⟩ rfl ?_
  refine SC.seq ?_
  refine SC.region_quiet (by kernel_rfl) (by kernel_rfl) ?_
  refine SQ.uu (ru_move rfl rfl) ?_
  refine SQ.uu (ru_move rfl rfl) ?_
  refine SQ.uu (ru_nilCheck rfl rfl) ?_
  refine SQ.uu (ru_fieldAddr (o2 := 40) fd108_2 rfl rfl rfl) ?_
  refine SQ.uu (ru_indexA (o2 := 40 + i.toNat * 4) ar106 rfl rfl rfl (by omega) (by omega) rfl) ?_
  refine SQ.uu (ru_fieldAddr (o2 := (40 + i.toNat * 4 + 2)) fd105_2 rfl rfl rfl) ?_
  refine SQ.uu (ru_load (i := 0) (v := cv i.toNat) ts28 rfl rfl rfl (nc_cv (by omega))) ?_
  refine SQ.uu (ru_move rfl rfl) ?_
  refine SQ.uu (ru_move rfl rfl) ?_
  refine SQ.uu (ru_nilCheck rfl rfl) ?_
  refine SQ.uu (ru_fieldAddr (o2 := 40) fd108_2 rfl rfl rfl) ?_
  refine SQ.uu (ru_indexA (o2 := 40 + i.toNat * 4) ar106 rfl rfl rfl (by omega) (by omega) rfl) ?_
  refine SQ.uu (ru_fieldAddr (o2 := (40 + i.toNat * 4 + 3)) fd105_3 rfl rfl rfl) ?_
  refine SQ.uu (ru_load (i := 0) (v := bo (A.bad i.toNat)) ts4 rfl rfl rfl (nc_bad (by omega))) ?_
  refine SQ.uu (ru_assign rfl rfl) ?_
  refine SQ.uu (ru_assign rfl rfl) ?_
  refine SQ.uu (ru_assign rfl rfl) ?_
  refine SQ.nilE ?_
  refine SC.of_SE ?_
  refine SC.norm [(4, cv i.toNat), (5, bo (A.bad i.toNat)), (6, iw 0)] _ ⟨rfl, rfl, rfl, trivial⟩ rfl ?_
  refine SC.ret ?_
  refine SE.res (.inl rfl) (res3 Try.results86 rfl rfl rfl) fun w1 hI => ?_
  have e : rxR A i = ((A.cb i.toNat, A.bad i.toNat), 0) := by
    try simp at h2 h3
    unfold rxR
    (repeat' split) <;> first | rfl | (exfalso; omega) | (exfalso; simp_all; done) | (exfalso; simp_all; omega)
  rw [e]
  exact ⟨_, rfl, hI.2, (show FrsAt w1 F tv cv A.tb A.cb from hI.1.get (i := 1) rfl).2.2 _ (by omega)⟩

end Go.Proofs.Ytghfkgcaglabpaa

/-
  What a device's calls do (the program's).
-/
namespace Go.Proofs.Ytghfkgcaglabpaa
open Go.RowKit
set_option maxRecDepth 100000
set_option maxHeartbeats 4000000
theorem rd_in {i : Int} (e : (decide ((i : Int) < 0) || decide ((8 : Int) ≤ i)) = false) : 0 ≤ i ∧ i < 8 := by
  simp only [Bool.or_eq_false_iff, decide_eq_false_iff_not] at e; omega

theorem p_read {w : World} {d : Nat} {F : Nat → Prop} {A : NicA} (hk : NicOk A) (h : NicAt 99 w d F A) (reg : Int) : Calls Try.prog 63 #[pt d 0, iw reg] w fun e w' => e = .returned (.tuple #[iw (readF A reg).1.1, iw (readF A reg).1.2]) ∧ NicTo 99 w d F (readF A reg).2 w' := by
  have hok := hk
  obtain ⟨r2, r3, r4, r5, r6, _, _, _⟩ := hok
  obtain ⟨tv, cv, hI⟩ := h.inv 27 (fun b => b = d)
  refine calls_sc (l0 := _) (args := [pt d 0, iw reg]) (fun b => b = d) Try.func63 rfl 27 Try.ntmps63 (le_b rfl) hI ?_
  show SC _ _ _ _ [(0, pt d 0), (1, iw reg)] [rBlk d (nc A tv cv) 99, rFrs F tv cv A.tb A.cb]
  refine SC.sr ?_
  refine SL.as ?_
  refine SL.as ?_
  refine SL.nn [(0, pt d 0), (1, iw reg), (4, iw 0), (5, iw 0)] [rBlk d (nc A tv cv) 99, rFrs F tv cv A.tb A.cb] ⟨rfl, rfl, rfl, rfl, trivial⟩ ?_
  refine SC.seq ?_
  refine SC.sr ?_
  refine SL.mv ?_
  refine SL.uu (ru_lt (b := (decide ((reg : Int) < 0))) rfl rfl rfl rfl) ?_
  refine SL.mv ?_
  refine SL.join 3 [(0, pt d 0), (1, iw reg), (4, iw 0), (5, iw 0), (7, iw reg), (8, bo (decide ((reg : Int) < 0))), (9, bo (decide ((reg : Int) < 0))), (12, bo ((decide ((reg : Int) < 0)) || (decide ((8 : Int) ≤ reg))))] [rBlk d (nc A tv cv) 99, rFrs F tv cv A.tb A.cb] ?_ ?_
  rotate_left
  · intro K hK
    rcases tf (decide ((reg : Int) < 0)) with h1 | h1
    · skip
      refine SL.norm [(0, pt d 0), (1, iw reg), (4, iw 0), (5, iw 0), (7, iw reg), (8, bo true), (9, bo true)] _ ⟨rfl, rfl, rfl, rfl, rfl, (congrArg (fun x => some (Value.bool x)) h1), (congrArg (fun x => some (Value.bool x)) h1), trivial⟩ rfl ?_
      refine SL.oo ?_
      refine SL.oo ?_
      refine SL.uu (ru_pick (u := bo true) (v := undef) rfl rfl rfl rfl) ?_
      exact SL.joined hK ⟨rfl, rfl, rfl, rfl, rfl, (congrArg (fun x => some (Value.bool x)) h1.symm), (congrArg (fun x => some (Value.bool x)) h1.symm), (congrArg (fun x => some (Value.bool (x || (decide ((8 : Int) ≤ reg))))) h1.symm), trivial⟩ rfl
    refine SL.norm [(0, pt d 0), (1, iw reg), (4, iw 0), (5, iw 0), (7, iw reg), (8, bo false), (9, bo false)] _ ⟨rfl, rfl, rfl, rfl, rfl, (congrArg (fun x => some (Value.bool x)) h1), (congrArg (fun x => some (Value.bool x)) h1), trivial⟩ rfl ?_
    refine SL.gg (ru_move rfl rfl) ?_
    refine SL.gg (ru_ge (b := (decide ((8 : Int) ≤ reg))) rfl rfl rfl rfl) ?_
    refine SL.uu (ru_pick (u := bo true) (v := bo (decide ((8 : Int) ≤ reg))) rfl rfl rfl rfl) ?_
    exact SL.joined hK ⟨rfl, rfl, rfl, rfl, rfl, (congrArg (fun x => some (Value.bool x)) h1.symm), (congrArg (fun x => some (Value.bool x)) h1.symm), (congrArg (fun x => some (Value.bool (x || (decide ((8 : Int) ≤ reg))))) h1.symm), trivial⟩ rfl
  skip
  refine SL.nn [(0, pt d 0), (1, iw reg), (4, iw 0), (5, iw 0), (12, bo ((decide ((reg : Int) < 0)) || (decide ((8 : Int) ≤ reg))))] _ ⟨rfl, rfl, rfl, rfl, rfl, trivial⟩ ?_
  refine SC.both ((decide ((reg : Int) < 0)) || (decide ((8 : Int) ≤ reg))) rfl (fun h2 => ?_) (fun h2 => ?_)
  · skip
    refine SC.sr ?_
    refine SL.as ?_
    refine SL.as ?_
    refine SL.nn [(0, pt d 0), (1, iw reg), (4, iw 0), (5, iw 1)] _ ⟨rfl, rfl, rfl, rfl, trivial⟩ ?_
    refine SC.ret ?_
    refine SE.passr ?_
    refine SE.res (.inl rfl) (res2 Try.results63 rfl rfl) fun w1 hI => ?_
    have e : readF A reg = ((0, 1), A) := by
      try simp at h2
      unfold readF
      (repeat' split) <;> first | rfl | (exfalso; omega) | (exfalso; simp_all; done) | (exfalso; simp_all; omega)
    rw [e]
    exact ⟨rfl, NicAt.fin hI⟩
  have hr := rd_in h2
  refine SC.skip ?_
  refine SC.of_SE ?_
  refine SC.norm [(0, pt d 0), (1, iw reg), (4, iw 0), (5, iw 0)] _ ⟨rfl, rfl, rfl, rfl, trivial⟩ rfl ?_
  refine SC.sr ?_
  refine SL.mv ?_
  refine SL.mv ?_
  refine SL.nk ?_
  refine SL.uu (ru_fieldAddr (o2 := 0) fd99_0 rfl rfl rfl) ?_
  refine SL.uu (ru_indexA (o2 := 0 + reg.toNat * 1) ar91 rfl rfl rfl (by omega) (by omega) rfl) ?_
  refine SL.uu (ru_load (i := 0) (v := iw (A.r reg.toNat)) ts3 rfl rfl rfl (nc_r' (by omega))) ?_
  refine SL.as ?_
  refine SL.nn [(0, pt d 0), (1, iw reg), (4, iw 0), (5, iw 0), (6, iw (A.r reg.toNat))] _ ⟨rfl, rfl, rfl, rfl, rfl, trivial⟩ ?_
  refine SC.seq ?_
  refine SC.sr ?_
  refine SL.mv ?_
  refine SL.uu (ru_eq (b := ((reg : Int) == 6)) rfl rfl rfl rfl) ?_
  refine SL.nn [(0, pt d 0), (1, iw reg), (4, iw 0), (5, iw 0), (6, iw (A.r reg.toNat)), (20, bo ((reg : Int) == 6))] _ ⟨rfl, rfl, rfl, rfl, rfl, rfl, trivial⟩ ?_
  refine SC.both ((reg : Int) == 6) rfl (fun h3 => ?_) (fun h3 => ?_)
  · skip
    refine SC.region ?_
    refine SL.mv ?_
    refine SL.mv ?_
    refine SL.nk ?_
    refine SL.uu (ru_fieldAddr (o2 := 0) fd99_0 rfl rfl rfl) ?_
    refine SL.uu (ru_indexA (o2 := 0 + reg.toNat * 1) ar91 rfl rfl rfl (by omega) (by omega) rfl) ?_
    refine SL.store (i := 0) (c' := (nc { A with r := up A.r reg.toNat 0 } tv cv)) rfl rfl ts3 rfl rfl rfl rfl rfl (by rw [nc_len]; omega) (.inl rfl) (set_r' (by omega) 0) ?_
    refine SL.nn [(4, iw 0), (5, iw 0), (6, iw (A.r reg.toNat))] [rBlk d (nc { A with r := up A.r reg.toNat 0 } tv cv) 99, rFrs F tv cv A.tb A.cb] ⟨rfl, rfl, rfl, trivial⟩ ?_
    refine SC.sr ?_
    refine SL.mv ?_
    refine SL.as ?_
    refine SL.as ?_
    refine SL.nn [(4, iw (A.r reg.toNat)), (5, iw 0)] _ ⟨rfl, rfl, trivial⟩ ?_
    refine SC.ret ?_
    refine SE.res (.inl rfl) (res2 Try.results63 rfl rfl) fun w1 hI => ?_
    have e : readF A reg = ((A.r reg.toNat, 0), { A with r := up A.r reg.toNat 0 }) := by
      try simp at h2 h3
      unfold readF
      (repeat' split) <;> first | rfl | (exfalso; omega) | (exfalso; simp_all; done) | (exfalso; simp_all; omega)
    rw [e]
    exact ⟨rfl, NicAt.fin hI⟩
  refine SC.skip ?_
  refine SC.of_SE ?_
  refine SC.norm [(4, iw 0), (5, iw 0), (6, iw (A.r reg.toNat))] _ ⟨rfl, rfl, rfl, trivial⟩ rfl ?_
  refine SC.sr ?_
  refine SL.mv ?_
  refine SL.as ?_
  refine SL.as ?_
  refine SL.nn [(4, iw (A.r reg.toNat)), (5, iw 0)] _ ⟨rfl, rfl, trivial⟩ ?_
  refine SC.ret ?_
  refine SE.res (.inl rfl) (res2 Try.results63 rfl rfl) fun w1 hI => ?_
  have e : readF A reg = ((A.r reg.toNat, 0), A) := by
    try simp at h2 h3
    unfold readF
    (repeat' split) <;> first | rfl | (exfalso; omega) | (exfalso; simp_all; done) | (exfalso; simp_all; omega)
  rw [e]
  exact ⟨rfl, NicAt.fin hI⟩

theorem p_link {w : World} {d : Nat} {F : Nat → Prop} {A : NicA} (hk : NicOk A) (h : NicAt 99 w d F A) (u : Bool) : Calls Try.prog 19 #[pt d 0, bo u] w fun e w' => e = .returned (.tuple #[]) ∧ NicTo 99 w d F (linkF A u) w' := by
  have hok := hk
  obtain ⟨r2, r3, r4, r5, r6, _, _, _⟩ := hok
  obtain ⟨tv, cv, hI⟩ := h.inv 27 (fun b => b = d)
  refine calls_sc (l0 := _) (args := [pt d 0, bo u]) (fun b => b = d) Try.func19 rfl 27 Try.ntmps19 (le_b rfl) hI ?_
  show SC _ _ _ _ [(0, pt d 0), (1, bo u)] [rBlk d (nc A tv cv) 99, rFrs F tv cv A.tb A.cb]
  refine SC.sr ?_
  refine SL.as ?_
  refine SL.nn [(0, pt d 0), (1, bo u), (4, iw 0)] [rBlk d (nc A tv cv) 99, rFrs F tv cv A.tb A.cb] ⟨rfl, rfl, rfl, trivial⟩ ?_
  refine SC.seq ?_
  refine SC.sr ?_
  refine SL.mv ?_
  refine SL.nn [(0, pt d 0), (4, iw 0), (5, bo u)] _ ⟨rfl, rfl, rfl, trivial⟩ ?_
  refine SC.both u rfl (fun h1 => ?_) (fun h1 => ?_)
  · skip
    refine SC.region ?_
    refine SL.as ?_
    refine SL.nn [(0, pt d 0), (4, iw 1)] _ ⟨rfl, rfl, trivial⟩ ?_
    refine SC.sr ?_
    refine SL.mv ?_
    refine SL.nk ?_
    refine SL.uu (ru_fieldAddr (o2 := 0) fd99_0 rfl rfl rfl) ?_
    refine SL.uu (ru_indexA (o2 := 1) ar91 rfl rfl rfl (by decide) (by decide) rfl) ?_
    refine SL.uu (ru_load (i := 0) (v := iw (A.r 1)) ts3 rfl rfl rfl (nc_r (by decide))) ?_
    refine SL.mv ?_
    refine SL.uu (ru_ne (b := (((A.r 1) : Int) != 1)) rfl rfl rfl rfl) ?_
    refine SL.nn [(0, pt d 0), (4, iw 1), (12, bo (((A.r 1) : Int) != 1))] _ ⟨rfl, rfl, rfl, trivial⟩ ?_
    refine SC.both (((A.r 1) : Int) != 1) rfl (fun h2 => ?_) (fun h2 => ?_)
    · skip
      refine SC.sr ?_
      refine SL.mv ?_
      refine SL.mv ?_
      refine SL.nk ?_
      refine SL.uu (ru_fieldAddr (o2 := 0) fd99_0 rfl rfl rfl) ?_
      refine SL.uu (ru_indexA (o2 := 1) ar91 rfl rfl rfl (by decide) (by decide) rfl) ?_
      refine SL.store (i := 0) (c' := (nc { A with r := up A.r 1 1 } tv cv)) rfl rfl ts3 rfl rfl rfl rfl rfl (by rw [nc_len]; omega) (.inl rfl) (set_r (by decide) 1) ?_
      refine SL.nn [(0, pt d 0)] [rBlk d (nc { A with r := up A.r 1 1 } tv cv) 99, rFrs F tv cv A.tb A.cb] ⟨rfl, trivial⟩ ?_
      refine SC.region_tail 9 (by kernel_rfl) (by kernel_rfl) ?_
      refine SQ.uu (ru_move rfl rfl) ?_
      refine SQ.uu (ru_nilCheck rfl rfl) ?_
      refine SQ.uu (ru_fieldAddr (o2 := 0) fd99_0 rfl rfl rfl) ?_
      refine SQ.uu (ru_indexA (o2 := 6) ar91 rfl rfl rfl (by decide) (by decide) rfl) ?_
      refine SQ.uu (ru_load (i := 0) (v := iw (A.r 6)) ts3 rfl rfl rfl (nc_r (by decide))) ?_
      refine SQ.uu (ru_or (r := (bits .or .i64 (A.r 6) 4)) rfl rfl rfl rfl) ?_
      refine SQ.uu (ru_nilCheck rfl rfl) ?_
      refine SQ.uu (ru_fieldAddr (o2 := 0) fd99_0 rfl rfl rfl) ?_
      refine SQ.uu (ru_indexA (o2 := 6) ar91 rfl rfl rfl (by decide) (by decide) rfl) ?_
      refine SQ.nilL ?_
      refine SL.store (i := 0) (c' := (nc { A with r := up (up A.r 1 1) 6 (bits .or .i64 (A.r 6) 4) } tv cv)) rfl rfl ts3 rfl rfl rfl rfl rfl (by rw [nc_len]; omega) (.inl rfl) (set_r (by decide) (bits .or .i64 (A.r 6) 4)) ?_
      refine SL.nil ?_
      refine SE.res (.inr rfl) (res0 Try.results19) fun w1 hI => ?_
      have e : linkF A u = { A with r := up (up A.r 1 1) 6 (bits .or .i64 (A.r 6) 4) } := by
        try simp at h1 h2
        unfold linkF
        (repeat' split) <;> first | rfl | (exfalso; omega) | (exfalso; simp_all; done) | (exfalso; simp_all; omega)
      rw [e]
      exact ⟨rfl, NicAt.fin hI⟩
    refine SC.skip ?_
    refine SE.res (.inr rfl) (res0 Try.results19) fun w1 hI => ?_
    have e : linkF A u = A := by
      try simp at h1 h2
      unfold linkF
      (repeat' split) <;> first | rfl | (exfalso; omega) | (exfalso; simp_all; done) | (exfalso; simp_all; omega)
    rw [e]
    exact ⟨rfl, NicAt.fin hI⟩
  refine SC.skip ?_
  refine SC.of_SE ?_
  refine SC.norm [(0, pt d 0), (4, iw 0)] _ ⟨rfl, rfl, trivial⟩ rfl ?_
  refine SC.sr ?_
  refine SL.mv ?_
  refine SL.nk ?_
  refine SL.uu (ru_fieldAddr (o2 := 0) fd99_0 rfl rfl rfl) ?_
  refine SL.uu (ru_indexA (o2 := 1) ar91 rfl rfl rfl (by decide) (by decide) rfl) ?_
  refine SL.uu (ru_load (i := 0) (v := iw (A.r 1)) ts3 rfl rfl rfl (nc_r (by decide))) ?_
  refine SL.mv ?_
  refine SL.uu (ru_ne (b := (((A.r 1) : Int) != 0)) rfl rfl rfl rfl) ?_
  refine SL.nn [(0, pt d 0), (4, iw 0), (12, bo (((A.r 1) : Int) != 0))] _ ⟨rfl, rfl, rfl, trivial⟩ ?_
  refine SC.both (((A.r 1) : Int) != 0) rfl (fun h3 => ?_) (fun h3 => ?_)
  · skip
    refine SC.sr ?_
    refine SL.mv ?_
    refine SL.mv ?_
    refine SL.nk ?_
    refine SL.uu (ru_fieldAddr (o2 := 0) fd99_0 rfl rfl rfl) ?_
    refine SL.uu (ru_indexA (o2 := 1) ar91 rfl rfl rfl (by decide) (by decide) rfl) ?_
    refine SL.store (i := 0) (c' := (nc { A with r := up A.r 1 0 } tv cv)) rfl rfl ts3 rfl rfl rfl rfl rfl (by rw [nc_len]; omega) (.inl rfl) (set_r (by decide) 0) ?_
    refine SL.nn [(0, pt d 0)] [rBlk d (nc { A with r := up A.r 1 0 } tv cv) 99, rFrs F tv cv A.tb A.cb] ⟨rfl, trivial⟩ ?_
    refine SC.region_tail 9 (by kernel_rfl) (by kernel_rfl) ?_
    refine SQ.uu (ru_move rfl rfl) ?_
    refine SQ.uu (ru_nilCheck rfl rfl) ?_
    refine SQ.uu (ru_fieldAddr (o2 := 0) fd99_0 rfl rfl rfl) ?_
    refine SQ.uu (ru_indexA (o2 := 6) ar91 rfl rfl rfl (by decide) (by decide) rfl) ?_
    refine SQ.uu (ru_load (i := 0) (v := iw (A.r 6)) ts3 rfl rfl rfl (nc_r (by decide))) ?_
    refine SQ.uu (ru_or (r := (bits .or .i64 (A.r 6) 4)) rfl rfl rfl rfl) ?_
    refine SQ.uu (ru_nilCheck rfl rfl) ?_
    refine SQ.uu (ru_fieldAddr (o2 := 0) fd99_0 rfl rfl rfl) ?_
    refine SQ.uu (ru_indexA (o2 := 6) ar91 rfl rfl rfl (by decide) (by decide) rfl) ?_
    refine SQ.nilL ?_
    refine SL.store (i := 0) (c' := (nc { A with r := up (up A.r 1 0) 6 (bits .or .i64 (A.r 6) 4) } tv cv)) rfl rfl ts3 rfl rfl rfl rfl rfl (by rw [nc_len]; omega) (.inl rfl) (set_r (by decide) (bits .or .i64 (A.r 6) 4)) ?_
    refine SL.nil ?_
    refine SE.res (.inr rfl) (res0 Try.results19) fun w1 hI => ?_
    have e : linkF A u = { A with r := up (up A.r 1 0) 6 (bits .or .i64 (A.r 6) 4) } := by
      try simp at h1 h3
      unfold linkF
      (repeat' split) <;> first | rfl | (exfalso; omega) | (exfalso; simp_all; done) | (exfalso; simp_all; omega)
    rw [e]
    exact ⟨rfl, NicAt.fin hI⟩
  refine SC.skip ?_
  refine SE.res (.inr rfl) (res0 Try.results19) fun w1 hI => ?_
  have e : linkF A u = A := by
    try simp at h1 h3
    unfold linkF
    (repeat' split) <;> first | rfl | (exfalso; omega) | (exfalso; simp_all; done) | (exfalso; simp_all; omega)
  rw [e]
  exact ⟨rfl, NicAt.fin hI⟩

theorem p_tick {w : World} {d : Nat} {F : Nat → Prop} {A : NicA} (hk : NicOk A) (h : NicAt 99 w d F A)  : Calls Try.prog 52 #[pt d 0] w fun e w' => e = .returned (.tuple #[]) ∧ NicTo 99 w d F (tickF A) w' := by
  have hok := hk
  obtain ⟨r2, r3, r4, r5, r6, _, _, _⟩ := hok
  obtain ⟨tv, cv, hI⟩ := h.inv 9 (fun b => b = d)
  refine calls_sc (l0 := _) (args := [pt d 0]) (fun b => b = d) Try.func52 rfl 9 Try.ntmps52 (le_b rfl) hI ?_
  show SC _ _ _ _ [(0, pt d 0)] [rBlk d (nc A tv cv) 99, rFrs F tv cv A.tb A.cb]
  refine SC.region ?_
  refine SL.mv ?_
  refine SL.nk ?_
  refine SL.uu (ru_fieldAddr (o2 := 104) fd99_3 rfl rfl rfl) ?_
  refine SL.uu (ru_load (i := 0) (v := iw A.clk) ts3 rfl rfl rfl nc_clk) ?_
  refine SL.uu (ru_add (r := (IntKind.i64.wrap (A.clk + 1))) rfl rfl rfl rfl) ?_
  refine SL.nk ?_
  refine SL.uu (ru_fieldAddr (o2 := 104) fd99_3 rfl rfl rfl) ?_
  refine SL.store (i := 0) (c' := (nc { A with clk := IntKind.i64.wrap (A.clk + 1) } tv cv)) rfl rfl ts3 rfl rfl rfl rfl rfl (by rw [nc_len]; omega) (.inl rfl) (set_clk (IntKind.i64.wrap (A.clk + 1))) ?_
  refine SL.nil ?_
  refine SE.res (.inr rfl) (res0 Try.results52) fun w1 hI => ?_
  have e : tickF A = { A with clk := IntKind.i64.wrap (A.clk + 1) } := by
    unfold tickF
    (repeat' split) <;> first | rfl | (exfalso; omega) | (exfalso; simp_all; done) | (exfalso; simp_all; omega)
  rw [e]
  exact ⟨rfl, NicAt.fin hI⟩

end Go.Proofs.Ytghfkgcaglabpaa

/-
  What a device's calls do (the reference's).
-/
namespace Go.Proofs.Ytghfkgcaglabpaa
open Go.RowKit
set_option maxRecDepth 100000
set_option maxHeartbeats 4000000
theorem rd_inq {i : Int} (e : (decide ((i : Int) < 0) || decide ((7 : Int) < i)) = false) : 0 ≤ i ∧ i < 8 := by
  simp only [Bool.or_eq_false_iff, decide_eq_false_iff_not] at e; omega

theorem q_read {w : World} {d : Nat} {F : Nat → Prop} {A : NicA} (hk : NicOk A) (h : NicAt 108 w d F A) (reg : Int) : Calls Try.prog 84 #[pt d 0, iw reg] w fun e w' => e = .returned (.tuple #[iw (readF A reg).1.1, iw (readF A reg).1.2]) ∧ NicTo 108 w d F (readF A reg).2 w' := by
  have hok := hk
  obtain ⟨r2, r3, r4, r5, r6, _, _, _⟩ := hok
  obtain ⟨tv, cv, hI⟩ := h.inv 27 (fun b => b = d)
  refine calls_sc (l0 := _) (args := [pt d 0, iw reg]) (fun b => b = d) Try.func84 rfl 27 Try.ntmps84 (le_b rfl) hI ?_
  show SC _ _ _ _ [(0, pt d 0), (1, iw reg)] [rBlk d (nc A tv cv) 108, rFrs F tv cv A.tb A.cb]
  refine SC.sr ?_
  refine SL.as ?_
  refine SL.as ?_
  refine SL.nn [(0, pt d 0), (1, iw reg), (4, iw 0), (5, iw 0)] [rBlk d (nc A tv cv) 108, rFrs F tv cv A.tb A.cb] ⟨rfl, rfl, rfl, rfl, trivial⟩ ?_
  refine SC.seq ?_
  refine SC.sr ?_
  refine SL.mv ?_
  refine SL.uu (ru_lt (b := (decide ((reg : Int) < 0))) rfl rfl rfl rfl) ?_
  refine SL.mv ?_
  refine SL.join 3 [(0, pt d 0), (1, iw reg), (4, iw 0), (5, iw 0), (7, iw reg), (8, bo (decide ((reg : Int) < 0))), (9, bo (decide ((reg : Int) < 0))), (12, bo ((decide ((reg : Int) < 0)) || (decide ((7 : Int) < reg))))] [rBlk d (nc A tv cv) 108, rFrs F tv cv A.tb A.cb] ?_ ?_
  rotate_left
  · intro K hK
    rcases tf (decide ((reg : Int) < 0)) with h1 | h1
    · skip
      refine SL.norm [(0, pt d 0), (1, iw reg), (4, iw 0), (5, iw 0), (7, iw reg), (8, bo true), (9, bo true)] _ ⟨rfl, rfl, rfl, rfl, rfl, (congrArg (fun x => some (Value.bool x)) h1), (congrArg (fun x => some (Value.bool x)) h1), trivial⟩ rfl ?_
      refine SL.oo ?_
      refine SL.oo ?_
      refine SL.uu (ru_pick (u := bo true) (v := undef) rfl rfl rfl rfl) ?_
      exact SL.joined hK ⟨rfl, rfl, rfl, rfl, rfl, (congrArg (fun x => some (Value.bool x)) h1.symm), (congrArg (fun x => some (Value.bool x)) h1.symm), (congrArg (fun x => some (Value.bool (x || (decide ((7 : Int) < reg))))) h1.symm), trivial⟩ rfl
    refine SL.norm [(0, pt d 0), (1, iw reg), (4, iw 0), (5, iw 0), (7, iw reg), (8, bo false), (9, bo false)] _ ⟨rfl, rfl, rfl, rfl, rfl, (congrArg (fun x => some (Value.bool x)) h1), (congrArg (fun x => some (Value.bool x)) h1), trivial⟩ rfl ?_
    refine SL.gg (ru_move rfl rfl) ?_
    refine SL.gg (ru_gt (b := (decide ((7 : Int) < reg))) rfl rfl rfl rfl) ?_
    refine SL.uu (ru_pick (u := bo true) (v := bo (decide ((7 : Int) < reg))) rfl rfl rfl rfl) ?_
    exact SL.joined hK ⟨rfl, rfl, rfl, rfl, rfl, (congrArg (fun x => some (Value.bool x)) h1.symm), (congrArg (fun x => some (Value.bool x)) h1.symm), (congrArg (fun x => some (Value.bool (x || (decide ((7 : Int) < reg))))) h1.symm), trivial⟩ rfl
  skip
  refine SL.nn [(0, pt d 0), (1, iw reg), (4, iw 0), (5, iw 0), (12, bo ((decide ((reg : Int) < 0)) || (decide ((7 : Int) < reg))))] _ ⟨rfl, rfl, rfl, rfl, rfl, trivial⟩ ?_
  refine SC.both ((decide ((reg : Int) < 0)) || (decide ((7 : Int) < reg))) rfl (fun h2 => ?_) (fun h2 => ?_)
  · skip
    refine SC.sr ?_
    refine SL.as ?_
    refine SL.as ?_
    refine SL.nn [(0, pt d 0), (1, iw reg), (4, iw 0), (5, iw 1)] _ ⟨rfl, rfl, rfl, rfl, trivial⟩ ?_
    refine SC.ret ?_
    refine SE.passr ?_
    refine SE.res (.inl rfl) (res2 Try.results84 rfl rfl) fun w1 hI => ?_
    have e : readF A reg = ((0, 1), A) := by
      try simp at h2
      unfold readF
      (repeat' split) <;> first | rfl | (exfalso; omega) | (exfalso; simp_all; done) | (exfalso; simp_all; omega)
    rw [e]
    exact ⟨rfl, NicAt.fin hI⟩
  have hr := rd_inq h2
  refine SC.skip ?_
  refine SC.of_SE ?_
  refine SC.norm [(0, pt d 0), (1, iw reg), (4, iw 0), (5, iw 0)] _ ⟨rfl, rfl, rfl, rfl, trivial⟩ rfl ?_
  refine SC.sr ?_
  refine SL.mv ?_
  refine SL.mv ?_
  refine SL.nk ?_
  refine SL.uu (ru_fieldAddr (o2 := 0) fd108_0 rfl rfl rfl) ?_
  refine SL.uu (ru_indexA (o2 := 0 + reg.toNat * 1) ar91 rfl rfl rfl (by omega) (by omega) rfl) ?_
  refine SL.uu (ru_load (i := 0) (v := iw (A.r reg.toNat)) ts3 rfl rfl rfl (nc_r' (by omega))) ?_
  refine SL.as ?_
  refine SL.nn [(0, pt d 0), (1, iw reg), (4, iw 0), (5, iw 0), (6, iw (A.r reg.toNat))] _ ⟨rfl, rfl, rfl, rfl, rfl, trivial⟩ ?_
  refine SC.seq ?_
  refine SC.sr ?_
  refine SL.mv ?_
  refine SL.uu (ru_eq (b := ((reg : Int) == 6)) rfl rfl rfl rfl) ?_
  refine SL.nn [(0, pt d 0), (1, iw reg), (4, iw 0), (5, iw 0), (6, iw (A.r reg.toNat)), (20, bo ((reg : Int) == 6))] _ ⟨rfl, rfl, rfl, rfl, rfl, rfl, trivial⟩ ?_
  refine SC.both ((reg : Int) == 6) rfl (fun h3 => ?_) (fun h3 => ?_)
  · skip
    refine SC.region ?_
    refine SL.mv ?_
    refine SL.mv ?_
    refine SL.nk ?_
    refine SL.uu (ru_fieldAddr (o2 := 0) fd108_0 rfl rfl rfl) ?_
    refine SL.uu (ru_indexA (o2 := 0 + reg.toNat * 1) ar91 rfl rfl rfl (by omega) (by omega) rfl) ?_
    refine SL.store (i := 0) (c' := (nc { A with r := up A.r reg.toNat 0 } tv cv)) rfl rfl ts3 rfl rfl rfl rfl rfl (by rw [nc_len]; omega) (.inl rfl) (set_r' (by omega) 0) ?_
    refine SL.nn [(4, iw 0), (5, iw 0), (6, iw (A.r reg.toNat))] [rBlk d (nc { A with r := up A.r reg.toNat 0 } tv cv) 108, rFrs F tv cv A.tb A.cb] ⟨rfl, rfl, rfl, trivial⟩ ?_
    refine SC.sr ?_
    refine SL.mv ?_
    refine SL.as ?_
    refine SL.as ?_
    refine SL.nn [(4, iw (A.r reg.toNat)), (5, iw 0)] _ ⟨rfl, rfl, trivial⟩ ?_
    refine SC.ret ?_
    refine SE.res (.inl rfl) (res2 Try.results84 rfl rfl) fun w1 hI => ?_
    have e : readF A reg = ((A.r reg.toNat, 0), { A with r := up A.r reg.toNat 0 }) := by
      try simp at h2 h3
      unfold readF
      (repeat' split) <;> first | rfl | (exfalso; omega) | (exfalso; simp_all; done) | (exfalso; simp_all; omega)
    rw [e]
    exact ⟨rfl, NicAt.fin hI⟩
  refine SC.skip ?_
  refine SC.of_SE ?_
  refine SC.norm [(4, iw 0), (5, iw 0), (6, iw (A.r reg.toNat))] _ ⟨rfl, rfl, rfl, trivial⟩ rfl ?_
  refine SC.sr ?_
  refine SL.mv ?_
  refine SL.as ?_
  refine SL.as ?_
  refine SL.nn [(4, iw (A.r reg.toNat)), (5, iw 0)] _ ⟨rfl, rfl, trivial⟩ ?_
  refine SC.ret ?_
  refine SE.res (.inl rfl) (res2 Try.results84 rfl rfl) fun w1 hI => ?_
  have e : readF A reg = ((A.r reg.toNat, 0), A) := by
    try simp at h2 h3
    unfold readF
    (repeat' split) <;> first | rfl | (exfalso; omega) | (exfalso; simp_all; done) | (exfalso; simp_all; omega)
  rw [e]
  exact ⟨rfl, NicAt.fin hI⟩

theorem q_link {w : World} {d : Nat} {F : Nat → Prop} {A : NicA} (hk : NicOk A) (h : NicAt 108 w d F A) (u : Bool) : Calls Try.prog 51 #[pt d 0, bo u] w fun e w' => e = .returned (.tuple #[]) ∧ NicTo 108 w d F (linkF A u) w' := by
  have hok := hk
  obtain ⟨r2, r3, r4, r5, r6, _, _, _⟩ := hok
  obtain ⟨tv, cv, hI⟩ := h.inv 20 (fun b => b = d)
  refine calls_sc (l0 := _) (args := [pt d 0, bo u]) (fun b => b = d) Try.func51 rfl 20 Try.ntmps51 (le_b rfl) hI ?_
  show SC _ _ _ _ [(0, pt d 0), (1, bo u)] [rBlk d (nc A tv cv) 108, rFrs F tv cv A.tb A.cb]
  refine SC.sr ?_
  refine SL.as ?_
  refine SL.nn [(0, pt d 0), (1, bo u), (4, iw 0)] [rBlk d (nc A tv cv) 108, rFrs F tv cv A.tb A.cb] ⟨rfl, rfl, rfl, trivial⟩ ?_
  refine SC.seq ?_
  refine SC.sr ?_
  refine SL.mv ?_
  refine SL.nn [(0, pt d 0), (4, iw 0), (5, bo u)] _ ⟨rfl, rfl, rfl, trivial⟩ ?_
  refine SC.both u rfl (fun h1 => ?_) (fun h1 => ?_)
  · skip
    refine SC.region ?_
    refine SL.as ?_
    refine SL.nn [(0, pt d 0), (4, iw 1)] _ ⟨rfl, rfl, trivial⟩ ?_
    refine SC.sr ?_
    refine SL.mv ?_
    refine SL.nk ?_
    refine SL.uu (ru_fieldAddr (o2 := 0) fd108_0 rfl rfl rfl) ?_
    refine SL.uu (ru_indexA (o2 := 1) ar91 rfl rfl rfl (by decide) (by decide) rfl) ?_
    refine SL.uu (ru_load (i := 0) (v := iw (A.r 1)) ts3 rfl rfl rfl (nc_r (by decide))) ?_
    refine SL.mv ?_
    refine SL.uu (ru_ne (b := (((A.r 1) : Int) != 1)) rfl rfl rfl rfl) ?_
    refine SL.nn [(0, pt d 0), (4, iw 1), (12, bo (((A.r 1) : Int) != 1))] _ ⟨rfl, rfl, rfl, trivial⟩ ?_
    refine SC.both (((A.r 1) : Int) != 1) rfl (fun h2 => ?_) (fun h2 => ?_)
    · skip
      refine SC.sr ?_
      refine SL.mv ?_
      refine SL.mv ?_
      refine SL.nk ?_
      refine SL.uu (ru_fieldAddr (o2 := 0) fd108_0 rfl rfl rfl) ?_
      refine SL.uu (ru_indexA (o2 := 1) ar91 rfl rfl rfl (by decide) (by decide) rfl) ?_
      refine SL.store (i := 0) (c' := (nc { A with r := up A.r 1 1 } tv cv)) rfl rfl ts3 rfl rfl rfl rfl rfl (by rw [nc_len]; omega) (.inl rfl) (set_r (by decide) 1) ?_
      refine SL.nn [(0, pt d 0)] [rBlk d (nc { A with r := up A.r 1 1 } tv cv) 108, rFrs F tv cv A.tb A.cb] ⟨rfl, trivial⟩ ?_
      refine SC.region ?_
      refine SL.mv ?_
      refine SL.call (ζ := Unit) (fun _ => Value.tuple #[]) (fun _ => [rBlk d (nc { A with r := up (up A.r 1 1) 6 (ev (A.r 6) 4) } tv cv) 108, rFrs F tv cv A.tb A.cb]) (fun _ => True) rfl rfl co78 rfl rfl rfl (lt_b rfl) (fun w hI => (q_event4 (A := { A with r := up A.r 1 1 }) r6 (hI.1.get (i := 0) rfl)).mono fun e w2 ⟨h1, h2, h3⟩ => ⟨(), h1, hI.upd (i := 0) rfl h3 (fun b hb => .inl hb) h2 (fun b hb => .inl hb), trivial⟩) ?_
      intro _ _
      refine SL.nil ?_
      refine SE.res (.inr rfl) (res0 Try.results51) fun w1 hI => ?_
      have e : linkF A u = { A with r := up (up A.r 1 1) 6 (ev (A.r 6) 4) } := by
        try simp at h1 h2
        unfold linkF
        (repeat' split) <;> first | rfl | (exfalso; omega) | (exfalso; simp_all; done) | (exfalso; simp_all; omega)
      rw [e]
      exact ⟨rfl, NicAt.fin hI⟩
    refine SC.skip ?_
    refine SE.res (.inr rfl) (res0 Try.results51) fun w1 hI => ?_
    have e : linkF A u = A := by
      try simp at h1 h2
      unfold linkF
      (repeat' split) <;> first | rfl | (exfalso; omega) | (exfalso; simp_all; done) | (exfalso; simp_all; omega)
    rw [e]
    exact ⟨rfl, NicAt.fin hI⟩
  refine SC.skip ?_
  refine SC.of_SE ?_
  refine SC.norm [(0, pt d 0), (4, iw 0)] _ ⟨rfl, rfl, trivial⟩ rfl ?_
  refine SC.sr ?_
  refine SL.mv ?_
  refine SL.nk ?_
  refine SL.uu (ru_fieldAddr (o2 := 0) fd108_0 rfl rfl rfl) ?_
  refine SL.uu (ru_indexA (o2 := 1) ar91 rfl rfl rfl (by decide) (by decide) rfl) ?_
  refine SL.uu (ru_load (i := 0) (v := iw (A.r 1)) ts3 rfl rfl rfl (nc_r (by decide))) ?_
  refine SL.mv ?_
  refine SL.uu (ru_ne (b := (((A.r 1) : Int) != 0)) rfl rfl rfl rfl) ?_
  refine SL.nn [(0, pt d 0), (4, iw 0), (12, bo (((A.r 1) : Int) != 0))] _ ⟨rfl, rfl, rfl, trivial⟩ ?_
  refine SC.both (((A.r 1) : Int) != 0) rfl (fun h3 => ?_) (fun h3 => ?_)
  · skip
    refine SC.sr ?_
    refine SL.mv ?_
    refine SL.mv ?_
    refine SL.nk ?_
    refine SL.uu (ru_fieldAddr (o2 := 0) fd108_0 rfl rfl rfl) ?_
    refine SL.uu (ru_indexA (o2 := 1) ar91 rfl rfl rfl (by decide) (by decide) rfl) ?_
    refine SL.store (i := 0) (c' := (nc { A with r := up A.r 1 0 } tv cv)) rfl rfl ts3 rfl rfl rfl rfl rfl (by rw [nc_len]; omega) (.inl rfl) (set_r (by decide) 0) ?_
    refine SL.nn [(0, pt d 0)] [rBlk d (nc { A with r := up A.r 1 0 } tv cv) 108, rFrs F tv cv A.tb A.cb] ⟨rfl, trivial⟩ ?_
    refine SC.region ?_
    refine SL.mv ?_
    refine SL.call (ζ := Unit) (fun _ => Value.tuple #[]) (fun _ => [rBlk d (nc { A with r := up (up A.r 1 0) 6 (ev (A.r 6) 4) } tv cv) 108, rFrs F tv cv A.tb A.cb]) (fun _ => True) rfl rfl co78 rfl rfl rfl (lt_b rfl) (fun w hI => (q_event4 (A := { A with r := up A.r 1 0 }) r6 (hI.1.get (i := 0) rfl)).mono fun e w2 ⟨h1, h2, h3⟩ => ⟨(), h1, hI.upd (i := 0) rfl h3 (fun b hb => .inl hb) h2 (fun b hb => .inl hb), trivial⟩) ?_
    intro _ _
    refine SL.nil ?_
    refine SE.res (.inr rfl) (res0 Try.results51) fun w1 hI => ?_
    have e : linkF A u = { A with r := up (up A.r 1 0) 6 (ev (A.r 6) 4) } := by
      try simp at h1 h3
      unfold linkF
      (repeat' split) <;> first | rfl | (exfalso; omega) | (exfalso; simp_all; done) | (exfalso; simp_all; omega)
    rw [e]
    exact ⟨rfl, NicAt.fin hI⟩
  refine SC.skip ?_
  refine SE.res (.inr rfl) (res0 Try.results51) fun w1 hI => ?_
  have e : linkF A u = A := by
    try simp at h1 h3
    unfold linkF
    (repeat' split) <;> first | rfl | (exfalso; omega) | (exfalso; simp_all; done) | (exfalso; simp_all; omega)
  rw [e]
  exact ⟨rfl, NicAt.fin hI⟩

end Go.Proofs.Ytghfkgcaglabpaa

/-
  A new device, and a write (the program's).
-/
namespace Go.Proofs.Ytghfkgcaglabpaa
open Go.RowKit
set_option maxRecDepth 100000
set_option maxHeartbeats 4000000
theorem p_new (w : World) : Calls Try.prog 29 #[] w fun e w' => ∃ g, w.heap.size ≤ g ∧ e = .returned (pt g 0) ∧ Blk w' g (nc newA nilv nilv) 99 ∧ Only (fun _ => False) w w' := by
  refine calls_sc (l0 := []) (args := []) (fun _ => False) Try.func29 rfl 9 Try.ntmps29 (le_b rfl) ⟨⟨by simp, List.Pairwise.nil⟩, Only.refl _ _⟩ ?_
  show SC _ _ _ _ [] []
  refine SC.sr ?_
  refine SL.as ?_
  refine SL.nn [(0, Value.pointer none)] [] ⟨rfl, trivial⟩ ?_
  refine SC.sr ?_
  refine SL.uu (ru_build (vals := []) (cells := [iw 0, iw 0, iw 0, iw 0, iw 0, iw 0, iw 0, iw 0, Value.slice none 0 0, iw 0, Value.slice none 0 0, iw 0, Value.slice none 0 0, iw 0, Value.slice none 0 0, iw 0, Value.slice none 0 0, iw 0, Value.slice none 0 0, iw 0, Value.slice none 0 0, iw 0, Value.slice none 0 0, iw 0, Value.slice none 0 0, iw 0, Value.slice none 0 0, iw 0, Value.slice none 0 0, iw 0, Value.slice none 0 0, iw 0, Value.slice none 0 0, iw 0, Value.slice none 0 0, iw 0, Value.slice none 0 0, iw 0, Value.slice none 0 0, iw 0, iw 0, bo false, Value.slice none 0 0, bo false, iw 0, bo false, Value.slice none 0 0, bo false, iw 0, bo false, Value.slice none 0 0, bo false, iw 0, bo false, Value.slice none 0 0, bo false, iw 0, bo false, Value.slice none 0 0, bo false, iw 0, bo false, Value.slice none 0 0, bo false, iw 0, bo false, Value.slice none 0 0, bo false, iw 0, bo false, Value.slice none 0 0, bo false, iw 0, bo false, Value.slice none 0 0, bo false, iw 0, bo false, Value.slice none 0 0, bo false, iw 0, bo false, Value.slice none 0 0, bo false, iw 0, bo false, Value.slice none 0 0, bo false, iw 0, bo false, Value.slice none 0 0, bo false, iw 0, bo false, Value.slice none 0 0, bo false, iw 0, bo false, Value.slice none 0 0, bo false, iw 0, bo false, Value.slice none 0 0, bo false, iw 0]) rfl rfl (by kernel_rfl)) ?_
  refine SL.box (c := [iw 0, iw 0, iw 0, iw 0, iw 0, iw 0, iw 0, iw 0, Value.slice none 0 0, iw 0, Value.slice none 0 0, iw 0, Value.slice none 0 0, iw 0, Value.slice none 0 0, iw 0, Value.slice none 0 0, iw 0, Value.slice none 0 0, iw 0, Value.slice none 0 0, iw 0, Value.slice none 0 0, iw 0, Value.slice none 0 0, iw 0, Value.slice none 0 0, iw 0, Value.slice none 0 0, iw 0, Value.slice none 0 0, iw 0, Value.slice none 0 0, iw 0, Value.slice none 0 0, iw 0, Value.slice none 0 0, iw 0, Value.slice none 0 0, iw 0, iw 0, bo false, Value.slice none 0 0, bo false, iw 0, bo false, Value.slice none 0 0, bo false, iw 0, bo false, Value.slice none 0 0, bo false, iw 0, bo false, Value.slice none 0 0, bo false, iw 0, bo false, Value.slice none 0 0, bo false, iw 0, bo false, Value.slice none 0 0, bo false, iw 0, bo false, Value.slice none 0 0, bo false, iw 0, bo false, Value.slice none 0 0, bo false, iw 0, bo false, Value.slice none 0 0, bo false, iw 0, bo false, Value.slice none 0 0, bo false, iw 0, bo false, Value.slice none 0 0, bo false, iw 0, bo false, Value.slice none 0 0, bo false, iw 0, bo false, Value.slice none 0 0, bo false, iw 0, bo false, Value.slice none 0 0, bo false, iw 0, bo false, Value.slice none 0 0, bo false, iw 0, bo false, Value.slice none 0 0, bo false, iw 0]) rfl rfl (lt_b rfl) rfl rfl rfl fun b1 hb1 => ?_
  refine SL.as ?_
  refine SL.nn [(0, Value.pointer none), (1, pt b1 0)] [rBlk b1 [iw 0, iw 0, iw 0, iw 0, iw 0, iw 0, iw 0, iw 0, Value.slice none 0 0, iw 0, Value.slice none 0 0, iw 0, Value.slice none 0 0, iw 0, Value.slice none 0 0, iw 0, Value.slice none 0 0, iw 0, Value.slice none 0 0, iw 0, Value.slice none 0 0, iw 0, Value.slice none 0 0, iw 0, Value.slice none 0 0, iw 0, Value.slice none 0 0, iw 0, Value.slice none 0 0, iw 0, Value.slice none 0 0, iw 0, Value.slice none 0 0, iw 0, Value.slice none 0 0, iw 0, Value.slice none 0 0, iw 0, Value.slice none 0 0, iw 0, iw 0, bo false, Value.slice none 0 0, bo false, iw 0, bo false, Value.slice none 0 0, bo false, iw 0, bo false, Value.slice none 0 0, bo false, iw 0, bo false, Value.slice none 0 0, bo false, iw 0, bo false, Value.slice none 0 0, bo false, iw 0, bo false, Value.slice none 0 0, bo false, iw 0, bo false, Value.slice none 0 0, bo false, iw 0, bo false, Value.slice none 0 0, bo false, iw 0, bo false, Value.slice none 0 0, bo false, iw 0, bo false, Value.slice none 0 0, bo false, iw 0, bo false, Value.slice none 0 0, bo false, iw 0, bo false, Value.slice none 0 0, bo false, iw 0, bo false, Value.slice none 0 0, bo false, iw 0, bo false, Value.slice none 0 0, bo false, iw 0, bo false, Value.slice none 0 0, bo false, iw 0, bo false, Value.slice none 0 0, bo false, iw 0] 99] ⟨rfl, rfl, trivial⟩ ?_
  refine SC.sr ?_
  refine SL.mv ?_
  refine SL.nk ?_
  refine SL.uu (ru_fieldAddr (o2 := 0) fd99_0 rfl rfl rfl) ?_
  refine SL.uu (ru_indexA (o2 := 1) ar91 rfl rfl rfl (by decide) (by decide) rfl) ?_
  refine SL.store (i := 0) (c' := [iw 0, iw 1, iw 0, iw 0, iw 0, iw 0, iw 0, iw 0, Value.slice none 0 0, iw 0, Value.slice none 0 0, iw 0, Value.slice none 0 0, iw 0, Value.slice none 0 0, iw 0, Value.slice none 0 0, iw 0, Value.slice none 0 0, iw 0, Value.slice none 0 0, iw 0, Value.slice none 0 0, iw 0, Value.slice none 0 0, iw 0, Value.slice none 0 0, iw 0, Value.slice none 0 0, iw 0, Value.slice none 0 0, iw 0, Value.slice none 0 0, iw 0, Value.slice none 0 0, iw 0, Value.slice none 0 0, iw 0, Value.slice none 0 0, iw 0, iw 0, bo false, Value.slice none 0 0, bo false, iw 0, bo false, Value.slice none 0 0, bo false, iw 0, bo false, Value.slice none 0 0, bo false, iw 0, bo false, Value.slice none 0 0, bo false, iw 0, bo false, Value.slice none 0 0, bo false, iw 0, bo false, Value.slice none 0 0, bo false, iw 0, bo false, Value.slice none 0 0, bo false, iw 0, bo false, Value.slice none 0 0, bo false, iw 0, bo false, Value.slice none 0 0, bo false, iw 0, bo false, Value.slice none 0 0, bo false, iw 0, bo false, Value.slice none 0 0, bo false, iw 0, bo false, Value.slice none 0 0, bo false, iw 0, bo false, Value.slice none 0 0, bo false, iw 0, bo false, Value.slice none 0 0, bo false, iw 0, bo false, Value.slice none 0 0, bo false, iw 0, bo false, Value.slice none 0 0, bo false, iw 0]) rfl rfl ts3 rfl rfl rfl rfl rfl (lt_b rfl) (.inr hb1) rfl ?_
  refine SL.nn [(0, Value.pointer none), (1, pt b1 0)] [rBlk b1 [iw 0, iw 1, iw 0, iw 0, iw 0, iw 0, iw 0, iw 0, Value.slice none 0 0, iw 0, Value.slice none 0 0, iw 0, Value.slice none 0 0, iw 0, Value.slice none 0 0, iw 0, Value.slice none 0 0, iw 0, Value.slice none 0 0, iw 0, Value.slice none 0 0, iw 0, Value.slice none 0 0, iw 0, Value.slice none 0 0, iw 0, Value.slice none 0 0, iw 0, Value.slice none 0 0, iw 0, Value.slice none 0 0, iw 0, Value.slice none 0 0, iw 0, Value.slice none 0 0, iw 0, Value.slice none 0 0, iw 0, Value.slice none 0 0, iw 0, iw 0, bo false, Value.slice none 0 0, bo false, iw 0, bo false, Value.slice none 0 0, bo false, iw 0, bo false, Value.slice none 0 0, bo false, iw 0, bo false, Value.slice none 0 0, bo false, iw 0, bo false, Value.slice none 0 0, bo false, iw 0, bo false, Value.slice none 0 0, bo false, iw 0, bo false, Value.slice none 0 0, bo false, iw 0, bo false, Value.slice none 0 0, bo false, iw 0, bo false, Value.slice none 0 0, bo false, iw 0, bo false, Value.slice none 0 0, bo false, iw 0, bo false, Value.slice none 0 0, bo false, iw 0, bo false, Value.slice none 0 0, bo false, iw 0, bo false, Value.slice none 0 0, bo false, iw 0, bo false, Value.slice none 0 0, bo false, iw 0, bo false, Value.slice none 0 0, bo false, iw 0, bo false, Value.slice none 0 0, bo false, iw 0] 99] ⟨rfl, rfl, trivial⟩ ?_
  refine SC.sr ?_
  refine SL.mv ?_
  refine SL.as ?_
  refine SL.nn [(0, pt b1 0)] _ ⟨rfl, trivial⟩ ?_
  refine SC.ret ?_
  refine SE.res (.inl rfl) (res1 Try.results29 rfl) fun w1 hI => ⟨b1, hb1, rfl, ?_, hI.2⟩
  have e : [iw 0, iw 1, iw 0, iw 0, iw 0, iw 0, iw 0, iw 0, Value.slice none 0 0, iw 0, Value.slice none 0 0, iw 0, Value.slice none 0 0, iw 0, Value.slice none 0 0, iw 0, Value.slice none 0 0, iw 0, Value.slice none 0 0, iw 0, Value.slice none 0 0, iw 0, Value.slice none 0 0, iw 0, Value.slice none 0 0, iw 0, Value.slice none 0 0, iw 0, Value.slice none 0 0, iw 0, Value.slice none 0 0, iw 0, Value.slice none 0 0, iw 0, Value.slice none 0 0, iw 0, Value.slice none 0 0, iw 0, Value.slice none 0 0, iw 0, iw 0, bo false, Value.slice none 0 0, bo false, iw 0, bo false, Value.slice none 0 0, bo false, iw 0, bo false, Value.slice none 0 0, bo false, iw 0, bo false, Value.slice none 0 0, bo false, iw 0, bo false, Value.slice none 0 0, bo false, iw 0, bo false, Value.slice none 0 0, bo false, iw 0, bo false, Value.slice none 0 0, bo false, iw 0, bo false, Value.slice none 0 0, bo false, iw 0, bo false, Value.slice none 0 0, bo false, iw 0, bo false, Value.slice none 0 0, bo false, iw 0, bo false, Value.slice none 0 0, bo false, iw 0, bo false, Value.slice none 0 0, bo false, iw 0, bo false, Value.slice none 0 0, bo false, iw 0, bo false, Value.slice none 0 0, bo false, iw 0, bo false, Value.slice none 0 0, bo false, iw 0, bo false, Value.slice none 0 0, bo false, iw 0] = nc newA nilv nilv := by kernel_rfl
  rw [← e]
  exact hI.1.get (i := 0) rfl

theorem p_write {w : World} {d : Nat} {F : Nat → Prop} {A : NicA} (hk : NicOk A) (h : NicAt 99 w d F A) (reg v : Int) : Calls Try.prog 40 #[pt d 0, iw reg, iw v] w fun e w' => e = .returned (iw (writeF A reg v).1) ∧ NicAt 99 w' d F (writeF A reg v).2 ∧ Only (fun b => b = d) w w' := by
  have hok := hk
  obtain ⟨r2, r3, r4, r5, r6, _, _, _⟩ := hok
  obtain ⟨tv, cv, hI⟩ := h.inv 103 (fun b => b = d)
  refine calls_sc (l0 := _) (args := [pt d 0, iw reg, iw v]) (fun b => b = d) Try.func40 rfl 103 Try.ntmps40 (le_b rfl) hI ?_
  show SC _ _ _ _ [(0, pt d 0), (1, iw reg), (2, iw v)] [rBlk d (nc A tv cv) 99, rFrs F tv cv A.tb A.cb]
  refine SC.sr ?_
  refine SL.as ?_
  refine SL.nn [(0, pt d 0), (1, iw reg), (2, iw v), (6, iw 0)] [rBlk d (nc A tv cv) 99, rFrs F tv cv A.tb A.cb] ⟨rfl, rfl, rfl, rfl, trivial⟩ ?_
  refine SC.seq ?_
  refine SC.block ?_
  refine SC.sr ?_
  refine SL.mv ?_
  refine SL.uu (ru_eq (b := ((reg : Int) == 0)) rfl rfl rfl rfl) ?_
  refine SL.mv ?_
  refine SL.join 3 [(0, pt d 0), (1, iw reg), (2, iw v), (6, iw 0), (11, iw reg), (12, bo ((reg : Int) == 0)), (13, bo ((reg : Int) == 0)), (16, bo (((reg : Int) == 0) && ((v : Int) == 2)))] [rBlk d (nc A tv cv) 99, rFrs F tv cv A.tb A.cb] ?_ ?_
  rotate_left
  · intro K hK
    rcases tf ((reg : Int) == 0) with h1 | h1
    · skip
      refine SL.norm [(0, pt d 0), (1, iw reg), (2, iw v), (6, iw 0), (11, iw reg), (12, bo true), (13, bo true)] _ ⟨rfl, rfl, rfl, rfl, rfl, (congrArg (fun x => some (Value.bool x)) h1), (congrArg (fun x => some (Value.bool x)) h1), trivial⟩ rfl ?_
      refine SL.gg (ru_move rfl rfl) ?_
      refine SL.gg (ru_eq (b := ((v : Int) == 2)) rfl rfl rfl rfl) ?_
      refine SL.uu (ru_pick (u := bo ((v : Int) == 2)) (v := bo false) rfl rfl rfl rfl) ?_
      exact SL.joined hK ⟨rfl, rfl, rfl, rfl, rfl, (congrArg (fun x => some (Value.bool x)) h1.symm), (congrArg (fun x => some (Value.bool x)) h1.symm), (congrArg (fun x => some (Value.bool (x && ((v : Int) == 2)))) h1.symm), trivial⟩ rfl
    refine SL.norm [(0, pt d 0), (1, iw reg), (2, iw v), (6, iw 0), (11, iw reg), (12, bo false), (13, bo false)] _ ⟨rfl, rfl, rfl, rfl, rfl, (congrArg (fun x => some (Value.bool x)) h1), (congrArg (fun x => some (Value.bool x)) h1), trivial⟩ rfl ?_
    refine SL.oo ?_
    refine SL.oo ?_
    refine SL.uu (ru_pick (u := undef) (v := bo false) rfl rfl rfl rfl) ?_
    exact SL.joined hK ⟨rfl, rfl, rfl, rfl, rfl, (congrArg (fun x => some (Value.bool x)) h1.symm), (congrArg (fun x => some (Value.bool x)) h1.symm), (congrArg (fun x => some (Value.bool (x && ((v : Int) == 2)))) h1.symm), trivial⟩ rfl
  skip
  refine SL.as ?_
  refine SL.nn [(0, pt d 0), (1, iw reg), (2, iw v), (6, iw 0), (10, bo (((reg : Int) == 0) && ((v : Int) == 2)))] _ ⟨rfl, rfl, rfl, rfl, rfl, trivial⟩ ?_
  refine SC.both (((reg : Int) == 0) && ((v : Int) == 2)) rfl (fun h2 => ?_) (fun h2 => ?_)
  · skip
    have h0 := w_0 h2
    refine SC.seq ?_
    refine SC.region_quiet (by kernel_rfl) (by kernel_rfl) ?_
    refine SQ.uu (ru_move rfl rfl) ?_
    refine SQ.uu (ru_nilCheck rfl rfl) ?_
    refine SQ.uu (ru_fieldAddr (o2 := 0) fd99_0 rfl rfl rfl) ?_
    refine SQ.uu (ru_indexA (o2 := 1) ar91 rfl rfl rfl (by decide) (by decide) rfl) ?_
    refine SQ.uu (ru_load (i := 0) (v := iw (A.r 1)) ts3 rfl rfl rfl (nc_r (by decide))) ?_
    refine SQ.uu (ru_move rfl rfl) ?_
    refine SQ.uu (ru_nilCheck rfl rfl) ?_
    refine SQ.uu (ru_fieldAddr (o2 := 104) fd99_3 rfl rfl rfl) ?_
    refine SQ.uu (ru_load (i := 0) (v := iw A.clk) ts3 rfl rfl rfl nc_clk) ?_
    refine SQ.uu (ru_assign rfl rfl) ?_
    refine SQ.uu (ru_assign rfl rfl) ?_
    refine SQ.nilE ?_
    refine SC.of_SE ?_
    refine SC.norm [(0, pt d 0), (6, iw 0), (7, iw (A.r 1)), (8, iw A.clk)] _ ⟨rfl, rfl, rfl, rfl, trivial⟩ rfl ?_
    refine SC.sr ?_
    refine SL.mv ?_
    refine SL.call (ζ := Nat) (fun g3 => pt g3 0) (fun g3 => [rBlk d (nc A tv cv) 99, rFrs F tv cv A.tb A.cb, rBlk g3 (nc newA nilv nilv) 99]) (fun g3 => w.heap.size ≤ g3) rfl rfl co29 rfl rfl rfl (lt_b rfl) (fun w hI => (p_new _).mono fun e w2 ⟨g, h1, h2, h3, h4⟩ => ⟨g, h2, hI.add h4 h3 (fun q hq => by cases hq; exact h1), Nat.le_trans hI.2.size h1⟩) ?_
    intro g3 hg3
    refine SL.nk ?_
    refine SL.uu (ru_loada (i := 2) (vs := (nc newA nilv nilv)) ta99 rfl rfl rfl nc_all (by rw [nc_len]; exact Nat.le_refl _)) ?_
    refine SL.nk ?_
    refine SL.storea (i := 0) (vs := (nc newA nilv nilv)) (c' := (nc newA nilv nilv)) rfl rfl ta99 rfl rfl rfl (nc_one (fun _ => rfl) (fun _ => rfl)) nc_len rfl (by rw [nc_len, nc_len]; omega) (.inl rfl) nc_whole ?_
    refine SL.nn [(0, pt d 0), (6, iw 0), (7, iw (A.r 1)), (8, iw A.clk)] [rBlk d (nc newA nilv nilv) 99, rFrs F tv cv A.tb A.cb, rBlk g3 (nc newA nilv nilv) 99] ⟨rfl, rfl, rfl, rfl, trivial⟩ ?_
    refine SC.region ?_
    refine SL.mv ?_
    refine SL.mv ?_
    refine SL.mv ?_
    refine SL.mv ?_
    refine SL.nk ?_
    refine SL.uu (ru_fieldAddr (o2 := 0) fd99_0 rfl rfl rfl) ?_
    refine SL.uu (ru_indexA (o2 := 1) ar91 rfl rfl rfl (by decide) (by decide) rfl) ?_
    refine SL.store (i := 0) (c' := (nc { newA with r := up newA.r 1 (A.r 1) } nilv nilv)) rfl rfl ts3 rfl rfl rfl rfl rfl (by rw [nc_len]; omega) (.inl rfl) (set_r (by decide) (A.r 1)) ?_
    refine SL.nk ?_
    refine SL.uu (ru_fieldAddr (o2 := 104) fd99_3 rfl rfl rfl) ?_
    refine SL.store (i := 0) (c' := (nc { newA with r := up newA.r 1 (A.r 1), clk := A.clk } nilv nilv)) rfl rfl ts3 rfl rfl rfl rfl rfl (by rw [nc_len]; omega) (.inl rfl) (set_clk A.clk) ?_
    refine SL.nil ?_
    refine SE.blkn ?_
    refine SC.of_SE ?_
    refine SC.norm [(6, iw 0)] [rBlk d (nc { newA with r := up newA.r 1 (A.r 1), clk := A.clk } nilv nilv) 99, rFrs F tv cv A.tb A.cb, rBlk g3 (nc newA nilv nilv) 99] ⟨rfl, trivial⟩ rfl ?_
    refine SC.sr ?_
    refine SL.as ?_
    refine SL.nn [(6, iw 0)] _ ⟨rfl, trivial⟩ ?_
    refine SC.ret ?_
    refine SE.res (.inl rfl) (res1 Try.results40 rfl) fun w1 hI => ?_
    have e : writeF A reg v = (0, { newA with r := up newA.r 1 (A.r 1), clk := A.clk }) := by
      try simp at h2
      unfold writeF
      (repeat' split) <;> first | rfl | (exfalso; omega) | (exfalso; simp_all; done) | (exfalso; simp_all; omega)
    rw [e]
    exact ⟨rfl, NicAt.fin_reset rfl rfl hI⟩
  refine SC.sr ?_
  refine SL.mv ?_
  refine SL.uu (ru_eq (b := ((reg : Int) == 0)) rfl rfl rfl rfl) ?_
  refine SL.mv ?_
  refine SL.join 7 [(0, pt d 0), (1, iw reg), (2, iw v), (6, iw 0), (10, bo (((reg : Int) == 0) && ((v : Int) == 2))), (41, iw reg), (42, bo ((reg : Int) == 0)), (43, bo ((reg : Int) == 0)), (50, bo (((reg : Int) == 0) && (((v : Int) == 0) || ((v : Int) == 1))))] [rBlk d (nc A tv cv) 99, rFrs F tv cv A.tb A.cb] ?_ ?_
  rotate_left
  · intro K hK
    rcases tf ((reg : Int) == 0) with h4 | h4
    · skip
      refine SL.norm [(0, pt d 0), (1, iw reg), (2, iw v), (6, iw 0), (10, bo (((reg : Int) == 0) && ((v : Int) == 2))), (41, iw reg), (42, bo true), (43, bo true)] _ ⟨rfl, rfl, rfl, rfl, rfl, rfl, (congrArg (fun x => some (Value.bool x)) h4), (congrArg (fun x => some (Value.bool x)) h4), trivial⟩ rfl ?_
      refine SL.gg (ru_move rfl rfl) ?_
      refine SL.gg (ru_eq (b := ((v : Int) == 0)) rfl rfl rfl rfl) ?_
      refine SL.gg (ru_move rfl rfl) ?_
      refine SL.join 3 [(0, pt d 0), (1, iw reg), (2, iw v), (6, iw 0), (10, bo (((reg : Int) == 0) && ((v : Int) == 2))), (41, iw reg), (42, bo true), (43, bo true), (44, iw v), (45, bo ((v : Int) == 0)), (46, bo ((v : Int) == 0)), (49, bo (((v : Int) == 0) || ((v : Int) == 1)))] [rBlk d (nc A tv cv) 99, rFrs F tv cv A.tb A.cb] ?_ ?_
      rotate_left
      · intro K hK
        rcases tf ((v : Int) == 0) with h5 | h5
        · skip
          refine SL.norm [(0, pt d 0), (1, iw reg), (2, iw v), (6, iw 0), (10, bo (((reg : Int) == 0) && ((v : Int) == 2))), (41, iw reg), (42, bo true), (43, bo true), (44, iw v), (45, bo true), (46, bo true)] _ ⟨rfl, rfl, rfl, rfl, rfl, rfl, rfl, rfl, rfl, (congrArg (fun x => some (Value.bool x)) h5), (congrArg (fun x => some (Value.bool x)) h5), trivial⟩ rfl ?_
          refine SL.oo ?_
          refine SL.oo ?_
          refine SL.gg (ru_pick (u := bo true) (v := undef) rfl rfl rfl rfl) ?_
          exact SL.joined hK ⟨rfl, rfl, rfl, rfl, rfl, rfl, rfl, rfl, rfl, (congrArg (fun x => some (Value.bool x)) h5.symm), (congrArg (fun x => some (Value.bool x)) h5.symm), (congrArg (fun x => some (Value.bool (x || ((v : Int) == 1)))) h5.symm), trivial⟩ rfl
        refine SL.norm [(0, pt d 0), (1, iw reg), (2, iw v), (6, iw 0), (10, bo (((reg : Int) == 0) && ((v : Int) == 2))), (41, iw reg), (42, bo true), (43, bo true), (44, iw v), (45, bo false), (46, bo false)] _ ⟨rfl, rfl, rfl, rfl, rfl, rfl, rfl, rfl, rfl, (congrArg (fun x => some (Value.bool x)) h5), (congrArg (fun x => some (Value.bool x)) h5), trivial⟩ rfl ?_
        refine SL.gg (ru_move rfl rfl) ?_
        refine SL.gg (ru_eq (b := ((v : Int) == 1)) rfl rfl rfl rfl) ?_
        refine SL.gg (ru_pick (u := bo true) (v := bo ((v : Int) == 1)) rfl rfl rfl rfl) ?_
        exact SL.joined hK ⟨rfl, rfl, rfl, rfl, rfl, rfl, rfl, rfl, rfl, (congrArg (fun x => some (Value.bool x)) h5.symm), (congrArg (fun x => some (Value.bool x)) h5.symm), (congrArg (fun x => some (Value.bool (x || ((v : Int) == 1)))) h5.symm), trivial⟩ rfl
      skip
      refine SL.uu (ru_pick (u := bo (((v : Int) == 0) || ((v : Int) == 1))) (v := bo false) rfl rfl rfl rfl) ?_
      exact SL.joined hK ⟨rfl, rfl, rfl, rfl, rfl, rfl, (congrArg (fun x => some (Value.bool x)) h4.symm), (congrArg (fun x => some (Value.bool x)) h4.symm), (congrArg (fun x => some (Value.bool (x && (((v : Int) == 0) || ((v : Int) == 1))))) h4.symm), trivial⟩ rfl
    refine SL.norm [(0, pt d 0), (1, iw reg), (2, iw v), (6, iw 0), (10, bo (((reg : Int) == 0) && ((v : Int) == 2))), (41, iw reg), (42, bo false), (43, bo false)] _ ⟨rfl, rfl, rfl, rfl, rfl, rfl, (congrArg (fun x => some (Value.bool x)) h4), (congrArg (fun x => some (Value.bool x)) h4), trivial⟩ rfl ?_
    refine SL.oo ?_
    refine SL.oo ?_
    refine SL.oo ?_
    refine SL.offu rfl rfl rfl rfl (lt_b rfl) ?_
    refine SL.offu rfl rfl rfl rfl (lt_b rfl) ?_
    refine SL.oo ?_
    refine SL.uu (ru_pick (u := undef) (v := bo false) rfl rfl rfl rfl) ?_
    exact SL.joined hK ⟨rfl, rfl, rfl, rfl, rfl, rfl, (congrArg (fun x => some (Value.bool x)) h4.symm), (congrArg (fun x => some (Value.bool x)) h4.symm), (congrArg (fun x => some (Value.bool (x && (((v : Int) == 0) || ((v : Int) == 1))))) h4.symm), trivial⟩ rfl
  skip
  refine SL.as ?_
  refine SL.nn [(0, pt d 0), (1, iw reg), (2, iw v), (6, iw 0), (40, bo (((reg : Int) == 0) && (((v : Int) == 0) || ((v : Int) == 1))))] _ ⟨rfl, rfl, rfl, rfl, rfl, trivial⟩ ?_
  refine SC.both (((reg : Int) == 0) && (((v : Int) == 0) || ((v : Int) == 1))) rfl (fun h6 => ?_) (fun h6 => ?_)
  · skip
    have h0 := w_0 h6
    refine SC.region ?_
    refine SL.mv ?_
    refine SL.mv ?_
    refine SL.mv ?_
    refine SL.nk ?_
    refine SL.uu (ru_fieldAddr (o2 := 0) fd99_0 rfl rfl rfl) ?_
    refine SL.uu (ru_indexA (o2 := 0 + reg.toNat * 1) ar91 rfl rfl rfl (by omega) (by omega) rfl) ?_
    refine SL.store (i := 0) (c' := (nc { A with r := up A.r reg.toNat v } tv cv)) rfl rfl ts3 rfl rfl rfl rfl rfl (by rw [nc_len]; omega) (.inl rfl) (set_r' (by omega) v) ?_
    refine SL.nil ?_
    refine SE.blkn ?_
    refine SC.of_SE ?_
    refine SC.norm [(6, iw 0)] [rBlk d (nc { A with r := up A.r reg.toNat v } tv cv) 99, rFrs F tv cv A.tb A.cb] ⟨rfl, trivial⟩ rfl ?_
    refine SC.sr ?_
    refine SL.as ?_
    refine SL.nn [(6, iw 0)] _ ⟨rfl, trivial⟩ ?_
    refine SC.ret ?_
    refine SE.res (.inl rfl) (res1 Try.results40 rfl) fun w1 hI => ?_
    have e : writeF A reg v = (0, { A with r := up A.r reg.toNat v }) := by
      try simp at h2 h6
      unfold writeF
      (repeat' split) <;> first | rfl | (exfalso; omega) | (exfalso; simp_all; done) | (exfalso; simp_all; omega)
    rw [e]
    exact ⟨rfl, NicAt.fin' hI⟩
  refine SC.sr ?_
  refine SL.mv ?_
  refine SL.uu (ru_lt (b := (decide ((v : Int) < 0))) rfl rfl rfl rfl) ?_
  refine SL.mv ?_
  refine SL.join 3 [(0, pt d 0), (1, iw reg), (2, iw v), (6, iw 0), (40, bo (((reg : Int) == 0) && (((v : Int) == 0) || ((v : Int) == 1)))), (58, iw v), (59, bo (decide ((v : Int) < 0))), (60, bo (decide ((v : Int) < 0))), (63, bo ((decide ((v : Int) < 0)) || (decide ((16 : Int) ≤ v))))] [rBlk d (nc A tv cv) 99, rFrs F tv cv A.tb A.cb] ?_ ?_
  rotate_left
  · intro K hK
    rcases tf (decide ((v : Int) < 0)) with h7 | h7
    · skip
      refine SL.norm [(0, pt d 0), (1, iw reg), (2, iw v), (6, iw 0), (40, bo (((reg : Int) == 0) && (((v : Int) == 0) || ((v : Int) == 1)))), (58, iw v), (59, bo true), (60, bo true)] _ ⟨rfl, rfl, rfl, rfl, rfl, rfl, (congrArg (fun x => some (Value.bool x)) h7), (congrArg (fun x => some (Value.bool x)) h7), trivial⟩ rfl ?_
      refine SL.oo ?_
      refine SL.oo ?_
      refine SL.uu (ru_pick (u := bo true) (v := undef) rfl rfl rfl rfl) ?_
      exact SL.joined hK ⟨rfl, rfl, rfl, rfl, rfl, rfl, (congrArg (fun x => some (Value.bool x)) h7.symm), (congrArg (fun x => some (Value.bool x)) h7.symm), (congrArg (fun x => some (Value.bool (x || (decide ((16 : Int) ≤ v))))) h7.symm), trivial⟩ rfl
    refine SL.norm [(0, pt d 0), (1, iw reg), (2, iw v), (6, iw 0), (40, bo (((reg : Int) == 0) && (((v : Int) == 0) || ((v : Int) == 1)))), (58, iw v), (59, bo false), (60, bo false)] _ ⟨rfl, rfl, rfl, rfl, rfl, rfl, (congrArg (fun x => some (Value.bool x)) h7), (congrArg (fun x => some (Value.bool x)) h7), trivial⟩ rfl ?_
    refine SL.gg (ru_move rfl rfl) ?_
    refine SL.gg (ru_ge (b := (decide ((16 : Int) ≤ v))) rfl rfl rfl rfl) ?_
    refine SL.uu (ru_pick (u := bo true) (v := bo (decide ((16 : Int) ≤ v))) rfl rfl rfl rfl) ?_
    exact SL.joined hK ⟨rfl, rfl, rfl, rfl, rfl, rfl, (congrArg (fun x => some (Value.bool x)) h7.symm), (congrArg (fun x => some (Value.bool x)) h7.symm), (congrArg (fun x => some (Value.bool (x || (decide ((16 : Int) ≤ v))))) h7.symm), trivial⟩ rfl
  skip
  refine SL.as ?_
  refine SL.nn [(0, pt d 0), (1, iw reg), (2, iw v), (6, iw 0), (57, bo ((decide ((v : Int) < 0)) || (decide ((16 : Int) ≤ v))))] _ ⟨rfl, rfl, rfl, rfl, rfl, trivial⟩ ?_
  refine SC.both ((decide ((v : Int) < 0)) || (decide ((16 : Int) ≤ v))) rfl (fun h8 => ?_) (fun h8 => ?_)
  · skip
    refine SC.sr ?_
    refine SL.as ?_
    refine SL.nn [(6, iw 1)] _ ⟨rfl, trivial⟩ ?_
    refine SC.ret ?_
    refine SE.blkr ?_
    refine SE.passr ?_
    refine SE.res (.inl rfl) (res1 Try.results40 rfl) fun w1 hI => ?_
    have e : writeF A reg v = (1, A) := by
      try simp at h2 h6 h8
      unfold writeF
      (repeat' split) <;> first | rfl | (exfalso; omega) | (exfalso; simp_all; done) | (exfalso; simp_all; omega)
    rw [e]
    exact ⟨rfl, NicAt.fin' hI⟩
  have hv := host_in h8
  refine SC.sr ?_
  refine SL.mv ?_
  refine SL.uu (ru_eq (b := ((reg : Int) == 5)) rfl rfl rfl rfl) ?_
  refine SL.as ?_
  refine SL.nn [(0, pt d 0), (1, iw reg), (2, iw v), (6, iw 0), (64, bo ((reg : Int) == 5))] _ ⟨rfl, rfl, rfl, rfl, rfl, trivial⟩ ?_
  refine SC.both ((reg : Int) == 5) rfl (fun h9 => ?_) (fun h9 => ?_)
  · skip
    have h5 := w_5 h9
    have e5 : A.r reg.toNat = A.r 5 := by rw [h5]; rfl
    refine SC.seq ?_
    refine SC.sr ?_
    refine SL.mv ?_
    refine SL.mv ?_
    refine SL.nk ?_
    refine SL.uu (ru_fieldAddr (o2 := 0) fd99_0 rfl rfl rfl) ?_
    refine SL.uu (ru_indexA (o2 := 0 + reg.toNat * 1) ar91 rfl rfl rfl (by omega) (by omega) rfl) ?_
    refine SL.uu (ru_load (i := 0) (v := iw (A.r reg.toNat)) ts3 rfl rfl rfl (nc_r' (by omega))) ?_
    refine SL.as ?_
    refine SL.nn [(0, pt d 0), (1, iw reg), (2, iw v), (6, iw 0), (9, iw (A.r reg.toNat))] _ ⟨rfl, rfl, rfl, rfl, rfl, trivial⟩ ?_
    refine SC.block ?_
    refine SC.loop (γ := Unit) (fun n _ => [(0, pt d 0), (1, iw reg), (2, iw v), (6, iw 0), (9, iw ((v - (n : Int)) % 16))]) (fun n _ => [rBlk d (nc { A with tp := posts A.tp (A.r 5) ((v - (n : Int)) % 16) A.clk } tv cv) 99, rFrs F tv cv A.tb A.cb]) (fun n _ => n ≤ ((v - A.r 5) % 16).toNat) ((v - A.r 5) % 16).toNat () (Nat.le_refl _) ⟨rfl, rfl, rfl, rfl, (congrArg (fun x => some (iw x)) (show A.r reg.toNat = (v - (((((v - A.r 5) % 16).toNat : Nat) : Int) : Int)) % 16 by omega)), trivial⟩ (congrArg (fun c => [rBlk d c 99, rFrs F tv cv A.tb A.cb]) (nc_posts r5 hv)) ?_
    rintro n ⟨⟩ hn
    rcases Nat.eq_zero_or_pos n with h0 | h0
    · skip
      have ez : (v - (n : Int)) % 16 = v := by omega
      refine SC.seq ?_
      refine SC.sr ?_
      refine SL.mv ?_
      refine SL.mv ?_
      refine SL.uu (ru_ne (b := ((((v - (n : Int)) % 16) : Int) != v)) rfl rfl rfl rfl) ?_
      refine SL.nn [(0, pt d 0), (1, iw reg), (2, iw v), (6, iw 0), (9, iw ((v - (n : Int)) % 16)), (75, bo ((((v - (n : Int)) % 16) : Int) != v))] [rBlk d (nc { A with tp := posts A.tp (A.r 5) ((v - (n : Int)) % 16) A.clk } tv cv) 99, rFrs F tv cv A.tb A.cb] ⟨rfl, rfl, rfl, rfl, rfl, rfl, trivial⟩ ?_
      refine SC.no (show some (Value.bool ((((v - (n : Int)) % 16) : Int) != v)) = some (Value.bool false) from congrArg (fun x => some (Value.bool x)) (bne_f (by omega))) ?_
      refine SC.exit ?_
      refine SE.passe ?_
      refine SE.passe ?_
      refine SE.blke ?_
      refine SC.of_SE ?_
      refine SC.norm [(0, pt d 0), (1, iw reg), (2, iw v), (6, iw 0)] _ ⟨rfl, rfl, rfl, rfl, trivial⟩ rfl ?_
      refine SC.region ?_
      refine SL.mv ?_
      refine SL.mv ?_
      refine SL.mv ?_
      refine SL.nk ?_
      refine SL.uu (ru_fieldAddr (o2 := 0) fd99_0 rfl rfl rfl) ?_
      refine SL.uu (ru_indexA (o2 := 0 + reg.toNat * 1) ar91 rfl rfl rfl (by omega) (by omega) rfl) ?_
      refine SL.store (i := 0) (c' := (nc { A with r := up A.r reg.toNat v, tp := posts A.tp (A.r 5) ((v - (n : Int)) % 16) A.clk } tv cv)) rfl rfl ts3 rfl rfl rfl rfl rfl (by rw [nc_len]; omega) (.inl rfl) (set_r' (by omega) v) ?_
      refine SL.nil ?_
      refine SE.blkn ?_
      refine SC.of_SE ?_
      refine SC.norm [(6, iw 0)] [rBlk d (nc { A with r := up A.r reg.toNat v, tp := posts A.tp (A.r 5) ((v - (n : Int)) % 16) A.clk } tv cv) 99, rFrs F tv cv A.tb A.cb] ⟨rfl, trivial⟩ rfl ?_
      refine SC.sr ?_
      refine SL.as ?_
      refine SL.nn [(6, iw 0)] _ ⟨rfl, trivial⟩ ?_
      refine SC.ret ?_
      refine SE.res (.inl rfl) (res1 Try.results40 rfl) fun w1 hI => ?_
      rw [ez] at hI
      have e : writeF A reg v = (0, { A with r := up A.r reg.toNat v, tp := posts A.tp (A.r 5) v A.clk }) := by
        try simp at h2 h6 h8 h9
        unfold writeF
        (repeat' split) <;> first | rfl | (exfalso; omega) | (exfalso; simp_all; done) | (exfalso; simp_all; omega)
      rw [e]
      exact ⟨rfl, NicAt.fin' hI⟩
    refine SC.seq ?_
    refine SC.sr ?_
    refine SL.mv ?_
    refine SL.mv ?_
    refine SL.uu (ru_ne (b := ((((v - (n : Int)) % 16) : Int) != v)) rfl rfl rfl rfl) ?_
    refine SL.nn [(0, pt d 0), (1, iw reg), (2, iw v), (6, iw 0), (9, iw ((v - (n : Int)) % 16)), (75, bo ((((v - (n : Int)) % 16) : Int) != v))] [rBlk d (nc { A with tp := posts A.tp (A.r 5) ((v - (n : Int)) % 16) A.clk } tv cv) 99, rFrs F tv cv A.tb A.cb] ⟨rfl, rfl, rfl, rfl, rfl, rfl, trivial⟩ ?_
    refine SC.yes (show some (Value.bool ((((v - (n : Int)) % 16) : Int) != v)) = some (Value.bool true) from congrArg (fun x => some (Value.bool x)) (bne_t (by omega))) ?_
    refine SC.skip ?_
    refine SC.of_SE ?_
    refine SC.norm [(0, pt d 0), (1, iw reg), (2, iw v), (6, iw 0), (9, iw ((v - (n : Int)) % 16))] _ ⟨rfl, rfl, rfl, rfl, rfl, trivial⟩ rfl ?_
    refine SC.seq ?_
    refine SC.block ?_
    refine SC.region_tail 10 (by kernel_rfl) (by kernel_rfl) ?_
    refine SQ.uu (ru_move rfl rfl) ?_
    refine SQ.uu (ru_move rfl rfl) ?_
    refine SQ.uu (ru_move rfl rfl) ?_
    refine SQ.uu (ru_nilCheck rfl rfl) ?_
    refine SQ.uu (ru_fieldAddr (o2 := 104) fd99_3 rfl rfl rfl) ?_
    refine SQ.uu (ru_load (i := 0) (v := iw A.clk) ts3 rfl rfl rfl nc_clk) ?_
    refine SQ.uu (ru_nilCheck rfl rfl) ?_
    refine SQ.uu (ru_fieldAddr (o2 := 8) fd99_1 rfl rfl rfl) ?_
    refine SQ.uu (ru_indexA (o2 := 8 + (((v - (n : Int)) % 16).toNat) * 2) ar94 rfl rfl rfl (by omega) (by omega) rfl) ?_
    refine SQ.uu (ru_fieldAddr (o2 := (8 + (((v - (n : Int)) % 16).toNat) * 2 + 1)) fd93_1 rfl rfl rfl) ?_
    refine SQ.nilL ?_
    refine SL.store (i := 0) (c' := (nc { A with tp := up (posts A.tp (A.r 5) ((v - (n : Int)) % 16) A.clk) (((v - (n : Int)) % 16).toNat) A.clk } tv cv)) rfl rfl ts3 rfl rfl rfl rfl rfl (by rw [nc_len]; omega) (.inl rfl) (set_tp (by omega) A.clk) ?_
    refine SL.nil ?_
    refine SE.blkn ?_
    refine SC.of_SE ?_
    refine SC.norm [(0, pt d 0), (1, iw reg), (2, iw v), (6, iw 0), (9, iw ((v - (n : Int)) % 16))] [rBlk d (nc { A with tp := up (posts A.tp (A.r 5) ((v - (n : Int)) % 16) A.clk) (((v - (n : Int)) % 16).toNat) A.clk } tv cv) 99, rFrs F tv cv A.tb A.cb] ⟨rfl, rfl, rfl, rfl, rfl, trivial⟩ rfl ?_
    refine SC.region ?_
    refine SL.mv ?_
    refine SL.callv (iw (nx ((v - (n : Int)) % 16))) rfl rfl co42 rfl rfl rfl (lt_b rfl) (fun w hI => H_same hI (next_any w (by omega))) ?_
    refine SL.as ?_
    refine SL.nil ?_
    refine SE.again (n - 1) () (by omega) (by omega) ⟨rfl, rfl, rfl, rfl, (congrArg (fun x => some (iw x)) (nx_step h0)), trivial⟩ (congrArg (fun c => [rBlk d c 99, rFrs F tv cv A.tb A.cb]) (nc_posts' r5 hv h0 hn))
  refine SC.sr ?_
  refine SL.mv ?_
  refine SL.uu (ru_eq (b := ((reg : Int) == 3)) rfl rfl rfl rfl) ?_
  refine SL.as ?_
  refine SL.nn [(0, pt d 0), (1, iw reg), (2, iw v), (6, iw 0), (94, bo ((reg : Int) == 3))] _ ⟨rfl, rfl, rfl, rfl, rfl, trivial⟩ ?_
  refine SC.both ((reg : Int) == 3) rfl (fun h10 => ?_) (fun h10 => ?_)
  · skip
    have h5 := w_5 h10
    refine SC.region ?_
    refine SL.mv ?_
    refine SL.mv ?_
    refine SL.mv ?_
    refine SL.nk ?_
    refine SL.uu (ru_fieldAddr (o2 := 0) fd99_0 rfl rfl rfl) ?_
    refine SL.uu (ru_indexA (o2 := 0 + reg.toNat * 1) ar91 rfl rfl rfl (by omega) (by omega) rfl) ?_
    refine SL.store (i := 0) (c' := (nc { A with r := up A.r reg.toNat v } tv cv)) rfl rfl ts3 rfl rfl rfl rfl rfl (by rw [nc_len]; omega) (.inl rfl) (set_r' (by omega) v) ?_
    refine SL.nil ?_
    refine SE.blkn ?_
    refine SC.of_SE ?_
    refine SC.norm [(6, iw 0)] [rBlk d (nc { A with r := up A.r reg.toNat v } tv cv) 99, rFrs F tv cv A.tb A.cb] ⟨rfl, trivial⟩ rfl ?_
    refine SC.sr ?_
    refine SL.as ?_
    refine SL.nn [(6, iw 0)] _ ⟨rfl, trivial⟩ ?_
    refine SC.ret ?_
    refine SE.res (.inl rfl) (res1 Try.results40 rfl) fun w1 hI => ?_
    have e : writeF A reg v = (0, { A with r := up A.r reg.toNat v }) := by
      try simp at h2 h6 h8 h9 h10
      unfold writeF
      (repeat' split) <;> first | rfl | (exfalso; omega) | (exfalso; simp_all; done) | (exfalso; simp_all; omega)
    rw [e]
    exact ⟨rfl, NicAt.fin' hI⟩
  refine SC.sr ?_
  refine SL.as ?_
  refine SL.nn [(6, iw 1)] _ ⟨rfl, trivial⟩ ?_
  refine SC.ret ?_
  refine SE.blkr ?_
  refine SE.passr ?_
  refine SE.res (.inl rfl) (res1 Try.results40 rfl) fun w1 hI => ?_
  have e : writeF A reg v = (1, A) := by
    try simp at h2 h6 h8 h9 h10
    unfold writeF
    (repeat' split) <;> first | rfl | (exfalso; omega) | (exfalso; simp_all; done) | (exfalso; simp_all; omega)
  rw [e]
  exact ⟨rfl, NicAt.fin' hI⟩

end Go.Proofs.Ytghfkgcaglabpaa

/-
  A new device, and a write (the reference's).
-/
namespace Go.Proofs.Ytghfkgcaglabpaa
open Go.RowKit
set_option maxRecDepth 100000
set_option maxHeartbeats 4000000
theorem q_new (w : World) : Calls Try.prog 23 #[] w fun e w' => ∃ g, w.heap.size ≤ g ∧ e = .returned (pt g 0) ∧ Blk w' g (nc newA nilv nilv) 108 ∧ Only (fun _ => False) w w' := by
  refine calls_sc (l0 := []) (args := []) (fun _ => False) Try.func23 rfl 9 Try.ntmps23 (le_b rfl) ⟨⟨by simp, List.Pairwise.nil⟩, Only.refl _ _⟩ ?_
  show SC _ _ _ _ [] []
  refine SC.sr ?_
  refine SL.as ?_
  refine SL.nn [(0, Value.pointer none)] [] ⟨rfl, trivial⟩ ?_
  refine SC.sr ?_
  refine SL.uu (ru_build (vals := []) (cells := [iw 0, iw 0, iw 0, iw 0, iw 0, iw 0, iw 0, iw 0, Value.slice none 0 0, iw 0, Value.slice none 0 0, iw 0, Value.slice none 0 0, iw 0, Value.slice none 0 0, iw 0, Value.slice none 0 0, iw 0, Value.slice none 0 0, iw 0, Value.slice none 0 0, iw 0, Value.slice none 0 0, iw 0, Value.slice none 0 0, iw 0, Value.slice none 0 0, iw 0, Value.slice none 0 0, iw 0, Value.slice none 0 0, iw 0, Value.slice none 0 0, iw 0, Value.slice none 0 0, iw 0, Value.slice none 0 0, iw 0, Value.slice none 0 0, iw 0, iw 0, bo false, Value.slice none 0 0, bo false, iw 0, bo false, Value.slice none 0 0, bo false, iw 0, bo false, Value.slice none 0 0, bo false, iw 0, bo false, Value.slice none 0 0, bo false, iw 0, bo false, Value.slice none 0 0, bo false, iw 0, bo false, Value.slice none 0 0, bo false, iw 0, bo false, Value.slice none 0 0, bo false, iw 0, bo false, Value.slice none 0 0, bo false, iw 0, bo false, Value.slice none 0 0, bo false, iw 0, bo false, Value.slice none 0 0, bo false, iw 0, bo false, Value.slice none 0 0, bo false, iw 0, bo false, Value.slice none 0 0, bo false, iw 0, bo false, Value.slice none 0 0, bo false, iw 0, bo false, Value.slice none 0 0, bo false, iw 0, bo false, Value.slice none 0 0, bo false, iw 0, bo false, Value.slice none 0 0, bo false, iw 0]) rfl rfl (by kernel_rfl)) ?_
  refine SL.box (c := [iw 0, iw 0, iw 0, iw 0, iw 0, iw 0, iw 0, iw 0, Value.slice none 0 0, iw 0, Value.slice none 0 0, iw 0, Value.slice none 0 0, iw 0, Value.slice none 0 0, iw 0, Value.slice none 0 0, iw 0, Value.slice none 0 0, iw 0, Value.slice none 0 0, iw 0, Value.slice none 0 0, iw 0, Value.slice none 0 0, iw 0, Value.slice none 0 0, iw 0, Value.slice none 0 0, iw 0, Value.slice none 0 0, iw 0, Value.slice none 0 0, iw 0, Value.slice none 0 0, iw 0, Value.slice none 0 0, iw 0, Value.slice none 0 0, iw 0, iw 0, bo false, Value.slice none 0 0, bo false, iw 0, bo false, Value.slice none 0 0, bo false, iw 0, bo false, Value.slice none 0 0, bo false, iw 0, bo false, Value.slice none 0 0, bo false, iw 0, bo false, Value.slice none 0 0, bo false, iw 0, bo false, Value.slice none 0 0, bo false, iw 0, bo false, Value.slice none 0 0, bo false, iw 0, bo false, Value.slice none 0 0, bo false, iw 0, bo false, Value.slice none 0 0, bo false, iw 0, bo false, Value.slice none 0 0, bo false, iw 0, bo false, Value.slice none 0 0, bo false, iw 0, bo false, Value.slice none 0 0, bo false, iw 0, bo false, Value.slice none 0 0, bo false, iw 0, bo false, Value.slice none 0 0, bo false, iw 0, bo false, Value.slice none 0 0, bo false, iw 0, bo false, Value.slice none 0 0, bo false, iw 0]) rfl rfl (lt_b rfl) rfl rfl rfl fun b1 hb1 => ?_
  refine SL.as ?_
  refine SL.nn [(0, Value.pointer none), (1, pt b1 0)] [rBlk b1 [iw 0, iw 0, iw 0, iw 0, iw 0, iw 0, iw 0, iw 0, Value.slice none 0 0, iw 0, Value.slice none 0 0, iw 0, Value.slice none 0 0, iw 0, Value.slice none 0 0, iw 0, Value.slice none 0 0, iw 0, Value.slice none 0 0, iw 0, Value.slice none 0 0, iw 0, Value.slice none 0 0, iw 0, Value.slice none 0 0, iw 0, Value.slice none 0 0, iw 0, Value.slice none 0 0, iw 0, Value.slice none 0 0, iw 0, Value.slice none 0 0, iw 0, Value.slice none 0 0, iw 0, Value.slice none 0 0, iw 0, Value.slice none 0 0, iw 0, iw 0, bo false, Value.slice none 0 0, bo false, iw 0, bo false, Value.slice none 0 0, bo false, iw 0, bo false, Value.slice none 0 0, bo false, iw 0, bo false, Value.slice none 0 0, bo false, iw 0, bo false, Value.slice none 0 0, bo false, iw 0, bo false, Value.slice none 0 0, bo false, iw 0, bo false, Value.slice none 0 0, bo false, iw 0, bo false, Value.slice none 0 0, bo false, iw 0, bo false, Value.slice none 0 0, bo false, iw 0, bo false, Value.slice none 0 0, bo false, iw 0, bo false, Value.slice none 0 0, bo false, iw 0, bo false, Value.slice none 0 0, bo false, iw 0, bo false, Value.slice none 0 0, bo false, iw 0, bo false, Value.slice none 0 0, bo false, iw 0, bo false, Value.slice none 0 0, bo false, iw 0, bo false, Value.slice none 0 0, bo false, iw 0] 108] ⟨rfl, rfl, trivial⟩ ?_
  refine SC.sr ?_
  refine SL.mv ?_
  refine SL.nk ?_
  refine SL.uu (ru_fieldAddr (o2 := 0) fd108_0 rfl rfl rfl) ?_
  refine SL.uu (ru_indexA (o2 := 1) ar91 rfl rfl rfl (by decide) (by decide) rfl) ?_
  refine SL.store (i := 0) (c' := [iw 0, iw 1, iw 0, iw 0, iw 0, iw 0, iw 0, iw 0, Value.slice none 0 0, iw 0, Value.slice none 0 0, iw 0, Value.slice none 0 0, iw 0, Value.slice none 0 0, iw 0, Value.slice none 0 0, iw 0, Value.slice none 0 0, iw 0, Value.slice none 0 0, iw 0, Value.slice none 0 0, iw 0, Value.slice none 0 0, iw 0, Value.slice none 0 0, iw 0, Value.slice none 0 0, iw 0, Value.slice none 0 0, iw 0, Value.slice none 0 0, iw 0, Value.slice none 0 0, iw 0, Value.slice none 0 0, iw 0, Value.slice none 0 0, iw 0, iw 0, bo false, Value.slice none 0 0, bo false, iw 0, bo false, Value.slice none 0 0, bo false, iw 0, bo false, Value.slice none 0 0, bo false, iw 0, bo false, Value.slice none 0 0, bo false, iw 0, bo false, Value.slice none 0 0, bo false, iw 0, bo false, Value.slice none 0 0, bo false, iw 0, bo false, Value.slice none 0 0, bo false, iw 0, bo false, Value.slice none 0 0, bo false, iw 0, bo false, Value.slice none 0 0, bo false, iw 0, bo false, Value.slice none 0 0, bo false, iw 0, bo false, Value.slice none 0 0, bo false, iw 0, bo false, Value.slice none 0 0, bo false, iw 0, bo false, Value.slice none 0 0, bo false, iw 0, bo false, Value.slice none 0 0, bo false, iw 0, bo false, Value.slice none 0 0, bo false, iw 0, bo false, Value.slice none 0 0, bo false, iw 0]) rfl rfl ts3 rfl rfl rfl rfl rfl (lt_b rfl) (.inr hb1) rfl ?_
  refine SL.nn [(0, Value.pointer none), (1, pt b1 0)] [rBlk b1 [iw 0, iw 1, iw 0, iw 0, iw 0, iw 0, iw 0, iw 0, Value.slice none 0 0, iw 0, Value.slice none 0 0, iw 0, Value.slice none 0 0, iw 0, Value.slice none 0 0, iw 0, Value.slice none 0 0, iw 0, Value.slice none 0 0, iw 0, Value.slice none 0 0, iw 0, Value.slice none 0 0, iw 0, Value.slice none 0 0, iw 0, Value.slice none 0 0, iw 0, Value.slice none 0 0, iw 0, Value.slice none 0 0, iw 0, Value.slice none 0 0, iw 0, Value.slice none 0 0, iw 0, Value.slice none 0 0, iw 0, Value.slice none 0 0, iw 0, iw 0, bo false, Value.slice none 0 0, bo false, iw 0, bo false, Value.slice none 0 0, bo false, iw 0, bo false, Value.slice none 0 0, bo false, iw 0, bo false, Value.slice none 0 0, bo false, iw 0, bo false, Value.slice none 0 0, bo false, iw 0, bo false, Value.slice none 0 0, bo false, iw 0, bo false, Value.slice none 0 0, bo false, iw 0, bo false, Value.slice none 0 0, bo false, iw 0, bo false, Value.slice none 0 0, bo false, iw 0, bo false, Value.slice none 0 0, bo false, iw 0, bo false, Value.slice none 0 0, bo false, iw 0, bo false, Value.slice none 0 0, bo false, iw 0, bo false, Value.slice none 0 0, bo false, iw 0, bo false, Value.slice none 0 0, bo false, iw 0, bo false, Value.slice none 0 0, bo false, iw 0, bo false, Value.slice none 0 0, bo false, iw 0] 108] ⟨rfl, rfl, trivial⟩ ?_
  refine SC.sr ?_
  refine SL.mv ?_
  refine SL.as ?_
  refine SL.nn [(0, pt b1 0)] _ ⟨rfl, trivial⟩ ?_
  refine SC.ret ?_
  refine SE.res (.inl rfl) (res1 Try.results23 rfl) fun w1 hI => ⟨b1, hb1, rfl, ?_, hI.2⟩
  have e : [iw 0, iw 1, iw 0, iw 0, iw 0, iw 0, iw 0, iw 0, Value.slice none 0 0, iw 0, Value.slice none 0 0, iw 0, Value.slice none 0 0, iw 0, Value.slice none 0 0, iw 0, Value.slice none 0 0, iw 0, Value.slice none 0 0, iw 0, Value.slice none 0 0, iw 0, Value.slice none 0 0, iw 0, Value.slice none 0 0, iw 0, Value.slice none 0 0, iw 0, Value.slice none 0 0, iw 0, Value.slice none 0 0, iw 0, Value.slice none 0 0, iw 0, Value.slice none 0 0, iw 0, Value.slice none 0 0, iw 0, Value.slice none 0 0, iw 0, iw 0, bo false, Value.slice none 0 0, bo false, iw 0, bo false, Value.slice none 0 0, bo false, iw 0, bo false, Value.slice none 0 0, bo false, iw 0, bo false, Value.slice none 0 0, bo false, iw 0, bo false, Value.slice none 0 0, bo false, iw 0, bo false, Value.slice none 0 0, bo false, iw 0, bo false, Value.slice none 0 0, bo false, iw 0, bo false, Value.slice none 0 0, bo false, iw 0, bo false, Value.slice none 0 0, bo false, iw 0, bo false, Value.slice none 0 0, bo false, iw 0, bo false, Value.slice none 0 0, bo false, iw 0, bo false, Value.slice none 0 0, bo false, iw 0, bo false, Value.slice none 0 0, bo false, iw 0, bo false, Value.slice none 0 0, bo false, iw 0, bo false, Value.slice none 0 0, bo false, iw 0, bo false, Value.slice none 0 0, bo false, iw 0] = nc newA nilv nilv := by kernel_rfl
  rw [← e]
  exact hI.1.get (i := 0) rfl

theorem q_write {w : World} {d : Nat} {F : Nat → Prop} {A : NicA} (hk : NicOk A) (h : NicAt 108 w d F A) (reg v : Int) : Calls Try.prog 72 #[pt d 0, iw reg, iw v] w fun e w' => e = .returned (iw (writeF A reg v).1) ∧ NicAt 108 w' d F (writeF A reg v).2 ∧ Only (fun b => b = d) w w' := by
  have hok := hk
  obtain ⟨r2, r3, r4, r5, r6, _, _, _⟩ := hok
  obtain ⟨tv, cv, hI⟩ := h.inv 97 (fun b => b = d)
  refine calls_sc (l0 := _) (args := [pt d 0, iw reg, iw v]) (fun b => b = d) Try.func72 rfl 97 Try.ntmps72 (le_b rfl) hI ?_
  show SC _ _ _ _ [(0, pt d 0), (1, iw reg), (2, iw v)] [rBlk d (nc A tv cv) 108, rFrs F tv cv A.tb A.cb]
  refine SC.sr ?_
  refine SL.as ?_
  refine SL.nn [(0, pt d 0), (1, iw reg), (2, iw v), (6, iw 0)] [rBlk d (nc A tv cv) 108, rFrs F tv cv A.tb A.cb] ⟨rfl, rfl, rfl, rfl, trivial⟩ ?_
  refine SC.seq ?_
  refine SC.sr ?_
  refine SL.mv ?_
  refine SL.uu (ru_eq (b := ((reg : Int) == 0)) rfl rfl rfl rfl) ?_
  refine SL.mv ?_
  refine SL.join 3 [(0, pt d 0), (1, iw reg), (2, iw v), (6, iw 0), (9, iw reg), (10, bo ((reg : Int) == 0)), (11, bo ((reg : Int) == 0)), (14, bo (((reg : Int) == 0) && ((v : Int) == 2)))] [rBlk d (nc A tv cv) 108, rFrs F tv cv A.tb A.cb] ?_ ?_
  rotate_left
  · intro K hK
    rcases tf ((reg : Int) == 0) with h1 | h1
    · skip
      refine SL.norm [(0, pt d 0), (1, iw reg), (2, iw v), (6, iw 0), (9, iw reg), (10, bo true), (11, bo true)] _ ⟨rfl, rfl, rfl, rfl, rfl, (congrArg (fun x => some (Value.bool x)) h1), (congrArg (fun x => some (Value.bool x)) h1), trivial⟩ rfl ?_
      refine SL.gg (ru_move rfl rfl) ?_
      refine SL.gg (ru_eq (b := ((v : Int) == 2)) rfl rfl rfl rfl) ?_
      refine SL.uu (ru_pick (u := bo ((v : Int) == 2)) (v := bo false) rfl rfl rfl rfl) ?_
      exact SL.joined hK ⟨rfl, rfl, rfl, rfl, rfl, (congrArg (fun x => some (Value.bool x)) h1.symm), (congrArg (fun x => some (Value.bool x)) h1.symm), (congrArg (fun x => some (Value.bool (x && ((v : Int) == 2)))) h1.symm), trivial⟩ rfl
    refine SL.norm [(0, pt d 0), (1, iw reg), (2, iw v), (6, iw 0), (9, iw reg), (10, bo false), (11, bo false)] _ ⟨rfl, rfl, rfl, rfl, rfl, (congrArg (fun x => some (Value.bool x)) h1), (congrArg (fun x => some (Value.bool x)) h1), trivial⟩ rfl ?_
    refine SL.oo ?_
    refine SL.oo ?_
    refine SL.uu (ru_pick (u := undef) (v := bo false) rfl rfl rfl rfl) ?_
    exact SL.joined hK ⟨rfl, rfl, rfl, rfl, rfl, (congrArg (fun x => some (Value.bool x)) h1.symm), (congrArg (fun x => some (Value.bool x)) h1.symm), (congrArg (fun x => some (Value.bool (x && ((v : Int) == 2)))) h1.symm), trivial⟩ rfl
  skip
  refine SL.nn [(0, pt d 0), (1, iw reg), (2, iw v), (6, iw 0), (14, bo (((reg : Int) == 0) && ((v : Int) == 2)))] _ ⟨rfl, rfl, rfl, rfl, rfl, trivial⟩ ?_
  refine SC.both (((reg : Int) == 0) && ((v : Int) == 2)) rfl (fun h2 => ?_) (fun h2 => ?_)
  · skip
    have h0 := w_0 h2
    refine SC.sr ?_
    refine SL.call (ζ := Nat) (fun g3 => pt g3 0) (fun g3 => [rBlk d (nc A tv cv) 108, rFrs F tv cv A.tb A.cb, rBlk g3 (nc newA nilv nilv) 108]) (fun g3 => w.heap.size ≤ g3) rfl rfl co23 rfl rfl rfl (lt_b rfl) (fun w hI => (q_new _).mono fun e w2 ⟨g, h1, h2, h3, h4⟩ => ⟨g, h2, hI.add h4 h3 (fun q hq => by cases hq; exact h1), Nat.le_trans hI.2.size h1⟩) ?_
    intro g3 hg3
    refine SL.as ?_
    refine SL.nn [(0, pt d 0), (1, iw reg), (2, iw v), (6, iw 0), (7, pt g3 0)] [rBlk d (nc A tv cv) 108, rFrs F tv cv A.tb A.cb, rBlk g3 (nc newA nilv nilv) 108] ⟨rfl, rfl, rfl, rfl, rfl, trivial⟩ ?_
    refine SC.sr ?_
    refine SL.mv ?_
    refine SL.mv ?_
    refine SL.nk ?_
    refine SL.uu (ru_fieldAddr (o2 := 104) fd108_3 rfl rfl rfl) ?_
    refine SL.uu (ru_load (i := 0) (v := iw A.clk) ts3 rfl rfl rfl nc_clk) ?_
    refine SL.nk ?_
    refine SL.uu (ru_fieldAddr (o2 := 104) fd108_3 rfl rfl rfl) ?_
    refine SL.store (i := 2) (c' := (nc { newA with clk := A.clk } nilv nilv)) rfl rfl ts3 rfl rfl rfl rfl rfl (by rw [nc_len]; omega) (.inr hg3) (set_clk A.clk) ?_
    refine SL.nn [(0, pt d 0), (1, iw reg), (2, iw v), (6, iw 0), (7, pt g3 0)] [rBlk d (nc A tv cv) 108, rFrs F tv cv A.tb A.cb, rBlk g3 (nc { newA with clk := A.clk } nilv nilv) 108] ⟨rfl, rfl, rfl, rfl, rfl, trivial⟩ ?_
    refine SC.seq ?_
    refine SC.region_tail 9 (by kernel_rfl) (by kernel_rfl) ?_
    refine SQ.uu (ru_move rfl rfl) ?_
    refine SQ.uu (ru_move rfl rfl) ?_
    refine SQ.uu (ru_nilCheck rfl rfl) ?_
    refine SQ.uu (ru_fieldAddr (o2 := 0) fd108_0 rfl rfl rfl) ?_
    refine SQ.uu (ru_indexA (o2 := 1) ar91 rfl rfl rfl (by decide) (by decide) rfl) ?_
    refine SQ.uu (ru_load (i := 0) (v := iw (A.r 1)) ts3 rfl rfl rfl (nc_r (by decide))) ?_
    refine SQ.uu (ru_nilCheck rfl rfl) ?_
    refine SQ.uu (ru_fieldAddr (o2 := 0) fd108_0 rfl rfl rfl) ?_
    refine SQ.uu (ru_indexA (o2 := 1) ar91 rfl rfl rfl (by decide) (by decide) rfl) ?_
    refine SQ.nilL ?_
    refine SL.store (i := 2) (c' := (nc { newA with r := up newA.r 1 (A.r 1), clk := A.clk } nilv nilv)) rfl rfl ts3 rfl rfl rfl rfl rfl (by rw [nc_len]; omega) (.inr hg3) (set_r (by decide) (A.r 1)) ?_
    refine SL.nn [(0, pt d 0), (1, iw reg), (2, iw v), (6, iw 0), (7, pt g3 0)] [rBlk d (nc A tv cv) 108, rFrs F tv cv A.tb A.cb, rBlk g3 (nc { newA with r := up newA.r 1 (A.r 1), clk := A.clk } nilv nilv) 108] ⟨rfl, rfl, rfl, rfl, rfl, trivial⟩ ?_
    refine SC.sr ?_
    refine SL.mv ?_
    refine SL.mv ?_
    refine SL.nk ?_
    refine SL.uu (ru_loada (i := 2) (vs := (nc { newA with r := up newA.r 1 (A.r 1), clk := A.clk } nilv nilv)) ta108 rfl rfl rfl nc_all (by rw [nc_len]; exact Nat.le_refl _)) ?_
    refine SL.nk ?_
    refine SL.storea (i := 0) (vs := (nc { newA with r := up newA.r 1 (A.r 1), clk := A.clk } nilv nilv)) (c' := (nc { newA with r := up newA.r 1 (A.r 1), clk := A.clk } nilv nilv)) rfl rfl ta108 rfl rfl rfl (nc_one (fun _ => rfl) (fun _ => rfl)) nc_len rfl (by rw [nc_len, nc_len]; omega) (.inl rfl) nc_whole ?_
    refine SL.nn [(0, pt d 0), (1, iw reg), (2, iw v), (6, iw 0)] [rBlk d (nc { newA with r := up newA.r 1 (A.r 1), clk := A.clk } nilv nilv) 108, rFrs F tv cv A.tb A.cb, rBlk g3 (nc { newA with r := up newA.r 1 (A.r 1), clk := A.clk } nilv nilv) 108] ⟨rfl, rfl, rfl, rfl, trivial⟩ ?_
    refine SC.sr ?_
    refine SL.as ?_
    refine SL.nn [(0, pt d 0), (1, iw reg), (2, iw v), (6, iw 0)] _ ⟨rfl, rfl, rfl, rfl, trivial⟩ ?_
    refine SC.ret ?_
    refine SE.passr ?_
    refine SE.res (.inl rfl) (res1 Try.results72 rfl) fun w1 hI => ?_
    have e : writeF A reg v = (0, { newA with r := up newA.r 1 (A.r 1), clk := A.clk }) := by
      try simp at h2
      unfold writeF
      (repeat' split) <;> first | rfl | (exfalso; omega) | (exfalso; simp_all; done) | (exfalso; simp_all; omega)
    rw [e]
    exact ⟨rfl, NicAt.fin_reset rfl rfl hI⟩
  refine SC.skip ?_
  refine SC.of_SE ?_
  refine SC.norm [(0, pt d 0), (1, iw reg), (2, iw v), (6, iw 0)] _ ⟨rfl, rfl, rfl, rfl, trivial⟩ rfl ?_
  refine SC.seq ?_
  refine SC.sr ?_
  refine SL.mv ?_
  refine SL.uu (ru_eq (b := ((reg : Int) == 0)) rfl rfl rfl rfl) ?_
  refine SL.mv ?_
  refine SL.join 7 [(0, pt d 0), (1, iw reg), (2, iw v), (6, iw 0), (37, iw reg), (38, bo ((reg : Int) == 0)), (39, bo ((reg : Int) == 0)), (46, bo (((reg : Int) == 0) && (((v : Int) == 0) || ((v : Int) == 1))))] [rBlk d (nc A tv cv) 108, rFrs F tv cv A.tb A.cb] ?_ ?_
  rotate_left
  · intro K hK
    rcases tf ((reg : Int) == 0) with h4 | h4
    · skip
      refine SL.norm [(0, pt d 0), (1, iw reg), (2, iw v), (6, iw 0), (37, iw reg), (38, bo true), (39, bo true)] _ ⟨rfl, rfl, rfl, rfl, rfl, (congrArg (fun x => some (Value.bool x)) h4), (congrArg (fun x => some (Value.bool x)) h4), trivial⟩ rfl ?_
      refine SL.gg (ru_move rfl rfl) ?_
      refine SL.gg (ru_eq (b := ((v : Int) == 0)) rfl rfl rfl rfl) ?_
      refine SL.gg (ru_move rfl rfl) ?_
      refine SL.join 3 [(0, pt d 0), (1, iw reg), (2, iw v), (6, iw 0), (37, iw reg), (38, bo true), (39, bo true), (40, iw v), (41, bo ((v : Int) == 0)), (42, bo ((v : Int) == 0)), (45, bo (((v : Int) == 0) || ((v : Int) == 1)))] [rBlk d (nc A tv cv) 108, rFrs F tv cv A.tb A.cb] ?_ ?_
      rotate_left
      · intro K hK
        rcases tf ((v : Int) == 0) with h5 | h5
        · skip
          refine SL.norm [(0, pt d 0), (1, iw reg), (2, iw v), (6, iw 0), (37, iw reg), (38, bo true), (39, bo true), (40, iw v), (41, bo true), (42, bo true)] _ ⟨rfl, rfl, rfl, rfl, rfl, rfl, rfl, rfl, (congrArg (fun x => some (Value.bool x)) h5), (congrArg (fun x => some (Value.bool x)) h5), trivial⟩ rfl ?_
          refine SL.oo ?_
          refine SL.oo ?_
          refine SL.gg (ru_pick (u := bo true) (v := undef) rfl rfl rfl rfl) ?_
          exact SL.joined hK ⟨rfl, rfl, rfl, rfl, rfl, rfl, rfl, rfl, (congrArg (fun x => some (Value.bool x)) h5.symm), (congrArg (fun x => some (Value.bool x)) h5.symm), (congrArg (fun x => some (Value.bool (x || ((v : Int) == 1)))) h5.symm), trivial⟩ rfl
        refine SL.norm [(0, pt d 0), (1, iw reg), (2, iw v), (6, iw 0), (37, iw reg), (38, bo true), (39, bo true), (40, iw v), (41, bo false), (42, bo false)] _ ⟨rfl, rfl, rfl, rfl, rfl, rfl, rfl, rfl, (congrArg (fun x => some (Value.bool x)) h5), (congrArg (fun x => some (Value.bool x)) h5), trivial⟩ rfl ?_
        refine SL.gg (ru_move rfl rfl) ?_
        refine SL.gg (ru_eq (b := ((v : Int) == 1)) rfl rfl rfl rfl) ?_
        refine SL.gg (ru_pick (u := bo true) (v := bo ((v : Int) == 1)) rfl rfl rfl rfl) ?_
        exact SL.joined hK ⟨rfl, rfl, rfl, rfl, rfl, rfl, rfl, rfl, (congrArg (fun x => some (Value.bool x)) h5.symm), (congrArg (fun x => some (Value.bool x)) h5.symm), (congrArg (fun x => some (Value.bool (x || ((v : Int) == 1)))) h5.symm), trivial⟩ rfl
      skip
      refine SL.uu (ru_pick (u := bo (((v : Int) == 0) || ((v : Int) == 1))) (v := bo false) rfl rfl rfl rfl) ?_
      exact SL.joined hK ⟨rfl, rfl, rfl, rfl, rfl, (congrArg (fun x => some (Value.bool x)) h4.symm), (congrArg (fun x => some (Value.bool x)) h4.symm), (congrArg (fun x => some (Value.bool (x && (((v : Int) == 0) || ((v : Int) == 1))))) h4.symm), trivial⟩ rfl
    refine SL.norm [(0, pt d 0), (1, iw reg), (2, iw v), (6, iw 0), (37, iw reg), (38, bo false), (39, bo false)] _ ⟨rfl, rfl, rfl, rfl, rfl, (congrArg (fun x => some (Value.bool x)) h4), (congrArg (fun x => some (Value.bool x)) h4), trivial⟩ rfl ?_
    refine SL.oo ?_
    refine SL.oo ?_
    refine SL.oo ?_
    refine SL.offu rfl rfl rfl rfl (lt_b rfl) ?_
    refine SL.offu rfl rfl rfl rfl (lt_b rfl) ?_
    refine SL.oo ?_
    refine SL.uu (ru_pick (u := undef) (v := bo false) rfl rfl rfl rfl) ?_
    exact SL.joined hK ⟨rfl, rfl, rfl, rfl, rfl, (congrArg (fun x => some (Value.bool x)) h4.symm), (congrArg (fun x => some (Value.bool x)) h4.symm), (congrArg (fun x => some (Value.bool (x && (((v : Int) == 0) || ((v : Int) == 1))))) h4.symm), trivial⟩ rfl
  skip
  refine SL.nn [(0, pt d 0), (1, iw reg), (2, iw v), (6, iw 0), (46, bo (((reg : Int) == 0) && (((v : Int) == 0) || ((v : Int) == 1))))] _ ⟨rfl, rfl, rfl, rfl, rfl, trivial⟩ ?_
  refine SC.both (((reg : Int) == 0) && (((v : Int) == 0) || ((v : Int) == 1))) rfl (fun h6 => ?_) (fun h6 => ?_)
  · skip
    have h0 := w_0 h6
    refine SC.sr ?_
    refine SL.mv ?_
    refine SL.mv ?_
    refine SL.mv ?_
    refine SL.nk ?_
    refine SL.uu (ru_fieldAddr (o2 := 0) fd108_0 rfl rfl rfl) ?_
    refine SL.uu (ru_indexA (o2 := 0 + reg.toNat * 1) ar91 rfl rfl rfl (by omega) (by omega) rfl) ?_
    refine SL.store (i := 0) (c' := (nc { A with r := up A.r reg.toNat v } tv cv)) rfl rfl ts3 rfl rfl rfl rfl rfl (by rw [nc_len]; omega) (.inl rfl) (set_r' (by omega) v) ?_
    refine SL.nn [(0, pt d 0), (1, iw reg), (2, iw v), (6, iw 0)] [rBlk d (nc { A with r := up A.r reg.toNat v } tv cv) 108, rFrs F tv cv A.tb A.cb] ⟨rfl, rfl, rfl, rfl, trivial⟩ ?_
    refine SC.sr ?_
    refine SL.as ?_
    refine SL.nn [(0, pt d 0), (1, iw reg), (2, iw v), (6, iw 0)] _ ⟨rfl, rfl, rfl, rfl, trivial⟩ ?_
    refine SC.ret ?_
    refine SE.passr ?_
    refine SE.res (.inl rfl) (res1 Try.results72 rfl) fun w1 hI => ?_
    have e : writeF A reg v = (0, { A with r := up A.r reg.toNat v }) := by
      try simp at h2 h6
      unfold writeF
      (repeat' split) <;> first | rfl | (exfalso; omega) | (exfalso; simp_all; done) | (exfalso; simp_all; omega)
    rw [e]
    exact ⟨rfl, NicAt.fin' hI⟩
  refine SC.skip ?_
  refine SC.of_SE ?_
  refine SC.norm [(0, pt d 0), (1, iw reg), (2, iw v), (6, iw 0)] _ ⟨rfl, rfl, rfl, rfl, trivial⟩ rfl ?_
  refine SC.seq ?_
  refine SC.sr ?_
  refine SL.mv ?_
  refine SL.uu (ru_ne (b := ((reg : Int) != 3)) rfl rfl rfl rfl) ?_
  refine SL.mv ?_
  refine SL.join 3 [(0, pt d 0), (1, iw reg), (2, iw v), (6, iw 0), (53, iw reg), (54, bo ((reg : Int) != 3)), (55, bo ((reg : Int) != 3)), (58, bo (((reg : Int) != 3) && ((reg : Int) != 5)))] [rBlk d (nc A tv cv) 108, rFrs F tv cv A.tb A.cb] ?_ ?_
  rotate_left
  · intro K hK
    rcases tf ((reg : Int) != 3) with h7 | h7
    · skip
      refine SL.norm [(0, pt d 0), (1, iw reg), (2, iw v), (6, iw 0), (53, iw reg), (54, bo true), (55, bo true)] _ ⟨rfl, rfl, rfl, rfl, rfl, (congrArg (fun x => some (Value.bool x)) h7), (congrArg (fun x => some (Value.bool x)) h7), trivial⟩ rfl ?_
      refine SL.gg (ru_move rfl rfl) ?_
      refine SL.gg (ru_ne (b := ((reg : Int) != 5)) rfl rfl rfl rfl) ?_
      refine SL.uu (ru_pick (u := bo ((reg : Int) != 5)) (v := bo false) rfl rfl rfl rfl) ?_
      exact SL.joined hK ⟨rfl, rfl, rfl, rfl, rfl, (congrArg (fun x => some (Value.bool x)) h7.symm), (congrArg (fun x => some (Value.bool x)) h7.symm), (congrArg (fun x => some (Value.bool (x && ((reg : Int) != 5)))) h7.symm), trivial⟩ rfl
    refine SL.norm [(0, pt d 0), (1, iw reg), (2, iw v), (6, iw 0), (53, iw reg), (54, bo false), (55, bo false)] _ ⟨rfl, rfl, rfl, rfl, rfl, (congrArg (fun x => some (Value.bool x)) h7), (congrArg (fun x => some (Value.bool x)) h7), trivial⟩ rfl ?_
    refine SL.oo ?_
    refine SL.oo ?_
    refine SL.uu (ru_pick (u := undef) (v := bo false) rfl rfl rfl rfl) ?_
    exact SL.joined hK ⟨rfl, rfl, rfl, rfl, rfl, (congrArg (fun x => some (Value.bool x)) h7.symm), (congrArg (fun x => some (Value.bool x)) h7.symm), (congrArg (fun x => some (Value.bool (x && ((reg : Int) != 5)))) h7.symm), trivial⟩ rfl
  skip
  refine SL.mv ?_
  refine SL.join 3 [(0, pt d 0), (1, iw reg), (2, iw v), (6, iw 0), (53, iw reg), (54, bo ((reg : Int) != 3)), (55, bo ((reg : Int) != 3)), (58, bo (((reg : Int) != 3) && ((reg : Int) != 5))), (59, bo (((reg : Int) != 3) && ((reg : Int) != 5))), (62, bo ((((reg : Int) != 3) && ((reg : Int) != 5)) || (decide ((v : Int) < 0))))] [rBlk d (nc A tv cv) 108, rFrs F tv cv A.tb A.cb] ?_ ?_
  rotate_left
  · intro K hK
    rcases tf (((reg : Int) != 3) && ((reg : Int) != 5)) with h8 | h8
    · skip
      refine SL.norm [(0, pt d 0), (1, iw reg), (2, iw v), (6, iw 0), (53, iw reg), (54, bo ((reg : Int) != 3)), (55, bo ((reg : Int) != 3)), (58, bo true), (59, bo true)] _ ⟨rfl, rfl, rfl, rfl, rfl, rfl, rfl, (congrArg (fun x => some (Value.bool x)) h8), (congrArg (fun x => some (Value.bool x)) h8), trivial⟩ rfl ?_
      refine SL.oo ?_
      refine SL.oo ?_
      refine SL.uu (ru_pick (u := bo true) (v := undef) rfl rfl rfl rfl) ?_
      exact SL.joined hK ⟨rfl, rfl, rfl, rfl, rfl, rfl, rfl, (congrArg (fun x => some (Value.bool x)) h8.symm), (congrArg (fun x => some (Value.bool x)) h8.symm), (congrArg (fun x => some (Value.bool (x || (decide ((v : Int) < 0))))) h8.symm), trivial⟩ rfl
    refine SL.norm [(0, pt d 0), (1, iw reg), (2, iw v), (6, iw 0), (53, iw reg), (54, bo ((reg : Int) != 3)), (55, bo ((reg : Int) != 3)), (58, bo false), (59, bo false)] _ ⟨rfl, rfl, rfl, rfl, rfl, rfl, rfl, (congrArg (fun x => some (Value.bool x)) h8), (congrArg (fun x => some (Value.bool x)) h8), trivial⟩ rfl ?_
    refine SL.gg (ru_move rfl rfl) ?_
    refine SL.gg (ru_lt (b := (decide ((v : Int) < 0))) rfl rfl rfl rfl) ?_
    refine SL.uu (ru_pick (u := bo true) (v := bo (decide ((v : Int) < 0))) rfl rfl rfl rfl) ?_
    exact SL.joined hK ⟨rfl, rfl, rfl, rfl, rfl, rfl, rfl, (congrArg (fun x => some (Value.bool x)) h8.symm), (congrArg (fun x => some (Value.bool x)) h8.symm), (congrArg (fun x => some (Value.bool (x || (decide ((v : Int) < 0))))) h8.symm), trivial⟩ rfl
  skip
  refine SL.mv ?_
  refine SL.join 3 [(0, pt d 0), (1, iw reg), (2, iw v), (6, iw 0), (53, iw reg), (54, bo ((reg : Int) != 3)), (55, bo ((reg : Int) != 3)), (58, bo (((reg : Int) != 3) && ((reg : Int) != 5))), (59, bo (((reg : Int) != 3) && ((reg : Int) != 5))), (62, bo ((((reg : Int) != 3) && ((reg : Int) != 5)) || (decide ((v : Int) < 0)))), (63, bo ((((reg : Int) != 3) && ((reg : Int) != 5)) || (decide ((v : Int) < 0)))), (66, bo (((((reg : Int) != 3) && ((reg : Int) != 5)) || (decide ((v : Int) < 0))) || (decide ((16 : Int) ≤ v))))] [rBlk d (nc A tv cv) 108, rFrs F tv cv A.tb A.cb] ?_ ?_
  rotate_left
  · intro K hK
    rcases tf ((((reg : Int) != 3) && ((reg : Int) != 5)) || (decide ((v : Int) < 0))) with h9 | h9
    · skip
      refine SL.norm [(0, pt d 0), (1, iw reg), (2, iw v), (6, iw 0), (53, iw reg), (54, bo ((reg : Int) != 3)), (55, bo ((reg : Int) != 3)), (58, bo (((reg : Int) != 3) && ((reg : Int) != 5))), (59, bo (((reg : Int) != 3) && ((reg : Int) != 5))), (62, bo true), (63, bo true)] _ ⟨rfl, rfl, rfl, rfl, rfl, rfl, rfl, rfl, rfl, (congrArg (fun x => some (Value.bool x)) h9), (congrArg (fun x => some (Value.bool x)) h9), trivial⟩ rfl ?_
      refine SL.oo ?_
      refine SL.oo ?_
      refine SL.uu (ru_pick (u := bo true) (v := undef) rfl rfl rfl rfl) ?_
      exact SL.joined hK ⟨rfl, rfl, rfl, rfl, rfl, rfl, rfl, rfl, rfl, (congrArg (fun x => some (Value.bool x)) h9.symm), (congrArg (fun x => some (Value.bool x)) h9.symm), (congrArg (fun x => some (Value.bool (x || (decide ((16 : Int) ≤ v))))) h9.symm), trivial⟩ rfl
    refine SL.norm [(0, pt d 0), (1, iw reg), (2, iw v), (6, iw 0), (53, iw reg), (54, bo ((reg : Int) != 3)), (55, bo ((reg : Int) != 3)), (58, bo (((reg : Int) != 3) && ((reg : Int) != 5))), (59, bo (((reg : Int) != 3) && ((reg : Int) != 5))), (62, bo false), (63, bo false)] _ ⟨rfl, rfl, rfl, rfl, rfl, rfl, rfl, rfl, rfl, (congrArg (fun x => some (Value.bool x)) h9), (congrArg (fun x => some (Value.bool x)) h9), trivial⟩ rfl ?_
    refine SL.gg (ru_move rfl rfl) ?_
    refine SL.gg (ru_ge (b := (decide ((16 : Int) ≤ v))) rfl rfl rfl rfl) ?_
    refine SL.uu (ru_pick (u := bo true) (v := bo (decide ((16 : Int) ≤ v))) rfl rfl rfl rfl) ?_
    exact SL.joined hK ⟨rfl, rfl, rfl, rfl, rfl, rfl, rfl, rfl, rfl, (congrArg (fun x => some (Value.bool x)) h9.symm), (congrArg (fun x => some (Value.bool x)) h9.symm), (congrArg (fun x => some (Value.bool (x || (decide ((16 : Int) ≤ v))))) h9.symm), trivial⟩ rfl
  skip
  refine SL.nn [(0, pt d 0), (1, iw reg), (2, iw v), (6, iw 0), (66, bo (((((reg : Int) != 3) && ((reg : Int) != 5)) || (decide ((v : Int) < 0))) || (decide ((16 : Int) ≤ v))))] _ ⟨rfl, rfl, rfl, rfl, rfl, trivial⟩ ?_
  refine SC.both (((((reg : Int) != 3) && ((reg : Int) != 5)) || (decide ((v : Int) < 0))) || (decide ((16 : Int) ≤ v))) rfl (fun h10 => ?_) (fun h10 => ?_)
  · skip
    refine SC.sr ?_
    refine SL.as ?_
    refine SL.nn [(0, pt d 0), (1, iw reg), (2, iw v), (6, iw 1)] _ ⟨rfl, rfl, rfl, rfl, trivial⟩ ?_
    refine SC.ret ?_
    refine SE.passr ?_
    refine SE.res (.inl rfl) (res1 Try.results72 rfl) fun w1 hI => ?_
    have e : writeF A reg v = (1, A) := by
      try simp at h2 h6 h10
      unfold writeF
      (repeat' split) <;> first | rfl | (exfalso; omega) | (exfalso; simp_all; done) | (exfalso; simp_all; omega)
    rw [e]
    exact ⟨rfl, NicAt.fin' hI⟩
  have hv := w_rng h10
  have hr := w_reg h10
  refine SC.skip ?_
  refine SC.of_SE ?_
  refine SC.norm [(0, pt d 0), (1, iw reg), (2, iw v), (6, iw 0)] _ ⟨rfl, rfl, rfl, rfl, trivial⟩ rfl ?_
  refine SC.seq ?_
  refine SC.sr ?_
  refine SL.mv ?_
  refine SL.uu (ru_eq (b := ((reg : Int) == 5)) rfl rfl rfl rfl) ?_
  refine SL.nn [(0, pt d 0), (1, iw reg), (2, iw v), (6, iw 0), (68, bo ((reg : Int) == 5))] _ ⟨rfl, rfl, rfl, rfl, rfl, trivial⟩ ?_
  refine SC.both ((reg : Int) == 5) rfl (fun h11 => ?_) (fun h11 => ?_)
  · skip
    have h5 := w_5 h11
    have e5 : A.r reg.toNat = A.r 5 := by rw [h5]; rfl
    refine SC.sr ?_
    refine SL.mv ?_
    refine SL.mv ?_
    refine SL.nk ?_
    refine SL.uu (ru_fieldAddr (o2 := 0) fd108_0 rfl rfl rfl) ?_
    refine SL.uu (ru_indexA (o2 := 0 + reg.toNat * 1) ar91 rfl rfl rfl (by omega) (by omega) rfl) ?_
    refine SL.uu (ru_load (i := 0) (v := iw (A.r reg.toNat)) ts3 rfl rfl rfl (nc_r' (by omega))) ?_
    refine SL.as ?_
    refine SL.nn [(0, pt d 0), (1, iw reg), (2, iw v), (6, iw 0), (8, iw (A.r reg.toNat))] _ ⟨rfl, rfl, rfl, rfl, rfl, trivial⟩ ?_
    refine SC.block ?_
    refine SC.loop (γ := Unit) (fun n _ => [(0, pt d 0), (1, iw reg), (2, iw v), (6, iw 0), (8, iw ((v - (n : Int)) % 16))]) (fun n _ => [rBlk d (nc { A with tp := posts A.tp (A.r 5) ((v - (n : Int)) % 16) A.clk } tv cv) 108, rFrs F tv cv A.tb A.cb]) (fun n _ => n ≤ ((v - A.r 5) % 16).toNat) ((v - A.r 5) % 16).toNat () (Nat.le_refl _) ⟨rfl, rfl, rfl, rfl, (congrArg (fun x => some (iw x)) (show A.r reg.toNat = (v - (((((v - A.r 5) % 16).toNat : Nat) : Int) : Int)) % 16 by omega)), trivial⟩ (congrArg (fun c => [rBlk d c 108, rFrs F tv cv A.tb A.cb]) (nc_posts r5 hv)) ?_
    rintro n ⟨⟩ hn
    rcases Nat.eq_zero_or_pos n with h0 | h0
    · skip
      have ez : (v - (n : Int)) % 16 = v := by omega
      refine SC.seq ?_
      refine SC.sr ?_
      refine SL.mv ?_
      refine SL.mv ?_
      refine SL.uu (ru_ne (b := ((((v - (n : Int)) % 16) : Int) != v)) rfl rfl rfl rfl) ?_
      refine SL.nn [(0, pt d 0), (1, iw reg), (2, iw v), (6, iw 0), (8, iw ((v - (n : Int)) % 16)), (77, bo ((((v - (n : Int)) % 16) : Int) != v))] [rBlk d (nc { A with tp := posts A.tp (A.r 5) ((v - (n : Int)) % 16) A.clk } tv cv) 108, rFrs F tv cv A.tb A.cb] ⟨rfl, rfl, rfl, rfl, rfl, rfl, trivial⟩ ?_
      refine SC.no (show some (Value.bool ((((v - (n : Int)) % 16) : Int) != v)) = some (Value.bool false) from congrArg (fun x => some (Value.bool x)) (bne_f (by omega))) ?_
      refine SC.exit ?_
      refine SE.passe ?_
      refine SE.passe ?_
      refine SE.blke ?_
      refine SC.of_SE ?_
      refine SC.norm [(0, pt d 0), (1, iw reg), (2, iw v), (6, iw 0)] _ ⟨rfl, rfl, rfl, rfl, trivial⟩ rfl ?_
      refine SC.sr ?_
      refine SL.mv ?_
      refine SL.mv ?_
      refine SL.mv ?_
      refine SL.nk ?_
      refine SL.uu (ru_fieldAddr (o2 := 0) fd108_0 rfl rfl rfl) ?_
      refine SL.uu (ru_indexA (o2 := 0 + reg.toNat * 1) ar91 rfl rfl rfl (by omega) (by omega) rfl) ?_
      refine SL.store (i := 0) (c' := (nc { A with r := up A.r reg.toNat v, tp := posts A.tp (A.r 5) ((v - (n : Int)) % 16) A.clk } tv cv)) rfl rfl ts3 rfl rfl rfl rfl rfl (by rw [nc_len]; omega) (.inl rfl) (set_r' (by omega) v) ?_
      refine SL.nn [(6, iw 0)] [rBlk d (nc { A with r := up A.r reg.toNat v, tp := posts A.tp (A.r 5) ((v - (n : Int)) % 16) A.clk } tv cv) 108, rFrs F tv cv A.tb A.cb] ⟨rfl, trivial⟩ ?_
      refine SC.sr ?_
      refine SL.as ?_
      refine SL.nn [(6, iw 0)] _ ⟨rfl, trivial⟩ ?_
      refine SC.ret ?_
      refine SE.res (.inl rfl) (res1 Try.results72 rfl) fun w1 hI => ?_
      rw [ez] at hI
      have e : writeF A reg v = (0, { A with r := up A.r reg.toNat v, tp := posts A.tp (A.r 5) v A.clk }) := by
        try simp at h2 h6 h10 h11
        unfold writeF
        (repeat' split) <;> first | rfl | (exfalso; omega) | (exfalso; simp_all; done) | (exfalso; simp_all; omega)
      rw [e]
      exact ⟨rfl, NicAt.fin' hI⟩
    refine SC.seq ?_
    refine SC.sr ?_
    refine SL.mv ?_
    refine SL.mv ?_
    refine SL.uu (ru_ne (b := ((((v - (n : Int)) % 16) : Int) != v)) rfl rfl rfl rfl) ?_
    refine SL.nn [(0, pt d 0), (1, iw reg), (2, iw v), (6, iw 0), (8, iw ((v - (n : Int)) % 16)), (77, bo ((((v - (n : Int)) % 16) : Int) != v))] [rBlk d (nc { A with tp := posts A.tp (A.r 5) ((v - (n : Int)) % 16) A.clk } tv cv) 108, rFrs F tv cv A.tb A.cb] ⟨rfl, rfl, rfl, rfl, rfl, rfl, trivial⟩ ?_
    refine SC.yes (show some (Value.bool ((((v - (n : Int)) % 16) : Int) != v)) = some (Value.bool true) from congrArg (fun x => some (Value.bool x)) (bne_t (by omega))) ?_
    refine SC.skip ?_
    refine SC.of_SE ?_
    refine SC.norm [(0, pt d 0), (1, iw reg), (2, iw v), (6, iw 0), (8, iw ((v - (n : Int)) % 16))] _ ⟨rfl, rfl, rfl, rfl, rfl, trivial⟩ rfl ?_
    refine SC.seq ?_
    refine SC.block ?_
    refine SC.region_tail 10 (by kernel_rfl) (by kernel_rfl) ?_
    refine SQ.uu (ru_move rfl rfl) ?_
    refine SQ.uu (ru_move rfl rfl) ?_
    refine SQ.uu (ru_move rfl rfl) ?_
    refine SQ.uu (ru_nilCheck rfl rfl) ?_
    refine SQ.uu (ru_fieldAddr (o2 := 104) fd108_3 rfl rfl rfl) ?_
    refine SQ.uu (ru_load (i := 0) (v := iw A.clk) ts3 rfl rfl rfl nc_clk) ?_
    refine SQ.uu (ru_nilCheck rfl rfl) ?_
    refine SQ.uu (ru_fieldAddr (o2 := 8) fd108_1 rfl rfl rfl) ?_
    refine SQ.uu (ru_indexA (o2 := 8 + (((v - (n : Int)) % 16).toNat) * 2) ar103 rfl rfl rfl (by omega) (by omega) rfl) ?_
    refine SQ.uu (ru_fieldAddr (o2 := (8 + (((v - (n : Int)) % 16).toNat) * 2 + 1)) fd102_1 rfl rfl rfl) ?_
    refine SQ.nilL ?_
    refine SL.store (i := 0) (c' := (nc { A with tp := up (posts A.tp (A.r 5) ((v - (n : Int)) % 16) A.clk) (((v - (n : Int)) % 16).toNat) A.clk } tv cv)) rfl rfl ts3 rfl rfl rfl rfl rfl (by rw [nc_len]; omega) (.inl rfl) (set_tp (by omega) A.clk) ?_
    refine SL.nil ?_
    refine SE.blkn ?_
    refine SC.of_SE ?_
    refine SC.norm [(0, pt d 0), (1, iw reg), (2, iw v), (6, iw 0), (8, iw ((v - (n : Int)) % 16))] [rBlk d (nc { A with tp := up (posts A.tp (A.r 5) ((v - (n : Int)) % 16) A.clk) (((v - (n : Int)) % 16).toNat) A.clk } tv cv) 108, rFrs F tv cv A.tb A.cb] ⟨rfl, rfl, rfl, rfl, rfl, trivial⟩ rfl ?_
    refine SC.region ?_
    refine SL.mv ?_
    refine SL.uu (ru_add (r := (IntKind.i64.wrap (((v - (n : Int)) % 16) + 1))) rfl rfl rfl rfl) ?_
    refine SL.uu (ru_rem (r := (Int.tmod (IntKind.i64.wrap (((v - (n : Int)) % 16) + 1)) 16)) rfl rfl rfl (by decide) rfl) ?_
    refine SL.as ?_
    refine SL.nil ?_
    refine SE.again (n - 1) () (by omega) (by omega) ⟨rfl, rfl, rfl, rfl, (congrArg (fun x => some (iw x)) (dev_nx h0)), trivial⟩ (congrArg (fun c => [rBlk d c 108, rFrs F tv cv A.tb A.cb]) (nc_posts' r5 hv h0 hn))
  refine SC.skip ?_
  refine SC.of_SE ?_
  refine SC.norm [(0, pt d 0), (1, iw reg), (2, iw v), (6, iw 0)] _ ⟨rfl, rfl, rfl, rfl, trivial⟩ rfl ?_
  refine SC.sr ?_
  refine SL.mv ?_
  refine SL.mv ?_
  refine SL.mv ?_
  refine SL.nk ?_
  refine SL.uu (ru_fieldAddr (o2 := 0) fd108_0 rfl rfl rfl) ?_
  refine SL.uu (ru_indexA (o2 := 0 + reg.toNat * 1) ar91 rfl rfl rfl (by omega) (by omega) rfl) ?_
  refine SL.store (i := 0) (c' := (nc { A with r := up A.r reg.toNat v } tv cv)) rfl rfl ts3 rfl rfl rfl rfl rfl (by rw [nc_len]; omega) (.inl rfl) (set_r' (by omega) v) ?_
  refine SL.nn [(6, iw 0)] [rBlk d (nc { A with r := up A.r reg.toNat v } tv cv) 108, rFrs F tv cv A.tb A.cb] ⟨rfl, trivial⟩ ?_
  refine SC.sr ?_
  refine SL.as ?_
  refine SL.nn [(6, iw 0)] _ ⟨rfl, trivial⟩ ?_
  refine SC.ret ?_
  refine SE.res (.inl rfl) (res1 Try.results72 rfl) fun w1 hI => ?_
  have e : writeF A reg v = (0, { A with r := up A.r reg.toNat v }) := by
    try simp at h2 h6 h10 h11
    unfold writeF
    (repeat' split) <;> first | rfl | (exfalso; omega) | (exfalso; simp_all; done) | (exfalso; simp_all; omega)
  rw [e]
  exact ⟨rfl, NicAt.fin' hI⟩

end Go.Proofs.Ytghfkgcaglabpaa

/-
  The calls of both devices, laid for the walks of the laws.
-/
namespace Go.Proofs.Ytghfkgcaglabpaa
open Go.RowKit

theorem takeR_ok {A : NicA} (h : NicOk A) : NicOk (takeR A).2 := by
  unfold takeR
  split
  · exact h
  · split
    · exact h
    · exact take_ok h
def playF (A : NicA) (k n v : Int) (f : List UInt8) (y : Bool) : NicA :=
  if k = 0 then (readF A n).2 else if k = 1 then (writeF A n v).2 else if k = 2 then (setTxF A n f).2 else if k = 3 then (setRxF A n v).2
  else if k = 5 then (takeR A).2 else if k = 6 then (giveF A f y).2 else if k = 7 then linkF A y else if k = 8 then tickF A else A
theorem NicTo.of {T : TypeId} {w w' : World} {d : Nat} {F : Nat → Prop} {A : NicA} (h : NicAt T w' d F A ∧ Only (fun b => b = d) w w') : NicTo T w d F A w' := ⟨F, h.1, fun b hb => .inl hb, h.2⟩
section
variable {P : Program} {X : Cx} {ops : Array Oper} {Q : Exit → Act → World → Prop} {rest : List Oper} {o : Oper} {m : List (Nat × Value)} {l : List Res} {v : Value} {K : Act → Prop} {k : Nat}
theorem Inv.apart {w : World} {i j : Nat} {r r' : Res} (h : Inv X w l) (hi : l[i]? = some r) (hj : l[j]? = some r') (hij : i ≠ j) (b : Nat) (h1 : r.fp b) (h2 : r'.fp b) : False := by
  have hp := List.pairwise_iff_getElem.1 h.1.2
  have hil := (List.getElem?_eq_some_iff.1 hi).1
  have hjl := (List.getElem?_eq_some_iff.1 hj).1
  have ei := (List.getElem?_eq_some_iff.1 hi).2
  have ej := (List.getElem?_eq_some_iff.1 hj).2
  rcases Nat.lt_or_gt_of_ne hij with hlt | hlt
  · have := hp i j hil hjl hlt; rw [ei, ej] at this; exact this b h1 h2
  · have := hp j i hjl hil hlt; rw [ei, ej] at this; exact this b h2 h1
theorem nic_at {T : TypeId} {w : World} {i d : Nat} {F : Nat → Prop} {A : NicA} (h : Inv X w l) (hi : l[i]? = some (rNic T d F A)) : NicAt T w d F A := h.1.get hi
theorem Out.own {U : TypeId} {w w' : World} {v : Value} {f : List UInt8} (h : Out U w w' v f) (hl : f.length ≤ 140737488351232) : OwnBytes w' 0 U v f ∧ ∀ b, v.ownBlock = some b → w.heap.size ≤ b := by
  rcases h with ⟨rfl, rfl⟩ | ⟨g, h1, rfl, h2⟩
  · exact ⟨ownb_nil w' U, fun b hb => by simp [Value.ownBlock] at hb⟩
  · exact ⟨ownb_new h2 hl, fun b hb => by simp [Value.ownBlock] at hb; omega⟩
theorem take_len {A : NicA} (h : NicOk A) : (takeR A).1.1.1.length ≤ 140737488351232 := by
  unfold takeR
  split
  · simp
  · split
    · simp
    · have := h.tl (A.r 4).toNat; simp only; omega
theorem rx_len {A : NicA} (h : NicOk A) (i : Int) : (rxR A i).1.1.length ≤ 140737488351232 := by
  unfold rxR
  split
  · simp
  · split
    · simp
    · have := h.cl i.toNat; simp only; omega
theorem Sep.snoc {w : World} {r : Res} (h : Sep w l) (hr : r.ok w) (hd : ∀ s ∈ l, ∀ b, s.fp b → r.fp b → False) : Sep w (l ++ [r]) := by
  refine ⟨fun s hs => ?_, ?_⟩
  · rcases List.mem_append.1 hs with h1 | h1
    · exact h.1 s h1
    · simp at h1; subst h1; exact hr
  · rw [List.pairwise_append]
    refine ⟨h.2, List.pairwise_singleton _ _, fun s hs q hq b h1 h2 => ?_⟩
    simp at hq; subst hq
    exact hd s hs b h1 h2
theorem Inv.took {T U : TypeId} {w w' : World} {i d : Nat} {F : Nat → Prop} {A A' : NicA} {v : Value} {f : List UInt8} (h : Inv X w l) (hi : l[i]? = some (rNic T d F A)) (hS : X.S d ∨ X.w0.heap.size ≤ d) (hl : f.length ≤ 140737488351232)
    (h2 : NicAt T w' d F A') (h3 : Only (fun b => b = d) w w') (h4 : Out U w w' v f) : ∃ qa qc, v = .slice qa f.length qc ∧ Inv X w' (l.set i (rNic T d F A') ++ [rMine (.slice qa f.length qc) f U]) ∧ ∀ b, (Value.slice qa f.length qc).ownBlock = some b → X.w0.heap.size ≤ b := by
  obtain ⟨k1, k2⟩ := h4.own hl
  obtain ⟨qa, qc, rfl, _⟩ := k1.form
  have hu : Sep w' (l.set i (rNic T d F A')) := h.1.upd hi (fun b hb hlt => h3.block b hlt (fun e => hb (.inl e))) h2 (fun b hb => .inl hb)
  refine ⟨qa, qc, rfl, ⟨hu.snoc k1 (fun s hs b hb hm => ?_), h.2.trans' h3 (fun b hb => by subst hb; exact hS)⟩, fun b hb => Nat.le_trans h.2.size (k2 b hb)⟩
  have hlt : b < w.heap.size := by
    rcases List.mem_or_eq_of_mem_set hs with h5 | h5
    · exact s.lt w (h.1.1 s h5) b hb
    · subst h5; exact (rNic T d F A).lt w (h.1.get hi) b hb
  have := k2 b hm
  omega
theorem Inv.rxed {U : TypeId} {w w' : World} {v : Value} {f : List UInt8} (h : Inv X w l) (hl : f.length ≤ 140737488351232) (h3 : Only (fun _ => False) w w') (h4 : Out U w w' v f) :
    ∃ qa qc, v = .slice qa f.length qc ∧ Inv X w' (l ++ [rMine (.slice qa f.length qc) f U]) ∧ ∀ b, (Value.slice qa f.length qc).ownBlock = some b → X.w0.heap.size ≤ b := by
  obtain ⟨k1, k2⟩ := h4.own hl
  obtain ⟨qa, qc, rfl, _⟩ := k1.form
  exact ⟨qa, qc, rfl, h.add h3 k1 k2, fun b hb => Nat.le_trans h.2.size (k2 b hb)⟩
theorem ru_loada_old {t : TypeId} {z : List Value} {x : Operand} {b o' : Nat} {vs : List Value} (hS : ∀ b, ¬ X.S b) (ht : TyAg P t z) (ho : o.op = .load t x) (hx : evM m x = some (.pointer (some ⟨b, o', none⟩))) (hv : vs.length = z.length)
    (hc : ∀ j u, vs[j]? = some u → X.w0.cell? ⟨b, o' + j, none⟩ = some u) : Ru P X o m l (.agg vs.toArray) := fun a w hf hI => by
  obtain ⟨⟨d, hd, hdb⟩, hsz, _⟩ := ht
  obtain ⟨inf, hinf, hz⟩ := map_some hsz
  simp only [Prod.mk.injEq] at hz
  have hcell : ∀ j (hj : j < vs.length), w.cell? ⟨b, o' + j, none⟩ = some vs[j] := fun j hj => by
    have h1 := hc j vs[j] (List.getElem?_eq_getElem hj)
    rw [← h1]
    exact hI.2.cell (a := ⟨b, o' + j, none⟩) (block_lt_of_cell h1) (hS b)
  unfold execOp; rw [ho]
  simp only [hf.ev hx, Instr.loadAt, Instr.sureAddr, Sem.run_bind, Sem.run_pure, Result.andThen_ok]
  have := run_loadVar_at (P := P) w b o' t vs d (fun j hj => by rw [hcell j hj, List.getElem?_eq_getElem hj]) hd (by cases d <;> simp_all [isAggD]) (by rw [hinf]; simp [hz.1, hv])
  rw [this]; rfl
theorem fz_bytes {w : World} {g : Nat} {l : List UInt8} {T : TypeId} (h : Fz w g (l.map bv) T) (hl : l.length ≤ 1000) : BytesAt w (sl g 0 l.length l.length) l := by
  refine .inr ⟨g, 0, l.length, rfl, Nat.le_refl _, by omega, fun j hj => ?_⟩
  rw [h.cell, Nat.zero_add, List.getElem?_map, List.getElem?_eq_getElem hj]; rfl
theorem p_read_6 {w : World} {d : Nat} {F : Nat → Prop} {A : NicA} (hk : NicOk A) (h : NicAt 99 w d F A) :
    Calls Try.prog 63 #[pt d 0, iw 6] w fun e w' => e = .returned (.tuple #[iw (A.r 6), iw 0]) ∧ NicTo 99 w d F { A with r := up A.r 6 0 } w' := p_read hk h 6
theorem read6_ok {A : NicA} (h : NicOk A) : NicOk { A with r := up A.r 6 0 } := read_ok h 6
theorem NicAt.new {T : TypeId} {w : World} {g : Nat} (h : Blk w g (nc newA nilv nilv) T) : NicAt T w g (fun _ => False) newA :=
  ⟨nilv, nilv, h, id, fun b hb => hb.elim, fun i _ => ⟨BytesAt.nil _, nil_in⟩, fun i _ => ⟨BytesAt.nil _, nil_in⟩⟩
theorem Inv.newNic {T : TypeId} {w w' : World} {g : Nat} (h : Inv X w l) (h1 : w.heap.size ≤ g) (h2 : Blk w' g (nc newA nilv nilv) T) (h3 : Only (fun _ => False) w w') : Inv X w' (l ++ [rNic T g (fun _ => False) newA]) :=
  h.add h3 (NicAt.new h2) (fun b hb => by rcases hb with rfl | hb; exact h1; exact hb.elim)
theorem ru_nic_r {T t : TypeId} {i d q : Nat} {F : Nat → Prop} {A : NicA} {z : Value} {x : Operand} (hq : q < 8) (ht : TySc P t z) (ho : o.op = .load t x) (hx : evM m x = some (pt d q)) (hi : l[i]? = some (rNic T d F A)) : Ru P X o m l (iw (A.r q)) := fun a w hf hI => by
  obtain ⟨tv, cv, hb, _⟩ : NicAt T w d F A := hI.1.get hi
  exact ru_load (X := ⟨X.n, w, fun _ => False⟩) (l := [rBlk d (nc A tv cv) T]) (i := 0) ht ho hx rfl (nc_r hq) a w hf (Inv.one hb)
theorem ru_nic_clk {T t : TypeId} {i d : Nat} {F : Nat → Prop} {A : NicA} {z : Value} {x : Operand} (ht : TySc P t z) (ho : o.op = .load t x) (hx : evM m x = some (pt d 104)) (hi : l[i]? = some (rNic T d F A)) : Ru P X o m l (iw A.clk) := fun a w hf hI => by
  obtain ⟨tv, cv, hb, _⟩ : NicAt T w d F A := hI.1.get hi
  exact ru_load (X := ⟨X.n, w, fun _ => False⟩) (l := [rBlk d (nc A tv cv) T]) (i := 0) ht ho hx rfl nc_clk a w hf (Inv.one hb)
theorem SL.nic_clk {T t : TypeId} {i d : Nat} {F : Nat → Prop} {A : NicA} {z : Value} {x y : Operand} {n : Int} (hg : o.guard = none) (hd : o.dst = none) (ht : TySc P t z) (ho : o.op = .store t x y) (hx : evM m x = some (pt d 104)) (hy : evM m y = some (iw n)) (hi : l[i]? = some (rNic T d F A)) (hS : X.S d ∨ X.w0.heap.size ≤ d)
    (k : SL P X ops Q rest m (l.set i (rNic T d F { A with clk := n }))) : SL P X ops Q (o :: rest) m l := fun a w hf hI => by
  obtain ⟨tv, cv, hb, hF, hfr⟩ : NicAt T w d F A := hI.1.get hi
  refine SL.store (X := ⟨X.n, w, fun b => b = d⟩) (l := [rBlk d (nc A tv cv) T]) (i := 0) (c' := nc { A with clk := n } tv cv) hg hd ht ho hx hy rfl rfl (by rw [nc_len]; omega) (.inl rfl) (set_clk n) (fun a' w' hf' hI' => ?_) a w hf (Inv.one hb)
  have hO := hI'.2
  refine k a' w' hf' ⟨hI.1.upd hi (fun b hn hlt => hO.block b hlt (fun e => hn (.inl e))) ⟨tv, cv, hI'.1.get (i := 0) rfl, hF, (rFrs F tv cv A.tb A.cb).st w w' hfr (fun b hb => hO.block b (hfr.1 b hb) (fun e => hF (e ▸ hb)))⟩ (fun b hb => .inl hb), hI.2.trans' hO (fun b hb => by cases hb; exact hS)⟩

def rNicL (T : TypeId) (d : Nat) (F : Nat → Prop) (A : NicA) (v : Value) (f : List UInt8) : Res where
  ok w := NicAt T w d F A ∧ Lent F w v f
  fp b := b = d ∨ F b
  lt w h b hb := (rNic T d F A).lt w h.1 b hb
  st w w' h hw := ⟨(rNic T d F A).st w w' h.1 hw, h.2.1.agree h.2.2 (fun b hb => hw b (.inr hb)), h.2.2⟩
theorem Inv.lent {T : TypeId} {w w' : World} {i d : Nat} {F : Nat → Prop} {A A' : NicA} {v : Value} {f : List UInt8} (h : Inv X w l) (hi : l[i]? = some (rNic T d F A)) (hS : X.S d ∨ X.w0.heap.size ≤ d)
    (h2 : NicAt T w' d F A') (h3 : Only (fun b => b = d) w w') (h4 : Lent F w' v f) : ∃ qa qc, v = .slice qa f.length qc ∧ Inv X w' (l.set i (rNicL T d F A' (.slice qa f.length qc) f)) := by
  obtain ⟨qa, qc, rfl⟩ := h4.1.form
  exact ⟨qa, qc, rfl, h.1.upd hi (fun b hb hlt => h3.block b hlt (fun e => hb (.inl e))) ⟨h2, h4⟩ (fun b hb => .inl hb), h.2.trans' h3 (fun b hb => by subst hb; exact hS)⟩
theorem NicAt.only {T : TypeId} {w w' : World} {d : Nat} {F : Nat → Prop} {A : NicA} (h : NicAt T w d F A) (h3 : Only (fun _ => False) w w') : NicAt T w' d F A := (rNic T d F A).st w w' h (fun b hb => h3.block b ((rNic T d F A).lt w h b hb) id)
def CP (X : Cx) (i j d r : Nat) (A A' : NicA) (l : List Res) : (Nat → Bool) → World → Prop := fun D w => ∃ F G, Inv X w (rNic 99 d F (if D i then A' else A) :: rNic 108 r G (if D j then A' else A) :: l)
end
structure OpR where
  k : Int
  n : Int
  v : Int
  ov : Value
  f : List UInt8
  y : Bool
def OpAt (w : World) (b o : Nat) (r : OpR) : Prop := (∀ j u, [iw r.k, iw r.n, iw r.v, r.ov, bo r.y][j]? = some u → w.cell? ⟨b, o + j, none⟩ = some u) ∧ BytesAt w r.ov r.f ∧ sliceIn r.ov (fun b => b < w.heap.size)
def OpsAt (w : World) (v : Value) (l : List OpR) : Prop := ∃ a c, v = .slice a l.length c ∧ l.length * 56 ≤ 140737488351232 ∧ ∀ i (hi : i < l.length), ∃ b o, a = some ⟨b, o, none⟩ ∧ OpAt w b (o + i * 5) l[i]
end Go.Proofs.Ytghfkgcaglabpaa

/-
  What the pool's calls do, as plain functions; each call's contract for whatever it is handed.
-/
namespace Go.Proofs.Ytghfkgcaglabpaa
open Go.RowKit

def bufAt (L : List Bf) (id : Int) : Option Bf := if 0 ≤ id then L[id.toNat]? else none
def inUse (L : List Bf) (id : Int) : Bool := match bufAt L id with | some b => decide (0 < b.refs) | none => false
def putF (L : List Bf) (id : Int) (b : Bf) : List Bf := L.set id.toNat b
def freeF (L : List Bf) (id : Int) : Int × List Bf := match bufAt L id with | some b => if 0 < b.refs then (0, putF L id { b with refs := b.refs - 1 }) else (7, L) | none => (7, L)
def ownF (L : List Bf) (id : Int) (f : Bf → Int × Bf) : Int × List Bf := match bufAt L id with
  | some b => if b.refs = 0 then (7, L) else if b.refs = 1 then (if (f b).1 = 0 then (0, putF L id (f b).2) else ((f b).1, L)) else (9, L)
  | none => (7, L)
def setF (d : List UInt8) (_ : Bf) : Int × Bf := if 288 < d.length then (2, ⟨1, [], []⟩) else (0, ⟨1, [], d⟩)
def appF (d : List UInt8) (b : Bf) : Int × Bf := if 288 < b.data.length + d.length then (2, b) else (0, { b with data := b.data ++ d })
instance (b : Bf) (f g : Int) : Decidable (MayTrim b f g) := by unfold MayTrim; infer_instance
def trimF (f g : Int) (b : Bf) : Int × Bf := if MayTrim b f g then (0, { b with data := (b.data.drop f.toNat).take (b.data.length - f.toNat - g.toNat) }) else (1, b)
theorem bufAt_nat {L : List Bf} {k : Nat} : bufAt L (k : Int) = L[k]? := by unfold bufAt; rw [if_pos (by omega), Int.toNat_natCast]
theorem bufAt_used {L : List Bf} {id : Int} : Used L id ↔ ∃ b, bufAt L id = some b ∧ 0 < b.refs := by
  constructor
  · rintro ⟨k, b, rfl, h1, h2⟩; exact ⟨b, by rw [bufAt_nat]; exact h1, h2⟩
  · rintro ⟨b, h1, h2⟩
    unfold bufAt at h1
    by_cases h0 : 0 ≤ id
    · rw [if_pos h0] at h1; exact ⟨id.toNat, b, by omega, h1, h2⟩
    · rw [if_neg h0] at h1; cases h1
theorem not_used_cases {L : List Bf} {id : Int} (h : ¬ Used L id) : bufAt L id = none ∨ ∃ b, bufAt L id = some b ∧ b.refs = 0 := by
  cases e : bufAt L id with
  | none => exact .inl rfl
  | some b => exact .inr ⟨b, rfl, by by_cases h0 : b.refs = 0; exact h0; exact absurd (bufAt_used.2 ⟨b, e, by omega⟩) h⟩
theorem ownF_no {L : List Bf} {id : Int} {f : Bf → Int × Bf} (h : ¬ Used L id) : ownF L id f = (7, L) := by
  unfold ownF
  rcases not_used_cases h with e | ⟨b, e, h0⟩
  · rw [e]
  · rw [e]; simp [h0]
theorem ownF_err {L : List Bf} {id x : Int} {f : Bf → Int × Bf} (h : OwnErr L id x) : ownF L id f = (x, L) := by
  rcases h with ⟨h, rfl⟩ | ⟨k, b, rfl, h1, h2, rfl⟩
  · exact ownF_no h
  · unfold ownF; rw [bufAt_nat, h1]; simp only
    rw [if_neg (by omega), if_neg (by omega)]
theorem ownF_in {L : List Bf} {k : Nat} {b : Bf} {f : Bf → Int × Bf} (h1 : L[k]? = some b) (h2 : b.refs = 1) : ownF L (k : Int) f = if (f b).1 = 0 then (0, L.set k (f b).2) else ((f b).1, L) := by
  unfold ownF putF; rw [bufAt_nat, h1]; simp only [Int.toNat_natCast]
  rw [if_neg (by omega), if_pos h2]
def PoolTo (w : World) (p ab : Nat) (L' : List Bf) (w' : World) : Prop := PoolAt w' p ab L' ∧ Only (fun b => b = p ∨ b = ab) w w'
section
variable {w : World} {p ab : Nat} {L : List Bf}
theorem PoolTo.same (h : PoolAt w p ab L) : PoolTo w p ab L w := ⟨h, Only.refl _ _⟩
theorem PoolTo.buf {w' : World} {L' : List Bf} (h : PoolAt w' p ab L') (k : Only (fun b => b = ab) w w') : PoolTo w p ab L' w' := ⟨h, k.mono (fun _ h => .inl (.inr h))⟩
theorem free_any (h : PoolAt w p ab L) (id : Int) (hm : ∀ b ∈ L, b.refs < 1000000000000000) : Calls Try.prog 26 #[pt p 0, iw id] w fun e w' => e = .returned (iw (freeF L id).1) ∧ PoolTo w p ab (freeF L id).2 w' := by
  by_cases hu : Used L id
  · obtain ⟨k, b, rfl, hk, hr⟩ := hu
    have e : freeF L (k : Int) = (0, L.set k { b with refs := b.refs - 1 }) := by unfold freeF putF; rw [bufAt_nat, hk]; simp [hr]
    rw [e]
    exact (free_in h hk hr (hm b (List.mem_of_getElem? hk))).mono (by rintro e w' ⟨rfl, h1, h2⟩; exact ⟨rfl, h1, h2⟩)
  · have e : freeF L id = (7, L) := by
      unfold freeF
      rcases not_used_cases hu with e | ⟨b, e, h0⟩
      · rw [e]
      · rw [e]; simp [h0]
    rw [e]
    exact (free_no h hu).mono (by rintro e w' ⟨rfl, rfl⟩; exact ⟨rfl, PoolTo.same h⟩)
theorem set_any (h : PoolAt w p ab L) (id : Int) {v : Value} {d : List UInt8} (hd : BytesAt w v d) (hx : sliceIn v (fun b => ¬ b = ab)) : Calls Try.prog 18 #[pt p 0, iw id, v] w fun e w' => e = .returned (iw (ownF L id (setF d)).1) ∧ PoolTo w p ab (ownF L id (setF d)).2 w' := by
  obtain ⟨a, c, rfl⟩ := hd.form
  rcases own_cases L id with he | he | ⟨k, b, rfl, hk, hr⟩
  · rw [ownF_err he]; exact (set_err h he _ _ _).mono (by rintro e w' ⟨rfl, rfl⟩; exact ⟨rfl, PoolTo.same h⟩)
  · rw [ownF_err he]; exact (set_err h he _ _ _).mono (by rintro e w' ⟨rfl, rfl⟩; exact ⟨rfl, PoolTo.same h⟩)
  · rw [ownF_in hk hr]
    by_cases hl : d.length ≤ 288
    · have e : setF d b = (0, ⟨1, [], d⟩) := by unfold setF; rw [if_neg (by omega)]
      rw [e, if_pos rfl]
      exact (set_in h hk hr hd hx hl).mono (by rintro e w' ⟨rfl, h1, h2⟩; exact ⟨rfl, PoolTo.buf h1 h2⟩)
    · have e : setF d b = (2, ⟨1, [], []⟩) := by unfold setF; rw [if_pos (by omega)]
      rw [e, if_neg (by decide)]
      exact (set_long h hk hr _ _ _ (by omega)).mono (by rintro e w' ⟨rfl, rfl⟩; exact ⟨rfl, PoolTo.same h⟩)
def getF (L : List Bf) : (Int × Int) × List Bf := match L.findIdx? (fun b => b.refs == 0) with | some k => (((k : Int), 0), L.set k ⟨1, [], []⟩) | none => ((0, 8), L)
theorem get_any (h : PoolAt w p ab L) : Calls Try.prog 17 #[pt p 0] w fun e w' => e = .returned (.tuple #[iw (getF L).1.1, iw (getF L).1.2]) ∧ PoolTo w p ab (getF L).2 w' := by
  unfold getF
  cases e : L.findIdx? (fun b => b.refs == 0) with
  | none =>
    rw [List.findIdx?_eq_none_iff] at e
    exact (get_none h (fun j b _ hb => by have := e b (List.mem_of_getElem? hb); simp at this; omega)).mono (by rintro e w' ⟨rfl, rfl⟩; exact ⟨rfl, PoolTo.same h⟩)
  | some k =>
    rw [List.findIdx?_eq_some_iff_getElem] at e
    obtain ⟨hk, h1, h2⟩ := e
    have hr : L[k].refs = 0 := by simpa using h1
    exact (get_in h (List.getElem?_eq_getElem hk) hr (fun j b hj hb => by
      obtain ⟨hjl, rfl⟩ := List.getElem?_eq_some_iff.1 hb
      have := h2 j hj; simp at this; omega)).mono (by rintro e w' ⟨rfl, h1, h2⟩; exact ⟨rfl, h1, h2⟩)
end
end Go.Proofs.Ytghfkgcaglabpaa

/-
  A pool as something that is known: for the walks of those that use it.
-/
namespace Go.Proofs.Ytghfkgcaglabpaa
open Go.RowKit

theorem PoolAt.agree {w w' : World} {p ab : Nat} {L : List Bf} (h : PoolAt w p ab L) (hw : ∀ b, b = p ∨ b = ab → w'.heap[b]? = w.heap[b]?) : PoolAt w' p ab L := by
  obtain ⟨hp, hne, a1, a2, c, hc, hr⟩ := h
  exact ⟨by unfold Blk; rw [hw p (.inl rfl)]; exact hp, hne, a1, a2, c, by unfold Blk; rw [hw ab (.inr rfl)]; exact hc, hr⟩
def rPool (p ab : Nat) (L : List Bf) : Res where
  ok w := PoolAt w p ab L
  fp b := b = p ∨ b = ab
  lt w h b hb := by rcases hb with rfl | rfl; exact h.lt.1; exact h.lt.2
  st w w' h hw := h.agree hw
theorem pool_sizes {w : World} {p ab : Nat} {L : List Bf} (h : PoolAt w p ab L) : ∀ b ∈ L, b.head.length ≤ 104 ∧ b.data.length ≤ 288 := by
  intro b hb
  obtain ⟨_, _, _, _, c, _, _, hr⟩ := h
  obtain ⟨k, hk, rfl⟩ := List.getElem_of_mem hb
  obtain ⟨mem, fr, _, _, _, _, _, _, _, _, h1, h2⟩ := hr k _ (List.getElem?_eq_getElem hk)
  exact ⟨h1, by omega⟩
def seeF (L : List Bf) (id : Int) : Bf × Int := match bufAt L id with | some b => if 0 < b.refs then (b, 0) else (⟨0, [], []⟩, 7) | none => (⟨0, [], []⟩, 7)
theorem seeF_no {L : List Bf} {id : Int} (h : ¬ Used L id) : seeF L id = (⟨0, [], []⟩, 7) := by
  unfold seeF
  rcases not_used_cases h with e | ⟨b, e, h0⟩
  · rw [e]
  · rw [e]; simp [h0]
theorem see_any {w : World} {p ab : Nat} {L : List Bf} (h : PoolAt w p ab L) (id : Int) : Calls Try.prog 9 #[pt p 0, iw id] w fun e w' => ∃ qh ch qd cd,
    e = .returned (.tuple #[.agg #[iw ((seeF L id).1.refs : Int), .slice qh (seeF L id).1.head.length ch, .slice qd (seeF L id).1.data.length cd], iw (seeF L id).2]) ∧
      OwnBytes w' 0 5 (.slice qh (seeF L id).1.head.length ch) (seeF L id).1.head ∧ OwnBytes w' 0 5 (.slice qd (seeF L id).1.data.length cd) (seeF L id).1.data ∧
      (∀ b, (Value.slice qh (seeF L id).1.head.length ch).ownBlock = some b → w.heap.size ≤ b) ∧ (∀ b, (Value.slice qd (seeF L id).1.data.length cd).ownBlock = some b → w.heap.size ≤ b) ∧
      (∀ b, (Value.slice qh (seeF L id).1.head.length ch).ownBlock = some b → (Value.slice qd (seeF L id).1.data.length cd).ownBlock = some b → False) ∧ Only (fun _ => False) w w' := by
  by_cases hu : Used L id
  · obtain ⟨k, b, rfl, hk, hr⟩ := hu
    have e : seeF L (k : Int) = (b, 0) := by unfold seeF; rw [bufAt_nat, hk]; simp [hr]
    rw [e]
    have hb := pool_sizes h b (List.mem_of_getElem? hk)
    refine (see_in h hk hr).mono ?_
    rintro e w' ⟨bh, bd, rfl, h1, h2, h3, h4, h5, h6⟩
    refine ⟨_, _, _, _, rfl, ownb_new h1 (show b.head.length ≤ _ by omega), ownb_new h2 (show b.data.length ≤ _ by omega), fun b hb => by simp [Value.ownBlock] at hb; omega, fun b hb => by simp [Value.ownBlock] at hb; omega, fun b h7 h8 => ?_, h6⟩
    simp [Value.ownBlock] at h7 h8
    omega
  · rw [seeF_no hu]
    refine (see_no h hu).mono ?_
    rintro e w' ⟨rfl, h1⟩
    exact ⟨none, 0, none, 0, rfl, ownb_nil _ _, ownb_nil _ _, fun b hb => by simp [Value.ownBlock] at hb, fun b hb => by simp [Value.ownBlock] at hb, fun b hb => by simp [Value.ownBlock] at hb, h1⟩
section
variable {P : Program} {X : Cx} {l : List Res}
theorem pool_at {w : World} {i p ab : Nat} {L : List Bf} (h : Inv X w l) (hi : l[i]? = some (rPool p ab L)) : PoolAt w p ab L := h.1.get hi
theorem Inv.poolTo {w w' : World} {i p ab : Nat} {L L' : List Bf} (h : Inv X w l) (hi : l[i]? = some (rPool p ab L)) (hS : ∀ b, b = p ∨ b = ab → X.S b ∨ X.w0.heap.size ≤ b) (k : PoolTo w p ab L' w') : Inv X w' (l.set i (rPool p ab L')) :=
  h.upd hi k.2 hS k.1 (fun b hb => .inl hb)
theorem Inv.saw {w w' : World} {vh vd : Value} {fh fd : List UInt8} {U : TypeId} (h : Inv X w l) (h1 : OwnBytes w' 0 U vh fh) (h2 : OwnBytes w' 0 U vd fd) (h3 : ∀ b, vh.ownBlock = some b → w.heap.size ≤ b) (h4 : ∀ b, vd.ownBlock = some b → w.heap.size ≤ b) (h5 : ∀ b, vh.ownBlock = some b → vd.ownBlock = some b → False)
    (hO : Only (fun _ => False) w w') : Inv X w' (l ++ [rMine vh fh U] ++ [rMine vd fd U]) := by
  have k1 : Inv X w' (l ++ [rMine vh fh U]) := h.add hO h1 h3
  have hp := k1.1
  refine ⟨⟨fun s hs => ?_, ?_⟩, k1.2⟩
  · rcases List.mem_append.1 hs with hs | hs
    · exact hp.1 s hs
    · simp at hs; subst hs; exact h2
  · rw [List.pairwise_append]
    refine ⟨hp.2, List.pairwise_singleton _ _, fun s hs q hq b e1 e2 => ?_⟩
    simp only [List.mem_singleton] at hq
    subst hq
    have e2' : vd.ownBlock = some b := e2
    rcases List.mem_append.1 hs with hs | hs
    · have := s.lt w (h.1.1 s hs) b e1
      have := h4 b e2'
      omega
    · simp at hs; subst hs
      exact h5 b e1 e2'
end
end Go.Proofs.Ytghfkgcaglabpaa

/-
  The light machine: rows of one's own, of structs, that grow. No program is named here.
-/
namespace Go.Proofs.Ytghfkgcaglabpaa
open Go.RowKit

def RowsN (w : World) (v : Value) (rs : List (List Value)) (e size : Nat) : Prop := (∀ r ∈ rs, r.length = size) ∧ w.ownsRow 0 e size v rs.length rs.flatten
def rRowN (v : Value) (rs : List (List Value)) (e size : Nat) : Res where
  ok w := RowsN w v rs e size
  fp j := v.ownBlock = some j
  lt w h b hb := (World.ownsRow.lt h.2 b hb).2
  st w w' h hw := by
    refine ⟨h.1, h.2.1, ?_⟩
    rcases h.2.2 with ⟨h1, h2⟩ | ⟨g, cap, cur, rfl, h1, h2, h3⟩
    · exact .inl ⟨h1, h2⟩
    · exact .inr ⟨g, cap, cur, rfl, h1, by rw [hw g rfl]; exact h2, h3⟩
theorem rowN_nil (w : World) (e size : Nat) : RowsN w (.slice none 0 0) [] e size := ⟨by simp, World.ownsRow_nil w 0 e size⟩
abbrev rowB (q : Option Addr) : Nat := (q.getD ⟨0, 0, none⟩).block
theorem flat_get {rs : List (List Value)} {size i k : Nat} (h : ∀ r ∈ rs, r.length = size) {r : List Value} (hr : rs[i]? = some r) (hk : k < size) : rs.flatten[i * size + k]? = r[k]? := by
  induction rs generalizing i with
  | nil => simp at hr
  | cons r0 rs ih =>
    rw [List.flatten_cons]
    have h0 := h r0 (by simp)
    cases i with
    | zero =>
      simp at hr; subst hr
      rw [Nat.zero_mul, Nat.zero_add, List.getElem?_append_left (by omega)]
    | succ i =>
      simp at hr
      rw [List.getElem?_append_right (by rw [Nat.add_mul]; omega), show (i + 1) * size + k - r0.length = i * size + k by rw [Nat.add_mul]; omega]
      exact ih (fun r hr => h r (by simp [hr])) hr
theorem flat_set {rs : List (List Value)} {size i k : Nat} (h : ∀ r ∈ rs, r.length = size) {r : List Value} (hr : rs[i]? = some r) (hk : k < size) (v : Value) : rs.flatten.set (i * size + k) v = (rs.set i (r.set k v)).flatten := by
  induction rs generalizing i with
  | nil => simp at hr
  | cons r0 rs ih =>
    rw [List.flatten_cons]
    have h0 := h r0 (by simp)
    cases i with
    | zero =>
      simp at hr; subst hr
      rw [Nat.zero_mul, Nat.zero_add, List.set_append_left _ _ (by omega), List.set_cons_zero, List.flatten_cons]
    | succ i =>
      simp at hr
      rw [List.set_append_right _ _ (by rw [Nat.add_mul]; omega), show (i + 1) * size + k - r0.length = i * size + k by rw [Nat.add_mul]; omega, List.set_cons_succ, List.flatten_cons, ih (fun r hr => h r (by simp [hr])) hr]
section
variable {P : Program} {X : Cx} {ops : Array Oper} {Q : Exit → Act → World → Prop} {rest : List Oper} {o : Oper} {m : List (Nat × Value)} {l : List Res} {v : Value} {d k : Nat} {x y : Operand} {t t' : TypeId}
theorem rowN_form {w : World} {q : Option Addr} {n c size : Nat} {rs : List (List Value)} {e : TypeId} (h : RowsN w (.slice q n c) rs e size) : n = rs.length ∧ (0 < n → ∃ g cur, q = some ⟨g, 0, none⟩ ∧ w.heap[g]? = some (.cells cur e (0, 0)) ∧ n ≤ c ∧ c ≤ maxLen ∧ cur.size = c * size ∧ cur.toList.take (n * size) = rs.flatten) := by
  rcases h.2.2 with ⟨h1, h2⟩ | ⟨g, cap, cur, h1, _, h2, h3, h4, h5, h6⟩
  · simp only [Value.slice.injEq] at h1
    exact ⟨by omega, fun h => by omega⟩
  · simp only [Value.slice.injEq] at h1
    obtain ⟨rfl, rfl, rfl⟩ := h1
    exact ⟨rfl, fun _ => ⟨g, cur, rfl, h2, h3, h4, h5, h6⟩⟩
theorem ru_index_rowN {e ri size : Nat} {ix : Operand} {q : Option Addr} {n c : Nat} {rs : List (List Value)} {i : Int} {kk : IntKind} (hs : SliIs P t e size) (ho : o.op = .indexAddr t x ix) (hx : evM m x = some (.slice q n c)) (hix : evM m ix = some (.int kk i)) (hi : l[ri]? = some (rRowN (.slice q n c) rs e size))
    (h0 : 0 ≤ i) (hn : i < n) : Ru P X o m l (.pointer (some ⟨rowB q, i.toNat * size, none⟩)) := fun a w hf hI => by
  obtain ⟨rfl, h2⟩ := rowN_form (show RowsN w (.slice q n c) rs e size from hI.1.get hi)
  obtain ⟨g, cur, rfl, _⟩ := h2 (by omega)
  exact ru_indexS (P := P) (X := X) (m := m) (l := l) hs ho hx hix h0 hn (by rw [Nat.zero_add]) a w hf hI
theorem rowN_cell {w : World} {q : Option Addr} {n c size i k : Nat} {rs : List (List Value)} {e : TypeId} (h : RowsN w (.slice q n c) rs e size) {r : List Value} (hr : rs[i]? = some r) (hk : k < size) : w.cell? ⟨rowB q, i * size + k, none⟩ = r[k]? := by
  obtain ⟨rfl, h2⟩ := rowN_form h
  have hil : i < rs.length := (List.getElem?_eq_some_iff.1 hr).1
  obtain ⟨g, cur, rfl, h3, _, _, _, h4⟩ := h2 (by omega)
  have hlt : i * size + k < rs.length * size := by
    have : (i + 1) * size ≤ rs.length * size := Nat.mul_le_mul_right _ hil
    rw [Nat.add_mul, Nat.one_mul] at this; omega
  show w.cell? ⟨g, i * size + k, none⟩ = _
  rw [cell_of_row _ _ _ _ _ _ h3, ← flat_get h.1 hr hk, ← h4, List.getElem?_take, if_pos hlt]
  simp
theorem ru_load_rowN {e ri size : Nat} {q : Option Addr} {n c i k : Nat} {rs : List (List Value)} {r : List Value} {z u : Value} (ht : TySc P t z) (ho : o.op = .load t x) (hx : evM m x = some (.pointer (some ⟨rowB q, i * size + k, none⟩))) (hi : l[ri]? = some (rRowN (.slice q n c) rs e size)) (hr : rs[i]? = some r) (hk : k < size) (hu : r[k]? = some u) : Ru P X o m l u := fun a w hf hI => by
  unfold execOp; rw [ho]
  simp only [hf.ev hx, Instr.loadAt, Instr.sureAddr, Sem.run_bind, Sem.run_pure, Result.andThen_ok, loadVar, (ht.run w).1]
  have h5 : w.cell? ⟨rowB q, i * size + k, none⟩ = some u := by rw [rowN_cell (hI.1.get hi) hr hk]; exact hu
  simp [h5]
theorem ru_loada_rowN {e ri size : Nat} {q : Option Addr} {n c i : Nat} {rs : List (List Value)} {r z : List Value} (ht : TyAg P t z) (ho : o.op = .load t x) (hx : evM m x = some (.pointer (some ⟨rowB q, i * size, none⟩))) (hi : l[ri]? = some (rRowN (.slice q n c) rs e size)) (hr : rs[i]? = some r) (hz : z.length = size) (hrl : r.length = size) : Ru P X o m l (.agg r.toArray) := fun a w hf hI => by
  obtain ⟨⟨d, hd, hdb⟩, hsz, _⟩ := ht
  obtain ⟨inf, hinf, hz'⟩ := map_some hsz
  simp only [Prod.mk.injEq] at hz'
  unfold execOp; rw [ho]
  simp only [hf.ev hx, Instr.loadAt, Instr.sureAddr, Sem.run_bind, Sem.run_pure, Result.andThen_ok]
  have := run_loadVar_at (P := P) w (rowB q) (i * size) t r d (fun j hj => rowN_cell (hI.1.get hi) hr (by omega)) hd (by cases d <;> simp_all [isAggD]) (by rw [hinf]; simp [hz'.1, hz, hrl])
  rw [this]; rfl
theorem SL.store_rowN {e ri size : Nat} {q : Option Addr} {n c i k : Nat} {rs : List (List Value)} {r : List Value} {z : Value} (hg : o.guard = none) (hd : o.dst = none) (ht : TySc P t z) (ho : o.op = .store t x y) (hx : evM m x = some (.pointer (some ⟨rowB q, i * size + k, none⟩))) (hy : evM m y = some v) (hv : v.oneCell' = true)
    (hi : l[ri]? = some (rRowN (.slice q n c) rs e size)) (hr : rs[i]? = some r) (hk : k < size) (hS : ∀ b, (Value.slice q n c).ownBlock = some b → X.S b ∨ X.w0.heap.size ≤ b)
    (K : SL P X ops Q rest m (l.set ri (rRowN (.slice q n c) (rs.set i (r.set k v)) e size))) : SL P X ops Q (o :: rest) m l := fun a w hf hI => by
  have hR : RowsN w (.slice q n c) rs e size := hI.1.get hi
  obtain ⟨rfl, h2⟩ := rowN_form hR
  have hil : i < rs.length := (List.getElem?_eq_some_iff.1 hr).1
  obtain ⟨g, cur, rfl, h3, h4, h5, h6, h7⟩ := h2 (by omega)
  have hlt : i * size + k < rs.length * size := by
    have : (i + 1) * size ≤ rs.length * size := Nat.mul_le_mul_right _ hil
    rw [Nat.add_mul, Nat.one_mul] at this; omega
  have hcs : rs.length * size ≤ cur.size := by rw [h6]; exact Nat.mul_le_mul_right _ h4
  have hb : Blk w g cur.toList e := by unfold Blk; simpa using h3
  refine SL.store (X := ⟨X.n, w, fun b => b = g⟩) (l := [rBlk g cur.toList e]) (i := 0) (c' := cur.toList.set (i * size + k) v) hg hd ht ho hx hy hv rfl (by rw [Array.length_toList]; omega) (.inl rfl) rfl (fun a' w' hf' hI' => ?_) a w hf ⟨⟨fun s hs => by simp at hs; subst hs; exact hb, List.pairwise_singleton _ _⟩, Only.refl _ _⟩
  have hO := hI'.2
  have hb' : Blk w' g (cur.toList.set (i * size + k) v) e := hI'.1.get (i := 0) rfl
  refine K a' w' hf' ⟨hI.1.upd hi (fun b hn hlt => hO.block b hlt (fun e => hn (by rw [e]; rfl))) ⟨?_, ?_, .inr ⟨g, c, (cur.toList.set (i * size + k) v).toArray, by rw [List.length_set], Nat.zero_le _, hb', by rw [List.length_set]; exact h4, h5, by simp [h6], ?_⟩⟩ (fun b hb => .inl hb), hI.2.trans' hO (fun b hb => hS b (by rw [hb]; rfl))⟩
  · intro r' hr'
    rcases List.mem_or_eq_of_mem_set hr' with h | rfl
    · exact hR.1 r' h
    · rw [List.length_set]; exact hR.1 r (List.mem_of_getElem? hr)
  · rw [← flat_set hR.1 hr hk v, List.length_set, List.length_set]; exact hR.2.1
  · rw [List.length_set, ← flat_set hR.1 hr hk v, ← h7, List.take_set]
theorem run_rowN1 {w : World} {e ty : TypeId} {v z : Value} {rs : List (List Value)} {r : List Value} {g2 size bytes : Nat} (hs0 : 0 < size) (ht : P.underlying t = some (.slice e)) (hz : (P.info? e).map (fun i => (i.zero, i.size, i.bytes)) = some (some z, size, bytes)) (hzs : z.cells.size = size) (hu : ∀ u ∈ r, u.oneCell' = true) (hrl : r.length = size)
    (hv : RowsN w v rs e size) (hx : Blk w g2 r e) (hb : (rs.length + 1) * bytes ≤ 140737488355328) (hn : rs.length + 1 ≤ maxLen) :
    ∃ v' w', (Builtin.append_ #[t, t] ty #[v, sl g2 0 1 1]).run P w = .ok v' w' ∧ RowsN w' v' (rs ++ [r]) e size ∧ Only (fun k => v.ownBlock = some k) w w' ∧ (∀ b, v'.ownBlock = some b → v.ownBlock = some b ∨ w.heap.size ≤ b) := by
  obtain ⟨i, hi, h3⟩ := map_some hz
  simp only [Prod.mk.injEq] at h3
  obtain ⟨z0, z1, z2⟩ := h3
  have hnews : ∀ j q, r[j]? = some q → w.cell? ((⟨g2, 0, none⟩ : Addr).add j) = some q := by
    intro j q hj
    rw [add_at, hx.cell, Nat.zero_add]; exact hj
  obtain ⟨v', w', hr, hO, hG, _⟩ := run_append_own (P := P) w 0 t ty e i z size bytes ht hi z0 z1 z2 hzs hs0 v rs.length rs.flatten hv.2 ⟨g2, 0, none⟩ 1 1 r (by rw [Nat.one_mul]; exact hrl) hnews hu hn hb (Nat.zero_le _)
  refine ⟨v', w', hr, ⟨fun r' h => ?_, by simpa using hO⟩, grown_only hG _ (fun k h => h), ?_⟩
  · rcases List.mem_append.1 h with h | h
    · exact hv.1 r' h
    · simp at h; subst h; exact hrl
  rcases hv.2.2 with ⟨rfl, h0⟩ | ⟨g, cap, cur, rfl, _, hg, hnc, hcm, hcs, htake⟩
  · have hxs : rs = [] := List.eq_nil_of_length_eq_zero h0
    subst hxs
    have h2 := run_append_nil (P := P) w t ty e i z ht hi z0 ⟨g2, 0, none⟩ 1 1 r (by rw [z1, Nat.one_mul]; exact hrl) hnews (by omega) (by omega) (by rw [z2]; simp at hb; omega)
    rw [hr] at h2
    injection h2 with e1
    subst e1
    exact fun b hb => .inr (by simp [Value.ownBlock] at hb; omega)
  · by_cases hroom : rs.length + 1 ≤ cap
    · have hfit : rs.length * size + r.length ≤ cur.size := by
        rw [hcs, hrl]; have := Nat.mul_le_mul_right size hroom; rw [Nat.add_mul, Nat.one_mul] at this; exact this
      have h2 := run_append_room (P := P) w t ty e i ht hi g rs.length cap cur hg ⟨g2, 0, none⟩ 1 1 r (by rw [z1, Nat.one_mul]; exact hrl) hnews hu hroom (by rw [z1]; exact hfit)
      rw [hr] at h2
      injection h2 with e1
      subst e1
      exact fun b hb => .inl (by simpa [Value.ownBlock] using hb)
    · have holds : ∀ j q, rs.flatten[j]? = some q → w.cell? ((⟨g, 0, none⟩ : Addr).add j) = some q := World.ownsRow.cells hv.2 (g := g) rfl
      have h2 := run_append_grow (P := P) w t ty e i z ht hi z0 ⟨g, 0, none⟩ rs.length cap rs.flatten (by rw [z1]; exact hv.2.1) holds ⟨g2, 0, none⟩ 1 1 r (by rw [z1, Nat.one_mul]; exact hrl) hnews (by omega) (by unfold maxLen at hn; omega) (growslice_fits (by omega) (by rw [z2]; exact hb))
      rw [hr] at h2
      injection h2 with e1
      subst e1
      exact fun b hb => .inr (by simp [Value.ownBlock] at hb; omega)
theorem SL.append_rowN {e ri rj size : Nat} {a1 a2 : Operand} {z : Value} {rs : List (List Value)} {r : List Value} {g2 bytes : Nat} {q : Option Addr} {n c : Nat} (hg : o.guard = none) (hd : o.dst = some d) (hn : d < X.n) (ho : o.op = .call { callee := .builtin .append, args := #[a1, a2], argTypes := #[t, t] })
    (hs0 : 0 < size) (ht : P.underlying t = some (.slice e)) (hz : (P.info? e).map (fun i => (i.zero, i.size, i.bytes)) = some (some z, size, bytes)) (hzs : z.cells.size = size) (hu : r.all (·.oneCell') = true) (hrl : r.length = size) (h1 : evM m a1 = some (.slice q n c)) (h2 : evM m a2 = some (sl g2 0 1 1))
    (hi : l[ri]? = some (rRowN (.slice q n c) rs e size)) (hj : l[rj]? = some (rBlk g2 r e)) (hb : (rs.length + 1) * bytes ≤ 140737488355328) (hl : rs.length + 1 ≤ maxLen) (hS : ∀ b, (Value.slice q n c).ownBlock = some b → X.S b ∨ X.w0.heap.size ≤ b)
    (k : ∀ (q' : Option Addr) (c' : Nat), (∀ b, (Value.slice q' (n + 1) c').ownBlock = some b → X.S b ∨ X.w0.heap.size ≤ b) → SL P X ops Q rest ((d, .slice q' (n + 1) c') :: m) (l.set ri (rRowN (.slice q' (n + 1) c') (rs ++ [r]) e size))) : SL P X ops Q (o :: rest) m l := fun a w hf hI =>
  wpList_plain hg fun K' hK => by
    have hR : RowsN w (.slice q n c) rs e size := hI.1.get hi
    obtain ⟨en, _⟩ := rowN_form hR
    obtain ⟨v', w', hr, hO, hU, hN⟩ := run_rowN1 (P := P) (ty := o.type) hs0 ht hz hzs (fun u hu' => List.all_eq_true.1 hu u hu') hrl hR (hI.1.get hj) hb hl
    unfold Oper.wp
    rw [run_call_app ho (hf.ev h1) (hf.ev h2) hr]
    simp only [Oper.upon_value, hd]
    obtain ⟨q', c', rfl⟩ : ∃ q' c', v' = .slice q' (n + 1) c' := by
      rcases hO.2.2 with ⟨_, h0⟩ | ⟨g, cap, cur, rfl, _⟩
      · simp at h0
      · exact ⟨some ⟨g, 0, none⟩, cap, by rw [en]; simp⟩
    refine hK _ _ (k q' c' (fun b hb => ?_) _ _ (hf.put hn _) (hI.upd hi hU hS hO (fun b hb => hN b hb)))
    rcases hN b hb with h | h
    · exact hS b h
    · exact .inr (Nat.le_trans hI.2.size h)
end
end Go.Proofs.Ytghfkgcaglabpaa
