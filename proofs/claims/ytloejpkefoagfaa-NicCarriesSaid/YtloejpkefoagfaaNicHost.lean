/-
  Whose is a descriptor.
-/
import Derived.Test.YtloejpkefoagfaaNicSmall
namespace Go.Proofs.Ytloejpkefoagfaa
open Go.RowKit
set_option maxRecDepth 100000
set_option maxHeartbeats 4000000
theorem p_hosttx {w : World} {d : Nat} {F : Nat → Prop} {A : NicA} (hk : NicOk A) (h : NicAt 68 w d F A) (i : Int) : Calls Try.prog 24 #[pt d 0, iw i, iw 4, iw 5] w fun e w' => e = .returned (bo (hostB i (A.r 4) (A.r 5))) ∧ Only (fun _ => False) w w' := by
  have hok := hk
  obtain ⟨r2, r3, r4, r5, r6, _, _, _⟩ := hok
  obtain ⟨tv, cv, hI⟩ := h.inv 35 (fun _ => False)
  refine calls_sc (l0 := _) (args := [pt d 0, iw i, iw 4, iw 5]) (fun _ => False) Try.func24 rfl 35 Try.ntmps24 (le_b rfl) hI ?_
  show SC _ _ _ _ [(0, pt d 0), (1, iw i), (2, iw 4), (3, iw 5)] [rBlk d (nc A tv cv) 68, rFrs F tv cv A.tb A.cb]
  refine SC.seq ?_
  refine SC.region ?_
  refine SL.ru rfl rfl (lt_b rfl) (ru_assign rfl rfl) ?_
  refine SL.nil ?_
  refine SC.of_SE ?_
  refine SC.norm [(0, pt d 0), (1, iw i), (2, iw 4), (3, iw 5), (8, bo false)] [rBlk d (nc A tv cv) 68, rFrs F tv cv A.tb A.cb] ⟨rfl, rfl, rfl, rfl, rfl, trivial⟩ rfl ?_
  refine SC.scope ?_
  refine SC.seq ?_
  refine SC.seq ?_
  refine SC.region ?_
  refine SL.ru rfl rfl (lt_b rfl) (ru_move rfl rfl) ?_
  refine SL.ru rfl rfl (lt_b rfl) (ru_lt (b := (decide ((i : Int) < 0))) rfl rfl rfl rfl) ?_
  refine SL.ru rfl rfl (lt_b rfl) (ru_move rfl rfl) ?_
  refine SL.join 3 [(0, pt d 0), (1, iw i), (2, iw 4), (3, iw 5), (8, bo false), (10, iw i), (11, bo (decide ((i : Int) < 0))), (12, bo (decide ((i : Int) < 0))), (15, bo ((decide ((i : Int) < 0)) || (decide ((16 : Int) ≤ i))))] [rBlk d (nc A tv cv) 68, rFrs F tv cv A.tb A.cb] ?_ ?_
  rotate_left
  · intro K hK
    rcases tf (decide ((i : Int) < 0)) with h1 | h1
    · skip
      refine SL.norm [(0, pt d 0), (1, iw i), (2, iw 4), (3, iw 5), (8, bo false), (10, iw i), (11, bo true), (12, bo true)] [rBlk d (nc A tv cv) 68, rFrs F tv cv A.tb A.cb] ⟨rfl, rfl, rfl, rfl, rfl, rfl, (congrArg (fun x => some (Value.bool x)) h1), (congrArg (fun x => some (Value.bool x)) h1), trivial⟩ rfl ?_
      refine SL.off (b := true) rfl rfl rfl rfl rfl (lt_b rfl) ?_
      refine SL.off (b := true) rfl rfl rfl rfl rfl (lt_b rfl) ?_
      refine SL.ru rfl rfl (lt_b rfl) (ru_pick (u := bo true) (v := undef) rfl rfl rfl rfl) ?_
      exact SL.joined hK ⟨rfl, rfl, rfl, rfl, rfl, rfl, (congrArg (fun x => some (Value.bool x)) h1.symm), (congrArg (fun x => some (Value.bool x)) h1.symm), (congrArg (fun x => some (Value.bool (x || (decide ((16 : Int) ≤ i))))) h1.symm), trivial⟩ rfl
    · skip
      refine SL.norm [(0, pt d 0), (1, iw i), (2, iw 4), (3, iw 5), (8, bo false), (10, iw i), (11, bo false), (12, bo false)] [rBlk d (nc A tv cv) 68, rFrs F tv cv A.tb A.cb] ⟨rfl, rfl, rfl, rfl, rfl, rfl, (congrArg (fun x => some (Value.bool x)) h1), (congrArg (fun x => some (Value.bool x)) h1), trivial⟩ rfl ?_
      refine SL.rug rfl rfl rfl rfl (lt_b rfl) (ru_move rfl rfl) ?_
      refine SL.rug rfl rfl rfl rfl (lt_b rfl) (ru_ge (b := (decide ((16 : Int) ≤ i))) rfl rfl rfl rfl) ?_
      refine SL.ru rfl rfl (lt_b rfl) (ru_pick (u := bo true) (v := bo (decide ((16 : Int) ≤ i))) rfl rfl rfl rfl) ?_
      exact SL.joined hK ⟨rfl, rfl, rfl, rfl, rfl, rfl, (congrArg (fun x => some (Value.bool x)) h1.symm), (congrArg (fun x => some (Value.bool x)) h1.symm), (congrArg (fun x => some (Value.bool (x || (decide ((16 : Int) ≤ i))))) h1.symm), trivial⟩ rfl
  skip
  refine SL.nil ?_
  refine SC.of_SE ?_
  refine SC.norm [(0, pt d 0), (1, iw i), (2, iw 4), (3, iw 5), (8, bo false), (15, bo ((decide ((i : Int) < 0)) || (decide ((16 : Int) ≤ i))))] [rBlk d (nc A tv cv) 68, rFrs F tv cv A.tb A.cb] ⟨rfl, rfl, rfl, rfl, rfl, rfl, trivial⟩ rfl ?_
  refine SC.both ((decide ((i : Int) < 0)) || (decide ((16 : Int) ≤ i))) rfl (fun h2 => ?_) (fun h2 => ?_)
  · skip
    refine SC.seq ?_
    refine SC.region ?_
    refine SL.ru rfl rfl (lt_b rfl) (ru_assign rfl rfl) ?_
    refine SL.nil ?_
    refine SC.of_SE ?_
    refine SC.norm [(0, pt d 0), (1, iw i), (2, iw 4), (3, iw 5), (8, bo false)] [rBlk d (nc A tv cv) 68, rFrs F tv cv A.tb A.cb] ⟨rfl, rfl, rfl, rfl, rfl, trivial⟩ rfl ?_
    refine SC.ret ?_
    refine SE.passr ?_
    refine SE.scoper ?_
    refine SE.res (.inl rfl) (res1 Try.results24 rfl) fun w1 hI => ⟨ret_bo ?_, hI.2⟩
    exact host_out h2
  · skip
    have hi := host_in h2
    refine SC.skip ?_
    refine SC.of_SE ?_
    refine SC.norm [(0, pt d 0), (1, iw i), (2, iw 4), (3, iw 5), (8, bo false)] [rBlk d (nc A tv cv) 68, rFrs F tv cv A.tb A.cb] ⟨rfl, rfl, rfl, rfl, rfl, trivial⟩ rfl ?_
    refine SC.seq ?_
    refine SC.label ?_
    refine SC.of_SE ?_
    refine SC.norm [(0, pt d 0), (1, iw i), (2, iw 4), (3, iw 5), (8, bo false)] [rBlk d (nc A tv cv) 68, rFrs F tv cv A.tb A.cb] ⟨rfl, rfl, rfl, rfl, rfl, trivial⟩ rfl ?_
    refine SC.seq ?_
    refine SC.seq ?_
    refine SC.region ?_
    refine SL.ru rfl rfl (lt_b rfl) (ru_move rfl rfl) ?_
    refine SL.ru rfl rfl (lt_b rfl) (ru_move rfl rfl) ?_
    refine SL.ru rfl rfl (lt_b rfl) (ru_nilCheck rfl rfl) ?_
    refine SL.ru rfl rfl (lt_b rfl) (ru_fieldAddr (o2 := 0) fd68_0 rfl rfl rfl) ?_
    refine SL.ru rfl rfl (lt_b rfl) (ru_indexA (o2 := 4) ar44 rfl rfl rfl (by decide) (by decide) rfl) ?_
    refine SL.ru rfl rfl (lt_b rfl) (ru_load (i := 0) (v := iw (A.r 4)) ts3 rfl rfl rfl (nc_r (by decide))) ?_
    refine SL.ru rfl rfl (lt_b rfl) (ru_assign rfl rfl) ?_
    refine SL.nil ?_
    refine SC.of_SE ?_
    refine SC.norm [(0, pt d 0), (1, iw i), (3, iw 5), (8, bo false), (9, iw (A.r 4))] [rBlk d (nc A tv cv) 68, rFrs F tv cv A.tb A.cb] ⟨rfl, rfl, rfl, rfl, rfl, trivial⟩ rfl ?_
    refine SC.block ?_
    refine SC.loop (γ := Unit) (fun n _ => [(0, pt d 0), (1, iw i), (3, iw 5), (8, bo false), (9, iw (((A.r 5) - (n : Int)) % 16))]) (fun n _ => [rBlk d (nc A tv cv) 68, rFrs F tv cv A.tb A.cb]) (fun n _ => n ≤ (((A.r 5) - (A.r 4)) % 16).toNat ∧ ∀ j : Nat, n < j → j ≤ (((A.r 5) - (A.r 4)) % 16).toNat → ((A.r 5) - (j : Int)) % 16 ≠ i) ((((A.r 5) - (A.r 4)) % 16).toNat) () ⟨Nat.le_refl _, fun j h1 h2 => by omega⟩ ⟨rfl, rfl, rfl, rfl, (congrArg (fun x => some (iw x)) (show A.r 4 = ((A.r 5) - ((((((A.r 5) - (A.r 4)) % 16).toNat : Nat) : Int) : Int)) % 16 by omega)), trivial⟩ rfl ?_
    rintro n ⟨⟩ ⟨hn, hne⟩
    rcases Nat.eq_zero_or_pos n with h0 | h0
    · skip
      refine SC.seq ?_
      refine SC.seq ?_
      refine SC.region ?_
      refine SL.ru rfl rfl (lt_b rfl) (ru_move rfl rfl) ?_
      refine SL.ru rfl rfl (lt_b rfl) (ru_move rfl rfl) ?_
      refine SL.ru rfl rfl (lt_b rfl) (ru_move rfl rfl) ?_
      refine SL.ru rfl rfl (lt_b rfl) (ru_nilCheck rfl rfl) ?_
      refine SL.ru rfl rfl (lt_b rfl) (ru_fieldAddr (o2 := 0) fd68_0 rfl rfl rfl) ?_
      refine SL.ru rfl rfl (lt_b rfl) (ru_indexA (o2 := 5) ar44 rfl rfl rfl (by decide) (by decide) rfl) ?_
      refine SL.ru rfl rfl (lt_b rfl) (ru_load (i := 0) (v := iw (A.r 5)) ts3 rfl rfl rfl (nc_r (by decide))) ?_
      refine SL.ru rfl rfl (lt_b rfl) (ru_ne (b := (((((A.r 5) - (n : Int)) % 16) : Int) != (A.r 5))) rfl rfl rfl rfl) ?_
      refine SL.nil ?_
      refine SC.of_SE ?_
      refine SC.norm [(0, pt d 0), (1, iw i), (3, iw 5), (8, bo false), (9, iw (((A.r 5) - (n : Int)) % 16)), (29, bo (((((A.r 5) - (n : Int)) % 16) : Int) != (A.r 5)))] [rBlk d (nc A tv cv) 68, rFrs F tv cv A.tb A.cb] ⟨rfl, rfl, rfl, rfl, rfl, rfl, trivial⟩ rfl ?_
      refine SC.no (show some (Value.bool (((((A.r 5) - (n : Int)) % 16) : Int) != (A.r 5))) = some (Value.bool false) from congrArg (fun x => some (Value.bool x)) (bne_f (by omega))) ?_
      refine SC.exit ?_
      refine SE.passe ?_
      refine SE.passe ?_
      refine SE.blke ?_
      refine SC.of_SE ?_
      refine SC.norm [(8, bo false)] [rBlk d (nc A tv cv) 68, rFrs F tv cv A.tb A.cb] ⟨rfl, trivial⟩ rfl ?_
      refine SC.seq ?_
      refine SC.region ?_
      refine SL.ru rfl rfl (lt_b rfl) (ru_assign rfl rfl) ?_
      refine SL.nil ?_
      refine SC.of_SE ?_
      refine SC.norm [(8, bo true)] [rBlk d (nc A tv cv) 68, rFrs F tv cv A.tb A.cb] ⟨rfl, trivial⟩ rfl ?_
      refine SC.ret ?_
      refine SE.scoper ?_
      refine SE.res (.inl rfl) (res1 Try.results24 rfl) fun w1 hI => ⟨ret_bo ?_, hI.2⟩
      exact host_yes hi (by omega) (fun j h1 h2 => hne j (by omega) h2)
    · skip
      refine SC.seq ?_
      refine SC.seq ?_
      refine SC.region ?_
      refine SL.ru rfl rfl (lt_b rfl) (ru_move rfl rfl) ?_
      refine SL.ru rfl rfl (lt_b rfl) (ru_move rfl rfl) ?_
      refine SL.ru rfl rfl (lt_b rfl) (ru_move rfl rfl) ?_
      refine SL.ru rfl rfl (lt_b rfl) (ru_nilCheck rfl rfl) ?_
      refine SL.ru rfl rfl (lt_b rfl) (ru_fieldAddr (o2 := 0) fd68_0 rfl rfl rfl) ?_
      refine SL.ru rfl rfl (lt_b rfl) (ru_indexA (o2 := 5) ar44 rfl rfl rfl (by decide) (by decide) rfl) ?_
      refine SL.ru rfl rfl (lt_b rfl) (ru_load (i := 0) (v := iw (A.r 5)) ts3 rfl rfl rfl (nc_r (by decide))) ?_
      refine SL.ru rfl rfl (lt_b rfl) (ru_ne (b := (((((A.r 5) - (n : Int)) % 16) : Int) != (A.r 5))) rfl rfl rfl rfl) ?_
      refine SL.nil ?_
      refine SC.of_SE ?_
      refine SC.norm [(0, pt d 0), (1, iw i), (3, iw 5), (8, bo false), (9, iw (((A.r 5) - (n : Int)) % 16)), (29, bo (((((A.r 5) - (n : Int)) % 16) : Int) != (A.r 5)))] [rBlk d (nc A tv cv) 68, rFrs F tv cv A.tb A.cb] ⟨rfl, rfl, rfl, rfl, rfl, rfl, trivial⟩ rfl ?_
      refine SC.yes (show some (Value.bool (((((A.r 5) - (n : Int)) % 16) : Int) != (A.r 5))) = some (Value.bool true) from congrArg (fun x => some (Value.bool x)) (bne_t (by omega))) ?_
      refine SC.skip ?_
      refine SC.of_SE ?_
      refine SC.norm [(0, pt d 0), (1, iw i), (3, iw 5), (8, bo false), (9, iw (((A.r 5) - (n : Int)) % 16))] [rBlk d (nc A tv cv) 68, rFrs F tv cv A.tb A.cb] ⟨rfl, rfl, rfl, rfl, rfl, trivial⟩ rfl ?_
      refine SC.seq ?_
      refine SC.block ?_
      refine SC.seq ?_
      refine SC.seq ?_
      refine SC.region ?_
      refine SL.ru rfl rfl (lt_b rfl) (ru_move rfl rfl) ?_
      refine SL.ru rfl rfl (lt_b rfl) (ru_move rfl rfl) ?_
      refine SL.ru rfl rfl (lt_b rfl) (ru_ne (b := (((((A.r 5) - (n : Int)) % 16) : Int) != i)) rfl rfl rfl rfl) ?_
      refine SL.nil ?_
      refine SC.of_SE ?_
      refine SC.norm [(0, pt d 0), (1, iw i), (3, iw 5), (8, bo false), (9, iw (((A.r 5) - (n : Int)) % 16)), (34, bo (((((A.r 5) - (n : Int)) % 16) : Int) != i))] [rBlk d (nc A tv cv) 68, rFrs F tv cv A.tb A.cb] ⟨rfl, rfl, rfl, rfl, rfl, rfl, trivial⟩ rfl ?_
      refine SC.both (((((A.r 5) - (n : Int)) % 16) : Int) != i) rfl (fun h3 => ?_) (fun h3 => ?_)
      · skip
        have hq := h3
        refine SC.exit ?_
        refine SE.passe ?_
        refine SE.blke ?_
        refine SC.of_SE ?_
        refine SC.norm [(0, pt d 0), (1, iw i), (3, iw 5), (8, bo false), (9, iw (((A.r 5) - (n : Int)) % 16))] [rBlk d (nc A tv cv) 68, rFrs F tv cv A.tb A.cb] ⟨rfl, rfl, rfl, rfl, rfl, trivial⟩ rfl ?_
        refine SC.region ?_
        refine SL.ru rfl rfl (lt_b rfl) (ru_move rfl rfl) ?_
        refine SL.callv (iw (nx (((A.r 5) - (n : Int)) % 16))) rfl rfl co23 rfl rfl rfl (lt_b rfl) (fun w hI => H_same hI (next_any w (by omega))) ?_
        refine SL.ru rfl rfl (lt_b rfl) (ru_assign rfl rfl) ?_
        refine SL.nil ?_
        refine SE.again (n - 1) () (by omega) ⟨by omega, fun j h1 h2 => ?_⟩ ⟨rfl, rfl, rfl, rfl, (congrArg (fun x => some (iw x)) (show nx (((A.r 5) - (n : Int)) % 16) = ((A.r 5) - (((n - 1 : Nat) : Int) : Int)) % 16 by unfold nx; omega)), trivial⟩ rfl
        by_cases e : j = n
        · subst e; simpa using hq
        · exact hne j (by omega) h2
      · skip
        have hq := h3
        refine SC.skip ?_
        refine SC.of_SE ?_
        refine SC.norm [(0, pt d 0), (1, iw i), (3, iw 5), (8, bo false), (9, iw (((A.r 5) - (n : Int)) % 16))] [rBlk d (nc A tv cv) 68, rFrs F tv cv A.tb A.cb] ⟨rfl, rfl, rfl, rfl, rfl, trivial⟩ rfl ?_
        refine SC.seq ?_
        refine SC.region ?_
        refine SL.ru rfl rfl (lt_b rfl) (ru_assign rfl rfl) ?_
        refine SL.nil ?_
        refine SC.of_SE ?_
        refine SC.norm [(0, pt d 0), (1, iw i), (3, iw 5), (8, bo false), (9, iw (((A.r 5) - (n : Int)) % 16))] [rBlk d (nc A tv cv) 68, rFrs F tv cv A.tb A.cb] ⟨rfl, rfl, rfl, rfl, rfl, trivial⟩ rfl ?_
        refine SC.ret ?_
        refine SE.blkr ?_
        refine SE.passr ?_
        refine SE.passr ?_
        refine SE.blkr ?_
        refine SE.passr ?_
        refine SE.scoper ?_
        refine SE.res (.inl rfl) (res1 Try.results24 rfl) fun w1 hI => ⟨ret_bo ?_, hI.2⟩
        exact host_no h0 hn hq

theorem p_hostrx {w : World} {d : Nat} {F : Nat → Prop} {A : NicA} (hk : NicOk A) (h : NicAt 68 w d F A) (i : Int) : Calls Try.prog 24 #[pt d 0, iw i, iw 2, iw 3] w fun e w' => e = .returned (bo (hostB i (A.r 2) (A.r 3))) ∧ Only (fun _ => False) w w' := by
  have hok := hk
  obtain ⟨r2, r3, r4, r5, r6, _, _, _⟩ := hok
  obtain ⟨tv, cv, hI⟩ := h.inv 35 (fun _ => False)
  refine calls_sc (l0 := _) (args := [pt d 0, iw i, iw 2, iw 3]) (fun _ => False) Try.func24 rfl 35 Try.ntmps24 (le_b rfl) hI ?_
  show SC _ _ _ _ [(0, pt d 0), (1, iw i), (2, iw 2), (3, iw 3)] [rBlk d (nc A tv cv) 68, rFrs F tv cv A.tb A.cb]
  refine SC.seq ?_
  refine SC.region ?_
  refine SL.ru rfl rfl (lt_b rfl) (ru_assign rfl rfl) ?_
  refine SL.nil ?_
  refine SC.of_SE ?_
  refine SC.norm [(0, pt d 0), (1, iw i), (2, iw 2), (3, iw 3), (8, bo false)] [rBlk d (nc A tv cv) 68, rFrs F tv cv A.tb A.cb] ⟨rfl, rfl, rfl, rfl, rfl, trivial⟩ rfl ?_
  refine SC.scope ?_
  refine SC.seq ?_
  refine SC.seq ?_
  refine SC.region ?_
  refine SL.ru rfl rfl (lt_b rfl) (ru_move rfl rfl) ?_
  refine SL.ru rfl rfl (lt_b rfl) (ru_lt (b := (decide ((i : Int) < 0))) rfl rfl rfl rfl) ?_
  refine SL.ru rfl rfl (lt_b rfl) (ru_move rfl rfl) ?_
  refine SL.join 3 [(0, pt d 0), (1, iw i), (2, iw 2), (3, iw 3), (8, bo false), (10, iw i), (11, bo (decide ((i : Int) < 0))), (12, bo (decide ((i : Int) < 0))), (15, bo ((decide ((i : Int) < 0)) || (decide ((16 : Int) ≤ i))))] [rBlk d (nc A tv cv) 68, rFrs F tv cv A.tb A.cb] ?_ ?_
  rotate_left
  · intro K hK
    rcases tf (decide ((i : Int) < 0)) with h1 | h1
    · skip
      refine SL.norm [(0, pt d 0), (1, iw i), (2, iw 2), (3, iw 3), (8, bo false), (10, iw i), (11, bo true), (12, bo true)] [rBlk d (nc A tv cv) 68, rFrs F tv cv A.tb A.cb] ⟨rfl, rfl, rfl, rfl, rfl, rfl, (congrArg (fun x => some (Value.bool x)) h1), (congrArg (fun x => some (Value.bool x)) h1), trivial⟩ rfl ?_
      refine SL.off (b := true) rfl rfl rfl rfl rfl (lt_b rfl) ?_
      refine SL.off (b := true) rfl rfl rfl rfl rfl (lt_b rfl) ?_
      refine SL.ru rfl rfl (lt_b rfl) (ru_pick (u := bo true) (v := undef) rfl rfl rfl rfl) ?_
      exact SL.joined hK ⟨rfl, rfl, rfl, rfl, rfl, rfl, (congrArg (fun x => some (Value.bool x)) h1.symm), (congrArg (fun x => some (Value.bool x)) h1.symm), (congrArg (fun x => some (Value.bool (x || (decide ((16 : Int) ≤ i))))) h1.symm), trivial⟩ rfl
    · skip
      refine SL.norm [(0, pt d 0), (1, iw i), (2, iw 2), (3, iw 3), (8, bo false), (10, iw i), (11, bo false), (12, bo false)] [rBlk d (nc A tv cv) 68, rFrs F tv cv A.tb A.cb] ⟨rfl, rfl, rfl, rfl, rfl, rfl, (congrArg (fun x => some (Value.bool x)) h1), (congrArg (fun x => some (Value.bool x)) h1), trivial⟩ rfl ?_
      refine SL.rug rfl rfl rfl rfl (lt_b rfl) (ru_move rfl rfl) ?_
      refine SL.rug rfl rfl rfl rfl (lt_b rfl) (ru_ge (b := (decide ((16 : Int) ≤ i))) rfl rfl rfl rfl) ?_
      refine SL.ru rfl rfl (lt_b rfl) (ru_pick (u := bo true) (v := bo (decide ((16 : Int) ≤ i))) rfl rfl rfl rfl) ?_
      exact SL.joined hK ⟨rfl, rfl, rfl, rfl, rfl, rfl, (congrArg (fun x => some (Value.bool x)) h1.symm), (congrArg (fun x => some (Value.bool x)) h1.symm), (congrArg (fun x => some (Value.bool (x || (decide ((16 : Int) ≤ i))))) h1.symm), trivial⟩ rfl
  skip
  refine SL.nil ?_
  refine SC.of_SE ?_
  refine SC.norm [(0, pt d 0), (1, iw i), (2, iw 2), (3, iw 3), (8, bo false), (15, bo ((decide ((i : Int) < 0)) || (decide ((16 : Int) ≤ i))))] [rBlk d (nc A tv cv) 68, rFrs F tv cv A.tb A.cb] ⟨rfl, rfl, rfl, rfl, rfl, rfl, trivial⟩ rfl ?_
  refine SC.both ((decide ((i : Int) < 0)) || (decide ((16 : Int) ≤ i))) rfl (fun h2 => ?_) (fun h2 => ?_)
  · skip
    refine SC.seq ?_
    refine SC.region ?_
    refine SL.ru rfl rfl (lt_b rfl) (ru_assign rfl rfl) ?_
    refine SL.nil ?_
    refine SC.of_SE ?_
    refine SC.norm [(0, pt d 0), (1, iw i), (2, iw 2), (3, iw 3), (8, bo false)] [rBlk d (nc A tv cv) 68, rFrs F tv cv A.tb A.cb] ⟨rfl, rfl, rfl, rfl, rfl, trivial⟩ rfl ?_
    refine SC.ret ?_
    refine SE.passr ?_
    refine SE.scoper ?_
    refine SE.res (.inl rfl) (res1 Try.results24 rfl) fun w1 hI => ⟨ret_bo ?_, hI.2⟩
    exact host_out h2
  · skip
    have hi := host_in h2
    refine SC.skip ?_
    refine SC.of_SE ?_
    refine SC.norm [(0, pt d 0), (1, iw i), (2, iw 2), (3, iw 3), (8, bo false)] [rBlk d (nc A tv cv) 68, rFrs F tv cv A.tb A.cb] ⟨rfl, rfl, rfl, rfl, rfl, trivial⟩ rfl ?_
    refine SC.seq ?_
    refine SC.label ?_
    refine SC.of_SE ?_
    refine SC.norm [(0, pt d 0), (1, iw i), (2, iw 2), (3, iw 3), (8, bo false)] [rBlk d (nc A tv cv) 68, rFrs F tv cv A.tb A.cb] ⟨rfl, rfl, rfl, rfl, rfl, trivial⟩ rfl ?_
    refine SC.seq ?_
    refine SC.seq ?_
    refine SC.region ?_
    refine SL.ru rfl rfl (lt_b rfl) (ru_move rfl rfl) ?_
    refine SL.ru rfl rfl (lt_b rfl) (ru_move rfl rfl) ?_
    refine SL.ru rfl rfl (lt_b rfl) (ru_nilCheck rfl rfl) ?_
    refine SL.ru rfl rfl (lt_b rfl) (ru_fieldAddr (o2 := 0) fd68_0 rfl rfl rfl) ?_
    refine SL.ru rfl rfl (lt_b rfl) (ru_indexA (o2 := 2) ar44 rfl rfl rfl (by decide) (by decide) rfl) ?_
    refine SL.ru rfl rfl (lt_b rfl) (ru_load (i := 0) (v := iw (A.r 2)) ts3 rfl rfl rfl (nc_r (by decide))) ?_
    refine SL.ru rfl rfl (lt_b rfl) (ru_assign rfl rfl) ?_
    refine SL.nil ?_
    refine SC.of_SE ?_
    refine SC.norm [(0, pt d 0), (1, iw i), (3, iw 3), (8, bo false), (9, iw (A.r 2))] [rBlk d (nc A tv cv) 68, rFrs F tv cv A.tb A.cb] ⟨rfl, rfl, rfl, rfl, rfl, trivial⟩ rfl ?_
    refine SC.block ?_
    refine SC.loop (γ := Unit) (fun n _ => [(0, pt d 0), (1, iw i), (3, iw 3), (8, bo false), (9, iw (((A.r 3) - (n : Int)) % 16))]) (fun n _ => [rBlk d (nc A tv cv) 68, rFrs F tv cv A.tb A.cb]) (fun n _ => n ≤ (((A.r 3) - (A.r 2)) % 16).toNat ∧ ∀ j : Nat, n < j → j ≤ (((A.r 3) - (A.r 2)) % 16).toNat → ((A.r 3) - (j : Int)) % 16 ≠ i) ((((A.r 3) - (A.r 2)) % 16).toNat) () ⟨Nat.le_refl _, fun j h1 h2 => by omega⟩ ⟨rfl, rfl, rfl, rfl, (congrArg (fun x => some (iw x)) (show A.r 2 = ((A.r 3) - ((((((A.r 3) - (A.r 2)) % 16).toNat : Nat) : Int) : Int)) % 16 by omega)), trivial⟩ rfl ?_
    rintro n ⟨⟩ ⟨hn, hne⟩
    rcases Nat.eq_zero_or_pos n with h0 | h0
    · skip
      refine SC.seq ?_
      refine SC.seq ?_
      refine SC.region ?_
      refine SL.ru rfl rfl (lt_b rfl) (ru_move rfl rfl) ?_
      refine SL.ru rfl rfl (lt_b rfl) (ru_move rfl rfl) ?_
      refine SL.ru rfl rfl (lt_b rfl) (ru_move rfl rfl) ?_
      refine SL.ru rfl rfl (lt_b rfl) (ru_nilCheck rfl rfl) ?_
      refine SL.ru rfl rfl (lt_b rfl) (ru_fieldAddr (o2 := 0) fd68_0 rfl rfl rfl) ?_
      refine SL.ru rfl rfl (lt_b rfl) (ru_indexA (o2 := 3) ar44 rfl rfl rfl (by decide) (by decide) rfl) ?_
      refine SL.ru rfl rfl (lt_b rfl) (ru_load (i := 0) (v := iw (A.r 3)) ts3 rfl rfl rfl (nc_r (by decide))) ?_
      refine SL.ru rfl rfl (lt_b rfl) (ru_ne (b := (((((A.r 3) - (n : Int)) % 16) : Int) != (A.r 3))) rfl rfl rfl rfl) ?_
      refine SL.nil ?_
      refine SC.of_SE ?_
      refine SC.norm [(0, pt d 0), (1, iw i), (3, iw 3), (8, bo false), (9, iw (((A.r 3) - (n : Int)) % 16)), (29, bo (((((A.r 3) - (n : Int)) % 16) : Int) != (A.r 3)))] [rBlk d (nc A tv cv) 68, rFrs F tv cv A.tb A.cb] ⟨rfl, rfl, rfl, rfl, rfl, rfl, trivial⟩ rfl ?_
      refine SC.no (show some (Value.bool (((((A.r 3) - (n : Int)) % 16) : Int) != (A.r 3))) = some (Value.bool false) from congrArg (fun x => some (Value.bool x)) (bne_f (by omega))) ?_
      refine SC.exit ?_
      refine SE.passe ?_
      refine SE.passe ?_
      refine SE.blke ?_
      refine SC.of_SE ?_
      refine SC.norm [(8, bo false)] [rBlk d (nc A tv cv) 68, rFrs F tv cv A.tb A.cb] ⟨rfl, trivial⟩ rfl ?_
      refine SC.seq ?_
      refine SC.region ?_
      refine SL.ru rfl rfl (lt_b rfl) (ru_assign rfl rfl) ?_
      refine SL.nil ?_
      refine SC.of_SE ?_
      refine SC.norm [(8, bo true)] [rBlk d (nc A tv cv) 68, rFrs F tv cv A.tb A.cb] ⟨rfl, trivial⟩ rfl ?_
      refine SC.ret ?_
      refine SE.scoper ?_
      refine SE.res (.inl rfl) (res1 Try.results24 rfl) fun w1 hI => ⟨ret_bo ?_, hI.2⟩
      exact host_yes hi (by omega) (fun j h1 h2 => hne j (by omega) h2)
    · skip
      refine SC.seq ?_
      refine SC.seq ?_
      refine SC.region ?_
      refine SL.ru rfl rfl (lt_b rfl) (ru_move rfl rfl) ?_
      refine SL.ru rfl rfl (lt_b rfl) (ru_move rfl rfl) ?_
      refine SL.ru rfl rfl (lt_b rfl) (ru_move rfl rfl) ?_
      refine SL.ru rfl rfl (lt_b rfl) (ru_nilCheck rfl rfl) ?_
      refine SL.ru rfl rfl (lt_b rfl) (ru_fieldAddr (o2 := 0) fd68_0 rfl rfl rfl) ?_
      refine SL.ru rfl rfl (lt_b rfl) (ru_indexA (o2 := 3) ar44 rfl rfl rfl (by decide) (by decide) rfl) ?_
      refine SL.ru rfl rfl (lt_b rfl) (ru_load (i := 0) (v := iw (A.r 3)) ts3 rfl rfl rfl (nc_r (by decide))) ?_
      refine SL.ru rfl rfl (lt_b rfl) (ru_ne (b := (((((A.r 3) - (n : Int)) % 16) : Int) != (A.r 3))) rfl rfl rfl rfl) ?_
      refine SL.nil ?_
      refine SC.of_SE ?_
      refine SC.norm [(0, pt d 0), (1, iw i), (3, iw 3), (8, bo false), (9, iw (((A.r 3) - (n : Int)) % 16)), (29, bo (((((A.r 3) - (n : Int)) % 16) : Int) != (A.r 3)))] [rBlk d (nc A tv cv) 68, rFrs F tv cv A.tb A.cb] ⟨rfl, rfl, rfl, rfl, rfl, rfl, trivial⟩ rfl ?_
      refine SC.yes (show some (Value.bool (((((A.r 3) - (n : Int)) % 16) : Int) != (A.r 3))) = some (Value.bool true) from congrArg (fun x => some (Value.bool x)) (bne_t (by omega))) ?_
      refine SC.skip ?_
      refine SC.of_SE ?_
      refine SC.norm [(0, pt d 0), (1, iw i), (3, iw 3), (8, bo false), (9, iw (((A.r 3) - (n : Int)) % 16))] [rBlk d (nc A tv cv) 68, rFrs F tv cv A.tb A.cb] ⟨rfl, rfl, rfl, rfl, rfl, trivial⟩ rfl ?_
      refine SC.seq ?_
      refine SC.block ?_
      refine SC.seq ?_
      refine SC.seq ?_
      refine SC.region ?_
      refine SL.ru rfl rfl (lt_b rfl) (ru_move rfl rfl) ?_
      refine SL.ru rfl rfl (lt_b rfl) (ru_move rfl rfl) ?_
      refine SL.ru rfl rfl (lt_b rfl) (ru_ne (b := (((((A.r 3) - (n : Int)) % 16) : Int) != i)) rfl rfl rfl rfl) ?_
      refine SL.nil ?_
      refine SC.of_SE ?_
      refine SC.norm [(0, pt d 0), (1, iw i), (3, iw 3), (8, bo false), (9, iw (((A.r 3) - (n : Int)) % 16)), (34, bo (((((A.r 3) - (n : Int)) % 16) : Int) != i))] [rBlk d (nc A tv cv) 68, rFrs F tv cv A.tb A.cb] ⟨rfl, rfl, rfl, rfl, rfl, rfl, trivial⟩ rfl ?_
      refine SC.both (((((A.r 3) - (n : Int)) % 16) : Int) != i) rfl (fun h3 => ?_) (fun h3 => ?_)
      · skip
        have hq := h3
        refine SC.exit ?_
        refine SE.passe ?_
        refine SE.blke ?_
        refine SC.of_SE ?_
        refine SC.norm [(0, pt d 0), (1, iw i), (3, iw 3), (8, bo false), (9, iw (((A.r 3) - (n : Int)) % 16))] [rBlk d (nc A tv cv) 68, rFrs F tv cv A.tb A.cb] ⟨rfl, rfl, rfl, rfl, rfl, trivial⟩ rfl ?_
        refine SC.region ?_
        refine SL.ru rfl rfl (lt_b rfl) (ru_move rfl rfl) ?_
        refine SL.callv (iw (nx (((A.r 3) - (n : Int)) % 16))) rfl rfl co23 rfl rfl rfl (lt_b rfl) (fun w hI => H_same hI (next_any w (by omega))) ?_
        refine SL.ru rfl rfl (lt_b rfl) (ru_assign rfl rfl) ?_
        refine SL.nil ?_
        refine SE.again (n - 1) () (by omega) ⟨by omega, fun j h1 h2 => ?_⟩ ⟨rfl, rfl, rfl, rfl, (congrArg (fun x => some (iw x)) (show nx (((A.r 3) - (n : Int)) % 16) = ((A.r 3) - (((n - 1 : Nat) : Int) : Int)) % 16 by unfold nx; omega)), trivial⟩ rfl
        by_cases e : j = n
        · subst e; simpa using hq
        · exact hne j (by omega) h2
      · skip
        have hq := h3
        refine SC.skip ?_
        refine SC.of_SE ?_
        refine SC.norm [(0, pt d 0), (1, iw i), (3, iw 3), (8, bo false), (9, iw (((A.r 3) - (n : Int)) % 16))] [rBlk d (nc A tv cv) 68, rFrs F tv cv A.tb A.cb] ⟨rfl, rfl, rfl, rfl, rfl, trivial⟩ rfl ?_
        refine SC.seq ?_
        refine SC.region ?_
        refine SL.ru rfl rfl (lt_b rfl) (ru_assign rfl rfl) ?_
        refine SL.nil ?_
        refine SC.of_SE ?_
        refine SC.norm [(0, pt d 0), (1, iw i), (3, iw 3), (8, bo false), (9, iw (((A.r 3) - (n : Int)) % 16))] [rBlk d (nc A tv cv) 68, rFrs F tv cv A.tb A.cb] ⟨rfl, rfl, rfl, rfl, rfl, trivial⟩ rfl ?_
        refine SC.ret ?_
        refine SE.blkr ?_
        refine SE.passr ?_
        refine SE.passr ?_
        refine SE.blkr ?_
        refine SE.passr ?_
        refine SE.scoper ?_
        refine SE.res (.inl rfl) (res1 Try.results24 rfl) fun w1 hI => ⟨ret_bo ?_, hI.2⟩
        exact host_no h0 hn hq

theorem dev_q {a b : Int} (h : (a == b) = false) : (a != b) = true := by simpa using h
theorem dev_e {a b : Int} (h : (a == b) = true) : (a != b) = false := by simpa using h
theorem dev_nx {t : Int} {n : Nat} (h : 0 < n) : Int.tmod (IntKind.i64.wrap ((t - (n : Int)) % 16 + 1)) 16 = (t - ((n - 1 : Nat) : Int)) % 16 := by
  rw [IntKind.wrap_i64, Int.tmod_eq_emod_of_nonneg (by omega)]; omega
theorem devices_any {w : World} {i h t : Int} (hi : 0 ≤ i ∧ i < 16) (hh : 0 ≤ h ∧ h < 16) (ht : 0 ≤ t ∧ t < 16) : Calls Try.prog 36 #[.int .i64 i, .int .i64 h, .int .i64 t] w fun e w' => e = .returned (bo (!hostB i h t)) ∧ Only (fun _ => False) w w' := by
  refine calls_sc (l0 := []) (args := [iw i, iw h, iw t]) (fun _ => False) Try.func36 rfl 18 Try.ntmps36 (le_b rfl) ⟨⟨by simp, List.Pairwise.nil⟩, Only.refl _ _⟩ ?_
  show SC _ _ _ _ [(0, iw i), (1, iw h), (2, iw t)] []
  refine SC.seq ?_
  refine SC.region ?_
  refine SL.ru rfl rfl (lt_b rfl) (ru_assign rfl rfl) ?_
  refine SL.nil ?_
  refine SC.of_SE ?_
  refine SC.norm [(0, iw i), (1, iw h), (2, iw t), (6, bo false)] [] ⟨rfl, rfl, rfl, rfl, trivial⟩ rfl ?_
  refine SC.seq ?_
  refine SC.seq ?_
  refine SC.region ?_
  refine SL.ru rfl rfl (lt_b rfl) (ru_move rfl rfl) ?_
  refine SL.ru rfl rfl (lt_b rfl) (ru_assign rfl rfl) ?_
  refine SL.nil ?_
  refine SC.of_SE ?_
  refine SC.norm [(0, iw i), (2, iw t), (6, bo false), (7, iw h)] [] ⟨rfl, rfl, rfl, rfl, trivial⟩ rfl ?_
  refine SC.block ?_
  refine SC.loop (γ := Unit) (fun n _ => [(0, iw i), (2, iw t), (6, bo false), (7, iw ((t - (n : Int)) % 16))]) (fun n _ => []) (fun n _ => n ≤ ((t - h) % 16).toNat ∧ ∀ j : Nat, n < j → j ≤ ((t - h) % 16).toNat → (t - (j : Int)) % 16 ≠ i) (((t - h) % 16).toNat) () ⟨Nat.le_refl _, fun j h1 h2 => by omega⟩ ⟨rfl, rfl, rfl, (congrArg (fun x => some (iw x)) (show h = (t - (((((t - h) % 16).toNat : Nat) : Int) : Int)) % 16 by omega)), trivial⟩ rfl ?_
  rintro n ⟨⟩ ⟨hn, hne⟩
  rcases Nat.eq_zero_or_pos n with h0 | h0
  · skip
    refine SC.seq ?_
    refine SC.seq ?_
    refine SC.region ?_
    refine SL.ru rfl rfl (lt_b rfl) (ru_move rfl rfl) ?_
    refine SL.ru rfl rfl (lt_b rfl) (ru_move rfl rfl) ?_
    refine SL.ru rfl rfl (lt_b rfl) (ru_ne (b := ((((t - (n : Int)) % 16) : Int) != t)) rfl rfl rfl rfl) ?_
    refine SL.nil ?_
    refine SC.of_SE ?_
    refine SC.norm [(0, iw i), (2, iw t), (6, bo false), (7, iw ((t - (n : Int)) % 16)), (11, bo ((((t - (n : Int)) % 16) : Int) != t))] [] ⟨rfl, rfl, rfl, rfl, rfl, trivial⟩ rfl ?_
    refine SC.no (show some (Value.bool ((((t - (n : Int)) % 16) : Int) != t)) = some (Value.bool false) from congrArg (fun x => some (Value.bool x)) (bne_f (by omega))) ?_
    refine SC.exit ?_
    refine SE.passe ?_
    refine SE.passe ?_
    refine SE.blke ?_
    refine SC.of_SE ?_
    refine SC.norm [(6, bo false)] [] ⟨rfl, trivial⟩ rfl ?_
    refine SC.seq ?_
    refine SC.region ?_
    refine SL.ru rfl rfl (lt_b rfl) (ru_assign rfl rfl) ?_
    refine SL.nil ?_
    refine SC.of_SE ?_
    refine SC.norm [(6, bo false)] [] ⟨rfl, trivial⟩ rfl ?_
    refine SC.ret ?_
    refine SE.res (.inl rfl) (res1 Try.results36 rfl) fun w1 hI => ⟨ret_bo ?_, hI.2⟩
    exact congrArg (!·) (host_yes hi ht (fun j h1 h2 => hne j (by omega) h2))
  · skip
    refine SC.seq ?_
    refine SC.seq ?_
    refine SC.region ?_
    refine SL.ru rfl rfl (lt_b rfl) (ru_move rfl rfl) ?_
    refine SL.ru rfl rfl (lt_b rfl) (ru_move rfl rfl) ?_
    refine SL.ru rfl rfl (lt_b rfl) (ru_ne (b := ((((t - (n : Int)) % 16) : Int) != t)) rfl rfl rfl rfl) ?_
    refine SL.nil ?_
    refine SC.of_SE ?_
    refine SC.norm [(0, iw i), (2, iw t), (6, bo false), (7, iw ((t - (n : Int)) % 16)), (11, bo ((((t - (n : Int)) % 16) : Int) != t))] [] ⟨rfl, rfl, rfl, rfl, rfl, trivial⟩ rfl ?_
    refine SC.yes (show some (Value.bool ((((t - (n : Int)) % 16) : Int) != t)) = some (Value.bool true) from congrArg (fun x => some (Value.bool x)) (bne_t (by omega))) ?_
    refine SC.skip ?_
    refine SC.of_SE ?_
    refine SC.norm [(0, iw i), (2, iw t), (6, bo false), (7, iw ((t - (n : Int)) % 16))] [] ⟨rfl, rfl, rfl, rfl, trivial⟩ rfl ?_
    refine SC.seq ?_
    refine SC.block ?_
    refine SC.seq ?_
    refine SC.region ?_
    refine SL.ru rfl rfl (lt_b rfl) (ru_move rfl rfl) ?_
    refine SL.ru rfl rfl (lt_b rfl) (ru_move rfl rfl) ?_
    refine SL.ru rfl rfl (lt_b rfl) (ru_eq (b := ((((t - (n : Int)) % 16) : Int) == i)) rfl rfl rfl rfl) ?_
    refine SL.nil ?_
    refine SC.of_SE ?_
    refine SC.norm [(0, iw i), (2, iw t), (6, bo false), (7, iw ((t - (n : Int)) % 16)), (17, bo ((((t - (n : Int)) % 16) : Int) == i))] [] ⟨rfl, rfl, rfl, rfl, rfl, trivial⟩ rfl ?_
    refine SC.both ((((t - (n : Int)) % 16) : Int) == i) rfl (fun h1 => ?_) (fun h1 => ?_)
    · skip
      have hq := dev_e h1
      refine SC.seq ?_
      refine SC.region ?_
      refine SL.ru rfl rfl (lt_b rfl) (ru_assign rfl rfl) ?_
      refine SL.nil ?_
      refine SC.of_SE ?_
      refine SC.norm [(0, iw i), (2, iw t), (6, bo true), (7, iw ((t - (n : Int)) % 16))] [] ⟨rfl, rfl, rfl, rfl, trivial⟩ rfl ?_
      refine SC.ret ?_
      refine SE.blkr ?_
      refine SE.passr ?_
      refine SE.passr ?_
      refine SE.blkr ?_
      refine SE.passr ?_
      refine SE.res (.inl rfl) (res1 Try.results36 rfl) fun w1 hI => ⟨ret_bo ?_, hI.2⟩
      exact congrArg (!·) (host_no h0 hn hq)
    · skip
      have hq := dev_q h1
      refine SC.skip ?_
      refine SE.blkn ?_
      refine SC.of_SE ?_
      refine SC.norm [(0, iw i), (2, iw t), (6, bo false), (7, iw ((t - (n : Int)) % 16))] [] ⟨rfl, rfl, rfl, rfl, trivial⟩ rfl ?_
      refine SC.region ?_
      refine SL.ru rfl rfl (lt_b rfl) (ru_move rfl rfl) ?_
      refine SL.ru rfl rfl (lt_b rfl) (ru_add (r := (IntKind.i64.wrap (((t - (n : Int)) % 16) + 1))) rfl rfl rfl rfl) ?_
      refine SL.ru rfl rfl (lt_b rfl) (ru_rem (r := (Int.tmod (IntKind.i64.wrap (((t - (n : Int)) % 16) + 1)) 16)) rfl rfl rfl (by decide) rfl) ?_
      refine SL.ru rfl rfl (lt_b rfl) (ru_assign rfl rfl) ?_
      refine SL.nil ?_
      refine SE.again (n - 1) () (by omega) ⟨by omega, fun j h1 h2 => ?_⟩ ⟨rfl, rfl, rfl, (congrArg (fun x => some (iw x)) (show Int.tmod (IntKind.i64.wrap (((t - (n : Int)) % 16) + 1)) 16 = (t - (((n - 1 : Nat) : Int) : Int)) % 16 from dev_nx (by omega))), trivial⟩ rfl
      by_cases e : j = n
      · subst e; simpa using hq
      · exact hne j (by omega) h2

end Go.Proofs.Ytloejpkefoagfaa
