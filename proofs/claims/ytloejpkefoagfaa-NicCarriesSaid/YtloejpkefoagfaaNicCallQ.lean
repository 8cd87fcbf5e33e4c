/-
  What a device's calls do (the reference's).
-/
import Derived.Test.YtloejpkefoagfaaNicEvQ
namespace Go.Proofs.Ytloejpkefoagfaa
open Go.RowKit
set_option maxRecDepth 100000
set_option maxHeartbeats 4000000
theorem rd_inq {i : Int} (e : (decide ((i : Int) < 0) || decide ((7 : Int) < i)) = false) : 0 ≤ i ∧ i < 8 := by
  simp only [Bool.or_eq_false_iff, decide_eq_false_iff_not] at e; omega

theorem q_read {w : World} {d : Nat} {F : Nat → Prop} {A : NicA} (hk : NicOk A) (h : NicAt 58 w d F A) (reg : Int) : Calls Try.prog 27 #[pt d 0, iw reg] w fun e w' => e = .returned (.tuple #[iw (readF A reg).1.1, iw (readF A reg).1.2]) ∧ NicTo 58 w d F (readF A reg).2 w' := by
  have hok := hk
  obtain ⟨r2, r3, r4, r5, r6, _, _, _⟩ := hok
  obtain ⟨tv, cv, hI⟩ := h.inv 27 (fun b => b = d)
  refine calls_sc (l0 := _) (args := [pt d 0, iw reg]) (fun b => b = d) Try.func27 rfl 27 Try.ntmps27 (le_b rfl) hI ?_
  show SC _ _ _ _ [(0, pt d 0), (1, iw reg)] [rBlk d (nc A tv cv) 58, rFrs F tv cv A.tb A.cb]
  refine SC.seq ?_
  refine SC.region ?_
  refine SL.ru rfl rfl (lt_b rfl) (ru_assign rfl rfl) ?_
  refine SL.ru rfl rfl (lt_b rfl) (ru_assign rfl rfl) ?_
  refine SL.nil ?_
  refine SC.of_SE ?_
  refine SC.norm [(0, pt d 0), (1, iw reg), (4, iw 0), (5, iw 0)] [rBlk d (nc A tv cv) 58, rFrs F tv cv A.tb A.cb] ⟨rfl, rfl, rfl, rfl, trivial⟩ rfl ?_
  refine SC.seq ?_
  refine SC.seq ?_
  refine SC.region ?_
  refine SL.ru rfl rfl (lt_b rfl) (ru_move rfl rfl) ?_
  refine SL.ru rfl rfl (lt_b rfl) (ru_lt (b := (decide ((reg : Int) < 0))) rfl rfl rfl rfl) ?_
  refine SL.ru rfl rfl (lt_b rfl) (ru_move rfl rfl) ?_
  refine SL.join 3 [(0, pt d 0), (1, iw reg), (4, iw 0), (5, iw 0), (7, iw reg), (8, bo (decide ((reg : Int) < 0))), (9, bo (decide ((reg : Int) < 0))), (12, bo ((decide ((reg : Int) < 0)) || (decide ((7 : Int) < reg))))] [rBlk d (nc A tv cv) 58, rFrs F tv cv A.tb A.cb] ?_ ?_
  rotate_left
  · intro K hK
    rcases tf (decide ((reg : Int) < 0)) with h1 | h1
    · skip
      refine SL.norm [(0, pt d 0), (1, iw reg), (4, iw 0), (5, iw 0), (7, iw reg), (8, bo true), (9, bo true)] [rBlk d (nc A tv cv) 58, rFrs F tv cv A.tb A.cb] ⟨rfl, rfl, rfl, rfl, rfl, (congrArg (fun x => some (Value.bool x)) h1), (congrArg (fun x => some (Value.bool x)) h1), trivial⟩ rfl ?_
      refine SL.off (b := true) rfl rfl rfl rfl rfl (lt_b rfl) ?_
      refine SL.off (b := true) rfl rfl rfl rfl rfl (lt_b rfl) ?_
      refine SL.ru rfl rfl (lt_b rfl) (ru_pick (u := bo true) (v := undef) rfl rfl rfl rfl) ?_
      exact SL.joined hK ⟨rfl, rfl, rfl, rfl, rfl, (congrArg (fun x => some (Value.bool x)) h1.symm), (congrArg (fun x => some (Value.bool x)) h1.symm), (congrArg (fun x => some (Value.bool (x || (decide ((7 : Int) < reg))))) h1.symm), trivial⟩ rfl
    · skip
      refine SL.norm [(0, pt d 0), (1, iw reg), (4, iw 0), (5, iw 0), (7, iw reg), (8, bo false), (9, bo false)] [rBlk d (nc A tv cv) 58, rFrs F tv cv A.tb A.cb] ⟨rfl, rfl, rfl, rfl, rfl, (congrArg (fun x => some (Value.bool x)) h1), (congrArg (fun x => some (Value.bool x)) h1), trivial⟩ rfl ?_
      refine SL.rug rfl rfl rfl rfl (lt_b rfl) (ru_move rfl rfl) ?_
      refine SL.rug rfl rfl rfl rfl (lt_b rfl) (ru_gt (b := (decide ((7 : Int) < reg))) rfl rfl rfl rfl) ?_
      refine SL.ru rfl rfl (lt_b rfl) (ru_pick (u := bo true) (v := bo (decide ((7 : Int) < reg))) rfl rfl rfl rfl) ?_
      exact SL.joined hK ⟨rfl, rfl, rfl, rfl, rfl, (congrArg (fun x => some (Value.bool x)) h1.symm), (congrArg (fun x => some (Value.bool x)) h1.symm), (congrArg (fun x => some (Value.bool (x || (decide ((7 : Int) < reg))))) h1.symm), trivial⟩ rfl
  skip
  refine SL.nil ?_
  refine SC.of_SE ?_
  refine SC.norm [(0, pt d 0), (1, iw reg), (4, iw 0), (5, iw 0), (12, bo ((decide ((reg : Int) < 0)) || (decide ((7 : Int) < reg))))] [rBlk d (nc A tv cv) 58, rFrs F tv cv A.tb A.cb] ⟨rfl, rfl, rfl, rfl, rfl, trivial⟩ rfl ?_
  refine SC.both ((decide ((reg : Int) < 0)) || (decide ((7 : Int) < reg))) rfl (fun h2 => ?_) (fun h2 => ?_)
  · skip
    refine SC.seq ?_
    refine SC.region ?_
    refine SL.ru rfl rfl (lt_b rfl) (ru_assign rfl rfl) ?_
    refine SL.ru rfl rfl (lt_b rfl) (ru_assign rfl rfl) ?_
    refine SL.nil ?_
    refine SC.of_SE ?_
    refine SC.norm [(0, pt d 0), (1, iw reg), (4, iw 0), (5, iw 1)] [rBlk d (nc A tv cv) 58, rFrs F tv cv A.tb A.cb] ⟨rfl, rfl, rfl, rfl, trivial⟩ rfl ?_
    refine SC.ret ?_
    refine SE.passr ?_
    refine SE.res (.inl rfl) (res2 Try.results27 rfl rfl) fun w1 hI => ?_
    have e : readF A reg = ((0, 1), A) := by
      try simp at h2
      unfold readF
      (repeat' split) <;> first | rfl | (exfalso; omega) | (exfalso; simp_all; done) | (exfalso; simp_all; omega)
    rw [e]
    exact ⟨rfl, NicAt.fin hI⟩
  · skip
    have hr := rd_inq h2
    refine SC.skip ?_
    refine SC.of_SE ?_
    refine SC.norm [(0, pt d 0), (1, iw reg), (4, iw 0), (5, iw 0)] [rBlk d (nc A tv cv) 58, rFrs F tv cv A.tb A.cb] ⟨rfl, rfl, rfl, rfl, trivial⟩ rfl ?_
    refine SC.seq ?_
    refine SC.region ?_
    refine SL.ru rfl rfl (lt_b rfl) (ru_move rfl rfl) ?_
    refine SL.ru rfl rfl (lt_b rfl) (ru_move rfl rfl) ?_
    refine SL.ru rfl rfl (lt_b rfl) (ru_nilCheck rfl rfl) ?_
    refine SL.ru rfl rfl (lt_b rfl) (ru_fieldAddr (o2 := 0) fd58_0 rfl rfl rfl) ?_
    refine SL.ru rfl rfl (lt_b rfl) (ru_indexA (o2 := 0 + reg.toNat * 1) ar44 rfl rfl rfl (by omega) (by omega) rfl) ?_
    refine SL.ru rfl rfl (lt_b rfl) (ru_load (i := 0) (v := iw (A.r reg.toNat)) ts3 rfl rfl rfl (nc_r' (by omega))) ?_
    refine SL.ru rfl rfl (lt_b rfl) (ru_assign rfl rfl) ?_
    refine SL.nil ?_
    refine SC.of_SE ?_
    refine SC.norm [(0, pt d 0), (1, iw reg), (4, iw 0), (5, iw 0), (6, iw (A.r reg.toNat))] [rBlk d (nc A tv cv) 58, rFrs F tv cv A.tb A.cb] ⟨rfl, rfl, rfl, rfl, rfl, trivial⟩ rfl ?_
    refine SC.seq ?_
    refine SC.seq ?_
    refine SC.region ?_
    refine SL.ru rfl rfl (lt_b rfl) (ru_move rfl rfl) ?_
    refine SL.ru rfl rfl (lt_b rfl) (ru_eq (b := ((reg : Int) == 6)) rfl rfl rfl rfl) ?_
    refine SL.nil ?_
    refine SC.of_SE ?_
    refine SC.norm [(0, pt d 0), (1, iw reg), (4, iw 0), (5, iw 0), (6, iw (A.r reg.toNat)), (20, bo ((reg : Int) == 6))] [rBlk d (nc A tv cv) 58, rFrs F tv cv A.tb A.cb] ⟨rfl, rfl, rfl, rfl, rfl, rfl, trivial⟩ rfl ?_
    refine SC.both ((reg : Int) == 6) rfl (fun h3 => ?_) (fun h3 => ?_)
    · skip
      refine SC.region ?_
      refine SL.ru rfl rfl (lt_b rfl) (ru_move rfl rfl) ?_
      refine SL.ru rfl rfl (lt_b rfl) (ru_move rfl rfl) ?_
      refine SL.ru rfl rfl (lt_b rfl) (ru_nilCheck rfl rfl) ?_
      refine SL.ru rfl rfl (lt_b rfl) (ru_fieldAddr (o2 := 0) fd58_0 rfl rfl rfl) ?_
      refine SL.ru rfl rfl (lt_b rfl) (ru_indexA (o2 := 0 + reg.toNat * 1) ar44 rfl rfl rfl (by omega) (by omega) rfl) ?_
      refine SL.store (i := 0) (c' := (nc { A with r := up A.r reg.toNat 0 } tv cv)) rfl rfl ts3 rfl rfl rfl rfl rfl (by rw [nc_len]; omega) (.inl rfl) (set_r' (by omega) 0) ?_
      refine SL.nil ?_
      refine SC.of_SE ?_
      refine SC.norm [(4, iw 0), (5, iw 0), (6, iw (A.r reg.toNat))] [rBlk d (nc { A with r := up A.r reg.toNat 0 } tv cv) 58, rFrs F tv cv A.tb A.cb] ⟨rfl, rfl, rfl, trivial⟩ rfl ?_
      refine SC.seq ?_
      refine SC.region ?_
      refine SL.ru rfl rfl (lt_b rfl) (ru_move rfl rfl) ?_
      refine SL.ru rfl rfl (lt_b rfl) (ru_assign rfl rfl) ?_
      refine SL.ru rfl rfl (lt_b rfl) (ru_assign rfl rfl) ?_
      refine SL.nil ?_
      refine SC.of_SE ?_
      refine SC.norm [(4, iw (A.r reg.toNat)), (5, iw 0)] [rBlk d (nc { A with r := up A.r reg.toNat 0 } tv cv) 58, rFrs F tv cv A.tb A.cb] ⟨rfl, rfl, trivial⟩ rfl ?_
      refine SC.ret ?_
      refine SE.res (.inl rfl) (res2 Try.results27 rfl rfl) fun w1 hI => ?_
      have e : readF A reg = ((A.r reg.toNat, 0), { A with r := up A.r reg.toNat 0 }) := by
        try simp at h2 h3
        unfold readF
        (repeat' split) <;> first | rfl | (exfalso; omega) | (exfalso; simp_all; done) | (exfalso; simp_all; omega)
      rw [e]
      exact ⟨rfl, NicAt.fin hI⟩
    · skip
      refine SC.skip ?_
      refine SC.of_SE ?_
      refine SC.norm [(4, iw 0), (5, iw 0), (6, iw (A.r reg.toNat))] [rBlk d (nc A tv cv) 58, rFrs F tv cv A.tb A.cb] ⟨rfl, rfl, rfl, trivial⟩ rfl ?_
      refine SC.seq ?_
      refine SC.region ?_
      refine SL.ru rfl rfl (lt_b rfl) (ru_move rfl rfl) ?_
      refine SL.ru rfl rfl (lt_b rfl) (ru_assign rfl rfl) ?_
      refine SL.ru rfl rfl (lt_b rfl) (ru_assign rfl rfl) ?_
      refine SL.nil ?_
      refine SC.of_SE ?_
      refine SC.norm [(4, iw (A.r reg.toNat)), (5, iw 0)] [rBlk d (nc A tv cv) 58, rFrs F tv cv A.tb A.cb] ⟨rfl, rfl, trivial⟩ rfl ?_
      refine SC.ret ?_
      refine SE.res (.inl rfl) (res2 Try.results27 rfl rfl) fun w1 hI => ?_
      have e : readF A reg = ((A.r reg.toNat, 0), A) := by
        try simp at h2 h3
        unfold readF
        (repeat' split) <;> first | rfl | (exfalso; omega) | (exfalso; simp_all; done) | (exfalso; simp_all; omega)
      rw [e]
      exact ⟨rfl, NicAt.fin hI⟩

theorem q_old {w : World} {d : Nat} {F : Nat → Prop} {A : NicA} (hk : NicOk A) (h : NicAt 58 w d F A)  : Calls Try.prog 22 #[pt d 0] w fun e w' => e = .returned (.tuple #[iw (oldF A).1, bo (oldF A).2]) ∧ Only (fun _ => False) w w' := by
  have hok := hk
  obtain ⟨r2, r3, r4, r5, r6, _, _, _⟩ := hok
  obtain ⟨tv, cv, hI⟩ := h.inv 24 (fun _ => False)
  refine calls_sc (l0 := _) (args := [pt d 0]) (fun _ => False) Try.func22 rfl 24 Try.ntmps22 (le_b rfl) hI ?_
  show SC _ _ _ _ [(0, pt d 0)] [rBlk d (nc A tv cv) 58, rFrs F tv cv A.tb A.cb]
  refine SC.seq ?_
  refine SC.region ?_
  refine SL.ru rfl rfl (lt_b rfl) (ru_assign rfl rfl) ?_
  refine SL.ru rfl rfl (lt_b rfl) (ru_assign rfl rfl) ?_
  refine SL.nil ?_
  refine SC.of_SE ?_
  refine SC.norm [(0, pt d 0), (2, iw 0), (3, bo false)] [rBlk d (nc A tv cv) 58, rFrs F tv cv A.tb A.cb] ⟨rfl, rfl, rfl, trivial⟩ rfl ?_
  refine SC.seq ?_
  refine SC.region ?_
  refine SL.ru rfl rfl (lt_b rfl) (ru_move rfl rfl) ?_
  refine SL.ru rfl rfl (lt_b rfl) (ru_nilCheck rfl rfl) ?_
  refine SL.ru rfl rfl (lt_b rfl) (ru_fieldAddr (o2 := 0) fd58_0 rfl rfl rfl) ?_
  refine SL.ru rfl rfl (lt_b rfl) (ru_indexA (o2 := 4) ar44 rfl rfl rfl (by decide) (by decide) rfl) ?_
  refine SL.ru rfl rfl (lt_b rfl) (ru_load (i := 0) (v := iw (A.r 4)) ts3 rfl rfl rfl (nc_r (by decide))) ?_
  refine SL.ru rfl rfl (lt_b rfl) (ru_assign rfl rfl) ?_
  refine SL.nil ?_
  refine SC.of_SE ?_
  refine SC.norm [(0, pt d 0), (2, iw 0), (3, bo false), (4, iw (A.r 4))] [rBlk d (nc A tv cv) 58, rFrs F tv cv A.tb A.cb] ⟨rfl, rfl, rfl, rfl, trivial⟩ rfl ?_
  refine SC.seq ?_
  refine SC.seq ?_
  refine SC.region ?_
  refine SL.ru rfl rfl (lt_b rfl) (ru_move rfl rfl) ?_
  refine SL.ru rfl rfl (lt_b rfl) (ru_move rfl rfl) ?_
  refine SL.ru rfl rfl (lt_b rfl) (ru_nilCheck rfl rfl) ?_
  refine SL.ru rfl rfl (lt_b rfl) (ru_fieldAddr (o2 := 0) fd58_0 rfl rfl rfl) ?_
  refine SL.ru rfl rfl (lt_b rfl) (ru_indexA (o2 := 5) ar44 rfl rfl rfl (by decide) (by decide) rfl) ?_
  refine SL.ru rfl rfl (lt_b rfl) (ru_load (i := 0) (v := iw (A.r 5)) ts3 rfl rfl rfl (nc_r (by decide))) ?_
  refine SL.ru rfl rfl (lt_b rfl) (ru_eq (b := (((A.r 4) : Int) == (A.r 5))) rfl rfl rfl rfl) ?_
  refine SL.nil ?_
  refine SC.of_SE ?_
  refine SC.norm [(0, pt d 0), (2, iw 0), (3, bo false), (4, iw (A.r 4)), (16, bo (((A.r 4) : Int) == (A.r 5)))] [rBlk d (nc A tv cv) 58, rFrs F tv cv A.tb A.cb] ⟨rfl, rfl, rfl, rfl, rfl, trivial⟩ rfl ?_
  refine SC.both (((A.r 4) : Int) == (A.r 5)) rfl (fun h1 => ?_) (fun h1 => ?_)
  · skip
    refine SC.seq ?_
    refine SC.region ?_
    refine SL.ru rfl rfl (lt_b rfl) (ru_assign rfl rfl) ?_
    refine SL.ru rfl rfl (lt_b rfl) (ru_assign rfl rfl) ?_
    refine SL.nil ?_
    refine SC.of_SE ?_
    refine SC.norm [(0, pt d 0), (2, iw 0), (3, bo false), (4, iw (A.r 4))] [rBlk d (nc A tv cv) 58, rFrs F tv cv A.tb A.cb] ⟨rfl, rfl, rfl, rfl, trivial⟩ rfl ?_
    refine SC.ret ?_
    refine SE.passr ?_
    refine SE.res (.inl rfl) (res2 Try.results22 rfl rfl) fun w1 hI => ?_
    have e : oldF A = (0, false) := by
      try simp at h1
      unfold oldF
      (repeat' split) <;> first | rfl | (exfalso; omega) | (exfalso; simp_all; done) | (exfalso; simp_all; omega)
    rw [e]
    exact ⟨rfl, hI.2⟩
  · skip
    refine SC.skip ?_
    refine SC.of_SE ?_
    refine SC.norm [(0, pt d 0), (2, iw 0), (3, bo false), (4, iw (A.r 4))] [rBlk d (nc A tv cv) 58, rFrs F tv cv A.tb A.cb] ⟨rfl, rfl, rfl, rfl, trivial⟩ rfl ?_
    refine SC.seq ?_
    refine SC.region ?_
    refine SL.ru rfl rfl (lt_b rfl) (ru_move rfl rfl) ?_
    refine SL.ru rfl rfl (lt_b rfl) (ru_move rfl rfl) ?_
    refine SL.ru rfl rfl (lt_b rfl) (ru_nilCheck rfl rfl) ?_
    refine SL.ru rfl rfl (lt_b rfl) (ru_fieldAddr (o2 := 8) fd58_1 rfl rfl rfl) ?_
    refine SL.ru rfl rfl (lt_b rfl) (ru_indexA (o2 := 8 + ((A.r 4).toNat) * 2) ar53 rfl rfl rfl (by omega) (by omega) rfl) ?_
    refine SL.ru rfl rfl (lt_b rfl) (ru_fieldAddr (o2 := (8 + ((A.r 4).toNat) * 2 + 1)) fd52_1 rfl rfl rfl) ?_
    refine SL.ru rfl rfl (lt_b rfl) (ru_load (i := 0) (v := iw (A.tp ((A.r 4).toNat))) ts3 rfl rfl rfl (nc_tp (by omega))) ?_
    refine SL.ru rfl rfl (lt_b rfl) (ru_assign rfl rfl) ?_
    refine SL.ru rfl rfl (lt_b rfl) (ru_assign rfl rfl) ?_
    refine SL.nil ?_
    refine SC.of_SE ?_
    refine SC.norm [(2, iw (A.tp ((A.r 4).toNat))), (3, bo true)] [rBlk d (nc A tv cv) 58, rFrs F tv cv A.tb A.cb] ⟨rfl, rfl, trivial⟩ rfl ?_
    refine SC.ret ?_
    refine SE.res (.inl rfl) (res2 Try.results22 rfl rfl) fun w1 hI => ?_
    have e : oldF A = (A.tp ((A.r 4).toNat), true) := by
      try simp at h1
      unfold oldF
      (repeat' split) <;> first | rfl | (exfalso; omega) | (exfalso; simp_all; done) | (exfalso; simp_all; omega)
    rw [e]
    exact ⟨rfl, hI.2⟩

theorem q_link {w : World} {d : Nat} {F : Nat → Prop} {A : NicA} (hk : NicOk A) (h : NicAt 58 w d F A) (u : Bool) : Calls Try.prog 35 #[pt d 0, bo u] w fun e w' => e = .returned (.tuple #[]) ∧ NicTo 58 w d F (linkF A u) w' := by
  have hok := hk
  obtain ⟨r2, r3, r4, r5, r6, _, _, _⟩ := hok
  obtain ⟨tv, cv, hI⟩ := h.inv 20 (fun b => b = d)
  refine calls_sc (l0 := _) (args := [pt d 0, bo u]) (fun b => b = d) Try.func35 rfl 20 Try.ntmps35 (le_b rfl) hI ?_
  show SC _ _ _ _ [(0, pt d 0), (1, bo u)] [rBlk d (nc A tv cv) 58, rFrs F tv cv A.tb A.cb]
  refine SC.seq ?_
  refine SC.region ?_
  refine SL.ru rfl rfl (lt_b rfl) (ru_assign rfl rfl) ?_
  refine SL.nil ?_
  refine SC.of_SE ?_
  refine SC.norm [(0, pt d 0), (1, bo u), (4, iw 0)] [rBlk d (nc A tv cv) 58, rFrs F tv cv A.tb A.cb] ⟨rfl, rfl, rfl, trivial⟩ rfl ?_
  refine SC.seq ?_
  refine SC.seq ?_
  refine SC.region ?_
  refine SL.ru rfl rfl (lt_b rfl) (ru_move rfl rfl) ?_
  refine SL.nil ?_
  refine SC.of_SE ?_
  refine SC.norm [(0, pt d 0), (4, iw 0), (5, bo u)] [rBlk d (nc A tv cv) 58, rFrs F tv cv A.tb A.cb] ⟨rfl, rfl, rfl, trivial⟩ rfl ?_
  refine SC.both u rfl (fun h1 => ?_) (fun h1 => ?_)
  · skip
    refine SC.region ?_
    refine SL.ru rfl rfl (lt_b rfl) (ru_assign rfl rfl) ?_
    refine SL.nil ?_
    refine SC.of_SE ?_
    refine SC.norm [(0, pt d 0), (4, iw 1)] [rBlk d (nc A tv cv) 58, rFrs F tv cv A.tb A.cb] ⟨rfl, rfl, trivial⟩ rfl ?_
    refine SC.seq ?_
    refine SC.region ?_
    refine SL.ru rfl rfl (lt_b rfl) (ru_move rfl rfl) ?_
    refine SL.ru rfl rfl (lt_b rfl) (ru_nilCheck rfl rfl) ?_
    refine SL.ru rfl rfl (lt_b rfl) (ru_fieldAddr (o2 := 0) fd58_0 rfl rfl rfl) ?_
    refine SL.ru rfl rfl (lt_b rfl) (ru_indexA (o2 := 1) ar44 rfl rfl rfl (by decide) (by decide) rfl) ?_
    refine SL.ru rfl rfl (lt_b rfl) (ru_load (i := 0) (v := iw (A.r 1)) ts3 rfl rfl rfl (nc_r (by decide))) ?_
    refine SL.ru rfl rfl (lt_b rfl) (ru_move rfl rfl) ?_
    refine SL.ru rfl rfl (lt_b rfl) (ru_ne (b := (((A.r 1) : Int) != 1)) rfl rfl rfl rfl) ?_
    refine SL.nil ?_
    refine SC.of_SE ?_
    refine SC.norm [(0, pt d 0), (4, iw 1), (12, bo (((A.r 1) : Int) != 1))] [rBlk d (nc A tv cv) 58, rFrs F tv cv A.tb A.cb] ⟨rfl, rfl, rfl, trivial⟩ rfl ?_
    refine SC.both (((A.r 1) : Int) != 1) rfl (fun h2 => ?_) (fun h2 => ?_)
    · skip
      refine SC.seq ?_
      refine SC.region ?_
      refine SL.ru rfl rfl (lt_b rfl) (ru_move rfl rfl) ?_
      refine SL.ru rfl rfl (lt_b rfl) (ru_move rfl rfl) ?_
      refine SL.ru rfl rfl (lt_b rfl) (ru_nilCheck rfl rfl) ?_
      refine SL.ru rfl rfl (lt_b rfl) (ru_fieldAddr (o2 := 0) fd58_0 rfl rfl rfl) ?_
      refine SL.ru rfl rfl (lt_b rfl) (ru_indexA (o2 := 1) ar44 rfl rfl rfl (by decide) (by decide) rfl) ?_
      refine SL.store (i := 0) (c' := (nc { A with r := up A.r 1 1 } tv cv)) rfl rfl ts3 rfl rfl rfl rfl rfl (by rw [nc_len]; omega) (.inl rfl) (set_r (by decide) 1) ?_
      refine SL.nil ?_
      refine SC.of_SE ?_
      refine SC.norm [(0, pt d 0)] [rBlk d (nc { A with r := up A.r 1 1 } tv cv) 58, rFrs F tv cv A.tb A.cb] ⟨rfl, trivial⟩ rfl ?_
      refine SC.region ?_
      refine SL.ru rfl rfl (lt_b rfl) (ru_move rfl rfl) ?_
      refine SL.call (ζ := Unit) (fun _ => Value.tuple #[]) (fun _ => [rBlk d (nc { A with r := up (up A.r 1 1) 6 (ev (A.r 6) 4) } tv cv) 58, rFrs F tv cv A.tb A.cb]) (fun _ => True) rfl rfl co38 rfl rfl rfl (lt_b rfl) (fun w hI => (q_event4 (A := { A with r := up A.r 1 1 }) r6 (hI.1.get (i := 0) rfl)).mono fun e w2 ⟨h1, h2, h3⟩ => ⟨(), h1, hI.upd (i := 0) rfl h3 (fun b hb => .inl hb) h2 (fun b hb => .inl hb), trivial⟩) ?_
      intro _ _
      refine SL.nil ?_
      refine SE.res (.inr rfl) (res0 Try.results35) fun w1 hI => ?_
      have e : linkF A u = { A with r := up (up A.r 1 1) 6 (ev (A.r 6) 4) } := by
        try simp at h1 h2
        unfold linkF
        (repeat' split) <;> first | rfl | (exfalso; omega) | (exfalso; simp_all; done) | (exfalso; simp_all; omega)
      rw [e]
      exact ⟨rfl, NicAt.fin hI⟩
    · skip
      refine SC.skip ?_
      refine SE.res (.inr rfl) (res0 Try.results35) fun w1 hI => ?_
      have e : linkF A u = A := by
        try simp at h1 h2
        unfold linkF
        (repeat' split) <;> first | rfl | (exfalso; omega) | (exfalso; simp_all; done) | (exfalso; simp_all; omega)
      rw [e]
      exact ⟨rfl, NicAt.fin hI⟩
  · skip
    refine SC.skip ?_
    refine SC.of_SE ?_
    refine SC.norm [(0, pt d 0), (4, iw 0)] [rBlk d (nc A tv cv) 58, rFrs F tv cv A.tb A.cb] ⟨rfl, rfl, trivial⟩ rfl ?_
    refine SC.seq ?_
    refine SC.region ?_
    refine SL.ru rfl rfl (lt_b rfl) (ru_move rfl rfl) ?_
    refine SL.ru rfl rfl (lt_b rfl) (ru_nilCheck rfl rfl) ?_
    refine SL.ru rfl rfl (lt_b rfl) (ru_fieldAddr (o2 := 0) fd58_0 rfl rfl rfl) ?_
    refine SL.ru rfl rfl (lt_b rfl) (ru_indexA (o2 := 1) ar44 rfl rfl rfl (by decide) (by decide) rfl) ?_
    refine SL.ru rfl rfl (lt_b rfl) (ru_load (i := 0) (v := iw (A.r 1)) ts3 rfl rfl rfl (nc_r (by decide))) ?_
    refine SL.ru rfl rfl (lt_b rfl) (ru_move rfl rfl) ?_
    refine SL.ru rfl rfl (lt_b rfl) (ru_ne (b := (((A.r 1) : Int) != 0)) rfl rfl rfl rfl) ?_
    refine SL.nil ?_
    refine SC.of_SE ?_
    refine SC.norm [(0, pt d 0), (4, iw 0), (12, bo (((A.r 1) : Int) != 0))] [rBlk d (nc A tv cv) 58, rFrs F tv cv A.tb A.cb] ⟨rfl, rfl, rfl, trivial⟩ rfl ?_
    refine SC.both (((A.r 1) : Int) != 0) rfl (fun h3 => ?_) (fun h3 => ?_)
    · skip
      refine SC.seq ?_
      refine SC.region ?_
      refine SL.ru rfl rfl (lt_b rfl) (ru_move rfl rfl) ?_
      refine SL.ru rfl rfl (lt_b rfl) (ru_move rfl rfl) ?_
      refine SL.ru rfl rfl (lt_b rfl) (ru_nilCheck rfl rfl) ?_
      refine SL.ru rfl rfl (lt_b rfl) (ru_fieldAddr (o2 := 0) fd58_0 rfl rfl rfl) ?_
      refine SL.ru rfl rfl (lt_b rfl) (ru_indexA (o2 := 1) ar44 rfl rfl rfl (by decide) (by decide) rfl) ?_
      refine SL.store (i := 0) (c' := (nc { A with r := up A.r 1 0 } tv cv)) rfl rfl ts3 rfl rfl rfl rfl rfl (by rw [nc_len]; omega) (.inl rfl) (set_r (by decide) 0) ?_
      refine SL.nil ?_
      refine SC.of_SE ?_
      refine SC.norm [(0, pt d 0)] [rBlk d (nc { A with r := up A.r 1 0 } tv cv) 58, rFrs F tv cv A.tb A.cb] ⟨rfl, trivial⟩ rfl ?_
      refine SC.region ?_
      refine SL.ru rfl rfl (lt_b rfl) (ru_move rfl rfl) ?_
      refine SL.call (ζ := Unit) (fun _ => Value.tuple #[]) (fun _ => [rBlk d (nc { A with r := up (up A.r 1 0) 6 (ev (A.r 6) 4) } tv cv) 58, rFrs F tv cv A.tb A.cb]) (fun _ => True) rfl rfl co38 rfl rfl rfl (lt_b rfl) (fun w hI => (q_event4 (A := { A with r := up A.r 1 0 }) r6 (hI.1.get (i := 0) rfl)).mono fun e w2 ⟨h1, h2, h3⟩ => ⟨(), h1, hI.upd (i := 0) rfl h3 (fun b hb => .inl hb) h2 (fun b hb => .inl hb), trivial⟩) ?_
      intro _ _
      refine SL.nil ?_
      refine SE.res (.inr rfl) (res0 Try.results35) fun w1 hI => ?_
      have e : linkF A u = { A with r := up (up A.r 1 0) 6 (ev (A.r 6) 4) } := by
        try simp at h1 h3
        unfold linkF
        (repeat' split) <;> first | rfl | (exfalso; omega) | (exfalso; simp_all; done) | (exfalso; simp_all; omega)
      rw [e]
      exact ⟨rfl, NicAt.fin hI⟩
    · skip
      refine SC.skip ?_
      refine SE.res (.inr rfl) (res0 Try.results35) fun w1 hI => ?_
      have e : linkF A u = A := by
        try simp at h1 h3
        unfold linkF
        (repeat' split) <;> first | rfl | (exfalso; omega) | (exfalso; simp_all; done) | (exfalso; simp_all; omega)
      rw [e]
      exact ⟨rfl, NicAt.fin hI⟩

end Go.Proofs.Ytloejpkefoagfaa
