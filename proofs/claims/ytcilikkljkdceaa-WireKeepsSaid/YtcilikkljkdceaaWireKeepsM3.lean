/-
  What the proof of WireKeeps stands on, part 3: each theorem by itself, under the conditions that it names.
-/
import Derived.Test.YtcilikkljkdceaaWireKeepsM2
/-
  What a device's other calls do (the reference's).
-/
namespace Go.Proofs.Ytcilikkljkdceaa
open Go.RowKit
set_option maxRecDepth 100000
set_option maxHeartbeats 4000000
theorem q_settx {w : World} {d : Nat} {F : Nat → Prop} {A : NicA} (hk : NicOk A) (h : NicAt 100 w d F A) {v : Value} {f : List UInt8} (hb : BytesAt w v f) (hs : sliceIn v (fun b => ¬ b = d)) (i : Int) : Calls Try.prog 57 #[pt d 0, iw i, v] w fun e w' => e = .returned (iw (setTxF A i f).1) ∧ NicTo 100 w d F (setTxF A i f).2 w' := by
  have hok := hk
  obtain ⟨r2, r3, r4, r5, r6, _, _, _⟩ := hok
  obtain ⟨a, c, rfl⟩ := hb.form
  have hbl := hb.len
  obtain ⟨tv, cv, hI⟩ := h.inv 41 (fun b => b = d)
  refine calls_sc (l0 := _) (args := [pt d 0, iw i, Value.slice a f.length c]) (fun b => b = d) Try.func57 rfl 41 Try.ntmps57 (le_b rfl) hI ?_
  show SC _ _ _ _ [(0, pt d 0), (1, iw i), (2, Value.slice a f.length c)] [rBlk d (nc A tv cv) 100, rFrs F tv cv A.tb A.cb]
  refine SC.sr ?_
  refine SL.as ?_
  refine SL.nl ?_
  refine SC.seq ?_
  refine SC.sr ?_
  refine SL.mv ?_
  refine SL.uu (ru_lt (b := (decide ((i : Int) < 0))) rfl rfl rfl rfl) ?_
  refine SL.mv ?_
  refine SL.join 3 [(0, pt d 0), (1, iw i), (2, Value.slice a f.length c), (6, iw 0), (8, iw i), (9, bo (decide ((i : Int) < 0))), (10, bo (decide ((i : Int) < 0))), (13, bo ((decide ((i : Int) < 0)) || (decide ((16 : Int) ≤ i))))] [rBlk d (nc A tv cv) 100, rFrs F tv cv A.tb A.cb] ?_ ?_
  rotate_left
  · intro K hK
    rcases tf (decide ((i : Int) < 0)) with h1 | h1
    · skip
      refine SL.norm [(0, pt d 0), (1, iw i), (2, Value.slice a f.length c), (6, iw 0), (8, iw i), (9, bo true), (10, bo true)] _ ⟨rfl, rfl, rfl, rfl, rfl, (congrArg (fun x => some (Value.bool x)) h1), (congrArg (fun x => some (Value.bool x)) h1), trivial⟩ rfl ?_
      refine SL.oo ?_
      refine SL.oo ?_
      refine SL.pk (bo true) (undef) ?_
      exact SL.joined hK ⟨rfl, rfl, rfl, rfl, rfl, (congrArg (fun x => some (Value.bool x)) h1.symm), (congrArg (fun x => some (Value.bool x)) h1.symm), (congrArg (fun bx => some (Value.bool (bx || (decide ((16 : Int) ≤ i))))) h1.symm), trivial⟩ rfl
    refine SL.norm [(0, pt d 0), (1, iw i), (2, Value.slice a f.length c), (6, iw 0), (8, iw i), (9, bo false), (10, bo false)] _ ⟨rfl, rfl, rfl, rfl, rfl, (congrArg (fun x => some (Value.bool x)) h1), (congrArg (fun x => some (Value.bool x)) h1), trivial⟩ rfl ?_
    refine SL.gg (ru_move rfl rfl) ?_
    refine SL.gg (ru_ge (b := (decide ((16 : Int) ≤ i))) rfl rfl rfl rfl) ?_
    refine SL.pk (bo true) (bo (decide ((16 : Int) ≤ i))) ?_
    exact SL.joined hK ⟨rfl, rfl, rfl, rfl, rfl, (congrArg (fun x => some (Value.bool x)) h1.symm), (congrArg (fun x => some (Value.bool x)) h1.symm), (congrArg (fun bx => some (Value.bool (bx || (decide ((16 : Int) ≤ i))))) h1.symm), trivial⟩ rfl
  skip
  refine SL.nl ?_
  refine SC.both ((decide ((i : Int) < 0)) || (decide ((16 : Int) ≤ i))) rfl (fun h2 => ?_) (fun h2 => ?_)
  · skip
    have hbd := fun (e : hostB i (A.r 4) (A.r 5) = true) => host_bd e
    refine SC.sr ?_
    refine SL.as ?_
    refine SL.nl ?_
    refine SC.ret ?_
    refine SE.passr ?_
    refine SE.res (.inl rfl) (res1 Try.results57 rfl) fun w1 hI => ?_
    have e : setTxF A i f = (1, A) := by
      try simp at h2
      unfold setTxF
      (repeat' split) <;> first | rfl | (exfalso; omega) | (exfalso; simp_all; done) | (exfalso; simp_all; omega)
    rw [e]
    exact ⟨rfl, NicAt.fin hI⟩
  have hi := host_in h2
  refine SC.skip ?_
  refine SC.of_SE ?_
  refine SC.seq ?_
  refine SC.region_quiet (by kernel_rfl) (by kernel_rfl) ?_
  refine SQ.mv ?_
  refine SQ.mv ?_
  refine SQ.nk ?_
  refine SQ.fa 0 fd100_0 ?_
  refine SQ.ia 4 ar68 ?_
  refine SQ.uu (ru_load (i := 0) (v := iw (A.r 4)) ts3 rfl rfl rfl (nc_r (by decide))) ?_
  refine SQ.mv ?_
  refine SQ.nk ?_
  refine SQ.fa 0 fd100_0 ?_
  refine SQ.ia 5 ar68 ?_
  refine SQ.uu (ru_load (i := 0) (v := iw (A.r 5)) ts3 rfl rfl rfl (nc_r (by decide))) ?_
  refine SQ.call (bo (!(hostB i (A.r 4) (A.r 5)))) rfl rfl co72 rfl rfl rfl (lt_b rfl) (fun w hI => H_only hI (devices_any (by omega) (by omega) (by omega))) ?_
  refine SQ.uu (ru_assign rfl rfl) ?_
  refine SQ.nilE ?_
  refine SC.of_SE ?_
  refine SC.seq ?_
  refine SC.sr ?_
  refine SL.mv ?_
  refine SL.nl ?_
  refine SC.both (!(hostB i (A.r 4) (A.r 5))) rfl (fun h3 => ?_) (fun h3 => ?_)
  · skip
    refine SC.sr ?_
    refine SL.as ?_
    refine SL.nl ?_
    refine SC.ret ?_
    refine SE.passr ?_
    refine SE.res (.inl rfl) (res1 Try.results57 rfl) fun w1 hI => ?_
    have e : setTxF A i f = (1, A) := by
      try simp at h2 h3
      unfold setTxF
      (repeat' split) <;> first | rfl | (exfalso; omega) | (exfalso; simp_all; done) | (exfalso; simp_all; omega)
    rw [e]
    exact ⟨rfl, NicAt.fin hI⟩
  refine SC.skip ?_
  refine SC.of_SE ?_
  refine SC.seq ?_
  refine SC.sr ?_
  refine SL.mv ?_
  refine SL.uu (ru_len Try.underlying28 rfl rfl) ?_
  refine SL.uu (ru_eq (b := (((f.length : Int) : Int) == 0)) rfl rfl rfl rfl) ?_
  refine SL.nl ?_
  refine SC.both (((f.length : Int) : Int) == 0) rfl (fun h4 => ?_) (fun h4 => ?_)
  · skip
    refine SC.sr ?_
    refine SL.as ?_
    refine SL.nl ?_
    refine SC.ret ?_
    refine SE.passr ?_
    refine SE.res (.inl rfl) (res1 Try.results57 rfl) fun w1 hI => ?_
    have e : setTxF A i f = (3, A) := by
      try simp at h2 h3 h4
      unfold setTxF
      (repeat' split) <;> first | rfl | (exfalso; omega) | (exfalso; simp_all; done) | (exfalso; simp_all; omega)
    rw [e]
    exact ⟨rfl, NicAt.fin hI⟩
  refine SC.skip ?_
  refine SC.of_SE ?_
  refine SC.seq ?_
  refine SC.sr ?_
  refine SL.mv ?_
  refine SL.uu (ru_len Try.underlying28 rfl rfl) ?_
  refine SL.uu (ru_gt (b := (decide ((274 : Int) < (f.length : Int)))) rfl rfl rfl rfl) ?_
  refine SL.nl ?_
  refine SC.both (decide ((274 : Int) < (f.length : Int))) rfl (fun h5 => ?_) (fun h5 => ?_)
  · skip
    refine SC.sr ?_
    refine SL.as ?_
    refine SL.nl ?_
    refine SC.ret ?_
    refine SE.passr ?_
    refine SE.res (.inl rfl) (res1 Try.results57 rfl) fun w1 hI => ?_
    have e : setTxF A i f = (2, A) := by
      try simp at h2 h3 h4 h5
      unfold setTxF
      (repeat' split) <;> first | rfl | (exfalso; omega) | (exfalso; simp_all; done) | (exfalso; simp_all; omega)
    rw [e]
    exact ⟨rfl, NicAt.fin hI⟩
  refine SC.skip ?_
  refine SC.of_SE ?_
  refine SC.seq ?_
  refine SC.region_app 8 3 (fun t6 => rMine (appV t6 5 f.length) f 5) (by kernel_rfl) (by kernel_rfl) rfl (fun t6 ht6 => ?_)
  refine SS.ru _ CT.base rfl rfl rfl (lt_b rfl) (ru_move rfl rfl) ?_
  refine SS.ru _ CT.base rfl rfl rfl (lt_b rfl) (ru_move rfl rfl) ?_
  refine SS.ru _ CT.base rfl rfl rfl (lt_b rfl) (ru_move rfl rfl) ?_
  refine SS.append0 (f := f) rfl rfl (lt_b rfl) rfl Try.underlying28 (by kernel_rfl) rfl rfl (fun w hI => (hb.only hI.2 hs)) ?_
  refine SS.ru _ CT.base rfl rfl rfl (lt_b rfl) (ru_nilCheck rfl rfl) ?_
  refine SS.ru _ CT.base rfl rfl rfl (lt_b rfl) (ru_fieldAddr (o2 := 8) fd100_1 rfl rfl rfl) ?_
  refine SS.ru _ CT.base rfl rfl rfl (lt_b rfl) (ru_indexA (o2 := 8 + i.toNat * 2) ar95 rfl rfl rfl (by omega) (by omega) rfl) ?_
  refine SS.ru _ CT.base rfl rfl rfl (lt_b rfl) (ru_fieldAddr (o2 := (8 + i.toNat * 2)) fd94_0 rfl rfl rfl) ?_
  refine SS.nilT ?_
  refine SL.store (i := 0) (c' := (nc A (up tv i.toNat (Value.slice (appA t6 f.length) f.length (appC t6 5 f.length))) cv)) rfl rfl ts28 rfl rfl rfl rfl rfl (by rw [nc_len]; omega) (.inl rfl) (set_tv (by omega) (Value.slice (appA t6 f.length) f.length (appC t6 5 f.length))) ?_
  refine SL.nl ?_
  refine SC.sr ?_
  refine SL.as ?_
  refine SL.nl ?_
  refine SC.ret ?_
  refine SE.res (.inl rfl) (res1 Try.results57 rfl) fun w1 hI => ?_
  have e : setTxF A i f = (0, { A with tb := up A.tb i.toNat f }) := by
    try simp at h2 h3 h4 h5
    unfold setTxF
    (repeat' split) <;> first | rfl | (exfalso; omega) | (exfalso; simp_all; done) | (exfalso; simp_all; omega)
  rw [e]
  exact ⟨rfl, NicAt.fin_txM hbl (appV_new ht6) hI⟩

theorem q_setrx {w : World} {d : Nat} {F : Nat → Prop} {A : NicA} (hk : NicOk A) (h : NicAt 100 w d F A) (i room : Int) : Calls Try.prog 75 #[pt d 0, iw i, iw room] w fun e w' => e = .returned (iw (setRxF A i room).1) ∧ NicTo 100 w d F (setRxF A i room).2 w' := by
  have hok := hk
  obtain ⟨r2, r3, r4, r5, r6, _, _, _⟩ := hok
  obtain ⟨tv, cv, hI⟩ := h.inv 42 (fun b => b = d)
  refine calls_sc (l0 := _) (args := [pt d 0, iw i, iw room]) (fun b => b = d) Try.func75 rfl 42 Try.ntmps75 (le_b rfl) hI ?_
  show SC _ _ _ _ [(0, pt d 0), (1, iw i), (2, iw room)] [rBlk d (nc A tv cv) 100, rFrs F tv cv A.tb A.cb]
  refine SC.sr ?_
  refine SL.as ?_
  refine SL.nl ?_
  refine SC.seq ?_
  refine SC.sr ?_
  refine SL.mv ?_
  refine SL.uu (ru_lt (b := (decide ((i : Int) < 0))) rfl rfl rfl rfl) ?_
  refine SL.mv ?_
  refine SL.join 3 [(0, pt d 0), (1, iw i), (2, iw room), (6, iw 0), (8, iw i), (9, bo (decide ((i : Int) < 0))), (10, bo (decide ((i : Int) < 0))), (13, bo ((decide ((i : Int) < 0)) || (decide ((16 : Int) ≤ i))))] [rBlk d (nc A tv cv) 100, rFrs F tv cv A.tb A.cb] ?_ ?_
  rotate_left
  · intro K hK
    rcases tf (decide ((i : Int) < 0)) with h1 | h1
    · skip
      refine SL.norm [(0, pt d 0), (1, iw i), (2, iw room), (6, iw 0), (8, iw i), (9, bo true), (10, bo true)] _ ⟨rfl, rfl, rfl, rfl, rfl, (congrArg (fun x => some (Value.bool x)) h1), (congrArg (fun x => some (Value.bool x)) h1), trivial⟩ rfl ?_
      refine SL.oo ?_
      refine SL.oo ?_
      refine SL.pk (bo true) (undef) ?_
      exact SL.joined hK ⟨rfl, rfl, rfl, rfl, rfl, (congrArg (fun x => some (Value.bool x)) h1.symm), (congrArg (fun x => some (Value.bool x)) h1.symm), (congrArg (fun bx => some (Value.bool (bx || (decide ((16 : Int) ≤ i))))) h1.symm), trivial⟩ rfl
    refine SL.norm [(0, pt d 0), (1, iw i), (2, iw room), (6, iw 0), (8, iw i), (9, bo false), (10, bo false)] _ ⟨rfl, rfl, rfl, rfl, rfl, (congrArg (fun x => some (Value.bool x)) h1), (congrArg (fun x => some (Value.bool x)) h1), trivial⟩ rfl ?_
    refine SL.gg (ru_move rfl rfl) ?_
    refine SL.gg (ru_ge (b := (decide ((16 : Int) ≤ i))) rfl rfl rfl rfl) ?_
    refine SL.pk (bo true) (bo (decide ((16 : Int) ≤ i))) ?_
    exact SL.joined hK ⟨rfl, rfl, rfl, rfl, rfl, (congrArg (fun x => some (Value.bool x)) h1.symm), (congrArg (fun x => some (Value.bool x)) h1.symm), (congrArg (fun bx => some (Value.bool (bx || (decide ((16 : Int) ≤ i))))) h1.symm), trivial⟩ rfl
  skip
  refine SL.mv ?_
  refine SL.join 3 [(0, pt d 0), (1, iw i), (2, iw room), (6, iw 0), (8, iw i), (9, bo (decide ((i : Int) < 0))), (10, bo (decide ((i : Int) < 0))), (13, bo ((decide ((i : Int) < 0)) || (decide ((16 : Int) ≤ i)))), (14, bo ((decide ((i : Int) < 0)) || (decide ((16 : Int) ≤ i)))), (17, bo (((decide ((i : Int) < 0)) || (decide ((16 : Int) ≤ i))) || (decide ((room : Int) < 0))))] [rBlk d (nc A tv cv) 100, rFrs F tv cv A.tb A.cb] ?_ ?_
  rotate_left
  · intro K hK
    rcases tf ((decide ((i : Int) < 0)) || (decide ((16 : Int) ≤ i))) with h2 | h2
    · skip
      refine SL.norm [(0, pt d 0), (1, iw i), (2, iw room), (6, iw 0), (8, iw i), (9, bo (decide ((i : Int) < 0))), (10, bo (decide ((i : Int) < 0))), (13, bo true), (14, bo true)] _ ⟨rfl, rfl, rfl, rfl, rfl, rfl, rfl, (congrArg (fun x => some (Value.bool x)) h2), (congrArg (fun x => some (Value.bool x)) h2), trivial⟩ rfl ?_
      refine SL.oo ?_
      refine SL.oo ?_
      refine SL.pk (bo true) (undef) ?_
      exact SL.joined hK ⟨rfl, rfl, rfl, rfl, rfl, rfl, rfl, (congrArg (fun x => some (Value.bool x)) h2.symm), (congrArg (fun x => some (Value.bool x)) h2.symm), (congrArg (fun bx => some (Value.bool (bx || (decide ((room : Int) < 0))))) h2.symm), trivial⟩ rfl
    refine SL.norm [(0, pt d 0), (1, iw i), (2, iw room), (6, iw 0), (8, iw i), (9, bo (decide ((i : Int) < 0))), (10, bo (decide ((i : Int) < 0))), (13, bo false), (14, bo false)] _ ⟨rfl, rfl, rfl, rfl, rfl, rfl, rfl, (congrArg (fun x => some (Value.bool x)) h2), (congrArg (fun x => some (Value.bool x)) h2), trivial⟩ rfl ?_
    refine SL.gg (ru_move rfl rfl) ?_
    refine SL.gg (ru_lt (b := (decide ((room : Int) < 0))) rfl rfl rfl rfl) ?_
    refine SL.pk (bo true) (bo (decide ((room : Int) < 0))) ?_
    exact SL.joined hK ⟨rfl, rfl, rfl, rfl, rfl, rfl, rfl, (congrArg (fun x => some (Value.bool x)) h2.symm), (congrArg (fun x => some (Value.bool x)) h2.symm), (congrArg (fun bx => some (Value.bool (bx || (decide ((room : Int) < 0))))) h2.symm), trivial⟩ rfl
  skip
  refine SL.mv ?_
  refine SL.join 3 [(0, pt d 0), (1, iw i), (2, iw room), (6, iw 0), (8, iw i), (9, bo (decide ((i : Int) < 0))), (10, bo (decide ((i : Int) < 0))), (13, bo ((decide ((i : Int) < 0)) || (decide ((16 : Int) ≤ i)))), (14, bo ((decide ((i : Int) < 0)) || (decide ((16 : Int) ≤ i)))), (17, bo (((decide ((i : Int) < 0)) || (decide ((16 : Int) ≤ i))) || (decide ((room : Int) < 0)))), (18, bo (((decide ((i : Int) < 0)) || (decide ((16 : Int) ≤ i))) || (decide ((room : Int) < 0)))), (21, bo ((((decide ((i : Int) < 0)) || (decide ((16 : Int) ≤ i))) || (decide ((room : Int) < 0))) || (decide ((65535 : Int) < room))))] [rBlk d (nc A tv cv) 100, rFrs F tv cv A.tb A.cb] ?_ ?_
  rotate_left
  · intro K hK
    rcases tf (((decide ((i : Int) < 0)) || (decide ((16 : Int) ≤ i))) || (decide ((room : Int) < 0))) with h3 | h3
    · skip
      refine SL.norm [(0, pt d 0), (1, iw i), (2, iw room), (6, iw 0), (8, iw i), (9, bo (decide ((i : Int) < 0))), (10, bo (decide ((i : Int) < 0))), (13, bo ((decide ((i : Int) < 0)) || (decide ((16 : Int) ≤ i)))), (14, bo ((decide ((i : Int) < 0)) || (decide ((16 : Int) ≤ i)))), (17, bo true), (18, bo true)] _ ⟨rfl, rfl, rfl, rfl, rfl, rfl, rfl, rfl, rfl, (congrArg (fun x => some (Value.bool x)) h3), (congrArg (fun x => some (Value.bool x)) h3), trivial⟩ rfl ?_
      refine SL.oo ?_
      refine SL.oo ?_
      refine SL.pk (bo true) (undef) ?_
      exact SL.joined hK ⟨rfl, rfl, rfl, rfl, rfl, rfl, rfl, rfl, rfl, (congrArg (fun x => some (Value.bool x)) h3.symm), (congrArg (fun x => some (Value.bool x)) h3.symm), (congrArg (fun bx => some (Value.bool (bx || (decide ((65535 : Int) < room))))) h3.symm), trivial⟩ rfl
    refine SL.norm [(0, pt d 0), (1, iw i), (2, iw room), (6, iw 0), (8, iw i), (9, bo (decide ((i : Int) < 0))), (10, bo (decide ((i : Int) < 0))), (13, bo ((decide ((i : Int) < 0)) || (decide ((16 : Int) ≤ i)))), (14, bo ((decide ((i : Int) < 0)) || (decide ((16 : Int) ≤ i)))), (17, bo false), (18, bo false)] _ ⟨rfl, rfl, rfl, rfl, rfl, rfl, rfl, rfl, rfl, (congrArg (fun x => some (Value.bool x)) h3), (congrArg (fun x => some (Value.bool x)) h3), trivial⟩ rfl ?_
    refine SL.gg (ru_move rfl rfl) ?_
    refine SL.gg (ru_gt (b := (decide ((65535 : Int) < room))) rfl rfl rfl rfl) ?_
    refine SL.pk (bo true) (bo (decide ((65535 : Int) < room))) ?_
    exact SL.joined hK ⟨rfl, rfl, rfl, rfl, rfl, rfl, rfl, rfl, rfl, (congrArg (fun x => some (Value.bool x)) h3.symm), (congrArg (fun x => some (Value.bool x)) h3.symm), (congrArg (fun bx => some (Value.bool (bx || (decide ((65535 : Int) < room))))) h3.symm), trivial⟩ rfl
  skip
  refine SL.nl ?_
  refine SC.both ((((decide ((i : Int) < 0)) || (decide ((16 : Int) ≤ i))) || (decide ((room : Int) < 0))) || (decide ((65535 : Int) < room))) rfl (fun h4 => ?_) (fun h4 => ?_)
  · skip
    have hbd := fun (e : hostB i (A.r 2) (A.r 3) = true) => host_bd e
    refine SC.sr ?_
    refine SL.as ?_
    refine SL.nl ?_
    refine SC.ret ?_
    refine SE.passr ?_
    refine SE.res (.inl rfl) (res1 Try.results75 rfl) fun w1 hI => ?_
    have e : setRxF A i room = (1, A) := by
      try simp at h4
      unfold setRxF
      (repeat' split) <;> first | rfl | (exfalso; omega) | (exfalso; simp_all; done) | (exfalso; simp_all; omega)
    rw [e]
    exact ⟨rfl, NicAt.fin hI⟩
  have hi := host_in3 h4
  refine SC.skip ?_
  refine SC.of_SE ?_
  refine SC.seq ?_
  refine SC.region_quiet (by kernel_rfl) (by kernel_rfl) ?_
  refine SQ.mv ?_
  refine SQ.mv ?_
  refine SQ.nk ?_
  refine SQ.fa 0 fd100_0 ?_
  refine SQ.ia 2 ar68 ?_
  refine SQ.uu (ru_load (i := 0) (v := iw (A.r 2)) ts3 rfl rfl rfl (nc_r (by decide))) ?_
  refine SQ.mv ?_
  refine SQ.nk ?_
  refine SQ.fa 0 fd100_0 ?_
  refine SQ.ia 3 ar68 ?_
  refine SQ.uu (ru_load (i := 0) (v := iw (A.r 3)) ts3 rfl rfl rfl (nc_r (by decide))) ?_
  refine SQ.call (bo (!(hostB i (A.r 2) (A.r 3)))) rfl rfl co72 rfl rfl rfl (lt_b rfl) (fun w hI => H_only hI (devices_any (by omega) (by omega) (by omega))) ?_
  refine SQ.uu (ru_assign rfl rfl) ?_
  refine SQ.nilE ?_
  refine SC.of_SE ?_
  refine SC.seq ?_
  refine SC.sr ?_
  refine SL.mv ?_
  refine SL.nl ?_
  refine SC.both (!(hostB i (A.r 2) (A.r 3))) rfl (fun h5 => ?_) (fun h5 => ?_)
  · skip
    refine SC.sr ?_
    refine SL.as ?_
    refine SL.nl ?_
    refine SC.ret ?_
    refine SE.passr ?_
    refine SE.res (.inl rfl) (res1 Try.results75 rfl) fun w1 hI => ?_
    have e : setRxF A i room = (1, A) := by
      try simp at h4 h5
      unfold setRxF
      (repeat' split) <;> first | rfl | (exfalso; omega) | (exfalso; simp_all; done) | (exfalso; simp_all; omega)
    rw [e]
    exact ⟨rfl, NicAt.fin hI⟩
  refine SC.skip ?_
  refine SC.of_SE ?_
  refine SC.sr ?_
  refine SL.mv ?_
  refine SL.mv ?_
  refine SL.mv ?_
  refine SL.uu (ru_build (vals := [(0, iw room)]) (cells := [iw room, bo false, Value.slice none 0 0, bo false]) rfl rfl (by kernel_rfl)) ?_
  refine SL.nk ?_
  refine SL.fa 40 fd100_2 ?_
  refine SL.uu (ru_indexA (o2 := 40 + i.toNat * 4) ar98 rfl rfl rfl (by omega) (by omega) rfl) ?_
  refine SL.storea (i := 0) (vs := [iw room, bo false, Value.slice none 0 0, bo false]) (c' := (nc { A with room := up A.room i.toNat room, has := up A.has i.toNat false, bad := up A.bad i.toNat false } tv (up cv i.toNat (Value.slice none 0 0)))) rfl rfl ta97 rfl rfl rfl rfl rfl rfl (by rw [nc_len]; simp; omega) (.inl rfl) (set_rx (by omega) room false false (Value.slice none 0 0)) ?_
  refine SL.nl ?_
  refine SC.sr ?_
  refine SL.as ?_
  refine SL.nl ?_
  refine SC.ret ?_
  refine SE.res (.inl rfl) (res1 Try.results75 rfl) fun w1 hI => ?_
  have e : setRxF A i room = (0, { A with cb := up A.cb i.toNat [], room := up A.room i.toNat room, has := up A.has i.toNat false, bad := up A.bad i.toNat false }) := by
    try simp at h4 h5
    unfold setRxF
    (repeat' split) <;> first | rfl | (exfalso; omega) | (exfalso; simp_all; done) | (exfalso; simp_all; omega)
  rw [e]
  exact ⟨rfl, NicAt.fin_no hI⟩

theorem q_give {w : World} {d : Nat} {F : Nat → Prop} {A : NicA} (hk : NicOk A) (h : NicAt 100 w d F A) {v : Value} {f : List UInt8} (hb : BytesAt w v f) (hs : sliceIn v (fun b => ¬ b = d)) (bad : Bool) : Calls Try.prog 62 #[pt d 0, v, bo bad] w fun e w' => e = .returned (iw (giveF A f bad).1) ∧ NicTo 100 w d F (giveF A f bad).2 w' := by
  have hok := hk
  obtain ⟨r2, r3, r4, r5, r6, _, _, _⟩ := hok
  obtain ⟨a, c, rfl⟩ := hb.form
  have hbl := hb.len
  obtain ⟨tv, cv, hI⟩ := h.inv 77 (fun b => b = d)
  refine calls_sc (l0 := _) (args := [pt d 0, Value.slice a f.length c, bo bad]) (fun b => b = d) Try.func62 rfl 77 Try.ntmps62 (le_b rfl) hI ?_
  show SC _ _ _ _ [(0, pt d 0), (1, Value.slice a f.length c), (2, bo bad)] [rBlk d (nc A tv cv) 100, rFrs F tv cv A.tb A.cb]
  refine SC.sr ?_
  refine SL.as ?_
  refine SL.nl ?_
  refine SC.sr ?_
  refine SL.mv ?_
  refine SL.callv (bo (offB A)) rfl rfl co73 rfl rfl rfl (lt_b rfl) (fun w hI => H_only hI (q_off hk (NicAt.of hI))) ?_
  refine SL.as ?_
  refine SL.nl ?_
  refine SC.seq ?_
  refine SC.sr ?_
  refine SL.mv ?_
  refine SL.nl ?_
  refine SC.both (offB A) rfl (fun h1 => ?_) (fun h1 => ?_)
  · skip
    refine SC.sr ?_
    refine SL.as ?_
    refine SL.nl ?_
    refine SC.ret ?_
    refine SE.passr ?_
    refine SE.res (.inl rfl) (res1 Try.results62 rfl) fun w1 hI => ?_
    have e : giveF A f bad = (20, A) := by
      try simp at h1
      unfold giveF
      (repeat' split) <;> first | rfl | (exfalso; omega) | (exfalso; simp_all; done) | (exfalso; simp_all; omega)
    rw [e]
    exact ⟨rfl, NicAt.fin hI⟩
  refine SC.skip ?_
  refine SC.of_SE ?_
  refine SC.sr ?_
  refine SL.mv ?_
  refine SL.nk ?_
  refine SL.fa 0 fd100_0 ?_
  refine SL.ia 2 ar68 ?_
  refine SL.uu (ru_load (i := 0) (v := iw (A.r 2)) ts3 rfl rfl rfl (nc_r (by decide))) ?_
  refine SL.as ?_
  refine SL.nl ?_
  refine SC.seq ?_
  refine SC.sr ?_
  refine SL.mv ?_
  refine SL.mv ?_
  refine SL.nk ?_
  refine SL.fa 0 fd100_0 ?_
  refine SL.ia 3 ar68 ?_
  refine SL.uu (ru_load (i := 0) (v := iw (A.r 3)) ts3 rfl rfl rfl (nc_r (by decide))) ?_
  refine SL.uu (ru_eq (b := (((A.r 2) : Int) == (A.r 3))) rfl rfl rfl rfl) ?_
  refine SL.nl ?_
  refine SC.both (((A.r 2) : Int) == (A.r 3)) rfl (fun h2 => ?_) (fun h2 => ?_)
  · skip
    refine SC.seq ?_
    refine SC.region_tail 9 (by kernel_rfl) (by kernel_rfl) ?_
    refine SQ.mv ?_
    refine SQ.nk ?_
    refine SQ.fa 0 fd100_0 ?_
    refine SQ.ia 7 ar68 ?_
    refine SQ.uu (ru_load (i := 0) (v := iw (A.r 7)) ts3 rfl rfl rfl (nc_r (by decide))) ?_
    refine SQ.uu (ru_add (r := (IntKind.i64.wrap ((A.r 7) + 1))) rfl rfl rfl rfl) ?_
    refine SQ.nk ?_
    refine SQ.fa 0 fd100_0 ?_
    refine SQ.ia 7 ar68 ?_
    refine SQ.nilL ?_
    refine SL.store (i := 0) (c' := (nc { A with r := up A.r 7 (IntKind.i64.wrap ((A.r 7) + 1)) } tv cv)) rfl rfl ts3 rfl rfl rfl rfl rfl (by rw [nc_len]; omega) (.inl rfl) (set_r (by decide) (IntKind.i64.wrap ((A.r 7) + 1))) ?_
    refine SL.nl ?_
    refine SC.sr ?_
    refine SL.as ?_
    refine SL.nl ?_
    refine SC.ret ?_
    refine SE.passr ?_
    refine SE.res (.inl rfl) (res1 Try.results62 rfl) fun w1 hI => ?_
    have e : giveF A f bad = (21, { A with r := up A.r 7 (IntKind.i64.wrap ((A.r 7) + 1)) }) := by
      try simp at h1 h2
      unfold giveF
      (repeat' split) <;> first | rfl | (exfalso; omega) | (exfalso; simp_all; done) | (exfalso; simp_all; omega)
    rw [e]
    exact ⟨rfl, NicAt.fin hI⟩
  refine SC.skip ?_
  refine SC.of_SE ?_
  refine SC.seq ?_
  refine SC.sr ?_
  refine SL.mv ?_
  refine SL.uu (ru_len Try.underlying28 rfl rfl) ?_
  refine SL.mv ?_
  refine SL.mv ?_
  refine SL.nk ?_
  refine SL.fa 40 fd100_2 ?_
  refine SL.uu (ru_indexA (o2 := 40 + ((A.r 2).toNat) * 4) ar98 rfl rfl rfl (by omega) (by omega) rfl) ?_
  refine SL.fa (40 + ((A.r 2).toNat) * 4) fd97_0 ?_
  refine SL.uu (ru_load (i := 0) (v := iw (A.room ((A.r 2).toNat))) ts3 rfl rfl rfl (nc_room (by omega))) ?_
  refine SL.uu (ru_gt (b := (decide (((A.room ((A.r 2).toNat)) : Int) < (f.length : Int)))) rfl rfl rfl rfl) ?_
  refine SL.nl ?_
  refine SC.both (decide (((A.room ((A.r 2).toNat)) : Int) < (f.length : Int))) rfl (fun h3 => ?_) (fun h3 => ?_)
  · skip
    refine SC.seq ?_
    refine SC.region_tail 9 (by kernel_rfl) (by kernel_rfl) ?_
    refine SQ.mv ?_
    refine SQ.nk ?_
    refine SQ.fa 0 fd100_0 ?_
    refine SQ.ia 7 ar68 ?_
    refine SQ.uu (ru_load (i := 0) (v := iw (A.r 7)) ts3 rfl rfl rfl (nc_r (by decide))) ?_
    refine SQ.uu (ru_add (r := (IntKind.i64.wrap ((A.r 7) + 1))) rfl rfl rfl rfl) ?_
    refine SQ.nk ?_
    refine SQ.fa 0 fd100_0 ?_
    refine SQ.ia 7 ar68 ?_
    refine SQ.nilL ?_
    refine SL.store (i := 0) (c' := (nc { A with r := up A.r 7 (IntKind.i64.wrap ((A.r 7) + 1)) } tv cv)) rfl rfl ts3 rfl rfl rfl rfl rfl (by rw [nc_len]; omega) (.inl rfl) (set_r (by decide) (IntKind.i64.wrap ((A.r 7) + 1))) ?_
    refine SL.nn [(0, pt d 0), (1, Value.slice a f.length c), (2, bo bad), (6, iw 0), (8, iw (A.r 2))] _ ⟨rfl, rfl, rfl, rfl, rfl, trivial⟩ ?_
    refine SC.sr ?_
    refine SL.as ?_
    refine SL.nl ?_
    refine SC.ret ?_
    refine SE.passr ?_
    refine SE.res (.inl rfl) (res1 Try.results62 rfl) fun w1 hI => ?_
    have e : giveF A f bad = (2, { A with r := up A.r 7 (IntKind.i64.wrap ((A.r 7) + 1)) }) := by
      try simp at h1 h2 h3
      unfold giveF
      (repeat' split) <;> first | rfl | (exfalso; omega) | (exfalso; simp_all; done) | (exfalso; simp_all; omega)
    rw [e]
    exact ⟨rfl, NicAt.fin hI⟩
  refine SC.skip ?_
  refine SC.of_SE ?_
  refine SC.seq ?_
  refine SC.region_app 16 10 (fun t4 => rMine (appV t4 5 f.length) f 5) (by kernel_rfl) (by kernel_rfl) rfl (fun t4 ht4 => ?_)
  refine SS.ru _ CT.base rfl rfl rfl (lt_b rfl) (ru_move rfl rfl) ?_
  refine SS.ru _ CT.base rfl rfl rfl (lt_b rfl) (ru_move rfl rfl) ?_
  refine SS.ru _ CT.base rfl rfl rfl (lt_b rfl) (ru_move rfl rfl) ?_
  refine SS.ru _ CT.base rfl rfl rfl (lt_b rfl) (ru_move rfl rfl) ?_
  refine SS.ru _ CT.base rfl rfl rfl (lt_b rfl) (ru_nilCheck rfl rfl) ?_
  refine SS.ru _ CT.base rfl rfl rfl (lt_b rfl) (ru_fieldAddr (o2 := 40) fd100_2 rfl rfl rfl) ?_
  refine SS.ru _ CT.base rfl rfl rfl (lt_b rfl) (ru_indexA (o2 := 40 + ((A.r 2).toNat) * 4) ar98 rfl rfl rfl (by omega) (by omega) rfl) ?_
  refine SS.ru _ CT.base rfl rfl rfl (lt_b rfl) (ru_fieldAddr (o2 := (40 + ((A.r 2).toNat) * 4)) fd97_0 rfl rfl rfl) ?_
  refine SS.ru _ CT.base rfl rfl rfl (lt_b rfl) (ru_load (i := 0) (v := iw (A.room ((A.r 2).toNat))) ts3 rfl rfl rfl (nc_room (by omega))) ?_
  refine SS.ru _ CT.base rfl rfl rfl (lt_b rfl) (ru_move rfl rfl) ?_
  refine SS.append0 (f := f) rfl rfl (lt_b rfl) rfl Try.underlying28 (by kernel_rfl) rfl rfl (fun w hI => (hb.only hI.2 hs)) ?_
  refine SS.ru _ CT.base rfl rfl rfl (lt_b rfl) (ru_move rfl rfl) ?_
  refine SS.ru _ CT.base rfl rfl rfl (lt_b rfl) (ru_build (vals := [(0, iw (A.room ((A.r 2).toNat))), (1, bo true), (2, Value.slice (appA t4 f.length) f.length (appC t4 5 f.length)), (3, bo bad)]) (cells := [iw (A.room ((A.r 2).toNat)), bo true, Value.slice (appA t4 f.length) f.length (appC t4 5 f.length), bo bad]) rfl rfl (by kernel_rfl)) ?_
  refine SS.ru _ CT.base rfl rfl rfl (lt_b rfl) (ru_nilCheck rfl rfl) ?_
  refine SS.ru _ CT.base rfl rfl rfl (lt_b rfl) (ru_fieldAddr (o2 := 40) fd100_2 rfl rfl rfl) ?_
  refine SS.ru _ CT.base rfl rfl rfl (lt_b rfl) (ru_indexA (o2 := 40 + ((A.r 2).toNat) * 4) ar98 rfl rfl rfl (by omega) (by omega) rfl) ?_
  refine SS.nilT ?_
  refine SL.storea (i := 0) (vs := [iw (A.room ((A.r 2).toNat)), bo true, Value.slice (appA t4 f.length) f.length (appC t4 5 f.length), bo bad]) (c' := (nc { A with room := up A.room ((A.r 2).toNat) (A.room ((A.r 2).toNat)), has := up A.has ((A.r 2).toNat) true, bad := up A.bad ((A.r 2).toNat) bad } tv (up cv ((A.r 2).toNat) (Value.slice (appA t4 f.length) f.length (appC t4 5 f.length))))) rfl rfl ta97 rfl rfl rfl rfl rfl rfl (by rw [nc_len]; simp; omega) (.inl rfl) (set_rx (by omega) (A.room ((A.r 2).toNat)) true bad (Value.slice (appA t4 f.length) f.length (appC t4 5 f.length))) ?_
  refine SL.nr [rBlk d (nc { A with room := up A.room ((A.r 2).toNat) (A.room ((A.r 2).toNat)), has := up A.has ((A.r 2).toNat) true, bad := up A.bad ((A.r 2).toNat) bad } tv (up cv ((A.r 2).toNat) (Value.slice (appA t4 f.length) f.length (appC t4 5 f.length)))) 100, rFrs F tv cv A.tb A.cb, rMine (appV t4 5 f.length) f 5] ?_
  refine SC.sr ?_
  refine SL.mv ?_
  refine SL.mv ?_
  refine SL.uu (ru_add (r := (IntKind.i64.wrap ((A.r 2) + 1))) rfl rfl rfl rfl) ?_
  refine SL.uu (ru_rem (r := (nx (A.r 2))) rfl rfl rfl (by decide) (nx_q r2)) ?_
  refine SL.nk ?_
  refine SL.fa 0 fd100_0 ?_
  refine SL.ia 2 ar68 ?_
  refine SL.store (i := 0) (c' := (nc { A with r := up A.r 2 (nx (A.r 2)), room := up A.room ((A.r 2).toNat) (A.room ((A.r 2).toNat)), has := up A.has ((A.r 2).toNat) true, bad := up A.bad ((A.r 2).toNat) bad } tv (up cv ((A.r 2).toNat) (Value.slice (appA t4 f.length) f.length (appC t4 5 f.length))))) rfl rfl ts3 rfl rfl rfl rfl rfl (by rw [nc_len]; omega) (.inl rfl) (set_r (by decide) (nx (A.r 2))) ?_
  refine SL.nl ?_
  refine SC.sr ?_
  refine SL.mv ?_
  refine SL.call (ζ := Unit) (fun _ => Value.tuple #[]) (fun _ => [rBlk d (nc { A with r := up (up A.r 2 (nx (A.r 2))) 6 (ev (A.r 6) 1), room := up A.room ((A.r 2).toNat) (A.room ((A.r 2).toNat)), has := up A.has ((A.r 2).toNat) true, bad := up A.bad ((A.r 2).toNat) bad } tv (up cv ((A.r 2).toNat) (Value.slice (appA t4 f.length) f.length (appC t4 5 f.length)))) 100, rFrs F tv cv A.tb A.cb, rMine (appV t4 5 f.length) f 5]) (fun _ => True) rfl rfl co74 rfl rfl rfl (lt_b rfl) (fun w hI => (q_event1 (A := { A with r := up A.r 2 (nx (A.r 2)), room := up A.room ((A.r 2).toNat) (A.room ((A.r 2).toNat)), has := up A.has ((A.r 2).toNat) true, bad := up A.bad ((A.r 2).toNat) bad }) r6 (hI.1.get (i := 0) rfl)).mono fun e w2 ⟨h1, h2, h3⟩ => ⟨(), h1, hI.upd (i := 0) rfl h3 (fun b hb => .inl hb) h2 (fun b hb => .inl hb), trivial⟩) ?_
  intro _ _
  refine SL.nl ?_
  refine SC.sr ?_
  refine SL.as ?_
  refine SL.nl ?_
  refine SC.ret ?_
  refine SE.res (.inl rfl) (res1 Try.results62 rfl) fun w1 hI => ?_
  have e : giveF A f bad = (0, { A with cb := up A.cb (A.r 2).toNat f, r := up (up A.r 2 (nx (A.r 2))) 6 (ev (A.r 6) 1), room := up A.room ((A.r 2).toNat) (A.room ((A.r 2).toNat)), has := up A.has ((A.r 2).toNat) true, bad := up A.bad ((A.r 2).toNat) bad }) := by
    try simp at h1 h2 h3
    unfold giveF
    (repeat' split) <;> first | rfl | (exfalso; omega) | (exfalso; simp_all; done) | (exfalso; simp_all; omega)
  rw [e]
  exact ⟨rfl, NicAt.fin_rxM hbl (appV_new ht4) hI⟩

theorem q_take {w : World} {d : Nat} {F : Nat → Prop} {A : NicA} (hk : NicOk A) (h : NicAt 100 w d F A)  : Calls Try.prog 59 #[pt d 0] w fun e w' => ∃ v, e = .returned (.tuple #[.agg #[v, bo false, iw (takeR A).1.1.2], iw (takeR A).1.2]) ∧ NicAt 100 w' d F (takeR A).2 ∧ Only (fun b => b = d) w w' ∧ Lent F w' v (takeR A).1.1.1 := by
  have hok := hk
  obtain ⟨r2, r3, r4, r5, r6, _, _, _⟩ := hok
  obtain ⟨tv, cv, hI⟩ := h.inv 47 (fun b => b = d)
  obtain ⟨qa, qc, et⟩ : ∃ qa qc, tv (A.r 4).toNat = .slice qa (A.tb (A.r 4).toNat).length qc := ((show FrsAt w F tv cv A.tb A.cb from hI.1.get (i := 1) rfl).2.1 _ (by omega)).1.form
  refine calls_sc (l0 := _) (args := [pt d 0]) (fun b => b = d) Try.func59 rfl 47 Try.ntmps59 (le_b rfl) hI ?_
  show SC _ _ _ _ [(0, pt d 0)] [rBlk d (nc A tv cv) 100, rFrs F tv cv A.tb A.cb]
  refine SC.sr ?_
  refine SL.alloca rfl rfl (lt_b rfl) ta46 rfl fun b1 hb1 => ?_
  refine SL.as ?_
  refine SL.nl ?_
  refine SC.sr ?_
  refine SL.mv ?_
  refine SL.callv (bo (offB A)) rfl rfl co73 rfl rfl rfl (lt_b rfl) (fun w hI => H_only hI (q_off hk (NicAt.of hI))) ?_
  refine SL.as ?_
  refine SL.nl ?_
  refine SC.seq ?_
  refine SC.sr ?_
  refine SL.mv ?_
  refine SL.nl ?_
  refine SC.both (offB A) rfl (fun h2 => ?_) (fun h2 => ?_)
  · skip
    refine SC.sr ?_
    refine SL.uu (ru_build (vals := []) (cells := [Value.slice none 0 0, bo false, iw 0]) rfl rfl (by kernel_rfl)) ?_
    refine SL.storea (i := 2) (vs := [Value.slice none 0 0, bo false, iw 0]) (c' := [Value.slice none 0 0, bo false, iw 0]) rfl rfl ta46 rfl rfl rfl rfl rfl rfl (le_b rfl) (.inr hb1) rfl ?_
    refine SL.as ?_
    refine SL.nl ?_
    refine SC.ret ?_
    refine SE.passr ?_
    refine SE.res (.inl rfl) (res_ct (z := [Value.slice none 0 0, bo false, iw 0]) (c := [Value.slice none 0 0, bo false, iw 0]) Try.results59 ta46 rfl rfl 2 rfl rfl) fun w1 hI => ?_
    have e : takeR A = ((([], 0), 20), A) := by
      try simp at h2
      unfold takeR
      (repeat' split) <;> first | rfl | (exfalso; omega) | (exfalso; simp_all; done) | (exfalso; simp_all; omega)
    rw [e]
    exact ⟨_, rfl, NicAt.of hI, hI.2, BytesAt.nil _, nil_in⟩
  refine SC.skip ?_
  refine SC.of_SE ?_
  refine SC.sr ?_
  refine SL.mv ?_
  refine SL.nk ?_
  refine SL.fa 0 fd100_0 ?_
  refine SL.ia 4 ar68 ?_
  refine SL.uu (ru_load (i := 0) (v := iw (A.r 4)) ts3 rfl rfl rfl (nc_r (by decide))) ?_
  refine SL.as ?_
  refine SL.nl ?_
  refine SC.seq ?_
  refine SC.sr ?_
  refine SL.mv ?_
  refine SL.mv ?_
  refine SL.nk ?_
  refine SL.fa 0 fd100_0 ?_
  refine SL.ia 5 ar68 ?_
  refine SL.uu (ru_load (i := 0) (v := iw (A.r 5)) ts3 rfl rfl rfl (nc_r (by decide))) ?_
  refine SL.uu (ru_eq (b := (((A.r 4) : Int) == (A.r 5))) rfl rfl rfl rfl) ?_
  refine SL.nl ?_
  refine SC.both (((A.r 4) : Int) == (A.r 5)) rfl (fun h3 => ?_) (fun h3 => ?_)
  · skip
    refine SC.sr ?_
    refine SL.uu (ru_build (vals := []) (cells := [Value.slice none 0 0, bo false, iw 0]) rfl rfl (by kernel_rfl)) ?_
    refine SL.storea (i := 2) (vs := [Value.slice none 0 0, bo false, iw 0]) (c' := [Value.slice none 0 0, bo false, iw 0]) rfl rfl ta46 rfl rfl rfl rfl rfl rfl (le_b rfl) (.inr hb1) rfl ?_
    refine SL.as ?_
    refine SL.nl ?_
    refine SC.ret ?_
    refine SE.passr ?_
    refine SE.res (.inl rfl) (res_ct (z := [Value.slice none 0 0, bo false, iw 0]) (c := [Value.slice none 0 0, bo false, iw 0]) Try.results59 ta46 rfl rfl 2 rfl rfl) fun w1 hI => ?_
    have e : takeR A = ((([], 0), 7), A) := by
      try simp at h2 h3
      unfold takeR
      (repeat' split) <;> first | rfl | (exfalso; omega) | (exfalso; simp_all; done) | (exfalso; simp_all; omega)
    rw [e]
    exact ⟨_, rfl, NicAt.of hI, hI.2, BytesAt.nil _, nil_in⟩
  refine SC.skip ?_
  refine SC.of_SE ?_
  refine SC.sr ?_
  refine SL.mv ?_
  refine SL.mv ?_
  refine SL.uu (ru_add (r := (IntKind.i64.wrap ((A.r 4) + 1))) rfl rfl rfl rfl) ?_
  refine SL.uu (ru_rem (r := (nx (A.r 4))) rfl rfl rfl (by decide) (nx_q r4)) ?_
  refine SL.nk ?_
  refine SL.fa 0 fd100_0 ?_
  refine SL.ia 4 ar68 ?_
  refine SL.store (i := 0) (c' := (nc { A with r := up A.r 4 (nx (A.r 4)) } tv cv)) rfl rfl ts3 rfl rfl rfl rfl rfl (by rw [nc_len]; omega) (.inl rfl) (set_r (by decide) (nx (A.r 4))) ?_
  refine SL.nl ?_
  refine SC.sr ?_
  refine SL.mv ?_
  refine SL.call (ζ := Unit) (fun _ => Value.tuple #[]) (fun _ => [rBlk d (nc { A with r := up (up A.r 4 (nx (A.r 4))) 6 (ev (A.r 6) 2) } tv cv) 100, rFrs F tv cv A.tb A.cb, rBlk b1 [Value.slice none 0 0, bo false, iw 0] 46]) (fun _ => True) rfl rfl co74 rfl rfl rfl (lt_b rfl) (fun w hI => (q_event2 (A := { A with r := up A.r 4 (nx (A.r 4)) }) r6 (hI.1.get (i := 0) rfl)).mono fun e w2 ⟨h1, h2, h3⟩ => ⟨(), h1, hI.upd (i := 0) rfl h3 (fun b hb => .inl hb) h2 (fun b hb => .inl hb), trivial⟩) ?_
  intro _ _
  refine SL.nl ?_
  refine SC.seq ?_
  refine SC.region_tail 15 (by kernel_rfl) (by kernel_rfl) ?_
  refine SQ.mv ?_
  refine SQ.mv ?_
  refine SQ.nk ?_
  refine SQ.fa 8 fd100_1 ?_
  refine SQ.uu (ru_indexA (o2 := 8 + ((A.r 4).toNat) * 2) ar95 rfl rfl rfl (by omega) (by omega) rfl) ?_
  refine SQ.fa (8 + ((A.r 4).toNat) * 2) fd94_0 ?_
  refine SQ.uu (ru_load (i := 0) (v := Value.slice qa ((A.tb (A.r 4).toNat).length) qc) ts28 rfl rfl rfl ((nc_tv (by omega)).trans (congrArg some et))) ?_
  refine SQ.mv ?_
  refine SQ.mv ?_
  refine SQ.nk ?_
  refine SQ.fa 8 fd100_1 ?_
  refine SQ.uu (ru_indexA (o2 := 8 + ((A.r 4).toNat) * 2) ar95 rfl rfl rfl (by omega) (by omega) rfl) ?_
  refine SQ.fa (8 + ((A.r 4).toNat) * 2 + 1) fd94_1 ?_
  refine SQ.uu (ru_load (i := 0) (v := iw (A.tp ((A.r 4).toNat))) ts3 rfl rfl rfl (nc_tp (by omega))) ?_
  refine SQ.uu (ru_build (vals := [(0, Value.slice qa ((A.tb (A.r 4).toNat).length) qc), (2, iw (A.tp ((A.r 4).toNat)))]) (cells := [Value.slice qa ((A.tb (A.r 4).toNat).length) qc, bo false, iw (A.tp ((A.r 4).toNat))]) rfl rfl (by kernel_rfl)) ?_
  refine SQ.nilL ?_
  refine SL.storea (i := 2) (vs := [Value.slice qa ((A.tb (A.r 4).toNat).length) qc, bo false, iw (A.tp ((A.r 4).toNat))]) (c' := [Value.slice qa ((A.tb (A.r 4).toNat).length) qc, bo false, iw (A.tp ((A.r 4).toNat))]) rfl rfl ta46 rfl rfl rfl rfl rfl rfl (le_b rfl) (.inr hb1) rfl ?_
  refine SL.as ?_
  refine SL.nn [(2, pt b1 0), (3, iw 0)] [rBlk d (nc { A with r := up (up A.r 4 (nx (A.r 4))) 6 (ev (A.r 6) 2) } tv cv) 100, rFrs F tv cv A.tb A.cb, rBlk b1 [Value.slice qa ((A.tb (A.r 4).toNat).length) qc, bo false, iw (A.tp ((A.r 4).toNat))] 46] ⟨rfl, rfl, trivial⟩ ?_
  refine SC.ret ?_
  refine SE.res (.inl rfl) (res_ct (z := [Value.slice none 0 0, bo false, iw 0]) (c := [Value.slice qa ((A.tb (A.r 4).toNat).length) qc, bo false, iw (A.tp ((A.r 4).toNat))]) Try.results59 ta46 rfl rfl 2 rfl rfl) fun w1 hI => ?_
  have e : takeR A = (((A.tb (A.r 4).toNat, A.tp (A.r 4).toNat), 0), takeF A) := by
    try simp at h2 h3
    unfold takeR
    (repeat' split) <;> first | rfl | (exfalso; omega) | (exfalso; simp_all; done) | (exfalso; simp_all; omega)
  rw [e]
  exact ⟨_, rfl, NicAt.of hI, hI.2, by rw [← et]; exact (show FrsAt w1 F tv cv A.tb A.cb from hI.1.get (i := 1) rfl).2.1 _ (by omega)⟩
end Go.Proofs.Ytcilikkljkdceaa

/-
  A new device, and a write (the reference's).
-/
namespace Go.Proofs.Ytcilikkljkdceaa
open Go.RowKit
set_option maxRecDepth 100000
set_option maxHeartbeats 4000000
theorem q_new (w : World) : Calls Try.prog 27 #[] w fun e w' => ∃ g, w.heap.size ≤ g ∧ e = .returned (pt g 0) ∧ Blk w' g (nc newA nilv nilv) 100 ∧ Only (fun _ => False) w w' := by
  refine calls_sc (l0 := []) (args := []) (fun _ => False) Try.func27 rfl 9 Try.ntmps27 (le_b rfl) ⟨⟨by simp, List.Pairwise.nil⟩, Only.refl _ _⟩ ?_
  show SC _ _ _ _ [] []
  refine SC.sr ?_
  refine SL.as ?_
  refine SL.nl ?_
  refine SC.sr ?_
  refine SL.uu (ru_build (vals := []) (cells := [iw 0, iw 0, iw 0, iw 0, iw 0, iw 0, iw 0, iw 0, Value.slice none 0 0, iw 0, Value.slice none 0 0, iw 0, Value.slice none 0 0, iw 0, Value.slice none 0 0, iw 0, Value.slice none 0 0, iw 0, Value.slice none 0 0, iw 0, Value.slice none 0 0, iw 0, Value.slice none 0 0, iw 0, Value.slice none 0 0, iw 0, Value.slice none 0 0, iw 0, Value.slice none 0 0, iw 0, Value.slice none 0 0, iw 0, Value.slice none 0 0, iw 0, Value.slice none 0 0, iw 0, Value.slice none 0 0, iw 0, Value.slice none 0 0, iw 0, iw 0, bo false, Value.slice none 0 0, bo false, iw 0, bo false, Value.slice none 0 0, bo false, iw 0, bo false, Value.slice none 0 0, bo false, iw 0, bo false, Value.slice none 0 0, bo false, iw 0, bo false, Value.slice none 0 0, bo false, iw 0, bo false, Value.slice none 0 0, bo false, iw 0, bo false, Value.slice none 0 0, bo false, iw 0, bo false, Value.slice none 0 0, bo false, iw 0, bo false, Value.slice none 0 0, bo false, iw 0, bo false, Value.slice none 0 0, bo false, iw 0, bo false, Value.slice none 0 0, bo false, iw 0, bo false, Value.slice none 0 0, bo false, iw 0, bo false, Value.slice none 0 0, bo false, iw 0, bo false, Value.slice none 0 0, bo false, iw 0, bo false, Value.slice none 0 0, bo false, iw 0, bo false, Value.slice none 0 0, bo false, iw 0]) rfl rfl (by kernel_rfl)) ?_
  refine SL.box (c := [iw 0, iw 0, iw 0, iw 0, iw 0, iw 0, iw 0, iw 0, Value.slice none 0 0, iw 0, Value.slice none 0 0, iw 0, Value.slice none 0 0, iw 0, Value.slice none 0 0, iw 0, Value.slice none 0 0, iw 0, Value.slice none 0 0, iw 0, Value.slice none 0 0, iw 0, Value.slice none 0 0, iw 0, Value.slice none 0 0, iw 0, Value.slice none 0 0, iw 0, Value.slice none 0 0, iw 0, Value.slice none 0 0, iw 0, Value.slice none 0 0, iw 0, Value.slice none 0 0, iw 0, Value.slice none 0 0, iw 0, Value.slice none 0 0, iw 0, iw 0, bo false, Value.slice none 0 0, bo false, iw 0, bo false, Value.slice none 0 0, bo false, iw 0, bo false, Value.slice none 0 0, bo false, iw 0, bo false, Value.slice none 0 0, bo false, iw 0, bo false, Value.slice none 0 0, bo false, iw 0, bo false, Value.slice none 0 0, bo false, iw 0, bo false, Value.slice none 0 0, bo false, iw 0, bo false, Value.slice none 0 0, bo false, iw 0, bo false, Value.slice none 0 0, bo false, iw 0, bo false, Value.slice none 0 0, bo false, iw 0, bo false, Value.slice none 0 0, bo false, iw 0, bo false, Value.slice none 0 0, bo false, iw 0, bo false, Value.slice none 0 0, bo false, iw 0, bo false, Value.slice none 0 0, bo false, iw 0, bo false, Value.slice none 0 0, bo false, iw 0, bo false, Value.slice none 0 0, bo false, iw 0]) rfl rfl (lt_b rfl) rfl rfl rfl fun b1 hb1 => ?_
  refine SL.as ?_
  refine SL.nl ?_
  refine SC.sr ?_
  refine SL.mv ?_
  refine SL.nk ?_
  refine SL.fa 0 fd100_0 ?_
  refine SL.ia 1 ar68 ?_
  refine SL.store (i := 0) (c' := [iw 0, iw 1, iw 0, iw 0, iw 0, iw 0, iw 0, iw 0, Value.slice none 0 0, iw 0, Value.slice none 0 0, iw 0, Value.slice none 0 0, iw 0, Value.slice none 0 0, iw 0, Value.slice none 0 0, iw 0, Value.slice none 0 0, iw 0, Value.slice none 0 0, iw 0, Value.slice none 0 0, iw 0, Value.slice none 0 0, iw 0, Value.slice none 0 0, iw 0, Value.slice none 0 0, iw 0, Value.slice none 0 0, iw 0, Value.slice none 0 0, iw 0, Value.slice none 0 0, iw 0, Value.slice none 0 0, iw 0, Value.slice none 0 0, iw 0, iw 0, bo false, Value.slice none 0 0, bo false, iw 0, bo false, Value.slice none 0 0, bo false, iw 0, bo false, Value.slice none 0 0, bo false, iw 0, bo false, Value.slice none 0 0, bo false, iw 0, bo false, Value.slice none 0 0, bo false, iw 0, bo false, Value.slice none 0 0, bo false, iw 0, bo false, Value.slice none 0 0, bo false, iw 0, bo false, Value.slice none 0 0, bo false, iw 0, bo false, Value.slice none 0 0, bo false, iw 0, bo false, Value.slice none 0 0, bo false, iw 0, bo false, Value.slice none 0 0, bo false, iw 0, bo false, Value.slice none 0 0, bo false, iw 0, bo false, Value.slice none 0 0, bo false, iw 0, bo false, Value.slice none 0 0, bo false, iw 0, bo false, Value.slice none 0 0, bo false, iw 0, bo false, Value.slice none 0 0, bo false, iw 0]) rfl rfl ts3 rfl rfl rfl rfl rfl (lt_b rfl) (.inr hb1) rfl ?_
  refine SL.nl ?_
  refine SC.sr ?_
  refine SL.mv ?_
  refine SL.as ?_
  refine SL.nl ?_
  refine SC.ret ?_
  refine SE.res (.inl rfl) (res1 Try.results27 rfl) fun w1 hI => ⟨b1, hb1, rfl, ?_, hI.2⟩
  have e : [iw 0, iw 1, iw 0, iw 0, iw 0, iw 0, iw 0, iw 0, Value.slice none 0 0, iw 0, Value.slice none 0 0, iw 0, Value.slice none 0 0, iw 0, Value.slice none 0 0, iw 0, Value.slice none 0 0, iw 0, Value.slice none 0 0, iw 0, Value.slice none 0 0, iw 0, Value.slice none 0 0, iw 0, Value.slice none 0 0, iw 0, Value.slice none 0 0, iw 0, Value.slice none 0 0, iw 0, Value.slice none 0 0, iw 0, Value.slice none 0 0, iw 0, Value.slice none 0 0, iw 0, Value.slice none 0 0, iw 0, Value.slice none 0 0, iw 0, iw 0, bo false, Value.slice none 0 0, bo false, iw 0, bo false, Value.slice none 0 0, bo false, iw 0, bo false, Value.slice none 0 0, bo false, iw 0, bo false, Value.slice none 0 0, bo false, iw 0, bo false, Value.slice none 0 0, bo false, iw 0, bo false, Value.slice none 0 0, bo false, iw 0, bo false, Value.slice none 0 0, bo false, iw 0, bo false, Value.slice none 0 0, bo false, iw 0, bo false, Value.slice none 0 0, bo false, iw 0, bo false, Value.slice none 0 0, bo false, iw 0, bo false, Value.slice none 0 0, bo false, iw 0, bo false, Value.slice none 0 0, bo false, iw 0, bo false, Value.slice none 0 0, bo false, iw 0, bo false, Value.slice none 0 0, bo false, iw 0, bo false, Value.slice none 0 0, bo false, iw 0, bo false, Value.slice none 0 0, bo false, iw 0] = nc newA nilv nilv := by kernel_rfl
  rw [← e]
  exact hI.1.get (i := 0) rfl

theorem q_write {w : World} {d : Nat} {F : Nat → Prop} {A : NicA} (hk : NicOk A) (h : NicAt 100 w d F A) (reg v : Int) : Calls Try.prog 28 #[pt d 0, iw reg, iw v] w fun e w' => e = .returned (iw (writeF A reg v).1) ∧ NicAt 100 w' d F (writeF A reg v).2 ∧ Only (fun b => b = d) w w' := by
  have hok := hk
  obtain ⟨r2, r3, r4, r5, r6, _, _, _⟩ := hok
  obtain ⟨tv, cv, hI⟩ := h.inv 97 (fun b => b = d)
  refine calls_sc (l0 := _) (args := [pt d 0, iw reg, iw v]) (fun b => b = d) Try.func28 rfl 97 Try.ntmps28 (le_b rfl) hI ?_
  show SC _ _ _ _ [(0, pt d 0), (1, iw reg), (2, iw v)] [rBlk d (nc A tv cv) 100, rFrs F tv cv A.tb A.cb]
  refine SC.sr ?_
  refine SL.as ?_
  refine SL.nl ?_
  refine SC.seq ?_
  refine SC.sr ?_
  refine SL.mv ?_
  refine SL.uu (ru_eq (b := ((reg : Int) == 0)) rfl rfl rfl rfl) ?_
  refine SL.mv ?_
  refine SL.join 3 [(0, pt d 0), (1, iw reg), (2, iw v), (6, iw 0), (9, iw reg), (10, bo ((reg : Int) == 0)), (11, bo ((reg : Int) == 0)), (14, bo (((reg : Int) == 0) && ((v : Int) == 2)))] [rBlk d (nc A tv cv) 100, rFrs F tv cv A.tb A.cb] ?_ ?_
  rotate_left
  · intro K hK
    rcases tf ((reg : Int) == 0) with h1 | h1
    · skip
      refine SL.norm [(0, pt d 0), (1, iw reg), (2, iw v), (6, iw 0), (9, iw reg), (10, bo true), (11, bo true)] _ ⟨rfl, rfl, rfl, rfl, rfl, (congrArg (fun x => some (Value.bool x)) h1), (congrArg (fun x => some (Value.bool x)) h1), trivial⟩ rfl ?_
      refine SL.gg (ru_move rfl rfl) ?_
      refine SL.gg (ru_eq (b := ((v : Int) == 2)) rfl rfl rfl rfl) ?_
      refine SL.pk (bo ((v : Int) == 2)) (bo false) ?_
      exact SL.joined hK ⟨rfl, rfl, rfl, rfl, rfl, (congrArg (fun x => some (Value.bool x)) h1.symm), (congrArg (fun x => some (Value.bool x)) h1.symm), (congrArg (fun bx => some (Value.bool (bx && ((v : Int) == 2)))) h1.symm), trivial⟩ rfl
    refine SL.norm [(0, pt d 0), (1, iw reg), (2, iw v), (6, iw 0), (9, iw reg), (10, bo false), (11, bo false)] _ ⟨rfl, rfl, rfl, rfl, rfl, (congrArg (fun x => some (Value.bool x)) h1), (congrArg (fun x => some (Value.bool x)) h1), trivial⟩ rfl ?_
    refine SL.oo ?_
    refine SL.oo ?_
    refine SL.pk (undef) (bo false) ?_
    exact SL.joined hK ⟨rfl, rfl, rfl, rfl, rfl, (congrArg (fun x => some (Value.bool x)) h1.symm), (congrArg (fun x => some (Value.bool x)) h1.symm), (congrArg (fun bx => some (Value.bool (bx && ((v : Int) == 2)))) h1.symm), trivial⟩ rfl
  skip
  refine SL.nl ?_
  refine SC.both (((reg : Int) == 0) && ((v : Int) == 2)) rfl (fun h2 => ?_) (fun h2 => ?_)
  · skip
    have h0 := w_0 h2
    refine SC.sr ?_
    refine SL.call (ζ := Nat) (fun g3 => pt g3 0) (fun g3 => [rBlk d (nc A tv cv) 100, rFrs F tv cv A.tb A.cb, rBlk g3 (nc newA nilv nilv) 100]) (fun g3 => w.heap.size ≤ g3) rfl rfl co27 rfl rfl rfl (lt_b rfl) (fun w hI => (q_new _).mono fun e w2 ⟨g, h1, h2, h3, h4⟩ => ⟨g, h2, hI.add h4 h3 (fun q hq => by cases hq; exact h1), Nat.le_trans hI.2.size h1⟩) ?_
    intro g3 hg3
    refine SL.as ?_
    refine SL.nl ?_
    refine SC.sr ?_
    refine SL.mv ?_
    refine SL.mv ?_
    refine SL.nk ?_
    refine SL.fa 104 fd100_3 ?_
    refine SL.uu (ru_load (i := 0) (v := iw A.clk) ts3 rfl rfl rfl nc_clk) ?_
    refine SL.nk ?_
    refine SL.fa 104 fd100_3 ?_
    refine SL.store (i := 2) (c' := (nc { newA with clk := A.clk } nilv nilv)) rfl rfl ts3 rfl rfl rfl rfl rfl (by rw [nc_len]; omega) (.inr hg3) (set_clk A.clk) ?_
    refine SL.nl ?_
    refine SC.seq ?_
    refine SC.region_tail 9 (by kernel_rfl) (by kernel_rfl) ?_
    refine SQ.mv ?_
    refine SQ.mv ?_
    refine SQ.nk ?_
    refine SQ.fa 0 fd100_0 ?_
    refine SQ.ia 1 ar68 ?_
    refine SQ.uu (ru_load (i := 0) (v := iw (A.r 1)) ts3 rfl rfl rfl (nc_r (by decide))) ?_
    refine SQ.nk ?_
    refine SQ.fa 0 fd100_0 ?_
    refine SQ.ia 1 ar68 ?_
    refine SQ.nilL ?_
    refine SL.store (i := 2) (c' := (nc { newA with r := up newA.r 1 (A.r 1), clk := A.clk } nilv nilv)) rfl rfl ts3 rfl rfl rfl rfl rfl (by rw [nc_len]; omega) (.inr hg3) (set_r (by decide) (A.r 1)) ?_
    refine SL.nl ?_
    refine SC.sr ?_
    refine SL.mv ?_
    refine SL.mv ?_
    refine SL.nk ?_
    refine SL.uu (ru_loada (i := 2) (vs := (nc { newA with r := up newA.r 1 (A.r 1), clk := A.clk } nilv nilv)) ta100 rfl rfl rfl nc_all (by rw [nc_len]; exact Nat.le_refl _)) ?_
    refine SL.nk ?_
    refine SL.storea (i := 0) (vs := (nc { newA with r := up newA.r 1 (A.r 1), clk := A.clk } nilv nilv)) (c' := (nc { newA with r := up newA.r 1 (A.r 1), clk := A.clk } nilv nilv)) rfl rfl ta100 rfl rfl rfl (nc_one (fun _ => rfl) (fun _ => rfl)) nc_len rfl (by rw [nc_len, nc_len]; omega) (.inl rfl) nc_whole ?_
    refine SL.nl ?_
    refine SC.sr ?_
    refine SL.as ?_
    refine SL.nl ?_
    refine SC.ret ?_
    refine SE.passr ?_
    refine SE.res (.inl rfl) (res1 Try.results28 rfl) fun w1 hI => ?_
    have e : writeF A reg v = (0, { newA with r := up newA.r 1 (A.r 1), clk := A.clk }) := by
      try simp at h2
      unfold writeF
      (repeat' split) <;> first | rfl | (exfalso; omega) | (exfalso; simp_all; done) | (exfalso; simp_all; omega)
    rw [e]
    exact ⟨rfl, NicAt.fin_reset rfl rfl hI⟩
  refine SC.skip ?_
  refine SC.of_SE ?_
  refine SC.seq ?_
  refine SC.sr ?_
  refine SL.mv ?_
  refine SL.uu (ru_eq (b := ((reg : Int) == 0)) rfl rfl rfl rfl) ?_
  refine SL.mv ?_
  refine SL.join 7 [(0, pt d 0), (1, iw reg), (2, iw v), (6, iw 0), (37, iw reg), (38, bo ((reg : Int) == 0)), (39, bo ((reg : Int) == 0)), (46, bo (((reg : Int) == 0) && (((v : Int) == 0) || ((v : Int) == 1))))] [rBlk d (nc A tv cv) 100, rFrs F tv cv A.tb A.cb] ?_ ?_
  rotate_left
  · intro K hK
    rcases tf ((reg : Int) == 0) with h4 | h4
    · skip
      refine SL.norm [(0, pt d 0), (1, iw reg), (2, iw v), (6, iw 0), (37, iw reg), (38, bo true), (39, bo true)] _ ⟨rfl, rfl, rfl, rfl, rfl, (congrArg (fun x => some (Value.bool x)) h4), (congrArg (fun x => some (Value.bool x)) h4), trivial⟩ rfl ?_
      refine SL.gg (ru_move rfl rfl) ?_
      refine SL.gg (ru_eq (b := ((v : Int) == 0)) rfl rfl rfl rfl) ?_
      refine SL.gg (ru_move rfl rfl) ?_
      refine SL.join 3 [(0, pt d 0), (1, iw reg), (2, iw v), (6, iw 0), (37, iw reg), (38, bo true), (39, bo true), (40, iw v), (41, bo ((v : Int) == 0)), (42, bo ((v : Int) == 0)), (45, bo (((v : Int) == 0) || ((v : Int) == 1)))] [rBlk d (nc A tv cv) 100, rFrs F tv cv A.tb A.cb] ?_ ?_
      rotate_left
      · intro K hK
        rcases tf ((v : Int) == 0) with h5 | h5
        · skip
          refine SL.norm [(0, pt d 0), (1, iw reg), (2, iw v), (6, iw 0), (37, iw reg), (38, bo true), (39, bo true), (40, iw v), (41, bo true), (42, bo true)] _ ⟨rfl, rfl, rfl, rfl, rfl, rfl, rfl, rfl, (congrArg (fun x => some (Value.bool x)) h5), (congrArg (fun x => some (Value.bool x)) h5), trivial⟩ rfl ?_
          refine SL.oo ?_
          refine SL.oo ?_
          refine SL.gg (ru_pick (u := bo true) (v := undef) rfl rfl rfl rfl) ?_
          exact SL.joined hK ⟨rfl, rfl, rfl, rfl, rfl, rfl, rfl, rfl, (congrArg (fun x => some (Value.bool x)) h5.symm), (congrArg (fun x => some (Value.bool x)) h5.symm), (congrArg (fun bx => some (Value.bool (bx || ((v : Int) == 1)))) h5.symm), trivial⟩ rfl
        refine SL.norm [(0, pt d 0), (1, iw reg), (2, iw v), (6, iw 0), (37, iw reg), (38, bo true), (39, bo true), (40, iw v), (41, bo false), (42, bo false)] _ ⟨rfl, rfl, rfl, rfl, rfl, rfl, rfl, rfl, (congrArg (fun x => some (Value.bool x)) h5), (congrArg (fun x => some (Value.bool x)) h5), trivial⟩ rfl ?_
        refine SL.gg (ru_move rfl rfl) ?_
        refine SL.gg (ru_eq (b := ((v : Int) == 1)) rfl rfl rfl rfl) ?_
        refine SL.gg (ru_pick (u := bo true) (v := bo ((v : Int) == 1)) rfl rfl rfl rfl) ?_
        exact SL.joined hK ⟨rfl, rfl, rfl, rfl, rfl, rfl, rfl, rfl, (congrArg (fun x => some (Value.bool x)) h5.symm), (congrArg (fun x => some (Value.bool x)) h5.symm), (congrArg (fun bx => some (Value.bool (bx || ((v : Int) == 1)))) h5.symm), trivial⟩ rfl
      skip
      refine SL.pk (bo (((v : Int) == 0) || ((v : Int) == 1))) (bo false) ?_
      exact SL.joined hK ⟨rfl, rfl, rfl, rfl, rfl, (congrArg (fun x => some (Value.bool x)) h4.symm), (congrArg (fun x => some (Value.bool x)) h4.symm), (congrArg (fun bx => some (Value.bool (bx && (((v : Int) == 0) || ((v : Int) == 1))))) h4.symm), trivial⟩ rfl
    refine SL.norm [(0, pt d 0), (1, iw reg), (2, iw v), (6, iw 0), (37, iw reg), (38, bo false), (39, bo false)] _ ⟨rfl, rfl, rfl, rfl, rfl, (congrArg (fun x => some (Value.bool x)) h4), (congrArg (fun x => some (Value.bool x)) h4), trivial⟩ rfl ?_
    refine SL.oo ?_
    refine SL.oo ?_
    refine SL.oo ?_
    refine SL.offu rfl rfl rfl rfl (lt_b rfl) ?_
    refine SL.offu rfl rfl rfl rfl (lt_b rfl) ?_
    refine SL.oo ?_
    refine SL.pk (undef) (bo false) ?_
    exact SL.joined hK ⟨rfl, rfl, rfl, rfl, rfl, (congrArg (fun x => some (Value.bool x)) h4.symm), (congrArg (fun x => some (Value.bool x)) h4.symm), (congrArg (fun bx => some (Value.bool (bx && (((v : Int) == 0) || ((v : Int) == 1))))) h4.symm), trivial⟩ rfl
  skip
  refine SL.nl ?_
  refine SC.both (((reg : Int) == 0) && (((v : Int) == 0) || ((v : Int) == 1))) rfl (fun h6 => ?_) (fun h6 => ?_)
  · skip
    have h0 := w_0 h6
    refine SC.sr ?_
    refine SL.mv ?_
    refine SL.mv ?_
    refine SL.mv ?_
    refine SL.nk ?_
    refine SL.fa 0 fd100_0 ?_
    refine SL.uu (ru_indexA (o2 := 0 + reg.toNat * 1) ar68 rfl rfl rfl (by omega) (by omega) rfl) ?_
    refine SL.store (i := 0) (c' := (nc { A with r := up A.r reg.toNat v } tv cv)) rfl rfl ts3 rfl rfl rfl rfl rfl (by rw [nc_len]; omega) (.inl rfl) (set_r' (by omega) v) ?_
    refine SL.nl ?_
    refine SC.sr ?_
    refine SL.as ?_
    refine SL.nl ?_
    refine SC.ret ?_
    refine SE.passr ?_
    refine SE.res (.inl rfl) (res1 Try.results28 rfl) fun w1 hI => ?_
    have e : writeF A reg v = (0, { A with r := up A.r reg.toNat v }) := by
      try simp at h2 h6
      unfold writeF
      (repeat' split) <;> first | rfl | (exfalso; omega) | (exfalso; simp_all; done) | (exfalso; simp_all; omega)
    rw [e]
    exact ⟨rfl, NicAt.fin' hI⟩
  refine SC.skip ?_
  refine SC.of_SE ?_
  refine SC.seq ?_
  refine SC.sr ?_
  refine SL.mv ?_
  refine SL.uu (ru_ne (b := ((reg : Int) != 3)) rfl rfl rfl rfl) ?_
  refine SL.mv ?_
  refine SL.join 3 [(0, pt d 0), (1, iw reg), (2, iw v), (6, iw 0), (53, iw reg), (54, bo ((reg : Int) != 3)), (55, bo ((reg : Int) != 3)), (58, bo (((reg : Int) != 3) && ((reg : Int) != 5)))] [rBlk d (nc A tv cv) 100, rFrs F tv cv A.tb A.cb] ?_ ?_
  rotate_left
  · intro K hK
    rcases tf ((reg : Int) != 3) with h7 | h7
    · skip
      refine SL.norm [(0, pt d 0), (1, iw reg), (2, iw v), (6, iw 0), (53, iw reg), (54, bo true), (55, bo true)] _ ⟨rfl, rfl, rfl, rfl, rfl, (congrArg (fun x => some (Value.bool x)) h7), (congrArg (fun x => some (Value.bool x)) h7), trivial⟩ rfl ?_
      refine SL.gg (ru_move rfl rfl) ?_
      refine SL.gg (ru_ne (b := ((reg : Int) != 5)) rfl rfl rfl rfl) ?_
      refine SL.pk (bo ((reg : Int) != 5)) (bo false) ?_
      exact SL.joined hK ⟨rfl, rfl, rfl, rfl, rfl, (congrArg (fun x => some (Value.bool x)) h7.symm), (congrArg (fun x => some (Value.bool x)) h7.symm), (congrArg (fun bx => some (Value.bool (bx && ((reg : Int) != 5)))) h7.symm), trivial⟩ rfl
    refine SL.norm [(0, pt d 0), (1, iw reg), (2, iw v), (6, iw 0), (53, iw reg), (54, bo false), (55, bo false)] _ ⟨rfl, rfl, rfl, rfl, rfl, (congrArg (fun x => some (Value.bool x)) h7), (congrArg (fun x => some (Value.bool x)) h7), trivial⟩ rfl ?_
    refine SL.oo ?_
    refine SL.oo ?_
    refine SL.pk (undef) (bo false) ?_
    exact SL.joined hK ⟨rfl, rfl, rfl, rfl, rfl, (congrArg (fun x => some (Value.bool x)) h7.symm), (congrArg (fun x => some (Value.bool x)) h7.symm), (congrArg (fun bx => some (Value.bool (bx && ((reg : Int) != 5)))) h7.symm), trivial⟩ rfl
  skip
  refine SL.mv ?_
  refine SL.join 3 [(0, pt d 0), (1, iw reg), (2, iw v), (6, iw 0), (53, iw reg), (54, bo ((reg : Int) != 3)), (55, bo ((reg : Int) != 3)), (58, bo (((reg : Int) != 3) && ((reg : Int) != 5))), (59, bo (((reg : Int) != 3) && ((reg : Int) != 5))), (62, bo ((((reg : Int) != 3) && ((reg : Int) != 5)) || (decide ((v : Int) < 0))))] [rBlk d (nc A tv cv) 100, rFrs F tv cv A.tb A.cb] ?_ ?_
  rotate_left
  · intro K hK
    rcases tf (((reg : Int) != 3) && ((reg : Int) != 5)) with h8 | h8
    · skip
      refine SL.norm [(0, pt d 0), (1, iw reg), (2, iw v), (6, iw 0), (53, iw reg), (54, bo ((reg : Int) != 3)), (55, bo ((reg : Int) != 3)), (58, bo true), (59, bo true)] _ ⟨rfl, rfl, rfl, rfl, rfl, rfl, rfl, (congrArg (fun x => some (Value.bool x)) h8), (congrArg (fun x => some (Value.bool x)) h8), trivial⟩ rfl ?_
      refine SL.oo ?_
      refine SL.oo ?_
      refine SL.pk (bo true) (undef) ?_
      exact SL.joined hK ⟨rfl, rfl, rfl, rfl, rfl, rfl, rfl, (congrArg (fun x => some (Value.bool x)) h8.symm), (congrArg (fun x => some (Value.bool x)) h8.symm), (congrArg (fun bx => some (Value.bool (bx || (decide ((v : Int) < 0))))) h8.symm), trivial⟩ rfl
    refine SL.norm [(0, pt d 0), (1, iw reg), (2, iw v), (6, iw 0), (53, iw reg), (54, bo ((reg : Int) != 3)), (55, bo ((reg : Int) != 3)), (58, bo false), (59, bo false)] _ ⟨rfl, rfl, rfl, rfl, rfl, rfl, rfl, (congrArg (fun x => some (Value.bool x)) h8), (congrArg (fun x => some (Value.bool x)) h8), trivial⟩ rfl ?_
    refine SL.gg (ru_move rfl rfl) ?_
    refine SL.gg (ru_lt (b := (decide ((v : Int) < 0))) rfl rfl rfl rfl) ?_
    refine SL.pk (bo true) (bo (decide ((v : Int) < 0))) ?_
    exact SL.joined hK ⟨rfl, rfl, rfl, rfl, rfl, rfl, rfl, (congrArg (fun x => some (Value.bool x)) h8.symm), (congrArg (fun x => some (Value.bool x)) h8.symm), (congrArg (fun bx => some (Value.bool (bx || (decide ((v : Int) < 0))))) h8.symm), trivial⟩ rfl
  skip
  refine SL.mv ?_
  refine SL.join 3 [(0, pt d 0), (1, iw reg), (2, iw v), (6, iw 0), (53, iw reg), (54, bo ((reg : Int) != 3)), (55, bo ((reg : Int) != 3)), (58, bo (((reg : Int) != 3) && ((reg : Int) != 5))), (59, bo (((reg : Int) != 3) && ((reg : Int) != 5))), (62, bo ((((reg : Int) != 3) && ((reg : Int) != 5)) || (decide ((v : Int) < 0)))), (63, bo ((((reg : Int) != 3) && ((reg : Int) != 5)) || (decide ((v : Int) < 0)))), (66, bo (((((reg : Int) != 3) && ((reg : Int) != 5)) || (decide ((v : Int) < 0))) || (decide ((16 : Int) ≤ v))))] [rBlk d (nc A tv cv) 100, rFrs F tv cv A.tb A.cb] ?_ ?_
  rotate_left
  · intro K hK
    rcases tf ((((reg : Int) != 3) && ((reg : Int) != 5)) || (decide ((v : Int) < 0))) with h9 | h9
    · skip
      refine SL.norm [(0, pt d 0), (1, iw reg), (2, iw v), (6, iw 0), (53, iw reg), (54, bo ((reg : Int) != 3)), (55, bo ((reg : Int) != 3)), (58, bo (((reg : Int) != 3) && ((reg : Int) != 5))), (59, bo (((reg : Int) != 3) && ((reg : Int) != 5))), (62, bo true), (63, bo true)] _ ⟨rfl, rfl, rfl, rfl, rfl, rfl, rfl, rfl, rfl, (congrArg (fun x => some (Value.bool x)) h9), (congrArg (fun x => some (Value.bool x)) h9), trivial⟩ rfl ?_
      refine SL.oo ?_
      refine SL.oo ?_
      refine SL.pk (bo true) (undef) ?_
      exact SL.joined hK ⟨rfl, rfl, rfl, rfl, rfl, rfl, rfl, rfl, rfl, (congrArg (fun x => some (Value.bool x)) h9.symm), (congrArg (fun x => some (Value.bool x)) h9.symm), (congrArg (fun bx => some (Value.bool (bx || (decide ((16 : Int) ≤ v))))) h9.symm), trivial⟩ rfl
    refine SL.norm [(0, pt d 0), (1, iw reg), (2, iw v), (6, iw 0), (53, iw reg), (54, bo ((reg : Int) != 3)), (55, bo ((reg : Int) != 3)), (58, bo (((reg : Int) != 3) && ((reg : Int) != 5))), (59, bo (((reg : Int) != 3) && ((reg : Int) != 5))), (62, bo false), (63, bo false)] _ ⟨rfl, rfl, rfl, rfl, rfl, rfl, rfl, rfl, rfl, (congrArg (fun x => some (Value.bool x)) h9), (congrArg (fun x => some (Value.bool x)) h9), trivial⟩ rfl ?_
    refine SL.gg (ru_move rfl rfl) ?_
    refine SL.gg (ru_ge (b := (decide ((16 : Int) ≤ v))) rfl rfl rfl rfl) ?_
    refine SL.pk (bo true) (bo (decide ((16 : Int) ≤ v))) ?_
    exact SL.joined hK ⟨rfl, rfl, rfl, rfl, rfl, rfl, rfl, rfl, rfl, (congrArg (fun x => some (Value.bool x)) h9.symm), (congrArg (fun x => some (Value.bool x)) h9.symm), (congrArg (fun bx => some (Value.bool (bx || (decide ((16 : Int) ≤ v))))) h9.symm), trivial⟩ rfl
  skip
  refine SL.nl ?_
  refine SC.both (((((reg : Int) != 3) && ((reg : Int) != 5)) || (decide ((v : Int) < 0))) || (decide ((16 : Int) ≤ v))) rfl (fun h10 => ?_) (fun h10 => ?_)
  · skip
    refine SC.sr ?_
    refine SL.as ?_
    refine SL.nl ?_
    refine SC.ret ?_
    refine SE.passr ?_
    refine SE.res (.inl rfl) (res1 Try.results28 rfl) fun w1 hI => ?_
    have e : writeF A reg v = (1, A) := by
      try simp at h2 h6 h10
      unfold writeF
      (repeat' split) <;> first | rfl | (exfalso; omega) | (exfalso; simp_all; done) | (exfalso; simp_all; omega)
    rw [e]
    exact ⟨rfl, NicAt.fin' hI⟩
  have hv := w_rng h10
  have hr := w_reg h10
  refine SC.skip ?_
  refine SC.of_SE ?_
  refine SC.seq ?_
  refine SC.sr ?_
  refine SL.mv ?_
  refine SL.uu (ru_eq (b := ((reg : Int) == 5)) rfl rfl rfl rfl) ?_
  refine SL.nl ?_
  refine SC.both ((reg : Int) == 5) rfl (fun h11 => ?_) (fun h11 => ?_)
  · skip
    have h5 := w_5 h11
    have e5 : A.r reg.toNat = A.r 5 := by rw [h5]; rfl
    refine SC.sr ?_
    refine SL.mv ?_
    refine SL.mv ?_
    refine SL.nk ?_
    refine SL.fa 0 fd100_0 ?_
    refine SL.uu (ru_indexA (o2 := 0 + reg.toNat * 1) ar68 rfl rfl rfl (by omega) (by omega) rfl) ?_
    refine SL.uu (ru_load (i := 0) (v := iw (A.r reg.toNat)) ts3 rfl rfl rfl (nc_r' (by omega))) ?_
    refine SL.as ?_
    refine SL.nl ?_
    refine SC.block ?_
    refine SC.loop (γ := Unit) (fun n _ => [(0, pt d 0), (1, iw reg), (2, iw v), (6, iw 0), (8, iw ((v - (n : Int)) % 16))]) (fun n _ => [rBlk d (nc { A with tp := posts A.tp (A.r 5) ((v - (n : Int)) % 16) A.clk } tv cv) 100, rFrs F tv cv A.tb A.cb]) (fun n _ => n ≤ ((v - A.r 5) % 16).toNat) ((v - A.r 5) % 16).toNat () (Nat.le_refl _) ⟨rfl, rfl, rfl, rfl, (congrArg (fun x => some (iw x)) (show A.r reg.toNat = (v - (((((v - A.r 5) % 16).toNat : Nat) : Int) : Int)) % 16 by omega)), trivial⟩ (congrArg (fun c => [rBlk d c 100, rFrs F tv cv A.tb A.cb]) (nc_posts r5 hv)) ?_
    rintro n ⟨⟩ hn
    rcases Nat.eq_zero_or_pos n with h0 | h0
    · skip
      have ez : (v - (n : Int)) % 16 = v := by omega
      refine SC.seq ?_
      refine SC.sr ?_
      refine SL.mv ?_
      refine SL.mv ?_
      refine SL.uu (ru_ne (b := ((((v - (n : Int)) % 16) : Int) != v)) rfl rfl rfl rfl) ?_
      refine SL.nl ?_
      refine SC.no (show some (Value.bool ((((v - (n : Int)) % 16) : Int) != v)) = some (Value.bool false) from congrArg (fun x => some (Value.bool x)) (bne_f (by omega))) ?_
      refine SC.exit ?_
      refine SE.passe ?_
      refine SE.passe ?_
      refine SE.blke ?_
      refine SC.of_SE ?_
      refine SC.sr ?_
      refine SL.mv ?_
      refine SL.mv ?_
      refine SL.mv ?_
      refine SL.nk ?_
      refine SL.fa 0 fd100_0 ?_
      refine SL.uu (ru_indexA (o2 := 0 + reg.toNat * 1) ar68 rfl rfl rfl (by omega) (by omega) rfl) ?_
      refine SL.store (i := 0) (c' := (nc { A with r := up A.r reg.toNat v, tp := posts A.tp (A.r 5) ((v - (n : Int)) % 16) A.clk } tv cv)) rfl rfl ts3 rfl rfl rfl rfl rfl (by rw [nc_len]; omega) (.inl rfl) (set_r' (by omega) v) ?_
      refine SL.nl ?_
      refine SC.sr ?_
      refine SL.as ?_
      refine SL.nl ?_
      refine SC.ret ?_
      refine SE.res (.inl rfl) (res1 Try.results28 rfl) fun w1 hI => ?_
      rw [ez] at hI
      have e : writeF A reg v = (0, { A with r := up A.r reg.toNat v, tp := posts A.tp (A.r 5) v A.clk }) := by
        try simp at h2 h6 h10 h11
        unfold writeF
        (repeat' split) <;> first | rfl | (exfalso; omega) | (exfalso; simp_all; done) | (exfalso; simp_all; omega)
      rw [e]
      exact ⟨rfl, NicAt.fin' hI⟩
    refine SC.seq ?_
    refine SC.sr ?_
    refine SL.mv ?_
    refine SL.mv ?_
    refine SL.uu (ru_ne (b := ((((v - (n : Int)) % 16) : Int) != v)) rfl rfl rfl rfl) ?_
    refine SL.nl ?_
    refine SC.yes (show some (Value.bool ((((v - (n : Int)) % 16) : Int) != v)) = some (Value.bool true) from congrArg (fun x => some (Value.bool x)) (bne_t (by omega))) ?_
    refine SC.skip ?_
    refine SC.of_SE ?_
    refine SC.seq ?_
    refine SC.block ?_
    refine SC.region_tail 10 (by kernel_rfl) (by kernel_rfl) ?_
    refine SQ.mv ?_
    refine SQ.mv ?_
    refine SQ.mv ?_
    refine SQ.nk ?_
    refine SQ.fa 104 fd100_3 ?_
    refine SQ.uu (ru_load (i := 0) (v := iw A.clk) ts3 rfl rfl rfl nc_clk) ?_
    refine SQ.nk ?_
    refine SQ.fa 8 fd100_1 ?_
    refine SQ.uu (ru_indexA (o2 := 8 + (((v - (n : Int)) % 16).toNat) * 2) ar95 rfl rfl rfl (by omega) (by omega) rfl) ?_
    refine SQ.fa (8 + (((v - (n : Int)) % 16).toNat) * 2 + 1) fd94_1 ?_
    refine SQ.nilL ?_
    refine SL.store (i := 0) (c' := (nc { A with tp := up (posts A.tp (A.r 5) ((v - (n : Int)) % 16) A.clk) (((v - (n : Int)) % 16).toNat) A.clk } tv cv)) rfl rfl ts3 rfl rfl rfl rfl rfl (by rw [nc_len]; omega) (.inl rfl) (set_tp (by omega) A.clk) ?_
    refine SL.nil ?_
    refine SE.blkn ?_
    refine SC.of_SE ?_
    refine SC.region ?_
    refine SL.mv ?_
    refine SL.uu (ru_add (r := (IntKind.i64.wrap (((v - (n : Int)) % 16) + 1))) rfl rfl rfl rfl) ?_
    refine SL.uu (ru_rem (r := (Int.tmod (IntKind.i64.wrap (((v - (n : Int)) % 16) + 1)) 16)) rfl rfl rfl (by decide) rfl) ?_
    refine SL.as ?_
    refine SL.nil ?_
    refine SE.again (n - 1) () (by omega) (by omega) ⟨rfl, rfl, rfl, rfl, (congrArg (fun x => some (iw x)) (dev_nx h0)), trivial⟩ (congrArg (fun c => [rBlk d c 100, rFrs F tv cv A.tb A.cb]) (nc_posts' r5 hv h0 hn))
  refine SC.skip ?_
  refine SC.of_SE ?_
  refine SC.sr ?_
  refine SL.mv ?_
  refine SL.mv ?_
  refine SL.mv ?_
  refine SL.nk ?_
  refine SL.fa 0 fd100_0 ?_
  refine SL.uu (ru_indexA (o2 := 0 + reg.toNat * 1) ar68 rfl rfl rfl (by omega) (by omega) rfl) ?_
  refine SL.store (i := 0) (c' := (nc { A with r := up A.r reg.toNat v } tv cv)) rfl rfl ts3 rfl rfl rfl rfl rfl (by rw [nc_len]; omega) (.inl rfl) (set_r' (by omega) v) ?_
  refine SL.nl ?_
  refine SC.sr ?_
  refine SL.as ?_
  refine SL.nl ?_
  refine SC.ret ?_
  refine SE.res (.inl rfl) (res1 Try.results28 rfl) fun w1 hI => ?_
  have e : writeF A reg v = (0, { A with r := up A.r reg.toNat v }) := by
    try simp at h2 h6 h10 h11
    unfold writeF
    (repeat' split) <;> first | rfl | (exfalso; omega) | (exfalso; simp_all; done) | (exfalso; simp_all; omega)
  rw [e]
  exact ⟨rfl, NicAt.fin' hI⟩

end Go.Proofs.Ytcilikkljkdceaa

/-
  The document's devices, in its wire as one thing.
-/
namespace Go.Proofs.Ytcilikkljkdceaa
open Go.RowKit
set_option maxRecDepth 100000
set_option maxHeartbeats 4000000
theorem rv_settx0 {w : World} {wd d0 d1 : Nat} {G : Nat → Prop} {S : Wi} (h : (rWq wd d0 d1 G S).ok w) (hk : NicOk S.A0) {v : Value} {f : List UInt8} (hb : BytesAt w v f) (hs : sliceIn v (fun b => ¬ G b)) (i : Int) : Calls Try.prog 57 #[pt d0 0, iw i, v] w fun e w' => e = .returned (iw (setTxF S.A0 i f).1) ∧ RTo 100 92 46 w wd d0 d1 G (S.setA false (setTxF S.A0 i f).2) w' := by
  obtain ⟨F, k1, k2, k3, k4⟩ := rwi_dev0 h
  exact (q_settx hk k1 hb (fun b o n c e hn => fun hd => hs b o n c e hn (hd ▸ k3)) i).mono fun e w2 ⟨h1, h2⟩ => ⟨h1, k4 _ _ h2⟩
theorem rv_setrx0 {w : World} {wd d0 d1 : Nat} {G : Nat → Prop} {S : Wi} (h : (rWq wd d0 d1 G S).ok w) (hk : NicOk S.A0) (i room : Int) : Calls Try.prog 75 #[pt d0 0, iw i, iw room] w fun e w' => e = .returned (iw (setRxF S.A0 i room).1) ∧ RTo 100 92 46 w wd d0 d1 G (S.setA false (setRxF S.A0 i room).2) w' := by
  obtain ⟨F, k1, k2, k3, k4⟩ := rwi_dev0 h
  exact (q_setrx hk k1 i room).mono fun e w2 ⟨h1, h2⟩ => ⟨h1, k4 _ _ h2⟩
theorem rv_write0 {w : World} {wd d0 d1 : Nat} {G : Nat → Prop} {S : Wi} (h : (rWq wd d0 d1 G S).ok w) (hk : NicOk S.A0) (reg v : Int) : Calls Try.prog 28 #[pt d0 0, iw reg, iw v] w fun e w' => e = .returned (iw (writeF S.A0 reg v).1) ∧ RTo 100 92 46 w wd d0 d1 G (S.setA false (writeF S.A0 reg v).2) w' := by
  obtain ⟨F, k1, k2, k3, k4⟩ := rwi_dev0 h
  exact (q_write hk k1 reg v).mono fun e w2 ⟨h1, h2, h3⟩ => ⟨h1, k4 _ _ ⟨F, h2, fun b hb => .inl hb, h3⟩⟩
theorem rv_link0 {w : World} {wd d0 d1 : Nat} {G : Nat → Prop} {S : Wi} (h : (rWq wd d0 d1 G S).ok w) (hk : NicOk S.A0) (u : Bool) : Calls Try.prog 65 #[pt d0 0, bo u] w fun e w' => e = .returned (.tuple #[]) ∧ RTo 100 92 46 w wd d0 d1 G (S.setA false (linkF S.A0 u)) w' := by
  obtain ⟨F, k1, k2, k3, k4⟩ := rwi_dev0 h
  exact (q_link hk k1 u).mono fun e w2 ⟨h1, h2⟩ => ⟨h1, k4 _ _ h2⟩
theorem rv_settx1 {w : World} {wd d0 d1 : Nat} {G : Nat → Prop} {S : Wi} (h : (rWq wd d0 d1 G S).ok w) (hk : NicOk S.A1) {v : Value} {f : List UInt8} (hb : BytesAt w v f) (hs : sliceIn v (fun b => ¬ G b)) (i : Int) : Calls Try.prog 57 #[pt d1 0, iw i, v] w fun e w' => e = .returned (iw (setTxF S.A1 i f).1) ∧ RTo 100 92 46 w wd d0 d1 G (S.setA true (setTxF S.A1 i f).2) w' := by
  obtain ⟨F, k1, k2, k3, k4⟩ := rwi_dev1 h
  exact (q_settx hk k1 hb (fun b o n c e hn => fun hd => hs b o n c e hn (hd ▸ k3)) i).mono fun e w2 ⟨h1, h2⟩ => ⟨h1, k4 _ _ h2⟩
theorem rv_setrx1 {w : World} {wd d0 d1 : Nat} {G : Nat → Prop} {S : Wi} (h : (rWq wd d0 d1 G S).ok w) (hk : NicOk S.A1) (i room : Int) : Calls Try.prog 75 #[pt d1 0, iw i, iw room] w fun e w' => e = .returned (iw (setRxF S.A1 i room).1) ∧ RTo 100 92 46 w wd d0 d1 G (S.setA true (setRxF S.A1 i room).2) w' := by
  obtain ⟨F, k1, k2, k3, k4⟩ := rwi_dev1 h
  exact (q_setrx hk k1 i room).mono fun e w2 ⟨h1, h2⟩ => ⟨h1, k4 _ _ h2⟩
theorem rv_write1 {w : World} {wd d0 d1 : Nat} {G : Nat → Prop} {S : Wi} (h : (rWq wd d0 d1 G S).ok w) (hk : NicOk S.A1) (reg v : Int) : Calls Try.prog 28 #[pt d1 0, iw reg, iw v] w fun e w' => e = .returned (iw (writeF S.A1 reg v).1) ∧ RTo 100 92 46 w wd d0 d1 G (S.setA true (writeF S.A1 reg v).2) w' := by
  obtain ⟨F, k1, k2, k3, k4⟩ := rwi_dev1 h
  exact (q_write hk k1 reg v).mono fun e w2 ⟨h1, h2, h3⟩ => ⟨h1, k4 _ _ ⟨F, h2, fun b hb => .inl hb, h3⟩⟩
theorem rv_link1 {w : World} {wd d0 d1 : Nat} {G : Nat → Prop} {S : Wi} (h : (rWq wd d0 d1 G S).ok w) (hk : NicOk S.A1) (u : Bool) : Calls Try.prog 65 #[pt d1 0, bo u] w fun e w' => e = .returned (.tuple #[]) ∧ RTo 100 92 46 w wd d0 d1 G (S.setA true (linkF S.A1 u)) w' := by
  obtain ⟨F, k1, k2, k3, k4⟩ := rwi_dev1 h
  exact (q_link hk k1 u).mono fun e w2 ⟨h1, h2⟩ => ⟨h1, k4 _ _ h2⟩
end Go.Proofs.Ytcilikkljkdceaa

/-
  New wires.
-/
namespace Go.Proofs.Ytcilikkljkdceaa
open Go.RowKit
set_option maxRecDepth 100000
set_option maxHeartbeats 4000000
theorem pwnew_any {w : World} {d0 d1 : Nat} : Calls Try.prog 29 #[pt d0 0, pt d1 0] w fun e w' => ∃ g, e = .returned (pt g 0) ∧ w.heap.size ≤ g ∧ Blk w' g [pt d0 0, pt d1 0, .slice none 0 0, .slice none 0 0, iw 0] 77 ∧ Only (fun _ => False) w w' := by
  refine calls_sc (l0 := []) (args := [pt d0 0, pt d1 0]) (fun _ => False) Try.func29 rfl 10 Try.ntmps29 (le_b rfl) ⟨⟨by simp, List.Pairwise.nil⟩, Only.refl _ _⟩ ?_
  show SC _ _ _ _ [(0, pt d0 0), (1, pt d1 0)] []
  refine SC.sr ?_
  refine SL.as ?_
  refine SL.nl ?_
  refine SC.sr ?_
  refine SL.mv ?_
  refine SL.mv ?_
  refine SL.uu (ru_build (vals := [(0, pt d0 0), (1, pt d1 0)]) (cells := [pt d0 0, pt d1 0]) rfl rfl (by kernel_rfl)) ?_
  refine SL.uu (ru_build (vals := [(0, Value.agg #[pt d0 0, pt d1 0])]) (cells := [pt d0 0, pt d1 0, Value.slice none 0 0, Value.slice none 0 0, iw 0]) rfl rfl (by kernel_rfl)) ?_
  refine SL.box (c := [pt d0 0, pt d1 0, Value.slice none 0 0, Value.slice none 0 0, iw 0]) rfl rfl (lt_b rfl) rfl rfl rfl fun b1 hb1 => ?_
  refine SL.as ?_
  refine SL.nl ?_
  refine SC.ret ?_
  refine SE.res (.inl rfl) (res1 Try.results29 rfl) fun w1 hI => ⟨b1, rfl, hb1, hI.1.get (i := 0) rfl, hI.2⟩
theorem qwnew_any {w : World} {d0 d1 : Nat} : Calls Try.prog 30 #[pt d0 0, pt d1 0] w fun e w' => ∃ g, e = .returned (pt g 0) ∧ w.heap.size ≤ g ∧ Blk w' g [pt d0 0, pt d1 0, .slice none 0 0, .slice none 0 0, iw 0] 92 ∧ Only (fun _ => False) w w' := by
  refine calls_sc (l0 := []) (args := [pt d0 0, pt d1 0]) (fun _ => False) Try.func30 rfl 19 Try.ntmps30 (le_b rfl) ⟨⟨by simp, List.Pairwise.nil⟩, Only.refl _ _⟩ ?_
  show SC _ _ _ _ [(0, pt d0 0), (1, pt d1 0)] []
  refine SC.sr ?_
  refine SL.as ?_
  refine SL.nl ?_
  refine SC.sr ?_
  refine SL.uu (ru_build (vals := []) (cells := [Value.pointer none, Value.pointer none, Value.slice none 0 0, Value.slice none 0 0, iw 0]) rfl rfl (by kernel_rfl)) ?_
  refine SL.box (c := [Value.pointer none, Value.pointer none, Value.slice none 0 0, Value.slice none 0 0, iw 0]) rfl rfl (lt_b rfl) rfl rfl rfl fun b1 hb1 => ?_
  refine SL.as ?_
  refine SL.nl ?_
  refine SC.sr ?_
  refine SL.mv ?_
  refine SL.mv ?_
  refine SL.nk ?_
  refine SL.fa 0 fd92_0 ?_
  refine SL.ia 0 ar37 ?_
  refine SL.store (i := 0) (c' := [pt d0 0, Value.pointer none, Value.slice none 0 0, Value.slice none 0 0, iw 0]) rfl rfl ts36 rfl rfl rfl rfl rfl (lt_b rfl) (.inr hb1) rfl ?_
  refine SL.nl ?_
  refine SC.sr ?_
  refine SL.mv ?_
  refine SL.mv ?_
  refine SL.nk ?_
  refine SL.fa 0 fd92_0 ?_
  refine SL.ia 1 ar37 ?_
  refine SL.store (i := 0) (c' := [pt d0 0, pt d1 0, Value.slice none 0 0, Value.slice none 0 0, iw 0]) rfl rfl ts36 rfl rfl rfl rfl rfl (lt_b rfl) (.inr hb1) rfl ?_
  refine SL.nl ?_
  refine SC.sr ?_
  refine SL.mv ?_
  refine SL.as ?_
  refine SL.nl ?_
  refine SC.ret ?_
  refine SE.res (.inl rfl) (res1 Try.results30 rfl) fun w1 hI => ⟨b1, rfl, hb1, hI.1.get (i := 0) rfl, hI.2⟩

end Go.Proofs.Ytcilikkljkdceaa

/-
  begun.
-/
namespace Go.Proofs.Ytcilikkljkdceaa
open Go.RowKit
set_option maxRecDepth 100000
set_option maxHeartbeats 4000000
theorem nil_in0 {S : Nat → Prop} {n c : Nat} : sliceIn (.slice none n c) S := fun b o n c e _ => by simp at e
theorem newAt {T : TypeId} {w : World} {g : Nat} (h : Blk w g (nc newA nilv nilv) T) : NicAt T w g (fun _ => False) newA :=
  ⟨nilv, nilv, h, id, fun b hb => hb.elim, fun i _ => ⟨BytesAt.nil _, nil_in0⟩, fun i _ => ⟨BytesAt.nil _, nil_in0⟩⟩
def onA : NicA := (writeF newA 0 1).2
def wi0 : Wi := ⟨onA, onA, [], [], 0⟩
def rg0 : Rg := ⟨wi0, wi0, 0, 0, 0, 0⟩
theorem begun_any (w : World) : Calls Try.prog 8 #[] w fun e w' => ∃ g wd d0 d1 vd e0 e1 G1 G2, e = .returned (pt g 0) ∧ Sep w' (RgL g wd d0 d1 vd e0 e1 G1 G2 rg0) ∧ w.heap.size ≤ g ∧ (∀ b, G1 b → w.heap.size ≤ b) ∧ (∀ b, G2 b → w.heap.size ≤ b) ∧ Only (fun _ => False) w w' := by
  refine calls_sc (l0 := []) (args := []) (fun _ => False) Try.func8 rfl 81 Try.ntmps8 (le_b rfl) ⟨⟨by simp, List.Pairwise.nil⟩, Only.refl _ _⟩ ?_
  show SC _ _ _ _ [] []
  refine SC.sr ?_
  refine SL.as ?_
  refine SL.nl ?_
  refine SC.sr ?_
  refine SL.uu (ru_build (vals := []) (cells := [Value.pointer none, Value.pointer none, Value.pointer none, Value.pointer none, Value.pointer none, Value.pointer none, iw 0, iw 0, iw 0, iw 0]) rfl rfl (by kernel_rfl)) ?_
  refine SL.box (c := [Value.pointer none, Value.pointer none, Value.pointer none, Value.pointer none, Value.pointer none, Value.pointer none, iw 0, iw 0, iw 0, iw 0]) rfl rfl (lt_b rfl) rfl rfl rfl fun g hg => ?_
  refine SL.as ?_
  refine SL.nl ?_
  refine SC.seq ?_
  refine SC.sr ?_
  refine SL.as ?_
  refine SL.nl ?_
  refine SC.block ?_
  refine SC.rounds 3 ?_
  refine SR.norm [(0, Value.pointer none), (1, pt g 0), (2, iw 0)] _ ⟨rfl, rfl, rfl, trivial⟩ rfl ?_
  refine SR.next ?_
  refine SC.seq ?_
  refine SC.sr ?_
  refine SL.mv ?_
  refine SL.uu (ru_lt (b := true) rfl rfl rfl rfl) ?_
  refine SL.nl ?_
  refine SC.yes rfl ?_
  refine SC.skip ?_
  refine SC.of_SE ?_
  refine SC.seq ?_
  refine SC.block ?_
  refine SC.seq ?_
  refine SC.region_mk_tail 5 [(2, Mk.blk ⟨81, w, fun _ => False⟩ (nc newA nilv nilv) 74)] [] rfl rfl (by kernel_rfl) (by kernel_rfl) (by kernel_rfl) ?_
  refine SM.uu (ru_move rfl rfl) ?_
  refine SM.uu (ru_move rfl rfl) ?_
  refine SM.mkcall (s := Mk.blk ⟨81, w, fun _ => False⟩ (nc newA nilv nilv) 74) rfl rfl rfl rfl (w_all rfl) rfl (lt_b rfl) rfl rfl rfl co26 rfl rfl (fun l' w hI => (p_new _).mono fun e w2 ⟨g, k1, k2, k3, k4⟩ => ⟨_, k2, ⟨g, Nat.le_trans hI.2.size k1, rfl⟩, hI.add (r := rBlk g (nc newA nilv nilv) 74) k4 k3 (fun b hb => hb ▸ k1)⟩) ?_
  rintro _ ⟨p1, hp1, rfl⟩
  refine SM.uu (ru_nilCheck rfl rfl) ?_
  refine SM.uu (ru_fieldAddr (o2 := 0) fd41_0 rfl rfl rfl) ?_
  refine SM.nilL (l' := [rBlk g [Value.pointer none, Value.pointer none, Value.pointer none, Value.pointer none, Value.pointer none, Value.pointer none, iw 0, iw 0, iw 0, iw 0] 41, rBlk p1 (nc newA nilv nilv) 74]) rfl ?_
  refine SL.ia 0 ar34 ?_
  refine SL.store (i := 0) (c' := [pt p1 0, Value.pointer none, Value.pointer none, Value.pointer none, Value.pointer none, Value.pointer none, iw 0, iw 0, iw 0, iw 0]) rfl rfl ts33 rfl rfl rfl rfl rfl (lt_b rfl) (.inr hg) rfl ?_
  refine SL.nl ?_
  refine SC.seq ?_
  refine SC.region_mk_tail 5 [(2, Mk.blk ⟨81, w, fun _ => False⟩ (nc newA nilv nilv) 100)] [] rfl rfl (by kernel_rfl) (by kernel_rfl) (by kernel_rfl) ?_
  refine SM.uu (ru_move rfl rfl) ?_
  refine SM.uu (ru_move rfl rfl) ?_
  refine SM.mkcall (s := Mk.blk ⟨81, w, fun _ => False⟩ (nc newA nilv nilv) 100) rfl rfl rfl rfl (w_all rfl) rfl (lt_b rfl) rfl rfl rfl co27 rfl rfl (fun l' w hI => (q_new _).mono fun e w2 ⟨g, k1, k2, k3, k4⟩ => ⟨_, k2, ⟨g, Nat.le_trans hI.2.size k1, rfl⟩, hI.add (r := rBlk g (nc newA nilv nilv) 100) k4 k3 (fun b hb => hb ▸ k1)⟩) ?_
  rintro _ ⟨q2, hq2, rfl⟩
  refine SM.uu (ru_nilCheck rfl rfl) ?_
  refine SM.uu (ru_fieldAddr (o2 := 3) fd41_2 rfl rfl rfl) ?_
  refine SM.nilL (l' := [rBlk g [pt p1 0, Value.pointer none, Value.pointer none, Value.pointer none, Value.pointer none, Value.pointer none, iw 0, iw 0, iw 0, iw 0] 41, rBlk p1 (nc newA nilv nilv) 74, rBlk q2 (nc newA nilv nilv) 100]) rfl ?_
  refine SL.ia 3 ar37 ?_
  refine SL.store (i := 0) (c' := [pt p1 0, Value.pointer none, Value.pointer none, pt q2 0, Value.pointer none, Value.pointer none, iw 0, iw 0, iw 0, iw 0]) rfl rfl ts36 rfl rfl rfl rfl rfl (lt_b rfl) (.inr hg) rfl ?_
  refine SL.nl ?_
  refine SC.seq ?_
  refine SC.sr ?_
  refine SL.mv ?_
  refine SL.mv ?_
  refine SL.nk ?_
  refine SL.fa 0 fd41_0 ?_
  refine SL.ia 0 ar34 ?_
  refine SL.ld 0 ts33 ?_
  refine SL.uu (ru_eqnil Try.underlying33 rfl rfl rfl rfl) ?_
  refine SL.nl ?_
  refine SC.no rfl ?_
  refine SC.skip ?_
  refine SC.of_SE ?_
  refine SC.sr ?_
  refine SL.mv ?_
  refine SL.mv ?_
  refine SL.nk ?_
  refine SL.fa 0 fd41_0 ?_
  refine SL.ia 0 ar34 ?_
  refine SL.ld 0 ts33 ?_
  refine SL.call (ζ := Unit) (fun _z => iw ((writeF newA 0 1).1)) (fun _z => [rBlk g [pt p1 0, Value.pointer none, Value.pointer none, pt q2 0, Value.pointer none, Value.pointer none, iw 0, iw 0, iw 0, iw 0] 41, rNic 74 p1 (fun _ => False) onA, rBlk q2 (nc newA nilv nilv) 100]) (fun _z => True) rfl rfl co11 rfl rfl rfl (lt_b rfl) (fun w hI => (p_write newA_ok (newAt (hI.1.get (i := 1) rfl)) 0 1).mono fun e w2 ⟨h1, h2, h3⟩ => ⟨(), h1, hI.upd (i := 1) rfl h3 (fun b hb => .inr (by cases hb; exact hp1)) h2 (fun b hb => .inl (hb.elim id False.elim)), trivial⟩) ?_
  rintro ⟨⟩ _
  refine SL.as ?_
  refine SL.nr [rBlk g [pt p1 0, Value.pointer none, Value.pointer none, pt q2 0, Value.pointer none, Value.pointer none, iw 0, iw 0, iw 0, iw 0] 41, rNic 74 p1 (fun _ => False) onA, rBlk q2 (nc newA nilv nilv) 100] ?_
  refine SC.sr ?_
  refine SL.mv ?_
  refine SL.mv ?_
  refine SL.nk ?_
  refine SL.fa 3 fd41_2 ?_
  refine SL.ia 3 ar37 ?_
  refine SL.ld 0 ts36 ?_
  refine SL.call (ζ := Unit) (fun _z => iw ((writeF newA 0 1).1)) (fun _z => [rBlk g [pt p1 0, Value.pointer none, Value.pointer none, pt q2 0, Value.pointer none, Value.pointer none, iw 0, iw 0, iw 0, iw 0] 41, rNic 74 p1 (fun _ => False) onA, rNic 100 q2 (fun _ => False) onA]) (fun _z => True) rfl rfl co28 rfl rfl rfl (lt_b rfl) (fun w hI => (q_write newA_ok (newAt (hI.1.get (i := 2) rfl)) 0 1).mono fun e w2 ⟨h1, h2, h3⟩ => ⟨(), h1, hI.upd (i := 2) rfl h3 (fun b hb => .inr (by cases hb; exact hq2)) h2 (fun b hb => .inl (hb.elim id False.elim)), trivial⟩) ?_
  rintro ⟨⟩ _
  refine SL.as ?_
  refine SL.nl ?_
  refine SC.sr ?_
  refine SL.mv ?_
  refine SL.mv ?_
  refine SL.uu (ru_ne (b := false) rfl rfl rfl ((by decide +kernel))) ?_
  refine SL.nl ?_
  refine SC.no rfl ?_
  refine SC.skip ?_
  refine SE.blkn ?_
  refine SC.of_SE ?_
  refine SC.region ?_
  refine SL.mv ?_
  refine SL.uu (ru_add (r := 1) rfl rfl rfl rfl) ?_
  refine SL.as ?_
  refine SL.nil ?_
  refine SE.round ?_
  refine SR.norm [(0, Value.pointer none), (1, pt g 0), (2, iw 1)] _ ⟨rfl, rfl, rfl, trivial⟩ rfl ?_
  refine SR.next ?_
  refine SC.seq ?_
  refine SC.sr ?_
  refine SL.mv ?_
  refine SL.uu (ru_lt (b := true) rfl rfl rfl rfl) ?_
  refine SL.nn [(0, Value.pointer none), (1, pt g 0), (2, iw 1), (8, bo true)] _ ⟨rfl, rfl, rfl, rfl, trivial⟩ ?_
  refine SC.yes rfl ?_
  refine SC.skip ?_
  refine SC.of_SE ?_
  refine SC.seq ?_
  refine SC.block ?_
  refine SC.seq ?_
  refine SC.region_mk_tail 5 [(2, Mk.blk ⟨81, w, fun _ => False⟩ (nc newA nilv nilv) 74)] [] rfl rfl (by kernel_rfl) (by kernel_rfl) (by kernel_rfl) ?_
  refine SM.uu (ru_move rfl rfl) ?_
  refine SM.uu (ru_move rfl rfl) ?_
  refine SM.mkcall (s := Mk.blk ⟨81, w, fun _ => False⟩ (nc newA nilv nilv) 74) rfl rfl rfl rfl (w_all rfl) rfl (lt_b rfl) rfl rfl rfl co26 rfl rfl (fun l' w hI => (p_new _).mono fun e w2 ⟨g, k1, k2, k3, k4⟩ => ⟨_, k2, ⟨g, Nat.le_trans hI.2.size k1, rfl⟩, hI.add (r := rBlk g (nc newA nilv nilv) 74) k4 k3 (fun b hb => hb ▸ k1)⟩) ?_
  rintro _ ⟨p3, hp3, rfl⟩
  refine SM.uu (ru_nilCheck rfl rfl) ?_
  refine SM.uu (ru_fieldAddr (o2 := 0) fd41_0 rfl rfl rfl) ?_
  refine SM.nilL (l' := [rBlk g [pt p1 0, Value.pointer none, Value.pointer none, pt q2 0, Value.pointer none, Value.pointer none, iw 0, iw 0, iw 0, iw 0] 41, rNic 74 p1 (fun _ => False) onA, rNic 100 q2 (fun _ => False) onA, rBlk p3 (nc newA nilv nilv) 74]) rfl ?_
  refine SL.ia 1 ar34 ?_
  refine SL.store (i := 0) (c' := [pt p1 0, pt p3 0, Value.pointer none, pt q2 0, Value.pointer none, Value.pointer none, iw 0, iw 0, iw 0, iw 0]) rfl rfl ts33 rfl rfl rfl rfl rfl (lt_b rfl) (.inr hg) rfl ?_
  refine SL.nl ?_
  refine SC.seq ?_
  refine SC.region_mk_tail 5 [(2, Mk.blk ⟨81, w, fun _ => False⟩ (nc newA nilv nilv) 100)] [] rfl rfl (by kernel_rfl) (by kernel_rfl) (by kernel_rfl) ?_
  refine SM.uu (ru_move rfl rfl) ?_
  refine SM.uu (ru_move rfl rfl) ?_
  refine SM.mkcall (s := Mk.blk ⟨81, w, fun _ => False⟩ (nc newA nilv nilv) 100) rfl rfl rfl rfl (w_all rfl) rfl (lt_b rfl) rfl rfl rfl co27 rfl rfl (fun l' w hI => (q_new _).mono fun e w2 ⟨g, k1, k2, k3, k4⟩ => ⟨_, k2, ⟨g, Nat.le_trans hI.2.size k1, rfl⟩, hI.add (r := rBlk g (nc newA nilv nilv) 100) k4 k3 (fun b hb => hb ▸ k1)⟩) ?_
  rintro _ ⟨q4, hq4, rfl⟩
  refine SM.uu (ru_nilCheck rfl rfl) ?_
  refine SM.uu (ru_fieldAddr (o2 := 3) fd41_2 rfl rfl rfl) ?_
  refine SM.nilL (l' := [rBlk g [pt p1 0, pt p3 0, Value.pointer none, pt q2 0, Value.pointer none, Value.pointer none, iw 0, iw 0, iw 0, iw 0] 41, rNic 74 p1 (fun _ => False) onA, rNic 100 q2 (fun _ => False) onA, rBlk p3 (nc newA nilv nilv) 74, rBlk q4 (nc newA nilv nilv) 100]) rfl ?_
  refine SL.ia 4 ar37 ?_
  refine SL.store (i := 0) (c' := [pt p1 0, pt p3 0, Value.pointer none, pt q2 0, pt q4 0, Value.pointer none, iw 0, iw 0, iw 0, iw 0]) rfl rfl ts36 rfl rfl rfl rfl rfl (lt_b rfl) (.inr hg) rfl ?_
  refine SL.nr [rBlk g [pt p1 0, pt p3 0, Value.pointer none, pt q2 0, pt q4 0, Value.pointer none, iw 0, iw 0, iw 0, iw 0] 41, rNic 74 p1 (fun _ => False) onA, rNic 100 q2 (fun _ => False) onA, rBlk p3 (nc newA nilv nilv) 74, rBlk q4 (nc newA nilv nilv) 100] ?_
  refine SC.seq ?_
  refine SC.sr ?_
  refine SL.mv ?_
  refine SL.mv ?_
  refine SL.nk ?_
  refine SL.fa 0 fd41_0 ?_
  refine SL.ia 1 ar34 ?_
  refine SL.ld 0 ts33 ?_
  refine SL.uu (ru_eqnil Try.underlying33 rfl rfl rfl rfl) ?_
  refine SL.nl ?_
  refine SC.no rfl ?_
  refine SC.skip ?_
  refine SC.of_SE ?_
  refine SC.sr ?_
  refine SL.mv ?_
  refine SL.mv ?_
  refine SL.nk ?_
  refine SL.fa 0 fd41_0 ?_
  refine SL.ia 1 ar34 ?_
  refine SL.ld 0 ts33 ?_
  refine SL.call (ζ := Unit) (fun _z => iw ((writeF newA 0 1).1)) (fun _z => [rBlk g [pt p1 0, pt p3 0, Value.pointer none, pt q2 0, pt q4 0, Value.pointer none, iw 0, iw 0, iw 0, iw 0] 41, rNic 74 p1 (fun _ => False) onA, rNic 100 q2 (fun _ => False) onA, rNic 74 p3 (fun _ => False) onA, rBlk q4 (nc newA nilv nilv) 100]) (fun _z => True) rfl rfl co11 rfl rfl rfl (lt_b rfl) (fun w hI => (p_write newA_ok (newAt (hI.1.get (i := 3) rfl)) 0 1).mono fun e w2 ⟨h1, h2, h3⟩ => ⟨(), h1, hI.upd (i := 3) rfl h3 (fun b hb => .inr (by cases hb; exact hp3)) h2 (fun b hb => .inl (hb.elim id False.elim)), trivial⟩) ?_
  rintro ⟨⟩ _
  refine SL.as ?_
  refine SL.nl ?_
  refine SC.sr ?_
  refine SL.mv ?_
  refine SL.mv ?_
  refine SL.nk ?_
  refine SL.fa 3 fd41_2 ?_
  refine SL.ia 4 ar37 ?_
  refine SL.ld 0 ts36 ?_
  refine SL.call (ζ := Unit) (fun _z => iw ((writeF newA 0 1).1)) (fun _z => [rBlk g [pt p1 0, pt p3 0, Value.pointer none, pt q2 0, pt q4 0, Value.pointer none, iw 0, iw 0, iw 0, iw 0] 41, rNic 74 p1 (fun _ => False) onA, rNic 100 q2 (fun _ => False) onA, rNic 74 p3 (fun _ => False) onA, rNic 100 q4 (fun _ => False) onA]) (fun _z => True) rfl rfl co28 rfl rfl rfl (lt_b rfl) (fun w hI => (q_write newA_ok (newAt (hI.1.get (i := 4) rfl)) 0 1).mono fun e w2 ⟨h1, h2, h3⟩ => ⟨(), h1, hI.upd (i := 4) rfl h3 (fun b hb => .inr (by cases hb; exact hq4)) h2 (fun b hb => .inl (hb.elim id False.elim)), trivial⟩) ?_
  rintro ⟨⟩ _
  refine SL.as ?_
  refine SL.nl ?_
  refine SC.sr ?_
  refine SL.mv ?_
  refine SL.mv ?_
  refine SL.uu (ru_ne (b := false) rfl rfl rfl ((by decide +kernel))) ?_
  refine SL.nl ?_
  refine SC.no rfl ?_
  refine SC.skip ?_
  refine SE.blkn ?_
  refine SC.of_SE ?_
  refine SC.region ?_
  refine SL.mv ?_
  refine SL.uu (ru_add (r := 2) rfl rfl rfl rfl) ?_
  refine SL.as ?_
  refine SL.nil ?_
  refine SE.round ?_
  refine SR.norm [(0, Value.pointer none), (1, pt g 0), (2, iw 2)] _ ⟨rfl, rfl, rfl, trivial⟩ rfl ?_
  refine SR.next ?_
  refine SC.seq ?_
  refine SC.sr ?_
  refine SL.mv ?_
  refine SL.uu (ru_lt (b := false) rfl rfl rfl rfl) ?_
  refine SL.nn [(0, Value.pointer none), (1, pt g 0), (2, iw 2), (8, bo false)] _ ⟨rfl, rfl, rfl, rfl, trivial⟩ ?_
  refine SC.no rfl ?_
  refine SC.exit ?_
  refine SE.passe ?_
  refine SE.passe ?_
  refine SE.blke ?_
  refine SC.of_SE ?_
  refine SC.seq ?_
  refine SC.region_mk_tail 12 [(11, Mk.blk ⟨81, w, fun _ => False⟩ [pt p1 0, pt p3 0, Value.slice none 0 0, Value.slice none 0 0, iw 0] 77)] [] rfl rfl (by kernel_rfl) (by kernel_rfl) (by kernel_rfl) ?_
  refine SM.uu (ru_move rfl rfl) ?_
  refine SM.uu (ru_move rfl rfl) ?_
  refine SM.uu (ru_nilCheck rfl rfl) ?_
  refine SM.uu (ru_fieldAddr (o2 := 0) fd41_0 rfl rfl rfl) ?_
  refine SM.uu (ru_indexA (o2 := 0) ar34 rfl rfl rfl (by decide) (by decide) rfl) ?_
  refine SM.uu (ru_load (i := 0) ts33 rfl rfl rfl rfl) ?_
  refine SM.uu (ru_move rfl rfl) ?_
  refine SM.uu (ru_nilCheck rfl rfl) ?_
  refine SM.uu (ru_fieldAddr (o2 := 0) fd41_0 rfl rfl rfl) ?_
  refine SM.uu (ru_indexA (o2 := 1) ar34 rfl rfl rfl (by decide) (by decide) rfl) ?_
  refine SM.uu (ru_load (i := 0) ts33 rfl rfl rfl rfl) ?_
  refine SM.mkcall (s := Mk.blk ⟨81, w, fun _ => False⟩ [pt p1 0, pt p3 0, Value.slice none 0 0, Value.slice none 0 0, iw 0] 77) rfl rfl rfl rfl (w_all rfl) rfl (lt_b rfl) rfl rfl rfl co29 rfl rfl (fun l' w hI => pwnew_any.mono fun e w2 ⟨g, k1, k2, k3, k4⟩ => ⟨_, k1, ⟨g, Nat.le_trans hI.2.size k2, rfl⟩, hI.add (r := rBlk g [pt p1 0, pt p3 0, Value.slice none 0 0, Value.slice none 0 0, iw 0] 77) k4 k3 (fun b hb => hb ▸ k2)⟩) ?_
  rintro _ ⟨wd5, hwd5, rfl⟩
  refine SM.nilL (l' := [rBlk g [pt p1 0, pt p3 0, Value.pointer none, pt q2 0, pt q4 0, Value.pointer none, iw 0, iw 0, iw 0, iw 0] 41, rNic 74 p1 (fun _ => False) onA, rNic 100 q2 (fun _ => False) onA, rNic 74 p3 (fun _ => False) onA, rNic 100 q4 (fun _ => False) onA, rBlk wd5 [pt p1 0, pt p3 0, Value.slice none 0 0, Value.slice none 0 0, iw 0] 77]) rfl ?_
  refine SL.nk ?_
  refine SL.fa 2 fd41_1 ?_
  refine SL.store (i := 0) (c' := [pt p1 0, pt p3 0, pt wd5 0, pt q2 0, pt q4 0, Value.pointer none, iw 0, iw 0, iw 0, iw 0]) rfl rfl ts35 rfl rfl rfl rfl rfl (lt_b rfl) (.inr hg) rfl ?_
  refine SL.nl ?_
  refine SC.seq ?_
  refine SC.region_mk_tail 12 [(11, Mk.blk ⟨81, w, fun _ => False⟩ [pt q2 0, pt q4 0, Value.slice none 0 0, Value.slice none 0 0, iw 0] 92)] [] rfl rfl (by kernel_rfl) (by kernel_rfl) (by kernel_rfl) ?_
  refine SM.uu (ru_move rfl rfl) ?_
  refine SM.uu (ru_move rfl rfl) ?_
  refine SM.uu (ru_nilCheck rfl rfl) ?_
  refine SM.uu (ru_fieldAddr (o2 := 3) fd41_2 rfl rfl rfl) ?_
  refine SM.uu (ru_indexA (o2 := 3) ar37 rfl rfl rfl (by decide) (by decide) rfl) ?_
  refine SM.uu (ru_load (i := 0) ts36 rfl rfl rfl rfl) ?_
  refine SM.uu (ru_move rfl rfl) ?_
  refine SM.uu (ru_nilCheck rfl rfl) ?_
  refine SM.uu (ru_fieldAddr (o2 := 3) fd41_2 rfl rfl rfl) ?_
  refine SM.uu (ru_indexA (o2 := 4) ar37 rfl rfl rfl (by decide) (by decide) rfl) ?_
  refine SM.uu (ru_load (i := 0) ts36 rfl rfl rfl rfl) ?_
  refine SM.mkcall (s := Mk.blk ⟨81, w, fun _ => False⟩ [pt q2 0, pt q4 0, Value.slice none 0 0, Value.slice none 0 0, iw 0] 92) rfl rfl rfl rfl (w_all rfl) rfl (lt_b rfl) rfl rfl rfl co30 rfl rfl (fun l' w hI => qwnew_any.mono fun e w2 ⟨g, k1, k2, k3, k4⟩ => ⟨_, k1, ⟨g, Nat.le_trans hI.2.size k2, rfl⟩, hI.add (r := rBlk g [pt q2 0, pt q4 0, Value.slice none 0 0, Value.slice none 0 0, iw 0] 92) k4 k3 (fun b hb => hb ▸ k2)⟩) ?_
  rintro _ ⟨wd6, hwd6, rfl⟩
  refine SM.nilL (l' := [rBlk g [pt p1 0, pt p3 0, pt wd5 0, pt q2 0, pt q4 0, Value.pointer none, iw 0, iw 0, iw 0, iw 0] 41, rNic 74 p1 (fun _ => False) onA, rNic 100 q2 (fun _ => False) onA, rNic 74 p3 (fun _ => False) onA, rNic 100 q4 (fun _ => False) onA, rBlk wd5 [pt p1 0, pt p3 0, Value.slice none 0 0, Value.slice none 0 0, iw 0] 77, rBlk wd6 [pt q2 0, pt q4 0, Value.slice none 0 0, Value.slice none 0 0, iw 0] 92]) rfl ?_
  refine SL.nk ?_
  refine SL.fa 5 fd41_3 ?_
  refine SL.store (i := 0) (c' := [pt p1 0, pt p3 0, pt wd5 0, pt q2 0, pt q4 0, pt wd6 0, iw 0, iw 0, iw 0, iw 0]) rfl rfl ts38 rfl rfl rfl rfl rfl (lt_b rfl) (.inr hg) rfl ?_
  refine SL.nr [rBlk g [pt p1 0, pt p3 0, pt wd5 0, pt q2 0, pt q4 0, pt wd6 0, iw 0, iw 0, iw 0, iw 0] 41, rNic 74 p1 (fun _ => False) onA, rNic 100 q2 (fun _ => False) onA, rNic 74 p3 (fun _ => False) onA, rNic 100 q4 (fun _ => False) onA, rBlk wd5 [pt p1 0, pt p3 0, Value.slice none 0 0, Value.slice none 0 0, iw 0] 77, rBlk wd6 [pt q2 0, pt q4 0, Value.slice none 0 0, Value.slice none 0 0, iw 0] 92] ?_
  refine SC.seq ?_
  refine SC.sr ?_
  refine SL.mv ?_
  refine SL.nk ?_
  refine SL.fa 2 fd41_1 ?_
  refine SL.ld 0 ts35 ?_
  refine SL.uu (ru_eqnil Try.underlying35 rfl rfl rfl rfl) ?_
  refine SL.nl ?_
  refine SC.no rfl ?_
  refine SC.skip ?_
  refine SC.of_SE ?_
  refine SC.sr ?_
  refine SL.mv ?_
  refine SL.as ?_
  refine SL.nl ?_
  refine SC.ret ?_
  refine SE.res (.inl rfl) (res1 Try.results8 rfl) fun w1 hI => ?_
  have h0 : Inv ⟨81, w, fun _ => False⟩ w1 [rBlk wd5 [pt p1 0, pt p3 0, Value.slice none 0 0, Value.slice none 0 0, iw 0] 77, rNic 74 p1 (fun _ => False) onA, rNic 74 p3 (fun _ => False) onA, rBlk g [pt p1 0, pt p3 0, pt wd5 0, pt q2 0, pt q4 0, pt wd6 0, iw 0, iw 0, iw 0, iw 0] 41, rNic 100 q2 (fun _ => False) onA, rNic 100 q4 (fun _ => False) onA, rBlk wd6 [pt q2 0, pt q4 0, Value.slice none 0 0, Value.slice none 0 0, iw 0] 92] := hI.reo [5, 1, 3, 0, 2, 4, 6] (by decide)
  have h1 : Inv ⟨81, w, fun _ => False⟩ w1 [rWp wd5 p1 p3 (fun b => b = wd5 ∨ (b = p1 ∨ False) ∨ b = p3 ∨ False) wi0, rBlk g [pt p1 0, pt p3 0, pt wd5 0, pt q2 0, pt q4 0, pt wd6 0, iw 0, iw 0, iw 0, iw 0] 41, rNic 100 q2 (fun _ => False) onA, rNic 100 q4 (fun _ => False) onA, rBlk wd6 [pt q2 0, pt q4 0, Value.slice none 0 0, Value.slice none 0 0, iw 0] 92] := rwi_new (l := [rBlk g [pt p1 0, pt p3 0, pt wd5 0, pt q2 0, pt q4 0, pt wd6 0, iw 0, iw 0, iw 0, iw 0] 41, rNic 100 q2 (fun _ => False) onA, rNic 100 q4 (fun _ => False) onA, rBlk wd6 [pt q2 0, pt q4 0, Value.slice none 0 0, Value.slice none 0 0, iw 0] 92]) h0
  have h1b : Inv ⟨81, w, fun _ => False⟩ w1 [rBlk wd6 [pt q2 0, pt q4 0, Value.slice none 0 0, Value.slice none 0 0, iw 0] 92, rNic 100 q2 (fun _ => False) onA, rNic 100 q4 (fun _ => False) onA, rWp wd5 p1 p3 (fun b => b = wd5 ∨ (b = p1 ∨ False) ∨ b = p3 ∨ False) wi0, rBlk g [pt p1 0, pt p3 0, pt wd5 0, pt q2 0, pt q4 0, pt wd6 0, iw 0, iw 0, iw 0, iw 0] 41] := h1.reo [4, 2, 3, 0, 1] (by decide)
  have h2 : Inv ⟨81, w, fun _ => False⟩ w1 [rWq wd6 q2 q4 (fun b => b = wd6 ∨ (b = q2 ∨ False) ∨ b = q4 ∨ False) wi0, rWp wd5 p1 p3 (fun b => b = wd5 ∨ (b = p1 ∨ False) ∨ b = p3 ∨ False) wi0, rBlk g [pt p1 0, pt p3 0, pt wd5 0, pt q2 0, pt q4 0, pt wd6 0, iw 0, iw 0, iw 0, iw 0] 41] := rwi_new (l := [rWp wd5 p1 p3 (fun b => b = wd5 ∨ (b = p1 ∨ False) ∨ b = p3 ∨ False) wi0, rBlk g [pt p1 0, pt p3 0, pt wd5 0, pt q2 0, pt q4 0, pt wd6 0, iw 0, iw 0, iw 0, iw 0] 41]) h1b
  have h3 : Inv ⟨81, w, fun _ => False⟩ w1 [rBlk g [pt p1 0, pt p3 0, pt wd5 0, pt q2 0, pt q4 0, pt wd6 0, iw 0, iw 0, iw 0, iw 0] 41, rWp wd5 p1 p3 (fun b => b = wd5 ∨ (b = p1 ∨ False) ∨ b = p3 ∨ False) wi0, rWq wd6 q2 q4 (fun b => b = wd6 ∨ (b = q2 ∨ False) ∨ b = q4 ∨ False) wi0] := h2.reo [2, 1, 0] (by decide)
  refine ⟨g, wd5, p1, p3, wd6, q2, q4, _, _, rfl, h3.1, hg, fun b hb => ?_, fun b hb => ?_, hI.2⟩
  · rcases hb with e | (e | e) | e | e <;> first | (rw [e]; assumption) | exact e.elim
  · rcases hb with e | (e | e) | e | e <;> first | (rw [e]; assumption) | exact e.elim

end Go.Proofs.Ytcilikkljkdceaa

/-
  post.
-/
namespace Go.Proofs.Ytcilikkljkdceaa
open Go.RowKit
set_option maxRecDepth 100000
set_option maxHeartbeats 4000000
def postF (S : Wi) (b : Bool) (t : Int) (f : List UInt8) : Wi × Int :=
  if ((setTxF (S.A b) t f).1 != 0) = true then (S.setA b (setTxF (S.A b) t f).2, t) else (S.setA b (writeF (setTxF (S.A b) t f).2 5 (nx t)).2, nx t)
theorem Wb.post {n : Nat} {S : Wi} (h : Wb n S) (b : Bool) (t : Int) (f : List UInt8) : Wb n (postF S b t f).1 := by
  unfold postF
  have h1 := h.setA b ((h.d b).setTx t f)
  split
  · exact h1
  · refine h.setA b ?_
    have := ((h.d b).setTx t f).write h.now.1 5 (nx t)
    exact this
theorem post_t {S : Wi} {b : Bool} {t : Int} {f : List UInt8} (h : 0 ≤ t ∧ t < 16) : 0 ≤ (postF S b t f).2 ∧ (postF S b t f).2 < 16 := by
  unfold postF
  split
  · exact h
  · exact nx_bd
theorem post0_any {n : Nat} {w : World} {g wd d0 d1 vd e0 e1 : Nat} {G1 G2 : Nat → Prop} {S : Wi} {t0 t1 f0 f1 : Int} (hB : Wb n S) (ht : 0 ≤ t0 ∧ t0 < 16) {v : Value} {f : List UInt8} (hb : BytesAt w v f) (hv : sliceIn v (fun b => ¬ RgZ g G1 G2 b ∧ b < w.heap.size)) (h : Sep w (RgL g wd d0 d1 vd e0 e1 G1 G2 ⟨S, S, t0, t1, f0, f1⟩)) : Calls Try.prog 25 #[pt g 0, iw 0, v] w fun e w' => e = .returned (bo true) ∧ RgTo w g wd d0 d1 vd e0 e1 G1 G2 ⟨(postF S false t0 f).1, (postF S false t0 f).1, (postF S false t0 f).2, t1, f0, f1⟩ w' := by
  have hG1 : ∀ b, G1 b → RgZ g G1 G2 b ∨ w.heap.size ≤ b := fun b hb => .inl (.inr (.inl hb))
  have hG2 : ∀ b, G2 b → RgZ g G1 G2 b ∨ w.heap.size ≤ b := fun b hb => .inl (.inr (.inr hb))
  refine calls_sc (l0 := (RgL g wd d0 d1 vd e0 e1 G1 G2 ⟨S, S, t0, t1, f0, f1⟩)) (args := [pt g 0, iw 0, v]) (RgZ g G1 G2) Try.func25 rfl 82 Try.ntmps25 (le_b rfl) ⟨h, Only.refl _ _⟩ ?_
  show SC _ _ _ _ [(0, pt g 0), (1, iw 0), (2, v)] (RgL g wd d0 d1 vd e0 e1 G1 G2 ⟨S, S, t0, t1, f0, f1⟩)
  refine SC.sr ?_
  refine SL.as ?_
  refine SL.nl ?_
  refine SC.seq ?_
  refine SC.region_tail 13 (by kernel_rfl) (by kernel_rfl) ?_
  refine SQ.mv ?_
  refine SQ.mv ?_
  refine SQ.nk ?_
  refine SQ.fa 0 fd41_0 ?_
  refine SQ.ia 0 ar34 ?_
  refine SQ.ld 0 ts33 ?_
  refine SQ.mv ?_
  refine SQ.mv ?_
  refine SQ.nk ?_
  refine SQ.fa 6 fd41_4 ?_
  refine SQ.ia 6 ar39 ?_
  refine SQ.ld 0 ts3 ?_
  refine SQ.mv ?_
  refine SQ.nilL ?_
  have hB2 := hB.setA false ((hB.d0).setTx t0 f)
  refine SL.call (ζ := Nat → Prop) (fun Gw1 => iw ((setTxF S.A0 t0 f).1)) (fun Gw1 => [rG g d0 d1 wd e0 e1 vd t0 t1 f0 f1 41, rWp wd d0 d1 Gw1 (S.setA false (setTxF S.A0 t0 f).2), rWq vd e0 e1 G2 S]) (fun Gw1 => ∀ b, Gw1 b → RgZ g G1 G2 b ∨ w.heap.size ≤ b) rfl rfl co10 rfl rfl rfl (lt_b rfl) (fun w5 hI => (rw_settx0 (hI.1.get (i := 1) rfl) hB.d0.ok (hb.only hI.2 (fun b o n c e hn => (hv b o n c e hn).1)) (fun b o n c e hn hg => (hG1 b hg).elim (hv b o n c e hn).1 (fun e9 => by have := (hv b o n c e hn).2; omega)) t0).mono fun e w2 ⟨h1, kz⟩ => by obtain ⟨G9, k1, k2⟩ := hI.rto (i := 1) rfl hG1 kz; exact ⟨G9, h1, k1, k2⟩) ?_
  intro Gw1 hGw1
  refine SL.as ?_
  refine SL.nl ?_
  refine SC.seq ?_
  refine SC.region_tail 13 (by kernel_rfl) (by kernel_rfl) ?_
  refine SQ.mv ?_
  refine SQ.mv ?_
  refine SQ.nk ?_
  refine SQ.fa 3 fd41_2 ?_
  refine SQ.ia 3 ar37 ?_
  refine SQ.ld 0 ts36 ?_
  refine SQ.mv ?_
  refine SQ.mv ?_
  refine SQ.nk ?_
  refine SQ.fa 6 fd41_4 ?_
  refine SQ.ia 6 ar39 ?_
  refine SQ.ld 0 ts3 ?_
  refine SQ.mv ?_
  refine SQ.nilL ?_
  have hB4 := hB.setA false ((hB.d0).setTx t0 f)
  refine SL.call (ζ := Nat → Prop) (fun Gw3 => iw ((setTxF S.A0 t0 f).1)) (fun Gw3 => [rG g d0 d1 wd e0 e1 vd t0 t1 f0 f1 41, rWp wd d0 d1 Gw1 (S.setA false (setTxF S.A0 t0 f).2), rWq vd e0 e1 Gw3 (S.setA false (setTxF S.A0 t0 f).2)]) (fun Gw3 => ∀ b, Gw3 b → RgZ g G1 G2 b ∨ w.heap.size ≤ b) rfl rfl co57 rfl rfl rfl (lt_b rfl) (fun w5 hI => (rv_settx0 (hI.1.get (i := 2) rfl) hB.d0.ok (hb.only hI.2 (fun b o n c e hn => (hv b o n c e hn).1)) (fun b o n c e hn hg => (hG2 b hg).elim (hv b o n c e hn).1 (fun e9 => by have := (hv b o n c e hn).2; omega)) t0).mono fun e w2 ⟨h1, kz⟩ => by obtain ⟨G9, k1, k2⟩ := hI.rto (i := 2) rfl hG2 kz; exact ⟨G9, h1, k1, k2⟩) ?_
  intro Gw3 hGw3
  refine SL.as ?_
  refine SL.nl ?_
  refine SC.seq ?_
  refine SC.sr ?_
  refine SL.mv ?_
  refine SL.mv ?_
  refine SL.uu (ru_ne (b := false) rfl rfl rfl (by simp)) ?_
  refine SL.nl ?_
  refine SC.no rfl ?_
  refine SC.skip ?_
  refine SC.of_SE ?_
  refine SC.seq ?_
  refine SC.sr ?_
  refine SL.mv ?_
  refine SL.uu (ru_ne (b := ((((setTxF S.A0 t0 f).1) : Int) != 0)) rfl rfl rfl rfl) ?_
  refine SL.nl ?_
  refine SC.both ((((setTxF S.A0 t0 f).1) : Int) != 0) rfl (fun h5 => ?_) (fun h5 => ?_)
  · skip
    refine SC.sr ?_
    refine SL.as ?_
    refine SL.nl ?_
    refine SC.ret ?_
    refine SE.passr ?_
    refine SE.res (.inl rfl) (res1 Try.results25 rfl) fun w1 hI => ⟨rfl, ?_⟩
    have ew : postF S false t0 f = (S.setA false (setTxF S.A0 t0 f).2, t0) := by unfold postF; exact if_pos h5
    rw [ew]
    exact RgTo.of (l := []) hI hGw1 hGw3
  refine SC.skip ?_
  refine SC.of_SE ?_
  refine SC.seq ?_
  refine SC.region_tail 13 (by kernel_rfl) (by kernel_rfl) ?_
  refine SQ.mv ?_
  refine SQ.mv ?_
  refine SQ.mv ?_
  refine SQ.mv ?_
  refine SQ.nk ?_
  refine SQ.fa 6 fd41_4 ?_
  refine SQ.ia 6 ar39 ?_
  refine SQ.ld 0 ts3 ?_
  refine SQ.uu (ru_add (r := (t0 + 1)) rfl rfl rfl ((by rw [IntKind.wrap_i64]; omega))) ?_
  refine SQ.uu (ru_rem (r := (nx t0)) rfl rfl rfl (by decide) ((by rw [Int.tmod_eq_emod_of_nonneg (by omega)]; rfl))) ?_
  refine SQ.nk ?_
  refine SQ.fa 6 fd41_4 ?_
  refine SQ.ia 6 ar39 ?_
  refine SQ.nilL ?_
  refine SL.store (i := 0) (c' := [pt d0 0, pt d1 0, pt wd 0, pt e0 0, pt e1 0, pt vd 0, iw (nx t0), iw t1, iw f0, iw f1]) rfl rfl ts3 rfl rfl rfl rfl rfl (lt_b rfl) (.inl (.inl rfl)) rfl ?_
  refine SL.nn [(0, pt g 0), (1, iw 0), (6, bo false)] _ ⟨rfl, rfl, rfl, trivial⟩ ?_
  refine SC.seq ?_
  have hB7 := hB2.setA false ((hB2.d0).write hB2.now.1 5 (nx t0))
  have hcb8 := CU.base (X := ⟨82, w, RgZ g G1 G2⟩) (l := [rBlk g [pt d0 0, pt d1 0, pt wd 0, pt e0 0, pt e1 0, pt vd 0, iw (nx t0), iw t1, iw f0, iw f1] 41, rWp wd d0 d1 Gw1 (S.setA false (setTxF S.A0 t0 f).2), rWq vd e0 e1 Gw3 (S.setA false (setTxF S.A0 t0 f).2)]) (l2 := fun (Gw6 : Nat → Prop) => [rBlk g [pt d0 0, pt d1 0, pt wd 0, pt e0 0, pt e1 0, pt vd 0, iw (nx t0), iw t1, iw f0, iw f1] 41, rWp wd d0 d1 Gw6 ((S.setA false (setTxF S.A0 t0 f).2).setA false (writeF (S.setA false (setTxF S.A0 t0 f).2).A0 5 (nx t0)).2), rWq vd e0 e1 Gw3 (S.setA false (setTxF S.A0 t0 f).2)]) (p := fun (Gw6 : Nat → Prop) => ∀ b, Gw6 b → RgZ g G1 G2 b ∨ w.heap.size ≤ b) (k := 12) (lb := [rBlk g [pt d0 0, pt d1 0, pt wd 0, pt e0 0, pt e1 0, pt vd 0, iw (nx t0), iw t1, iw f0, iw f1] 41, rNone, rWq vd e0 e1 Gw3 (S.setA false (setTxF S.A0 t0 f).2)]) (fun w hI => hI.weak (i := 1) (r' := rNone) rfl (fun _ => trivial) (fun b hb => hb.elim)) (fun z w hI => hI.weak (i := 1) (r' := rNone) rfl (fun _ => trivial) (fun b hb => hb.elim))
  refine SC.region_turn (ζ := Nat → Prop) 25 12 (fun Gw6 => [rG g d0 d1 wd e0 e1 vd (nx t0) t1 f0 f1 41, rWp wd d0 d1 Gw6 ((S.setA false (setTxF S.A0 t0 f).2).setA false (writeF (S.setA false (setTxF S.A0 t0 f).2).A0 5 (nx t0)).2), rWq vd e0 e1 Gw3 (S.setA false (setTxF S.A0 t0 f).2)]) (fun Gw6 => ∀ b, Gw6 b → RgZ g G1 G2 b ∨ w.heap.size ≤ b) (by kernel_rfl) (by kernel_rfl) rfl ?_
  refine SS.uu hcb8 (ru_move rfl rfl) ?_
  refine SS.uu hcb8 (ru_move rfl rfl) ?_
  refine SS.uu hcb8 (ru_nilCheck rfl rfl) ?_
  refine SS.uu hcb8 (ru_fieldAddr (o2 := 0) fd41_0 rfl rfl rfl) ?_
  refine SS.uu hcb8 (ru_indexA (o2 := 0) ar34 rfl rfl rfl (by decide) (by decide) rfl) ?_
  refine SS.uu hcb8 (ru_load (i := 0) ts33 rfl rfl rfl rfl) ?_
  refine SS.uu hcb8 (ru_move rfl rfl) ?_
  refine SS.uu hcb8 (ru_move rfl rfl) ?_
  refine SS.uu hcb8 (ru_nilCheck rfl rfl) ?_
  refine SS.uu hcb8 (ru_fieldAddr (o2 := 6) fd41_4 rfl rfl rfl) ?_
  refine SS.uu hcb8 (ru_indexA (o2 := 6) ar39 rfl rfl rfl (by decide) (by decide) rfl) ?_
  refine SS.uu hcb8 (ru_load (i := 0) ts3 rfl rfl rfl rfl) ?_
  refine SS.turnc (iw ((writeF (S.setA false (setTxF S.A0 t0 f).2).A0 5 (nx t0)).1)) rfl rfl co11 rfl rfl rfl (lt_b rfl) (fun w5 hI => (rw_write0 (hI.1.get (i := 1) rfl) hB2.d0.ok 5 (nx t0)).mono fun e w2 ⟨h1, kz⟩ => by obtain ⟨G9, k1, k2⟩ := hI.rto (i := 1) rfl hGw1 kz; exact ⟨G9, h1, k1, k2⟩) ?_
  refine SS.uu hcb8 (ru_move rfl rfl) ?_
  refine SS.uu hcb8 (ru_move rfl rfl) ?_
  refine SS.uu hcb8 (ru_nilCheck rfl rfl) ?_
  refine SS.uu hcb8 (ru_fieldAddr (o2 := 3) fd41_2 rfl rfl rfl) ?_
  refine SS.uu hcb8 (ru_indexA (o2 := 3) ar37 rfl rfl rfl (by decide) (by decide) rfl) ?_
  refine SS.uu hcb8 (ru_load (i := 0) ts36 rfl rfl rfl rfl) ?_
  refine SS.uu hcb8 (ru_move rfl rfl) ?_
  refine SS.uu hcb8 (ru_move rfl rfl) ?_
  refine SS.uu hcb8 (ru_nilCheck rfl rfl) ?_
  refine SS.uu hcb8 (ru_fieldAddr (o2 := 6) fd41_4 rfl rfl rfl) ?_
  refine SS.uu hcb8 (ru_indexA (o2 := 6) ar39 rfl rfl rfl (by decide) (by decide) rfl) ?_
  refine SS.uu hcb8 (ru_load (i := 0) ts3 rfl rfl rfl rfl) ?_
  refine SS.nilU ?_
  intro Gw6 hGw6
  have hB10 := hB4.setA false ((hB4.d0).write hB4.now.1 5 (nx t0))
  refine SL.call (ζ := Nat → Prop) (fun Gw9 => iw ((writeF (S.setA false (setTxF S.A0 t0 f).2).A0 5 (nx t0)).1)) (fun Gw9 => [rG g d0 d1 wd e0 e1 vd (nx t0) t1 f0 f1 41, rWp wd d0 d1 Gw6 ((S.setA false (setTxF S.A0 t0 f).2).setA false (writeF (S.setA false (setTxF S.A0 t0 f).2).A0 5 (nx t0)).2), rWq vd e0 e1 Gw9 ((S.setA false (setTxF S.A0 t0 f).2).setA false (writeF (S.setA false (setTxF S.A0 t0 f).2).A0 5 (nx t0)).2)]) (fun Gw9 => ∀ b, Gw9 b → RgZ g G1 G2 b ∨ w.heap.size ≤ b) rfl rfl co28 rfl rfl rfl (lt_b rfl) (fun w5 hI => (rv_write0 (hI.1.get (i := 2) rfl) hB4.d0.ok 5 (nx t0)).mono fun e w2 ⟨h1, kz⟩ => by obtain ⟨G9, k1, k2⟩ := hI.rto (i := 2) rfl hGw3 kz; exact ⟨G9, h1, k1, k2⟩) ?_
  intro Gw9 hGw9
  refine SL.uu (ru_eq (b := true) rfl rfl rfl (by simp)) ?_
  refine SL.as ?_
  refine SL.nr [rG g d0 d1 wd e0 e1 vd (nx t0) t1 f0 f1 41, rWp wd d0 d1 Gw6 ((S.setA false (setTxF S.A0 t0 f).2).setA false (writeF (S.setA false (setTxF S.A0 t0 f).2).A0 5 (nx t0)).2), rWq vd e0 e1 Gw9 ((S.setA false (setTxF S.A0 t0 f).2).setA false (writeF (S.setA false (setTxF S.A0 t0 f).2).A0 5 (nx t0)).2)] ?_
  refine SC.ret ?_
  refine SE.res (.inl rfl) (res1 Try.results25 rfl) fun w1 hI => ⟨rfl, ?_⟩
  have ew : postF S false t0 f = (S.setA false (writeF (setTxF S.A0 t0 f).2 5 (nx t0)).2, nx t0) := by unfold postF; exact if_neg (not_t h5)
  rw [ew]
  exact RgTo.of (l := []) hI hGw6 hGw9
theorem post1_any {n : Nat} {w : World} {g wd d0 d1 vd e0 e1 : Nat} {G1 G2 : Nat → Prop} {S : Wi} {t0 t1 f0 f1 : Int} (hB : Wb n S) (ht : 0 ≤ t1 ∧ t1 < 16) {v : Value} {f : List UInt8} (hb : BytesAt w v f) (hv : sliceIn v (fun b => ¬ RgZ g G1 G2 b ∧ b < w.heap.size)) (h : Sep w (RgL g wd d0 d1 vd e0 e1 G1 G2 ⟨S, S, t0, t1, f0, f1⟩)) : Calls Try.prog 25 #[pt g 0, iw 1, v] w fun e w' => e = .returned (bo true) ∧ RgTo w g wd d0 d1 vd e0 e1 G1 G2 ⟨(postF S true t1 f).1, (postF S true t1 f).1, t0, (postF S true t1 f).2, f0, f1⟩ w' := by
  have hG1 : ∀ b, G1 b → RgZ g G1 G2 b ∨ w.heap.size ≤ b := fun b hb => .inl (.inr (.inl hb))
  have hG2 : ∀ b, G2 b → RgZ g G1 G2 b ∨ w.heap.size ≤ b := fun b hb => .inl (.inr (.inr hb))
  refine calls_sc (l0 := (RgL g wd d0 d1 vd e0 e1 G1 G2 ⟨S, S, t0, t1, f0, f1⟩)) (args := [pt g 0, iw 1, v]) (RgZ g G1 G2) Try.func25 rfl 82 Try.ntmps25 (le_b rfl) ⟨h, Only.refl _ _⟩ ?_
  show SC _ _ _ _ [(0, pt g 0), (1, iw 1), (2, v)] (RgL g wd d0 d1 vd e0 e1 G1 G2 ⟨S, S, t0, t1, f0, f1⟩)
  refine SC.sr ?_
  refine SL.as ?_
  refine SL.nl ?_
  refine SC.seq ?_
  refine SC.region_tail 13 (by kernel_rfl) (by kernel_rfl) ?_
  refine SQ.mv ?_
  refine SQ.mv ?_
  refine SQ.nk ?_
  refine SQ.fa 0 fd41_0 ?_
  refine SQ.ia 1 ar34 ?_
  refine SQ.ld 0 ts33 ?_
  refine SQ.mv ?_
  refine SQ.mv ?_
  refine SQ.nk ?_
  refine SQ.fa 6 fd41_4 ?_
  refine SQ.ia 7 ar39 ?_
  refine SQ.ld 0 ts3 ?_
  refine SQ.mv ?_
  refine SQ.nilL ?_
  have hB2 := hB.setA true ((hB.d1).setTx t1 f)
  refine SL.call (ζ := Nat → Prop) (fun Gw1 => iw ((setTxF S.A1 t1 f).1)) (fun Gw1 => [rG g d0 d1 wd e0 e1 vd t0 t1 f0 f1 41, rWp wd d0 d1 Gw1 (S.setA true (setTxF S.A1 t1 f).2), rWq vd e0 e1 G2 S]) (fun Gw1 => ∀ b, Gw1 b → RgZ g G1 G2 b ∨ w.heap.size ≤ b) rfl rfl co10 rfl rfl rfl (lt_b rfl) (fun w5 hI => (rw_settx1 (hI.1.get (i := 1) rfl) hB.d1.ok (hb.only hI.2 (fun b o n c e hn => (hv b o n c e hn).1)) (fun b o n c e hn hg => (hG1 b hg).elim (hv b o n c e hn).1 (fun e9 => by have := (hv b o n c e hn).2; omega)) t1).mono fun e w2 ⟨h1, kz⟩ => by obtain ⟨G9, k1, k2⟩ := hI.rto (i := 1) rfl hG1 kz; exact ⟨G9, h1, k1, k2⟩) ?_
  intro Gw1 hGw1
  refine SL.as ?_
  refine SL.nl ?_
  refine SC.seq ?_
  refine SC.region_tail 13 (by kernel_rfl) (by kernel_rfl) ?_
  refine SQ.mv ?_
  refine SQ.mv ?_
  refine SQ.nk ?_
  refine SQ.fa 3 fd41_2 ?_
  refine SQ.ia 4 ar37 ?_
  refine SQ.ld 0 ts36 ?_
  refine SQ.mv ?_
  refine SQ.mv ?_
  refine SQ.nk ?_
  refine SQ.fa 6 fd41_4 ?_
  refine SQ.ia 7 ar39 ?_
  refine SQ.ld 0 ts3 ?_
  refine SQ.mv ?_
  refine SQ.nilL ?_
  have hB4 := hB.setA true ((hB.d1).setTx t1 f)
  refine SL.call (ζ := Nat → Prop) (fun Gw3 => iw ((setTxF S.A1 t1 f).1)) (fun Gw3 => [rG g d0 d1 wd e0 e1 vd t0 t1 f0 f1 41, rWp wd d0 d1 Gw1 (S.setA true (setTxF S.A1 t1 f).2), rWq vd e0 e1 Gw3 (S.setA true (setTxF S.A1 t1 f).2)]) (fun Gw3 => ∀ b, Gw3 b → RgZ g G1 G2 b ∨ w.heap.size ≤ b) rfl rfl co57 rfl rfl rfl (lt_b rfl) (fun w5 hI => (rv_settx1 (hI.1.get (i := 2) rfl) hB.d1.ok (hb.only hI.2 (fun b o n c e hn => (hv b o n c e hn).1)) (fun b o n c e hn hg => (hG2 b hg).elim (hv b o n c e hn).1 (fun e9 => by have := (hv b o n c e hn).2; omega)) t1).mono fun e w2 ⟨h1, kz⟩ => by obtain ⟨G9, k1, k2⟩ := hI.rto (i := 2) rfl hG2 kz; exact ⟨G9, h1, k1, k2⟩) ?_
  intro Gw3 hGw3
  refine SL.as ?_
  refine SL.nl ?_
  refine SC.seq ?_
  refine SC.sr ?_
  refine SL.mv ?_
  refine SL.mv ?_
  refine SL.uu (ru_ne (b := false) rfl rfl rfl (by simp)) ?_
  refine SL.nl ?_
  refine SC.no rfl ?_
  refine SC.skip ?_
  refine SC.of_SE ?_
  refine SC.seq ?_
  refine SC.sr ?_
  refine SL.mv ?_
  refine SL.uu (ru_ne (b := ((((setTxF S.A1 t1 f).1) : Int) != 0)) rfl rfl rfl rfl) ?_
  refine SL.nl ?_
  refine SC.both ((((setTxF S.A1 t1 f).1) : Int) != 0) rfl (fun h5 => ?_) (fun h5 => ?_)
  · skip
    refine SC.sr ?_
    refine SL.as ?_
    refine SL.nl ?_
    refine SC.ret ?_
    refine SE.passr ?_
    refine SE.res (.inl rfl) (res1 Try.results25 rfl) fun w1 hI => ⟨rfl, ?_⟩
    have ew : postF S true t1 f = (S.setA true (setTxF S.A1 t1 f).2, t1) := by unfold postF; exact if_pos h5
    rw [ew]
    exact RgTo.of (l := []) hI hGw1 hGw3
  refine SC.skip ?_
  refine SC.of_SE ?_
  refine SC.seq ?_
  refine SC.region_tail 13 (by kernel_rfl) (by kernel_rfl) ?_
  refine SQ.mv ?_
  refine SQ.mv ?_
  refine SQ.mv ?_
  refine SQ.mv ?_
  refine SQ.nk ?_
  refine SQ.fa 6 fd41_4 ?_
  refine SQ.ia 7 ar39 ?_
  refine SQ.ld 0 ts3 ?_
  refine SQ.uu (ru_add (r := (t1 + 1)) rfl rfl rfl ((by rw [IntKind.wrap_i64]; omega))) ?_
  refine SQ.uu (ru_rem (r := (nx t1)) rfl rfl rfl (by decide) ((by rw [Int.tmod_eq_emod_of_nonneg (by omega)]; rfl))) ?_
  refine SQ.nk ?_
  refine SQ.fa 6 fd41_4 ?_
  refine SQ.ia 7 ar39 ?_
  refine SQ.nilL ?_
  refine SL.store (i := 0) (c' := [pt d0 0, pt d1 0, pt wd 0, pt e0 0, pt e1 0, pt vd 0, iw t0, iw (nx t1), iw f0, iw f1]) rfl rfl ts3 rfl rfl rfl rfl rfl (lt_b rfl) (.inl (.inl rfl)) rfl ?_
  refine SL.nn [(0, pt g 0), (1, iw 1), (6, bo false)] _ ⟨rfl, rfl, rfl, trivial⟩ ?_
  refine SC.seq ?_
  have hB7 := hB2.setA true ((hB2.d1).write hB2.now.1 5 (nx t1))
  have hcb8 := CU.base (X := ⟨82, w, RgZ g G1 G2⟩) (l := [rBlk g [pt d0 0, pt d1 0, pt wd 0, pt e0 0, pt e1 0, pt vd 0, iw t0, iw (nx t1), iw f0, iw f1] 41, rWp wd d0 d1 Gw1 (S.setA true (setTxF S.A1 t1 f).2), rWq vd e0 e1 Gw3 (S.setA true (setTxF S.A1 t1 f).2)]) (l2 := fun (Gw6 : Nat → Prop) => [rBlk g [pt d0 0, pt d1 0, pt wd 0, pt e0 0, pt e1 0, pt vd 0, iw t0, iw (nx t1), iw f0, iw f1] 41, rWp wd d0 d1 Gw6 ((S.setA true (setTxF S.A1 t1 f).2).setA true (writeF (S.setA true (setTxF S.A1 t1 f).2).A1 5 (nx t1)).2), rWq vd e0 e1 Gw3 (S.setA true (setTxF S.A1 t1 f).2)]) (p := fun (Gw6 : Nat → Prop) => ∀ b, Gw6 b → RgZ g G1 G2 b ∨ w.heap.size ≤ b) (k := 12) (lb := [rBlk g [pt d0 0, pt d1 0, pt wd 0, pt e0 0, pt e1 0, pt vd 0, iw t0, iw (nx t1), iw f0, iw f1] 41, rNone, rWq vd e0 e1 Gw3 (S.setA true (setTxF S.A1 t1 f).2)]) (fun w hI => hI.weak (i := 1) (r' := rNone) rfl (fun _ => trivial) (fun b hb => hb.elim)) (fun z w hI => hI.weak (i := 1) (r' := rNone) rfl (fun _ => trivial) (fun b hb => hb.elim))
  refine SC.region_turn (ζ := Nat → Prop) 25 12 (fun Gw6 => [rG g d0 d1 wd e0 e1 vd t0 (nx t1) f0 f1 41, rWp wd d0 d1 Gw6 ((S.setA true (setTxF S.A1 t1 f).2).setA true (writeF (S.setA true (setTxF S.A1 t1 f).2).A1 5 (nx t1)).2), rWq vd e0 e1 Gw3 (S.setA true (setTxF S.A1 t1 f).2)]) (fun Gw6 => ∀ b, Gw6 b → RgZ g G1 G2 b ∨ w.heap.size ≤ b) (by kernel_rfl) (by kernel_rfl) rfl ?_
  refine SS.uu hcb8 (ru_move rfl rfl) ?_
  refine SS.uu hcb8 (ru_move rfl rfl) ?_
  refine SS.uu hcb8 (ru_nilCheck rfl rfl) ?_
  refine SS.uu hcb8 (ru_fieldAddr (o2 := 0) fd41_0 rfl rfl rfl) ?_
  refine SS.uu hcb8 (ru_indexA (o2 := 1) ar34 rfl rfl rfl (by decide) (by decide) rfl) ?_
  refine SS.uu hcb8 (ru_load (i := 0) ts33 rfl rfl rfl rfl) ?_
  refine SS.uu hcb8 (ru_move rfl rfl) ?_
  refine SS.uu hcb8 (ru_move rfl rfl) ?_
  refine SS.uu hcb8 (ru_nilCheck rfl rfl) ?_
  refine SS.uu hcb8 (ru_fieldAddr (o2 := 6) fd41_4 rfl rfl rfl) ?_
  refine SS.uu hcb8 (ru_indexA (o2 := 7) ar39 rfl rfl rfl (by decide) (by decide) rfl) ?_
  refine SS.uu hcb8 (ru_load (i := 0) ts3 rfl rfl rfl rfl) ?_
  refine SS.turnc (iw ((writeF (S.setA true (setTxF S.A1 t1 f).2).A1 5 (nx t1)).1)) rfl rfl co11 rfl rfl rfl (lt_b rfl) (fun w5 hI => (rw_write1 (hI.1.get (i := 1) rfl) hB2.d1.ok 5 (nx t1)).mono fun e w2 ⟨h1, kz⟩ => by obtain ⟨G9, k1, k2⟩ := hI.rto (i := 1) rfl hGw1 kz; exact ⟨G9, h1, k1, k2⟩) ?_
  refine SS.uu hcb8 (ru_move rfl rfl) ?_
  refine SS.uu hcb8 (ru_move rfl rfl) ?_
  refine SS.uu hcb8 (ru_nilCheck rfl rfl) ?_
  refine SS.uu hcb8 (ru_fieldAddr (o2 := 3) fd41_2 rfl rfl rfl) ?_
  refine SS.uu hcb8 (ru_indexA (o2 := 4) ar37 rfl rfl rfl (by decide) (by decide) rfl) ?_
  refine SS.uu hcb8 (ru_load (i := 0) ts36 rfl rfl rfl rfl) ?_
  refine SS.uu hcb8 (ru_move rfl rfl) ?_
  refine SS.uu hcb8 (ru_move rfl rfl) ?_
  refine SS.uu hcb8 (ru_nilCheck rfl rfl) ?_
  refine SS.uu hcb8 (ru_fieldAddr (o2 := 6) fd41_4 rfl rfl rfl) ?_
  refine SS.uu hcb8 (ru_indexA (o2 := 7) ar39 rfl rfl rfl (by decide) (by decide) rfl) ?_
  refine SS.uu hcb8 (ru_load (i := 0) ts3 rfl rfl rfl rfl) ?_
  refine SS.nilU ?_
  intro Gw6 hGw6
  have hB10 := hB4.setA true ((hB4.d1).write hB4.now.1 5 (nx t1))
  refine SL.call (ζ := Nat → Prop) (fun Gw9 => iw ((writeF (S.setA true (setTxF S.A1 t1 f).2).A1 5 (nx t1)).1)) (fun Gw9 => [rG g d0 d1 wd e0 e1 vd t0 (nx t1) f0 f1 41, rWp wd d0 d1 Gw6 ((S.setA true (setTxF S.A1 t1 f).2).setA true (writeF (S.setA true (setTxF S.A1 t1 f).2).A1 5 (nx t1)).2), rWq vd e0 e1 Gw9 ((S.setA true (setTxF S.A1 t1 f).2).setA true (writeF (S.setA true (setTxF S.A1 t1 f).2).A1 5 (nx t1)).2)]) (fun Gw9 => ∀ b, Gw9 b → RgZ g G1 G2 b ∨ w.heap.size ≤ b) rfl rfl co28 rfl rfl rfl (lt_b rfl) (fun w5 hI => (rv_write1 (hI.1.get (i := 2) rfl) hB4.d1.ok 5 (nx t1)).mono fun e w2 ⟨h1, kz⟩ => by obtain ⟨G9, k1, k2⟩ := hI.rto (i := 2) rfl hGw3 kz; exact ⟨G9, h1, k1, k2⟩) ?_
  intro Gw9 hGw9
  refine SL.uu (ru_eq (b := true) rfl rfl rfl (by simp)) ?_
  refine SL.as ?_
  refine SL.nr [rG g d0 d1 wd e0 e1 vd t0 (nx t1) f0 f1 41, rWp wd d0 d1 Gw6 ((S.setA true (setTxF S.A1 t1 f).2).setA true (writeF (S.setA true (setTxF S.A1 t1 f).2).A1 5 (nx t1)).2), rWq vd e0 e1 Gw9 ((S.setA true (setTxF S.A1 t1 f).2).setA true (writeF (S.setA true (setTxF S.A1 t1 f).2).A1 5 (nx t1)).2)] ?_
  refine SC.ret ?_
  refine SE.res (.inl rfl) (res1 Try.results25 rfl) fun w1 hI => ⟨rfl, ?_⟩
  have ew : postF S true t1 f = (S.setA true (writeF (setTxF S.A1 t1 f).2 5 (nx t1)).2, nx t1) := by unfold postF; exact if_neg (not_t h5)
  rw [ew]
  exact RgTo.of (l := []) hI hGw6 hGw9

end Go.Proofs.Ytcilikkljkdceaa

/-
  Beside the law's rig: what is apart from it; bytes.
-/
namespace Go.Proofs.Ytcilikkljkdceaa
open Go.RowKit
theorem fz_bytesw {w : World} {g : Nat} {l : List UInt8} {T : TypeId} (h : Fz w g (l.map bv) T) (hl : l.length ≤ 1000) : BytesAt w (sl g 0 l.length l.length) l := by
  refine .inr ⟨g, 0, l.length, rfl, Nat.le_refl _, by omega, fun j hj => ?_⟩
  rw [h.cell, Nat.zero_add, List.getElem?_map, List.getElem?_eq_getElem hj]; rfl
section
variable {X : Cx} {w w' : World} {g wd d0 d1 vd e0 e1 : Nat} {G1 G2 : Nat → Prop} {R R' : Rg} {l : List Res}
theorem mine_bytesw {j : Nat} {v : Value} {f : List UInt8} {U : TypeId} (h : Inv X w l) (hj : l[j]? = some (rMine v f U)) (hl : f.length ≤ 140737488351232) : BytesAt w v f := OwnBytes.bytes (h.1.get hj) hl
theorem rg_apart {r : Res} {b : Nat} (h : Inv X w (RgL g wd d0 d1 vd e0 e1 G1 G2 R ++ l)) (hr : r ∈ l) (hb : r.fp b) : ¬ RgZ g G1 G2 b ∧ b < w.heap.size := by
  refine ⟨fun hz => ?_, r.lt w (h.1.1 r (List.mem_append_right _ hr)) b hb⟩
  obtain ⟨s, hs, hsb⟩ := (rgl_fp (wd := wd) (d0 := d0) (d1 := d1) (vd := vd) (e0 := e0) (e1 := e1) (R := R)).2 hz
  exact (List.pairwise_append.1 h.1.2).2.2 s hs r hr b hsb hb
end
end Go.Proofs.Ytcilikkljkdceaa

/-
  Is a frame there.
-/
namespace Go.Proofs.Ytcilikkljkdceaa
open Go.RowKit
set_option maxRecDepth 100000
set_option maxHeartbeats 4000000
theorem isX_g {dir : Int} (hd : isD dir = false) : ((dir != 0) && (dir != 1)) = true := by
  unfold isD at hd
  simp only [Bool.or_eq_false_iff, beq_eq_false_iff_ne] at hd
  simp [hd.1, hd.2]
theorem qthere0_any {w : World} {wd d0 d1 : Nat} {M : WM} {S : Wi} {k : Int} (h : Sep w (WLm 100 92 46 wd d0 d1 M S.A0 S.A1 S.now)) : Calls Try.prog 60 #[pt wd 0, iw 0, iw k] w fun e w' => e = .returned (iw (thereF M.ps0 k)) ∧ Only (fun _ => False) w w' := by
  refine calls_sc (l0 := (WLm 100 92 46 wd d0 d1 M S.A0 S.A1 S.now)) (args := [pt wd 0, iw 0, iw k]) (fun _ => False) Try.func60 rfl 26 Try.ntmps60 (le_b rfl) ⟨h, Only.refl _ _⟩ ?_
  show SC _ _ _ _ [(0, pt wd 0), (1, iw 0), (2, iw k)] (WLm 100 92 46 wd d0 d1 M S.A0 S.A1 S.now)
  refine SC.sr ?_
  refine SL.as ?_
  refine SL.nl ?_
  refine SC.seq ?_
  refine SC.sr ?_
  refine SL.mv ?_
  refine SL.uu (ru_ne (b := false) rfl rfl rfl rfl) ?_
  refine SL.mv ?_
  refine SL.oo ?_
  refine SL.oo ?_
  refine SL.pk (undef) (bo false) ?_
  refine SL.nl ?_
  refine SC.no rfl ?_
  refine SC.skip ?_
  refine SC.of_SE ?_
  refine SC.seq ?_
  refine SC.sr ?_
  refine SL.mv ?_
  refine SL.uu (ru_lt (b := (decide ((k : Int) < 0))) rfl rfl rfl rfl) ?_
  refine SL.mv ?_
  refine SL.join 10 [(0, pt wd 0), (1, iw 0), (2, iw k), (6, iw 0), (13, iw k), (14, bo (decide ((k : Int) < 0))), (15, bo (decide ((k : Int) < 0))), (25, bo ((decide ((k : Int) < 0)) || (decide (((M.ps0.length : Int) : Int) ≤ k))))] [rB wd d0 d1 M S.now 92, rDv 100 d0 M.fs S.A0, rDv 100 d1 M.fs S.A1, rR0 M 46, rR1 M 46, rZ M.F M.fs] ?_ ?_
  rotate_left
  · intro K hK
    rcases tf (decide ((k : Int) < 0)) with h1 | h1
    · skip
      refine SL.norm [(0, pt wd 0), (1, iw 0), (2, iw k), (6, iw 0), (13, iw k), (14, bo true), (15, bo true)] _ ⟨rfl, rfl, rfl, rfl, rfl, (congrArg (fun x => some (Value.bool x)) h1), (congrArg (fun x => some (Value.bool x)) h1), trivial⟩ rfl ?_
      refine SL.oo ?_
      refine SL.oo ?_
      refine SL.oo ?_
      refine SL.oo ?_
      refine SL.oo ?_
      refine SL.oo ?_
      refine SL.oo ?_
      refine SL.oo ?_
      refine SL.oo ?_
      refine SL.pk (bo true) (undef) ?_
      exact SL.joined hK ⟨rfl, rfl, rfl, rfl, rfl, (congrArg (fun x => some (Value.bool x)) h1.symm), (congrArg (fun x => some (Value.bool x)) h1.symm), (congrArg (fun bx => some (Value.bool (bx || (decide (((M.ps0.length : Int) : Int) ≤ k))))) h1.symm), trivial⟩ rfl
    refine SL.norm [(0, pt wd 0), (1, iw 0), (2, iw k), (6, iw 0), (13, iw k), (14, bo false), (15, bo false)] _ ⟨rfl, rfl, rfl, rfl, rfl, (congrArg (fun x => some (Value.bool x)) h1), (congrArg (fun x => some (Value.bool x)) h1), trivial⟩ rfl ?_
    refine SL.gg (ru_move rfl rfl) ?_
    refine SL.gg (ru_move rfl rfl) ?_
    refine SL.gg (ru_move rfl rfl) ?_
    refine SL.gg (ru_nilCheck rfl rfl) ?_
    refine SL.gg (ru_fieldAddr (o2 := 2) fd92_1 rfl rfl rfl) ?_
    refine SL.gg (ru_indexA (o2 := 2) ar75 rfl rfl rfl (by decide) (by decide) rfl) ?_
    refine SL.gg (ru_load (i := 0) ts56 rfl rfl rfl rfl) ?_
    refine SL.gg (ru_len Try.underlying56 rfl rfl) ?_
    refine SL.gg (ru_ge (b := (decide (((M.ps0.length : Int) : Int) ≤ k))) rfl rfl rfl rfl) ?_
    refine SL.pk (bo true) (bo (decide (((M.ps0.length : Int) : Int) ≤ k))) ?_
    exact SL.joined hK ⟨rfl, rfl, rfl, rfl, rfl, (congrArg (fun x => some (Value.bool x)) h1.symm), (congrArg (fun x => some (Value.bool x)) h1.symm), (congrArg (fun bx => some (Value.bool (bx || (decide (((M.ps0.length : Int) : Int) ≤ k))))) h1.symm), trivial⟩ rfl
  skip
  refine SL.nl ?_
  refine SC.both ((decide ((k : Int) < 0)) || (decide (((M.ps0.length : Int) : Int) ≤ k))) rfl (fun h2 => ?_) (fun h2 => ?_)
  · skip
    refine SC.sr ?_
    refine SL.as ?_
    refine SL.nl ?_
    refine SC.ret ?_
    refine SE.passr ?_
    refine SE.res (.inl rfl) (res1 Try.results60 rfl) fun w1 hI => ⟨?_, hI.2⟩
    have e : thereF M.ps0 k = 7 := by unfold thereF; rw [if_pos h2]
    rw [e]
  refine SC.skip ?_
  refine SC.of_SE ?_
  refine SC.sr ?_
  refine SL.as ?_
  refine SL.nl ?_
  refine SC.ret ?_
  refine SE.res (.inl rfl) (res1 Try.results60 rfl) fun w1 hI => ⟨?_, hI.2⟩
  have e : thereF M.ps0 k = 0 := by unfold thereF; rw [if_neg (not_t h2)]
  rw [e]
theorem qthere1_any {w : World} {wd d0 d1 : Nat} {M : WM} {S : Wi} {k : Int} (h : Sep w (WLm 100 92 46 wd d0 d1 M S.A0 S.A1 S.now)) : Calls Try.prog 60 #[pt wd 0, iw 1, iw k] w fun e w' => e = .returned (iw (thereF M.ps1 k)) ∧ Only (fun _ => False) w w' := by
  refine calls_sc (l0 := (WLm 100 92 46 wd d0 d1 M S.A0 S.A1 S.now)) (args := [pt wd 0, iw 1, iw k]) (fun _ => False) Try.func60 rfl 26 Try.ntmps60 (le_b rfl) ⟨h, Only.refl _ _⟩ ?_
  show SC _ _ _ _ [(0, pt wd 0), (1, iw 1), (2, iw k)] (WLm 100 92 46 wd d0 d1 M S.A0 S.A1 S.now)
  refine SC.sr ?_
  refine SL.as ?_
  refine SL.nl ?_
  refine SC.seq ?_
  refine SC.sr ?_
  refine SL.mv ?_
  refine SL.uu (ru_ne (b := true) rfl rfl rfl rfl) ?_
  refine SL.mv ?_
  refine SL.gg (ru_move rfl rfl) ?_
  refine SL.gg (ru_ne (b := false) rfl rfl rfl rfl) ?_
  refine SL.pk (bo false) (bo false) ?_
  refine SL.nl ?_
  refine SC.no rfl ?_
  refine SC.skip ?_
  refine SC.of_SE ?_
  refine SC.seq ?_
  refine SC.sr ?_
  refine SL.mv ?_
  refine SL.uu (ru_lt (b := (decide ((k : Int) < 0))) rfl rfl rfl rfl) ?_
  refine SL.mv ?_
  refine SL.join 10 [(0, pt wd 0), (1, iw 1), (2, iw k), (6, iw 0), (13, iw k), (14, bo (decide ((k : Int) < 0))), (15, bo (decide ((k : Int) < 0))), (25, bo ((decide ((k : Int) < 0)) || (decide (((M.ps1.length : Int) : Int) ≤ k))))] [rB wd d0 d1 M S.now 92, rDv 100 d0 M.fs S.A0, rDv 100 d1 M.fs S.A1, rR0 M 46, rR1 M 46, rZ M.F M.fs] ?_ ?_
  rotate_left
  · intro K hK
    rcases tf (decide ((k : Int) < 0)) with h1 | h1
    · skip
      refine SL.norm [(0, pt wd 0), (1, iw 1), (2, iw k), (6, iw 0), (13, iw k), (14, bo true), (15, bo true)] _ ⟨rfl, rfl, rfl, rfl, rfl, (congrArg (fun x => some (Value.bool x)) h1), (congrArg (fun x => some (Value.bool x)) h1), trivial⟩ rfl ?_
      refine SL.oo ?_
      refine SL.oo ?_
      refine SL.oo ?_
      refine SL.oo ?_
      refine SL.oo ?_
      refine SL.oo ?_
      refine SL.oo ?_
      refine SL.oo ?_
      refine SL.oo ?_
      refine SL.pk (bo true) (undef) ?_
      exact SL.joined hK ⟨rfl, rfl, rfl, rfl, rfl, (congrArg (fun x => some (Value.bool x)) h1.symm), (congrArg (fun x => some (Value.bool x)) h1.symm), (congrArg (fun bx => some (Value.bool (bx || (decide (((M.ps1.length : Int) : Int) ≤ k))))) h1.symm), trivial⟩ rfl
    refine SL.norm [(0, pt wd 0), (1, iw 1), (2, iw k), (6, iw 0), (13, iw k), (14, bo false), (15, bo false)] _ ⟨rfl, rfl, rfl, rfl, rfl, (congrArg (fun x => some (Value.bool x)) h1), (congrArg (fun x => some (Value.bool x)) h1), trivial⟩ rfl ?_
    refine SL.gg (ru_move rfl rfl) ?_
    refine SL.gg (ru_move rfl rfl) ?_
    refine SL.gg (ru_move rfl rfl) ?_
    refine SL.gg (ru_nilCheck rfl rfl) ?_
    refine SL.gg (ru_fieldAddr (o2 := 2) fd92_1 rfl rfl rfl) ?_
    refine SL.gg (ru_indexA (o2 := 3) ar75 rfl rfl rfl (by decide) (by decide) rfl) ?_
    refine SL.gg (ru_load (i := 0) ts56 rfl rfl rfl rfl) ?_
    refine SL.gg (ru_len Try.underlying56 rfl rfl) ?_
    refine SL.gg (ru_ge (b := (decide (((M.ps1.length : Int) : Int) ≤ k))) rfl rfl rfl rfl) ?_
    refine SL.pk (bo true) (bo (decide (((M.ps1.length : Int) : Int) ≤ k))) ?_
    exact SL.joined hK ⟨rfl, rfl, rfl, rfl, rfl, (congrArg (fun x => some (Value.bool x)) h1.symm), (congrArg (fun x => some (Value.bool x)) h1.symm), (congrArg (fun bx => some (Value.bool (bx || (decide (((M.ps1.length : Int) : Int) ≤ k))))) h1.symm), trivial⟩ rfl
  skip
  refine SL.nl ?_
  refine SC.both ((decide ((k : Int) < 0)) || (decide (((M.ps1.length : Int) : Int) ≤ k))) rfl (fun h2 => ?_) (fun h2 => ?_)
  · skip
    refine SC.sr ?_
    refine SL.as ?_
    refine SL.nl ?_
    refine SC.ret ?_
    refine SE.passr ?_
    refine SE.res (.inl rfl) (res1 Try.results60 rfl) fun w1 hI => ⟨?_, hI.2⟩
    have e : thereF M.ps1 k = 7 := by unfold thereF; rw [if_pos h2]
    rw [e]
  refine SC.skip ?_
  refine SC.of_SE ?_
  refine SC.sr ?_
  refine SL.as ?_
  refine SL.nl ?_
  refine SC.ret ?_
  refine SE.res (.inl rfl) (res1 Try.results60 rfl) fun w1 hI => ⟨?_, hI.2⟩
  have e : thereF M.ps1 k = 0 := by unfold thereF; rw [if_neg (not_t h2)]
  rw [e]
theorem qthereX_any {w : World} {wd : Nat} {dir k : Int} (hd : isD dir = false) : Calls Try.prog 60 #[pt wd 0, iw dir, iw k] w fun e w' => e = .returned (iw 1) ∧ Only (fun _ => False) w w' := by
  refine calls_sc (l0 := []) (args := [pt wd 0, iw dir, iw k]) (fun _ => False) Try.func60 rfl 26 Try.ntmps60 (le_b rfl) ⟨⟨by simp, List.Pairwise.nil⟩, Only.refl _ _⟩ ?_
  show SC _ _ _ _ [(0, pt wd 0), (1, iw dir), (2, iw k)] []
  refine SC.sr ?_
  refine SL.as ?_
  refine SL.nl ?_
  refine SC.seq ?_
  refine SC.sr ?_
  refine SL.mv ?_
  refine SL.uu (ru_ne (b := ((dir : Int) != 0)) rfl rfl rfl rfl) ?_
  refine SL.mv ?_
  refine SL.join 3 [(0, pt wd 0), (1, iw dir), (2, iw k), (6, iw 0), (7, iw dir), (8, bo ((dir : Int) != 0)), (9, bo ((dir : Int) != 0)), (12, bo (((dir : Int) != 0) && ((dir : Int) != 1)))] [] ?_ ?_
  rotate_left
  · intro K hK
    rcases tf ((dir : Int) != 0) with h1 | h1
    · skip
      refine SL.norm [(0, pt wd 0), (1, iw dir), (2, iw k), (6, iw 0), (7, iw dir), (8, bo true), (9, bo true)] _ ⟨rfl, rfl, rfl, rfl, rfl, (congrArg (fun x => some (Value.bool x)) h1), (congrArg (fun x => some (Value.bool x)) h1), trivial⟩ rfl ?_
      refine SL.gg (ru_move rfl rfl) ?_
      refine SL.gg (ru_ne (b := ((dir : Int) != 1)) rfl rfl rfl rfl) ?_
      refine SL.pk (bo ((dir : Int) != 1)) (bo false) ?_
      exact SL.joined hK ⟨rfl, rfl, rfl, rfl, rfl, (congrArg (fun x => some (Value.bool x)) h1.symm), (congrArg (fun x => some (Value.bool x)) h1.symm), (congrArg (fun bx => some (Value.bool (bx && ((dir : Int) != 1)))) h1.symm), trivial⟩ rfl
    refine SL.norm [(0, pt wd 0), (1, iw dir), (2, iw k), (6, iw 0), (7, iw dir), (8, bo false), (9, bo false)] _ ⟨rfl, rfl, rfl, rfl, rfl, (congrArg (fun x => some (Value.bool x)) h1), (congrArg (fun x => some (Value.bool x)) h1), trivial⟩ rfl ?_
    refine SL.oo ?_
    refine SL.oo ?_
    refine SL.pk (undef) (bo false) ?_
    exact SL.joined hK ⟨rfl, rfl, rfl, rfl, rfl, (congrArg (fun x => some (Value.bool x)) h1.symm), (congrArg (fun x => some (Value.bool x)) h1.symm), (congrArg (fun bx => some (Value.bool (bx && ((dir : Int) != 1)))) h1.symm), trivial⟩ rfl
  skip
  refine SL.nl ?_
  refine SC.yes (show some (Value.bool (((dir : Int) != 0) && ((dir : Int) != 1))) = some (Value.bool true) from congrArg (fun x => some (Value.bool x)) (isX_g hd)) ?_
  refine SC.sr ?_
  refine SL.as ?_
  refine SL.nl ?_
  refine SC.ret ?_
  refine SE.passr ?_
  refine SE.res (.inl rfl) (res1 Try.results60 rfl) fun w1 hI => ⟨rfl, hI.2⟩

end Go.Proofs.Ytcilikkljkdceaa

/-
  A row of frames without one.
-/
namespace Go.Proofs.Ytcilikkljkdceaa
open Go.RowKit
set_option maxRecDepth 100000
set_option maxHeartbeats 4000000
theorem outI_nil {α : Type} (l : List α) (k : Int) : outF (l.take 0) k = [] := by simp [outF]
theorem outI_skip {α : Type} {l : List α} {i : Nat} {k : Int} (h : (i : Int) = k) (hi : i < l.length) : outF (l.take (i + 1)) k = outF (l.take i) k := by
  subst h
  unfold outF
  rw [Int.toNat_natCast, List.take_take, List.take_take, List.drop_take, List.drop_take]
  rw [show min i (i + 1) = i by omega, show min i i = i by omega, show i + 1 - (i + 1) = 0 by omega, show i - (i + 1) = 0 by omega]
theorem outI_one {α : Type} {l : List α} {i : Nat} {k : Int} {x : α} (h : (i : Int) ≠ k) (h0 : 0 ≤ k) (hx : l[i]? = some x) : outF (l.take (i + 1)) k = outF (l.take i) k ++ [x] := by
  obtain ⟨j, rfl⟩ := Int.eq_ofNat_of_zero_le h0
  have hi : i < l.length := (List.getElem?_eq_some_iff.1 hx).1
  have e : l.take (i + 1) = l.take i ++ [x] := by rw [List.take_add_one, hx]; rfl
  unfold outF
  rw [Int.toNat_natCast, e, List.take_append, List.drop_append, List.length_take, show min i l.length = i by omega]
  rcases Nat.lt_or_ge i j with g | g
  · rw [List.take_of_length_le (l := [x]) (by simp; omega), List.drop_of_length_le (l := [x]) (by simp; omega), List.drop_of_length_le (by rw [List.length_take]; omega), List.append_nil, List.append_nil, List.append_nil]
  · have g' : j < i := by omega
    rw [show j - i = 0 by omega, show j + 1 - i = 0 by omega, List.take_zero, List.append_nil, List.drop_zero, List.append_assoc]
theorem outI_all {α : Type} (l : List α) (k : Int) : outF (l.take l.length) k = outF l k := by rw [List.take_of_length_le (Nat.le_refl _)]
theorem outI_len {α : Type} (l : List α) (i : Nat) (k : Int) : (outF (l.take i) k).length ≤ l.length := by
  unfold outF; rw [List.length_append, List.length_take, List.length_drop, List.length_take]; omega
theorem o_all {ps : List FmV} {i : Nat} (hv : ∀ x ∈ ps, ∃ a n c, x.v = Value.slice a n c) (h : i < ps.length) : ∃ a n c fr, ps[i]? = some ⟨.slice a n c, fr⟩ := by
  obtain ⟨a, n, c, e⟩ := hv _ (List.getElem_mem h)
  exact ⟨a, n, c, ps[i].fr, by rw [List.getElem?_eq_getElem h, ← e]⟩
theorem qout_any {w : World} {q : Option Addr} {c : Nat} {k : Int} {ps : List FmV} (hv : ∀ x ∈ ps, ∃ a n c, x.v = Value.slice a n c) (hn : ps.length ≤ 3000000000000) (h0 : 0 ≤ k) (h : Sep w [rRowN (.slice q ps.length c) (oRows ps) 46 3]) : Calls Try.prog 61 #[.slice q ps.length c, iw k] w fun e w' => ∃ q' c', e = .returned (.slice q' (outF ps k).length c') ∧ RowsN w' (.slice q' (outF ps k).length c') (oRows (outF ps k)) 46 3 ∧ (∀ b, (Value.slice q' (outF ps k).length c').ownBlock = some b → w.heap.size ≤ b) ∧ Only (fun _ => False) w w' := by
  refine calls_sc (l0 := [rRowN (.slice q ps.length c) (oRows ps) 46 3]) (args := [Value.slice q ps.length c, iw k]) (fun _ => False) Try.func61 rfl 24 Try.ntmps61 (le_b rfl) ⟨h, Only.refl _ _⟩ ?_
  show SC _ _ _ _ [(0, Value.slice q ps.length c), (1, iw k)] [rRowN (.slice q ps.length c) (oRows ps) 46 3]
  refine SC.sr ?_
  refine SL.as ?_
  refine SL.nr [rRowN (.slice q ps.length c) (oRows ps) 46 3] ?_
  refine SC.sr ?_
  refine SL.as ?_
  refine SL.nl ?_
  refine SC.seq ?_
  refine SC.sr ?_
  refine SL.as ?_
  refine SL.nl ?_
  refine SC.block ?_
  refine SC.rows (rRowN (.slice none 0 0) [] 46 3) (fun b hb => by cases hb) (fun w => rowN_nil w 46 3) ?_
  refine SC.loop (γ := Nat × Option Addr × Nat) (fun n z => [(0, Value.slice q ps.length c), (1, iw k), (4, Value.slice none 0 0), (5, Value.slice z.2.1 ((outF (ps.take z.1) k).length) z.2.2), (6, iw (z.1 : Int))]) (fun n z => [rRowN (.slice q ps.length c) (oRows ps) 46 3, rRowN (.slice z.2.1 ((outF (ps.take z.1) k).length) z.2.2) (oRows (outF (ps.take z.1) k)) 46 3]) (fun n z => n + z.1 = ps.length ∧ ∀ b, (Value.slice z.2.1 (outF (ps.take z.1) k).length z.2.2).ownBlock = some b → w.heap.size ≤ b) ps.length (0, none, 0) ⟨rfl, fun b hb => by simp [Value.ownBlock] at hb⟩ ⟨rfl, rfl, rfl, (by rw [outI_nil]; rfl), rfl, trivial⟩ (by rw [outI_nil]; rfl) ?_
  rintro N ⟨i, q1, c1⟩ ⟨hn, hq1⟩
  dsimp only at hn hq1
  have hol : (outF (ps.take i) k).length ≤ ps.length := outI_len _ _ _
  rcases N with _ | N
  · skip
    refine SC.seq ?_
    refine SC.sr ?_
    refine SL.mv ?_
    refine SL.mv ?_
    refine SL.uu (ru_len Try.underlying56 rfl rfl) ?_
    refine SL.uu (ru_lt (b := (decide (((i : Int) : Int) < (ps.length : Int)))) rfl rfl rfl rfl) ?_
    refine SL.nr [rRowN (.slice q ps.length c) (oRows ps) 46 3, rRowN (.slice q1 ((outF (ps.take i) k).length) c1) (oRows (outF (ps.take i) k)) 46 3] ?_
    refine SC.no (show some (Value.bool (decide (((i : Int) : Int) < (ps.length : Int)))) = some (Value.bool false) from congrArg (fun x => some (Value.bool x)) (decide_eq_false (by omega))) ?_
    refine SC.exit ?_
    refine SE.passe ?_
    refine SE.passe ?_
    refine SE.blke ?_
    refine SC.of_SE ?_
    refine SC.sr ?_
    refine SL.mv ?_
    refine SL.as ?_
    refine SL.nl ?_
    refine SC.ret ?_
    have hi : i = ps.length := by omega
    subst hi
    refine SE.res (.inl rfl) (res1 Try.results61 rfl) fun w1 hI => ?_
    rw [outI_all] at hI hq1 ⊢
    exact ⟨q1, c1, rfl, hI.1.get (i := 1) rfl, hq1, hI.2⟩
  obtain ⟨xa, xn, xc, x, hx⟩ := o_all hv (show i < ps.length by omega)
  refine SC.seq ?_
  refine SC.sr ?_
  refine SL.mv ?_
  refine SL.mv ?_
  refine SL.uu (ru_len Try.underlying56 rfl rfl) ?_
  refine SL.uu (ru_lt (b := (decide (((i : Int) : Int) < (ps.length : Int)))) rfl rfl rfl rfl) ?_
  refine SL.nr [rRowN (.slice q ps.length c) (oRows ps) 46 3, rRowN (.slice q1 ((outF (ps.take i) k).length) c1) (oRows (outF (ps.take i) k)) 46 3] ?_
  refine SC.yes (show some (Value.bool (decide (((i : Int) : Int) < (ps.length : Int)))) = some (Value.bool true) from congrArg (fun x => some (Value.bool x)) (decide_eq_true (by omega))) ?_
  refine SC.skip ?_
  refine SC.of_SE ?_
  refine SC.seq ?_
  refine SC.block ?_
  refine SC.sr ?_
  refine SL.mv ?_
  refine SL.mv ?_
  refine SL.uu (ru_ne (b := (((i : Int) : Int) != k)) rfl rfl rfl rfl) ?_
  refine SL.nl ?_
  refine SC.both (((i : Int) : Int) != k) rfl (fun h1 => ?_) (fun h1 => ?_)
  · skip
    refine SC.region ?_
    refine SL.mv ?_
    refine SL.mv ?_
    refine SL.mv ?_
    refine SL.uu (ru_index_rowN (ri := 0) si56 rfl rfl rfl rfl (by omega) (by omega)) ?_
    refine SL.uu (ru_loada_rowN (ri := 0) (i := (i : Int).toNat) (r := [Value.slice xa xn xc, bo x.bad, iw x.tick]) ta46 rfl rfl rfl (by rw [Int.toNat_natCast]; show (ps.map FmV.row)[_]? = _; rw [List.getElem?_map, hx]; rfl) rfl rfl) ?_
    refine SL.buildSlice (size := 3) (vals := [(0, Value.agg #[Value.slice xa xn xc, bo x.bad, iw x.tick])]) (z := [Value.slice none 0 0, bo false, iw 0]) (cs := [Value.slice xa xn xc, bo x.bad, iw x.tick]) rfl rfl (lt_b rfl) rfl Try.underlying56 (by kernel_rfl) rfl rfl (by kernel_rfl) fun b2 hb2 => ?_
    refine SL.append_rowN (ri := 1) (rj := 2) (size := 3) (r := [Value.slice xa xn xc, bo x.bad, iw x.tick]) (z := Value.agg #[Value.slice none 0 0, bo false, iw 0]) (bytes := 40) rfl rfl (lt_b rfl) rfl (by decide) Try.underlying56 (by kernel_rfl) rfl rfl rfl rfl rfl rfl rfl (by rw [List.length_map]; omega) (by unfold maxLen; rw [List.length_map]; omega) (fun b hb => .inr (hq1 b hb)) fun q3 c4 hq5 => ?_
    refine SL.as ?_
    refine SL.nil ?_
    refine SE.blkn ?_
    refine SC.of_SE ?_
    refine SC.nr [rRowN (.slice q ps.length c) (oRows ps) 46 3, rRowN (.slice q3 ((outF (ps.take i) k).length + 1) c4) (oRows (outF (ps.take i) k) ++ [[Value.slice xa xn xc, bo x.bad, iw x.tick]]) 46 3, rBlk b2 [Value.slice xa xn xc, bo x.bad, iw x.tick] 46] ?_
    refine SC.region ?_
    refine SL.mv ?_
    refine SL.uu (ru_add (r := (IntKind.i64.wrap ((i : Int) + 1))) rfl rfl rfl rfl) ?_
    refine SL.as ?_
    refine SL.nil ?_
    refine SE.keep 2 ?_
    have e1 : outF (ps.take (i + 1)) k = outF (ps.take i) k ++ [⟨.slice xa xn xc, x⟩] := outI_one (ne_t h1) h0 hx
    have er : oRows (outF (ps.take (i + 1)) k) = oRows (outF (ps.take i) k) ++ [[Value.slice xa xn xc, bo x.bad, iw x.tick]] := by rw [e1]; exact List.map_append
    have el : (outF (ps.take (i + 1)) k).length = (outF (ps.take i) k).length + 1 := by rw [e1, List.length_append]; rfl
    refine SE.again N (i + 1, q3, c4) (by omega) ⟨by omega, (by rw [el]; exact fun b hb => (hq5 b hb).elim (fun e => e.elim) id)⟩ ⟨rfl, rfl, rfl, (congrArg (fun n9 => some (Value.slice q3 n9 c4)) el.symm), (congrArg (fun x => some (iw x)) (show IntKind.i64.wrap ((i : Int) + 1) = ((i + 1 : Nat) : Int) by rw [IntKind.wrap_i64]; omega)), trivial⟩ (by dsimp only; rw [el, er]; rfl)
  refine SC.skip ?_
  refine SE.blkn ?_
  refine SC.of_SE ?_
  refine SC.region ?_
  refine SL.mv ?_
  refine SL.uu (ru_add (r := (IntKind.i64.wrap ((i : Int) + 1))) rfl rfl rfl rfl) ?_
  refine SL.as ?_
  refine SL.nil ?_
  refine SE.keep 2 ?_
  have e1 : outF (ps.take (i + 1)) k = outF (ps.take i) k := outI_skip (bne_eq_false_iff_eq.1 h1) (by omega)
  refine SE.again N (i + 1, q1, c1) (by omega) ⟨by omega, by rw [e1]; exact hq1⟩ ⟨rfl, rfl, rfl, (by dsimp only; rw [e1]; rfl), (congrArg (fun x => some (iw x)) (show IntKind.i64.wrap ((i : Int) + 1) = ((i + 1 : Nat) : Int) by rw [IntKind.wrap_i64]; omega)), trivial⟩ (by dsimp only; rw [e1]; rfl)

end Go.Proofs.Ytcilikkljkdceaa

/-
  The light machine: append of several structs to a row of one's own. No program is named here.
-/
namespace Go.Proofs.Ytcilikkljkdceaa
open Go.RowKit
def RowsAt (w : World) (x : Value) (rs : List (List Value)) (size : Nat) : Prop :=
  (∃ a c, x = .slice a 0 c ∧ rs = []) ∨ ∃ (b o cap : Nat), x = .slice (some ⟨b, o, none⟩) rs.length cap ∧ (∀ r ∈ rs, r.length = size) ∧ ∀ j u, rs.flatten[j]? = some u → w.cell? ⟨b, o + j, none⟩ = some u
theorem rowN_part {w : World} {q : Option Addr} {n c e size lo hi : Nat} {rs : List (List Value)} (h : RowsN w (.slice q n c) rs e size) (h1 : lo ≤ hi) (h2 : hi ≤ n) : RowsAt w (.slice (if c = lo then q else q.map (·.add (lo * size))) (hi - lo) (c - lo)) ((rs.drop lo).take (hi - lo)) size := by
  obtain ⟨en, h3⟩ := rowN_form h
  by_cases h0 : hi - lo = 0
  · rw [h0, List.take_zero]; exact .inl ⟨_, _, rfl, rfl⟩
  · obtain ⟨g, cur, rfl, hg, hnc, hcm, hcs, htk⟩ := h3 (by omega)
    have hlen : ((rs.drop lo).take (hi - lo)).length = hi - lo := by rw [List.length_take, List.length_drop]; omega
    have hsz : ∀ r ∈ (rs.drop lo).take (hi - lo), r.length = size := fun r hr => h.1 r (List.mem_of_mem_drop (List.mem_of_mem_take hr))
    refine .inr ⟨g, lo * size, c - lo, ?_, hsz, fun j u hj => ?_⟩
    · rw [hlen, if_neg (by omega), Option.map_some, add_at, Nat.zero_add]
    · have hjl : j < ((rs.drop lo).take (hi - lo)).flatten.length := (List.getElem?_eq_some_iff.1 hj).1
      rw [flat_len hsz, hlen] at hjl
      have hs0 : 0 < size := Nat.pos_of_ne_zero fun e => by subst e; simp at hjl
      -- the struct and the place in it
      have e : j = (j / size) * size + j % size := by rw [Nat.mul_comm]; exact (Nat.div_add_mod j size).symm
      have hk : j % size < size := Nat.mod_lt _ hs0
      have hi' : j / size < hi - lo := Nat.div_lt_of_lt_mul (by rw [Nat.mul_comm]; exact hjl)
      have hr : ((rs.drop lo).take (hi - lo))[j / size]? = some (rs[lo + j / size]'(by omega)) := by
        rw [List.getElem?_take, if_pos hi', List.getElem?_drop, List.getElem?_eq_getElem]
      have hr2 : rs[lo + j / size]? = some (rs[lo + j / size]'(by omega)) := List.getElem?_eq_getElem _
      rw [e, flat_get hsz hr hk] at hj
      have := rowN_cell h hr2 hk
      rw [hj] at this
      rw [← this]
      show w.cell? ⟨g, _, none⟩ = w.cell? ⟨g, _, none⟩
      congr 2
      rw [Nat.add_mul]; omega
section
variable {P : Program} {X : Cx} {ops : Array Oper} {Q : Exit → Act → World → Prop} {rest : List Oper} {o : Oper} {m : List (Nat × Value)} {l : List Res} {v : Value} {d k : Nat} {x y : Operand} {t t' : TypeId}
theorem run_appN_none {w : World} {e ty : TypeId} {v x : Value} {size : Nat} {rs : List (List Value)} {i : TypeInfo} (ht : P.underlying t = some (.slice e)) (hi : P.info? e = some i) (hv : RowsN w v rs e size) {a : Option Addr} {c : Nat} (hx : x = .slice a 0 c) :
    (Builtin.append_ #[t, t] ty #[v, x]).run P w = .ok v w := by
  subst hx
  rcases hv.2.2 with ⟨rfl, h0⟩ | ⟨g, cap, cur, rfl, _, hg, hnc, _⟩
  · cases a <;> simp [Builtin.append_, run_underlying ht, sizeOf, typeInfo, hi, Builtin.lenOf, Builtin.firstCells, loadCells, loadCellsFrom]
  · cases a <;> simp [Builtin.append_, run_underlying ht, sizeOf, typeInfo, hi, Builtin.lenOf, Builtin.firstCells, loadCells, loadCellsFrom, hnc, storeCells]
theorem run_rowNs {w : World} {e ty : TypeId} {v x z : Value} {rs r2 : List (List Value)} {size bytes : Nat} (hs0 : 0 < size) (ht : P.underlying t = some (.slice e)) (hz : (P.info? e).map (fun i => (i.zero, i.size, i.bytes)) = some (some z, size, bytes)) (hzs : z.cells.size = size) (hu : ∀ r ∈ r2, ∀ u ∈ r, u.oneCell' = true)
    (hv : RowsN w v rs e size) (hx : RowsAt w x r2 size) (hb : (rs.length + r2.length) * bytes ≤ 140737488355328) (hn : rs.length + r2.length ≤ maxLen) :
    ∃ v' w', (Builtin.append_ #[t, t] ty #[v, x]).run P w = .ok v' w' ∧ RowsN w' v' (rs ++ r2) e size ∧ Only (fun k => v.ownBlock = some k) w w' ∧ (∀ b, v'.ownBlock = some b → v.ownBlock = some b ∨ w.heap.size ≤ b) := by
  obtain ⟨i, hi, h3⟩ := map_some hz
  simp only [Prod.mk.injEq] at h3
  obtain ⟨z0, z1, z2⟩ := h3
  by_cases hys : r2 = []
  · subst hys
    have hx' : ∃ a c, x = .slice a 0 c := by
      rcases hx with ⟨a, c, h, _⟩ | ⟨b, o, cap, h, _⟩
      · exact ⟨a, c, h⟩
      · exact ⟨_, _, h⟩
    obtain ⟨a, c, hx'⟩ := hx'
    exact ⟨v, w, run_appN_none (P := P) (ty := ty) ht hi hv hx', by simpa using hv, Only.refl _ _, fun b hb => .inl hb⟩
  · have hpos : 0 < r2.length := by cases r2 with | nil => exact absurd rfl hys | cons a b => simp
    rcases hx with ⟨a, c, h, h0⟩ | ⟨g2, o2, c2, rfl, hsz, hcell⟩
    · exact absurd h0 hys
    have hfl := flat_len hsz
    have hone : ∀ u ∈ r2.flatten, u.oneCell' = true := fun u hu' => by
      obtain ⟨r, hr, hur⟩ := List.mem_flatten.1 hu'
      exact hu r hr u hur
    have hnews : ∀ j q, r2.flatten[j]? = some q → w.cell? ((⟨g2, o2, none⟩ : Addr).add j) = some q := by
      intro j q hj
      rw [add_at]; exact hcell j q hj
    obtain ⟨v', w', hr, hO, hG, _⟩ := run_append_own (P := P) w 0 t ty e i z size bytes ht hi z0 z1 z2 hzs hs0 v rs.length rs.flatten hv.2 ⟨g2, o2, none⟩ r2.length c2 r2.flatten hfl hnews hone hn hb (Nat.zero_le _)
    refine ⟨v', w', hr, ⟨fun r' h => ?_, by simpa using hO⟩, grown_only hG _ (fun k h => h), ?_⟩
    · rcases List.mem_append.1 h with h | h
      · exact hv.1 r' h
      · exact hsz r' h
    rcases hv.2.2 with ⟨rfl, h0⟩ | ⟨g, cap, cur, rfl, _, hg, hnc, hcm, hcs, htake⟩
    · have hxs : rs = [] := List.eq_nil_of_length_eq_zero h0
      subst hxs
      have h2 := run_append_nil (P := P) w t ty e i z ht hi z0 ⟨g2, o2, none⟩ r2.length c2 r2.flatten (by rw [z1]; exact hfl) hnews (by omega) (by unfold maxLen at hn; simp at hn; omega) (by rw [z2]; simp at hb; omega)
      rw [hr] at h2
      injection h2 with e1
      subst e1
      exact fun b hb => .inr (by simp [Value.ownBlock] at hb; omega)
    · by_cases hroom : rs.length + r2.length ≤ cap
      · have hfit : rs.length * size + r2.flatten.length ≤ cur.size := by
          rw [hcs, hfl, ← Nat.add_mul]; exact Nat.mul_le_mul_right size hroom
        have h2 := run_append_room (P := P) w t ty e i ht hi g rs.length cap cur hg ⟨g2, o2, none⟩ r2.length c2 r2.flatten (by rw [z1]; exact hfl) hnews hone hroom (by rw [z1]; exact hfit)
        rw [hr] at h2
        injection h2 with e1
        subst e1
        exact fun b hb => .inl (by simpa [Value.ownBlock] using hb)
      · have holds : ∀ j q, rs.flatten[j]? = some q → w.cell? ((⟨g, 0, none⟩ : Addr).add j) = some q := World.ownsRow.cells hv.2 (g := g) rfl
        have h2 := run_append_grow (P := P) w t ty e i z ht hi z0 ⟨g, 0, none⟩ rs.length cap rs.flatten (by rw [z1]; exact hv.2.1) holds ⟨g2, o2, none⟩ r2.length c2 r2.flatten (by rw [z1]; exact hfl) hnews (by omega) (by unfold maxLen at hn; omega) (growslice_fits (by omega) (by rw [z2]; exact hb))
        rw [hr] at h2
        injection h2 with e1
        subst e1
        exact fun b hb => .inr (by simp [Value.ownBlock] at hb; omega)
theorem SL.append_rows {e ri size : Nat} {a1 a2 : Operand} {vx z : Value} {rs r2 : List (List Value)} {bytes : Nat} {q : Option Addr} {n c : Nat} (hg : o.guard = none) (hd : o.dst = some d) (hn : d < X.n) (ho : o.op = .call { callee := .builtin .append, args := #[a1, a2], argTypes := #[t, t] })
    (hs0 : 0 < size) (ht : P.underlying t = some (.slice e)) (hz : (P.info? e).map (fun i => (i.zero, i.size, i.bytes)) = some (some z, size, bytes)) (hzs : z.cells.size = size) (hu : ∀ r ∈ r2, ∀ u ∈ r, u.oneCell' = true) (h1 : evM m a1 = some (.slice q n c)) (h2 : evM m a2 = some vx)
    (hi : l[ri]? = some (rRowN (.slice q n c) rs e size)) (hx : ∀ w, Inv X w l → RowsAt w vx r2 size) (hb : (rs.length + r2.length) * bytes ≤ 140737488355328) (hl : rs.length + r2.length ≤ maxLen) (hS : ∀ b, (Value.slice q n c).ownBlock = some b → X.S b ∨ X.w0.heap.size ≤ b)
    (k : ∀ (q' : Option Addr) (c' : Nat), (∀ b, (Value.slice q' (rs ++ r2).length c').ownBlock = some b → X.S b ∨ X.w0.heap.size ≤ b) → SL P X ops Q rest ((d, .slice q' (rs ++ r2).length c') :: m) (l.set ri (rRowN (.slice q' (rs ++ r2).length c') (rs ++ r2) e size))) : SL P X ops Q (o :: rest) m l := fun a w hf hI =>
  wpList_plain hg fun K' hK => by
    have hR : RowsN w (.slice q n c) rs e size := hI.1.get hi
    obtain ⟨v', w', hr, hO, hU, hN⟩ := run_rowNs (P := P) (ty := o.type) hs0 ht hz hzs hu hR (hx w hI) hb hl
    unfold Oper.wp
    rw [run_call_app ho (hf.ev h1) (hf.ev h2) hr]
    simp only [Oper.upon_value, hd]
    obtain ⟨q', c', rfl⟩ : ∃ q' c', v' = .slice q' (rs ++ r2).length c' := by
      rcases hO.2.2 with ⟨h0, h0'⟩ | ⟨g, cap, cur, rfl, _⟩
      · exact ⟨none, 0, by rw [h0, h0']⟩
      · exact ⟨some ⟨g, 0, none⟩, cap, rfl⟩
    refine hK _ _ (k q' c' (fun b hb => ?_) _ _ (hf.put hn _) (hI.upd hi hU hS hO (fun b hb => hN b hb)))
    rcases hN b hb with h | h
    · exact hS b h
    · exact .inr (Nat.le_trans hI.2.size h)
theorem SC.factN {c : Code} {p : Prop} (hf : ∀ w, Inv X w l → p) (h : p → SC P X c Q m l) : SC P X c Q m l := fun a w h1 h2 => h (hf w h2) a w h1 h2
theorem SE.reo {ex : Exit} (js : List Nat) (l' : List Res) (hn : js.Nodup) (he : js.filterMap (l[·]?) = l') (h : SE X Q ex m l') : SE X Q ex m l := fun a w hf hI => h a w hf (he ▸ hI.reo js hn)
end
theorem flat_cut {rs : List (List Value)} {size : Nat} (hr : ∀ r ∈ rs, r.length = size) (k : Nat) : rs.flatten.take (k * size) = (rs.take k).flatten ∧ rs.flatten.drop (k * size) = (rs.drop k).flatten := by
  induction rs generalizing k with
  | nil => simp
  | cons r rs ih =>
    have hr0 := hr r (by simp)
    cases k with
    | zero => simp
    | succ k =>
      have := ih (fun r h => hr r (by simp [h])) k
      have e : (k + 1) * size = k * size + size := by rw [Nat.add_mul, Nat.one_mul]
      rw [List.flatten_cons, List.take_append, List.drop_append, List.take_succ_cons, List.drop_succ_cons, List.flatten_cons, show (k + 1) * size - r.length = k * size by omega, this.1, this.2, List.take_of_length_le (by omega), List.drop_eq_nil_of_le (by omega)]
      exact ⟨rfl, by simp⟩
theorem flat_seta {rs : List (List Value)} {size i : Nat} {vs : List Value} (hr : ∀ r ∈ rs, r.length = size) (hv : vs.length = size) (hi : i < rs.length) : rs.flatten.take (i * size) ++ vs ++ rs.flatten.drop (i * size + size) = (rs.set i vs).flatten := by
  rw [show i * size + size = (i + 1) * size by rw [Nat.add_mul, Nat.one_mul], (flat_cut hr i).1, (flat_cut hr (i + 1)).2, List.set_eq_take_append_cons_drop, if_pos hi, List.flatten_append, List.flatten_cons, List.append_assoc]
section
variable {P : Program} {X : Cx} {ops : Array Oper} {Q : Exit → Act → World → Prop} {rest : List Oper} {o : Oper} {m : List (Nat × Value)} {l : List Res} {x y : Operand} {t : TypeId}
theorem SL.storea_rowN {e ri size : Nat} {q : Option Addr} {n c i : Nat} {rs : List (List Value)} {vs z : List Value} (hg : o.guard = none) (hd : o.dst = none) (ht : TyAg P t z) (ho : o.op = .store t x y) (hx : evM m x = some (.pointer (some ⟨rowB q, i * size, none⟩))) (hy : evM m y = some (.agg vs.toArray)) (hv : vs.all (·.oneCell') = true) (hvz : vs.length = z.length) (hvl : vs.length = size)
    (hi : l[ri]? = some (rRowN (.slice q n c) rs e size)) (hil : i < rs.length) (hS : ∀ b, (Value.slice q n c).ownBlock = some b → X.S b ∨ X.w0.heap.size ≤ b)
    (K : SL P X ops Q rest m (l.set ri (rRowN (.slice q n c) (rs.set i vs) e size))) : SL P X ops Q (o :: rest) m l := fun a w hf hI => by
  have hR : RowsN w (.slice q n c) rs e size := hI.1.get hi
  obtain ⟨rfl, h2⟩ := rowN_form hR
  obtain ⟨g, cur, rfl, h3, h4, h5, h6, h7⟩ := h2 (by omega)
  have hlt : i * size + size ≤ rs.length * size := by
    have : (i + 1) * size ≤ rs.length * size := Nat.mul_le_mul_right _ hil
    rw [Nat.add_mul, Nat.one_mul] at this; omega
  have hcs : rs.length * size ≤ cur.size := by rw [h6]; exact Nat.mul_le_mul_right _ h4
  have hb : Blk w g cur.toList e := by unfold Blk; simpa using h3
  refine SL.storea (X := ⟨X.n, w, fun b => b = g⟩) (l := [rBlk g cur.toList e]) (i := 0) (c' := cur.toList.take (i * size) ++ vs ++ cur.toList.drop (i * size + vs.length)) hg hd ht ho hx hy hv hvz rfl (by have hlc : cur.toList.length = cur.size := Array.length_toList; omega) (.inl rfl) rfl (fun a' w' hf' hI' => ?_) a w hf ⟨⟨fun s hs => by simp at hs; subst hs; exact hb, List.pairwise_singleton _ _⟩, Only.refl _ _⟩
  have hO := hI'.2
  have hb' : Blk w' g (cur.toList.take (i * size) ++ vs ++ cur.toList.drop (i * size + vs.length)) e := hI'.1.get (i := 0) rfl
  have hmem : ∀ r' ∈ rs.set i vs, r'.length = size := fun r' hr' => by
    rcases List.mem_or_eq_of_mem_set hr' with h | rfl
    · exact hR.1 r' h
    · exact hvl
  refine K a' w' hf' ⟨hI.1.upd hi (fun b hn hlt => hO.block b hlt (fun e => hn (by rw [e]; rfl))) ⟨hmem, ?_, .inr ⟨g, c, (cur.toList.take (i * size) ++ vs ++ cur.toList.drop (i * size + vs.length)).toArray, by rw [List.length_set], Nat.zero_le _, hb', by rw [List.length_set]; exact h4, h5, ?_, ?_⟩⟩ (fun b hb => .inl hb), hI.2.trans' hO (fun b hb => hS b (by rw [hb]; rfl))⟩
  · rw [flat_len hmem, List.length_set]
  · have hlc : cur.toList.length = cur.size := Array.length_toList
    simp only [List.size_toArray, List.length_append, List.length_take, List.length_drop]; omega
  · rw [List.length_set, ← flat_seta hR.1 hvl hil, ← h7]
    show List.take _ (cur.toList.take (i * size) ++ vs ++ cur.toList.drop (i * size + vs.length)) = _
    have hlc : cur.toList.length = cur.size := Array.length_toList
    rw [List.take_append, List.take_append, List.take_take, List.take_take, List.drop_take, hvl]
    rw [show min (rs.length * size) (i * size) = i * size by omega, show min (i * size) (rs.length * size) = i * size by omega, List.length_append, List.length_take, hvl, show min (i * size) cur.toList.length = i * size by omega, List.take_of_length_le (l := vs) (by omega), show rs.length * size - (i * size + size) = rs.length * size - (i * size + size) from rfl]
end
def Mk.rowN (X : Cx) (n : Nat) (rs : List (List Value)) (e size : Nat) : Mk := ⟨fun u => ∃ q c, (∀ b, (Value.slice q n c).ownBlock = some b → X.w0.heap.size ≤ b) ∧ u = .slice q n c, fun u _ => [rRowN u rs e size], ⟨_, none, 0, fun b hb => by simp [Value.ownBlock] at hb, rfl⟩, [], fun _ _ _ _ => rfl⟩
end Go.Proofs.Ytcilikkljkdceaa

/-
  The document's Pull.
-/
namespace Go.Proofs.Ytcilikkljkdceaa
open Go.RowKit
set_option maxRecDepth 100000
set_option maxHeartbeats 4000000
theorem new_old {now t : Int} (h : 0 ≤ now ∧ now ≤ 3000000000000) (ht : 0 ≤ t ∧ t ≤ now) : decide (IntKind.i64.wrap (now - 8) < t) = !oldB now t := by
  unfold oldB
  rw [IntKind.wrap_i64, IntKind.wrap_i64, ← decide_not]
  refine decide_eq_decide.2 ⟨fun h => by omega, fun h => by omega⟩
theorem qpull0_any {w : World} {wd d0 d1 : Nat} {M : WM} {S : Wi} (hM : M.Ok S) (hn : M.ps0.length ≤ 3000000000000) (hk : NicOk S.A0) (hnow : 0 ≤ S.now ∧ S.now ≤ 3000000000000) (ht : 0 ≤ (takeR S.A0).1.1.2 ∧ (takeR S.A0).1.1.2 ≤ S.now) (h : Sep w (WLm 100 92 46 wd d0 d1 M S.A0 S.A1 S.now)) : Calls Try.prog 40 #[pt wd 0, iw 0] w fun e w' => e = .returned (iw (pullF S false).1) ∧ ∃ M', WTo 100 92 46 w wd d0 d1 M M' (pullF S false).2 w' := by
  refine calls_sc (l0 := (WLm 100 92 46 wd d0 d1 M S.A0 S.A1 S.now)) (args := [pt wd 0, iw 0]) (M.G wd d0 d1) Try.func40 rfl 48 Try.ntmps40 (le_b rfl) ⟨h, Only.refl _ _⟩ ?_
  show SC _ _ _ _ [(0, pt wd 0), (1, iw 0)] (WLm 100 92 46 wd d0 d1 M S.A0 S.A1 S.now)
  refine SC.sr ?_
  refine SL.as ?_
  refine SL.nl ?_
  refine SC.seq ?_
  refine SC.sr ?_
  refine SL.mv ?_
  refine SL.uu (ru_ne (b := false) rfl rfl rfl rfl) ?_
  refine SL.mv ?_
  refine SL.oo ?_
  refine SL.oo ?_
  refine SL.pk (undef) (bo false) ?_
  refine SL.nl ?_
  refine SC.no rfl ?_
  refine SC.skip ?_
  refine SC.of_SE ?_
  refine SC.sr ?_
  refine SL.mv ?_
  refine SL.mv ?_
  refine SL.nk ?_
  refine SL.fa 0 fd92_0 ?_
  refine SL.ia 0 ar37 ?_
  refine SL.ld 0 ts36 ?_
  refine SL.call (ζ := Option Addr × Nat × (Nat → Prop) × (Value → List UInt8 → Prop)) (fun z => Value.tuple #[Value.agg #[Value.slice z.1 ((takeR S.A0).1.1.1.length) z.2.1, bo false, iw ((takeR S.A0).1.1.2)], iw ((takeR S.A0).1.2)]) (fun z => [rB wd d0 d1 M S.now 92, rDv 100 d0 z.2.2.2 ((takeR S.A0).2), rDv 100 d1 z.2.2.2 S.A1, rR0 M 46, rR1 M 46, rZ z.2.2.1 z.2.2.2]) (fun z => (∀ v f, M.fs v f → z.2.2.2 v f) ∧ z.2.2.2 (.slice z.1 (takeR S.A0).1.1.1.length z.2.1) (takeR S.A0).1.1.1 ∧ ∀ b, z.2.2.1 b → M.F b ∨ w.heap.size ≤ b) rfl rfl co59 rfl rfl rfl (lt_b rfl) (fun w5 hI => (q_take hk (WL.nic0 (l := []) hI)).mono fun e w2 ⟨v, h1, k1, k3, k4⟩ => by obtain ⟨qa, qc, rfl⟩ := k4.1.form; obtain ⟨F', fs', q1, q2, q3⟩ := WL.turn0 (g := fun v f => v = .slice qa (takeR S.A0).1.1.1.length qc ∧ f = (takeR S.A0).1.1.1) (l := []) hI (.inl (.inr (.inl rfl))) k1 (fun b hb => .inl hb) k3 (fun v f hv => by obtain ⟨rfl, rfl⟩ := hv; exact ⟨k4.1, k4.2⟩); exact ⟨(qa, qc, F', fs'), h1, q2, fun v f h => q1 v f (.inl h), q1 _ _ (.inr ⟨rfl, rfl⟩), fun b hb => (q3 b hb).imp id (Nat.le_trans hI.2.size)⟩) ?_
  rintro ⟨q1, c2, Fn, fsn⟩ ⟨hfn, hfv, hFn⟩
  dsimp only at hfn hfv hFn
  refine SL.mv ?_
  refine SL.uu (ru_extract rfl rfl rfl) ?_
  refine SL.uu (ru_extract rfl rfl rfl) ?_
  refine SL.alloca rfl rfl (lt_b rfl) ta46 rfl fun b3 hb3 => ?_
  refine SL.storea (i := 6) (vs := [Value.slice q1 ((takeR S.A0).1.1.1.length) c2, bo false, iw ((takeR S.A0).1.1.2)]) (c' := [Value.slice q1 ((takeR S.A0).1.1.1.length) c2, bo false, iw ((takeR S.A0).1.1.2)]) rfl rfl ta46 rfl rfl rfl rfl rfl rfl (le_b rfl) (.inr hb3) rfl ?_
  refine SL.as ?_
  refine SL.nl ?_
  refine SC.seq ?_
  refine SC.sr ?_
  refine SL.mv ?_
  refine SL.uu (ru_ne (b := ((((takeR S.A0).1.2) : Int) != 0)) rfl rfl rfl rfl) ?_
  refine SL.nl ?_
  refine SC.both ((((takeR S.A0).1.2) : Int) != 0) rfl (fun h4 => ?_) (fun h4 => ?_)
  · skip
    refine SC.sr ?_
    refine SL.mv ?_
    refine SL.as ?_
    refine SL.nl ?_
    refine SC.ret ?_
    refine SE.passr ?_
    refine SE.res (.inl rfl) (res1 Try.results40 rfl) fun w1 hI => ?_
    have ew : pullF S false = ((takeR S.A0).1.2, (S.setA false (takeR S.A0).2)) := by unfold pullF; exact if_neg (by intro hc; rw [Bool.and_eq_true] at hc; exact ne_t h4 (eq_t hc.1))
    rw [ew]
    exact ⟨rfl, { M with F := Fn, fs := fsn }, ⟨(hI.keep 6).1, ⟨fun y hy => hfn _ _ (hM.f0 y hy), fun y hy => hfn _ _ (hM.f1 y hy), hM.l0, hM.l1⟩, hfn, fun b hb => WM.K.frz (M' := M) hb (fun b hb => .inr (.inr (.inr hb))) hFn, hI.2⟩⟩
  refine SC.skip ?_
  refine SC.of_SE ?_
  refine SC.seq ?_
  refine SC.seq ?_
  refine SC.region_quiet (by kernel_rfl) (by kernel_rfl) ?_
  refine SQ.fa 2 fd46_2 ?_
  refine SQ.ld 6 ts3 ?_
  refine SQ.mv ?_
  refine SQ.nk ?_
  refine SQ.fa 4 fd92_2 ?_
  refine SQ.ld 0 ts3 ?_
  refine SQ.uu (ru_sub (r := (IntKind.i64.wrap (S.now - 8))) rfl rfl rfl rfl) ?_
  refine SQ.uu (ru_gt (b := (decide (((IntKind.i64.wrap (S.now - 8)) : Int) < ((takeR S.A0).1.1.2)))) rfl rfl rfl rfl) ?_
  refine SQ.nilE ?_
  refine SC.of_SE ?_
  refine SC.both (decide (((IntKind.i64.wrap (S.now - 8)) : Int) < ((takeR S.A0).1.1.2))) rfl (fun h5 => ?_) (fun h5 => ?_)
  · skip
    refine SC.region_any (by kernel_rfl) ?_
    refine SA.take 0 rfl (by kernel_rfl) (by kernel_rfl) (by kernel_rfl) rfl rfl (lt_b rfl) (fun _ => ru_move rfl rfl) ?_
    refine SA.take 1 rfl (by kernel_rfl) (by kernel_rfl) (by kernel_rfl) rfl rfl (lt_b rfl) (fun _ => ru_move rfl rfl) ?_
    refine SA.take 2 rfl (by kernel_rfl) (by kernel_rfl) (by kernel_rfl) rfl rfl (lt_b rfl) (fun _ => ru_move rfl rfl) ?_
    refine SA.take 3 rfl (by kernel_rfl) (by kernel_rfl) (by kernel_rfl) rfl rfl (lt_b rfl) (fun _ => ru_move rfl rfl) ?_
    refine SA.take 4 rfl (by kernel_rfl) (by kernel_rfl) (by kernel_rfl) rfl rfl (lt_b rfl) (fun _ => ru_nilCheck rfl rfl) ?_
    refine SA.take 5 rfl (by kernel_rfl) (by kernel_rfl) (by kernel_rfl) rfl rfl (lt_b rfl) (fun _ => ru_fieldAddr (o2 := 2) fd92_1 rfl rfl rfl) ?_
    refine SA.take 6 rfl (by kernel_rfl) (by kernel_rfl) (by kernel_rfl) rfl rfl (lt_b rfl) (fun _ => ru_indexA (o2 := 2) ar75 rfl rfl rfl (by decide) (by decide) rfl) ?_
    refine SA.take 11 rfl (by kernel_rfl) (by kernel_rfl) (by kernel_rfl) rfl rfl (lt_b rfl) (fun _ => ru_nilCheck rfl rfl) ?_
    refine SA.take 12 rfl (by kernel_rfl) (by kernel_rfl) (by kernel_rfl) rfl rfl (lt_b rfl) (fun _ => ru_fieldAddr (o2 := 2) fd92_1 rfl rfl rfl) ?_
    refine SA.lets (ζ := Nat) (fun b6 => [(4, iw 0), (34, pt wd 0), (35, iw 0), (36, pt wd 0), (37, iw 0), (38, pt wd 0), (39, pt wd 2), (40, pt wd 2), (41, Value.slice M.q0 M.ps0.length M.c0), (42, Value.agg #[Value.slice q1 ((takeR S.A0).1.1.1.length) c2, bo false, iw ((takeR S.A0).1.1.2)]), (43, sl b6 0 1 1), (45, pt wd 0), (46, pt wd 2)]) (fun b6 => [rB wd d0 d1 M S.now 92, rDv 100 d0 fsn ((takeR S.A0).2), rDv 100 d1 fsn S.A1, rR0 M 46, rR1 M 46, rZ Fn fsn, rBlk b3 [Value.slice q1 ((takeR S.A0).1.1.1.length) c2, bo false, iw ((takeR S.A0).1.1.2)] 46, rBlk b6 [Value.slice q1 ((takeR S.A0).1.1.1.length) c2, bo false, iw ((takeR S.A0).1.1.2)] 46]) (fun b6 => w.heap.size ≤ b6) 3 #[true, true, true, true, true, true, true, true, true, true, false, true, true, false, false] ?_ ?_
    · intro b6 hb6
      refine SA.one 10 rfl (by kernel_rfl) ?_
      refine SL.append_rowN (ri := 3) (rj := 7) (size := 3) (r := [Value.slice q1 ((takeR S.A0).1.1.1.length) c2, bo false, iw ((takeR S.A0).1.1.2)]) (z := Value.agg #[Value.slice none 0 0, bo false, iw 0]) (bytes := 40) rfl rfl (lt_b rfl) rfl (by decide) Try.underlying56 (by kernel_rfl) rfl rfl rfl rfl rfl rfl rfl (by rw [List.length_map]; omega) (by unfold maxLen; rw [List.length_map]; omega) (fun b hb => .inl (.inr (.inr (.inr (.inl hb))))) fun q7 c8 hq9 => ?_
      refine SL.nil ?_
      refine SA.se ?_
      refine SA.take 13 rfl (by kernel_rfl) (by kernel_rfl) (by kernel_rfl) rfl rfl (lt_b rfl) (fun _ => ru_indexA (o2 := 2) ar75 rfl rfl rfl (by decide) (by decide) rfl) ?_
      refine SA.one 14 rfl (by kernel_rfl) ?_
      refine SL.store (i := 0) (c' := [pt d0 0, pt d1 0, Value.slice q7 (M.ps0.length + 1) c8, Value.slice M.q1 M.ps1.length M.c1, iw S.now]) rfl rfl ts56 rfl rfl rfl rfl rfl (lt_b rfl) (.inl (.inl rfl)) rfl ?_
      refine SL.nil ?_
      refine SA.se ?_
      refine SA.done (by kernel_rfl) ?_
      refine SC.of_SE ?_
      refine SC.sr ?_
      refine SL.as ?_
      refine SL.nl ?_
      refine SC.ret ?_
      refine SE.res (.inl rfl) (res1 Try.results40 rfl) fun w1 hI => ?_
      have hz : (takeR S.A0).1.2 = 0 := bne_eq_false_iff_eq.1 h4
      rw [new_old hnow ht] at h5
      have er : oRows (M.ps0 ++ [⟨.slice q1 (takeR S.A0).1.1.1.length c2, ⟨(takeR S.A0).1.1.1, false, (takeR S.A0).1.1.2⟩⟩]) = oRows M.ps0 ++ [[Value.slice q1 ((takeR S.A0).1.1.1.length) c2, bo false, iw ((takeR S.A0).1.1.2)]] := List.map_append
      have el : (M.ps0 ++ [(⟨.slice q1 (takeR S.A0).1.1.1.length c2, ⟨(takeR S.A0).1.1.1, false, (takeR S.A0).1.1.2⟩⟩ : FmV)]).length = M.ps0.length + 1 := by rw [List.length_append]; rfl
      have ew : pullF S false = (0, (S.setA false (takeR S.A0).2).setL false (S.L0 ++ [⟨(takeR S.A0).1.1.1, false, (takeR S.A0).1.1.2⟩])) := by unfold pullF; show (if (((takeR S.A0).1.2 == 0) && !oldB S.now (takeR S.A0).1.1.2) = true then ((takeR S.A0).1.2, (S.setA false (takeR S.A0).2).setL false (S.L0 ++ [⟨(takeR S.A0).1.1.1, false, (takeR S.A0).1.1.2⟩])) else ((takeR S.A0).1.2, (S.setA false (takeR S.A0).2))) = _; rw [hz, h5]; rfl
      rw [← er, ← el] at hI
      rw [ew]
      have hO := hM.app0 (F := Fn) (fs := fsn) (y := ⟨.slice q1 (takeR S.A0).1.1.1.length c2, ⟨(takeR S.A0).1.1.1, false, (takeR S.A0).1.1.2⟩⟩) hfn q7 c8 hfv
      exact ⟨rfl, { M with F := Fn, fs := fsn, q0 := q7, c0 := c8, ps0 := M.ps0 ++ [⟨.slice q1 (takeR S.A0).1.1.1.length c2, ⟨(takeR S.A0).1.1.1, false, (takeR S.A0).1.1.2⟩⟩] }, ⟨(hI.keep 6).1, ⟨hO.f0, hO.f1, hO.l0, hO.l1⟩, hfn, fun b hb => WM.K.new0 hb hFn hq9, hI.2⟩⟩
    · intro hj6
      refine SA.two 7 8 rfl rfl (by kernel_rfl) ?_ ?_
      · skip
        refine SL.ld 0 ts56 ?_
        refine SL.nil ?_
        refine SA.se ?_
        refine SA.one 8 rfl (by kernel_rfl) ?_
        refine SL.uu (ru_loada (i := 6) (vs := [Value.slice q1 ((takeR S.A0).1.1.1.length) c2, bo false, iw ((takeR S.A0).1.1.2)]) ta46 rfl rfl rfl rfl (le_b rfl)) ?_
        refine SL.nil ?_
        refine SA.se ?_
        refine SA.one 9 rfl (by kernel_rfl) ?_
        refine SL.buildSlice (size := 3) (vals := [(0, Value.agg #[Value.slice q1 ((takeR S.A0).1.1.1.length) c2, bo false, iw ((takeR S.A0).1.1.2)])]) (z := [Value.slice none 0 0, bo false, iw 0]) (cs := [Value.slice q1 ((takeR S.A0).1.1.1.length) c2, bo false, iw ((takeR S.A0).1.1.2)]) rfl rfl (lt_b rfl) rfl Try.underlying56 (by kernel_rfl) rfl rfl (by kernel_rfl) fun b10 hb10 => ?_
        refine SL.nil ?_
        refine SA.se ?_
        exact SA.norm [(4, iw 0), (34, pt wd 0), (35, iw 0), (36, pt wd 0), (37, iw 0), (38, pt wd 0), (39, pt wd 2), (40, pt wd 2), (41, Value.slice M.q0 M.ps0.length M.c0), (42, Value.agg #[Value.slice q1 ((takeR S.A0).1.1.1.length) c2, bo false, iw ((takeR S.A0).1.1.2)]), (43, sl b10 0 1 1), (45, pt wd 0), (46, pt wd 2)] [rBlk wd [pt d0 0, pt d1 0, Value.slice M.q0 M.ps0.length M.c0, Value.slice M.q1 M.ps1.length M.c1, iw S.now] 92, rDv 100 d0 fsn ((takeR S.A0).2), rDv 100 d1 fsn S.A1, rRowN (.slice M.q0 M.ps0.length M.c0) (oRows M.ps0) 46 3, rRowN (.slice M.q1 M.ps1.length M.c1) (oRows M.ps1) 46 3, rZ Fn fsn, rBlk b3 [Value.slice q1 ((takeR S.A0).1.1.1.length) c2, bo false, iw ((takeR S.A0).1.1.2)] 46, rBlk b10 [Value.slice q1 ((takeR S.A0).1.1.1.length) c2, bo false, iw ((takeR S.A0).1.1.2)] 46] ⟨rfl, rfl, rfl, rfl, rfl, rfl, rfl, rfl, rfl, rfl, rfl, rfl, rfl, trivial⟩ rfl (SA.same (by kernel_rfl) (hj6 b10 hb10))
      refine SL.uu (ru_loada (i := 6) (vs := [Value.slice q1 ((takeR S.A0).1.1.1.length) c2, bo false, iw ((takeR S.A0).1.1.2)]) ta46 rfl rfl rfl rfl (le_b rfl)) ?_
      refine SL.nil ?_
      refine SA.se ?_
      refine SA.two 7 9 rfl rfl (by kernel_rfl) ?_ ?_
      · skip
        refine SL.ld 0 ts56 ?_
        refine SL.nil ?_
        refine SA.se ?_
        refine SA.one 9 rfl (by kernel_rfl) ?_
        refine SL.buildSlice (size := 3) (vals := [(0, Value.agg #[Value.slice q1 ((takeR S.A0).1.1.1.length) c2, bo false, iw ((takeR S.A0).1.1.2)])]) (z := [Value.slice none 0 0, bo false, iw 0]) (cs := [Value.slice q1 ((takeR S.A0).1.1.1.length) c2, bo false, iw ((takeR S.A0).1.1.2)]) rfl rfl (lt_b rfl) rfl Try.underlying56 (by kernel_rfl) rfl rfl (by kernel_rfl) fun b11 hb11 => ?_
        refine SL.nil ?_
        refine SA.se ?_
        exact SA.norm [(4, iw 0), (34, pt wd 0), (35, iw 0), (36, pt wd 0), (37, iw 0), (38, pt wd 0), (39, pt wd 2), (40, pt wd 2), (41, Value.slice M.q0 M.ps0.length M.c0), (42, Value.agg #[Value.slice q1 ((takeR S.A0).1.1.1.length) c2, bo false, iw ((takeR S.A0).1.1.2)]), (43, sl b11 0 1 1), (45, pt wd 0), (46, pt wd 2)] [rBlk wd [pt d0 0, pt d1 0, Value.slice M.q0 M.ps0.length M.c0, Value.slice M.q1 M.ps1.length M.c1, iw S.now] 92, rDv 100 d0 fsn ((takeR S.A0).2), rDv 100 d1 fsn S.A1, rRowN (.slice M.q0 M.ps0.length M.c0) (oRows M.ps0) 46 3, rRowN (.slice M.q1 M.ps1.length M.c1) (oRows M.ps1) 46 3, rZ Fn fsn, rBlk b3 [Value.slice q1 ((takeR S.A0).1.1.1.length) c2, bo false, iw ((takeR S.A0).1.1.2)] 46, rBlk b11 [Value.slice q1 ((takeR S.A0).1.1.1.length) c2, bo false, iw ((takeR S.A0).1.1.2)] 46] ⟨rfl, rfl, rfl, rfl, rfl, rfl, rfl, rfl, rfl, rfl, rfl, rfl, rfl, trivial⟩ rfl (SA.same (by kernel_rfl) (hj6 b11 hb11))
      refine SL.buildSlice (size := 3) (vals := [(0, Value.agg #[Value.slice q1 ((takeR S.A0).1.1.1.length) c2, bo false, iw ((takeR S.A0).1.1.2)])]) (z := [Value.slice none 0 0, bo false, iw 0]) (cs := [Value.slice q1 ((takeR S.A0).1.1.1.length) c2, bo false, iw ((takeR S.A0).1.1.2)]) rfl rfl (lt_b rfl) rfl Try.underlying56 (by kernel_rfl) rfl rfl (by kernel_rfl) fun b12 hb12 => ?_
      refine SL.nil ?_
      refine SA.se ?_
      refine SA.one 7 rfl (by kernel_rfl) ?_
      refine SL.ld 0 ts56 ?_
      refine SL.nil ?_
      refine SA.se ?_
      exact SA.norm [(4, iw 0), (34, pt wd 0), (35, iw 0), (36, pt wd 0), (37, iw 0), (38, pt wd 0), (39, pt wd 2), (40, pt wd 2), (41, Value.slice M.q0 M.ps0.length M.c0), (42, Value.agg #[Value.slice q1 ((takeR S.A0).1.1.1.length) c2, bo false, iw ((takeR S.A0).1.1.2)]), (43, sl b12 0 1 1), (45, pt wd 0), (46, pt wd 2)] [rBlk wd [pt d0 0, pt d1 0, Value.slice M.q0 M.ps0.length M.c0, Value.slice M.q1 M.ps1.length M.c1, iw S.now] 92, rDv 100 d0 fsn ((takeR S.A0).2), rDv 100 d1 fsn S.A1, rRowN (.slice M.q0 M.ps0.length M.c0) (oRows M.ps0) 46 3, rRowN (.slice M.q1 M.ps1.length M.c1) (oRows M.ps1) 46 3, rZ Fn fsn, rBlk b3 [Value.slice q1 ((takeR S.A0).1.1.1.length) c2, bo false, iw ((takeR S.A0).1.1.2)] 46, rBlk b12 [Value.slice q1 ((takeR S.A0).1.1.1.length) c2, bo false, iw ((takeR S.A0).1.1.2)] 46] ⟨rfl, rfl, rfl, rfl, rfl, rfl, rfl, rfl, rfl, rfl, rfl, rfl, rfl, trivial⟩ rfl (SA.same (by kernel_rfl) (hj6 b12 hb12))
  refine SC.skip ?_
  refine SC.of_SE ?_
  refine SC.sr ?_
  refine SL.as ?_
  refine SL.nl ?_
  refine SC.ret ?_
  refine SE.res (.inl rfl) (res1 Try.results40 rfl) fun w1 hI => ?_
  have hz : (takeR S.A0).1.2 = 0 := bne_eq_false_iff_eq.1 h4
  rw [new_old hnow ht] at h5
  have ew : pullF S false = (0, (S.setA false (takeR S.A0).2)) := by unfold pullF; show (if (((takeR S.A0).1.2 == 0) && !oldB S.now (takeR S.A0).1.1.2) = true then ((takeR S.A0).1.2, (S.setA false (takeR S.A0).2).setL false (S.L0 ++ [⟨(takeR S.A0).1.1.1, false, (takeR S.A0).1.1.2⟩])) else ((takeR S.A0).1.2, (S.setA false (takeR S.A0).2))) = _; rw [hz, h5]; rfl
  rw [ew]
  exact ⟨rfl, { M with F := Fn, fs := fsn }, ⟨(hI.keep 6).1, ⟨fun y hy => hfn _ _ (hM.f0 y hy), fun y hy => hfn _ _ (hM.f1 y hy), hM.l0, hM.l1⟩, hfn, fun b hb => WM.K.frz (M' := M) hb (fun b hb => .inr (.inr (.inr hb))) hFn, hI.2⟩⟩
theorem qpull1_any {w : World} {wd d0 d1 : Nat} {M : WM} {S : Wi} (hM : M.Ok S) (hn : M.ps1.length ≤ 3000000000000) (hk : NicOk S.A1) (hnow : 0 ≤ S.now ∧ S.now ≤ 3000000000000) (ht : 0 ≤ (takeR S.A1).1.1.2 ∧ (takeR S.A1).1.1.2 ≤ S.now) (h : Sep w (WLm 100 92 46 wd d0 d1 M S.A0 S.A1 S.now)) : Calls Try.prog 40 #[pt wd 0, iw 1] w fun e w' => e = .returned (iw (pullF S true).1) ∧ ∃ M', WTo 100 92 46 w wd d0 d1 M M' (pullF S true).2 w' := by
  refine calls_sc (l0 := (WLm 100 92 46 wd d0 d1 M S.A0 S.A1 S.now)) (args := [pt wd 0, iw 1]) (M.G wd d0 d1) Try.func40 rfl 48 Try.ntmps40 (le_b rfl) ⟨h, Only.refl _ _⟩ ?_
  show SC _ _ _ _ [(0, pt wd 0), (1, iw 1)] (WLm 100 92 46 wd d0 d1 M S.A0 S.A1 S.now)
  refine SC.sr ?_
  refine SL.as ?_
  refine SL.nl ?_
  refine SC.seq ?_
  refine SC.sr ?_
  refine SL.mv ?_
  refine SL.uu (ru_ne (b := true) rfl rfl rfl rfl) ?_
  refine SL.mv ?_
  refine SL.gg (ru_move rfl rfl) ?_
  refine SL.gg (ru_ne (b := false) rfl rfl rfl rfl) ?_
  refine SL.pk (bo false) (bo false) ?_
  refine SL.nl ?_
  refine SC.no rfl ?_
  refine SC.skip ?_
  refine SC.of_SE ?_
  refine SC.sr ?_
  refine SL.mv ?_
  refine SL.mv ?_
  refine SL.nk ?_
  refine SL.fa 0 fd92_0 ?_
  refine SL.ia 1 ar37 ?_
  refine SL.ld 0 ts36 ?_
  refine SL.call (ζ := Option Addr × Nat × (Nat → Prop) × (Value → List UInt8 → Prop)) (fun z => Value.tuple #[Value.agg #[Value.slice z.1 ((takeR S.A1).1.1.1.length) z.2.1, bo false, iw ((takeR S.A1).1.1.2)], iw ((takeR S.A1).1.2)]) (fun z => [rB wd d0 d1 M S.now 92, rDv 100 d0 z.2.2.2 S.A0, rDv 100 d1 z.2.2.2 ((takeR S.A1).2), rR0 M 46, rR1 M 46, rZ z.2.2.1 z.2.2.2]) (fun z => (∀ v f, M.fs v f → z.2.2.2 v f) ∧ z.2.2.2 (.slice z.1 (takeR S.A1).1.1.1.length z.2.1) (takeR S.A1).1.1.1 ∧ ∀ b, z.2.2.1 b → M.F b ∨ w.heap.size ≤ b) rfl rfl co59 rfl rfl rfl (lt_b rfl) (fun w5 hI => (q_take hk (WL.nic1 (l := []) hI)).mono fun e w2 ⟨v, h1, k1, k3, k4⟩ => by obtain ⟨qa, qc, rfl⟩ := k4.1.form; obtain ⟨F', fs', q1, q2, q3⟩ := WL.turn1 (g := fun v f => v = .slice qa (takeR S.A1).1.1.1.length qc ∧ f = (takeR S.A1).1.1.1) (l := []) hI (.inl (.inr (.inr (.inl rfl)))) k1 (fun b hb => .inl hb) k3 (fun v f hv => by obtain ⟨rfl, rfl⟩ := hv; exact ⟨k4.1, k4.2⟩); exact ⟨(qa, qc, F', fs'), h1, q2, fun v f h => q1 v f (.inl h), q1 _ _ (.inr ⟨rfl, rfl⟩), fun b hb => (q3 b hb).imp id (Nat.le_trans hI.2.size)⟩) ?_
  rintro ⟨q1, c2, Fn, fsn⟩ ⟨hfn, hfv, hFn⟩
  dsimp only at hfn hfv hFn
  refine SL.mv ?_
  refine SL.uu (ru_extract rfl rfl rfl) ?_
  refine SL.uu (ru_extract rfl rfl rfl) ?_
  refine SL.alloca rfl rfl (lt_b rfl) ta46 rfl fun b3 hb3 => ?_
  refine SL.storea (i := 6) (vs := [Value.slice q1 ((takeR S.A1).1.1.1.length) c2, bo false, iw ((takeR S.A1).1.1.2)]) (c' := [Value.slice q1 ((takeR S.A1).1.1.1.length) c2, bo false, iw ((takeR S.A1).1.1.2)]) rfl rfl ta46 rfl rfl rfl rfl rfl rfl (le_b rfl) (.inr hb3) rfl ?_
  refine SL.as ?_
  refine SL.nl ?_
  refine SC.seq ?_
  refine SC.sr ?_
  refine SL.mv ?_
  refine SL.uu (ru_ne (b := ((((takeR S.A1).1.2) : Int) != 0)) rfl rfl rfl rfl) ?_
  refine SL.nl ?_
  refine SC.both ((((takeR S.A1).1.2) : Int) != 0) rfl (fun h4 => ?_) (fun h4 => ?_)
  · skip
    refine SC.sr ?_
    refine SL.mv ?_
    refine SL.as ?_
    refine SL.nl ?_
    refine SC.ret ?_
    refine SE.passr ?_
    refine SE.res (.inl rfl) (res1 Try.results40 rfl) fun w1 hI => ?_
    have ew : pullF S true = ((takeR S.A1).1.2, (S.setA true (takeR S.A1).2)) := by unfold pullF; exact if_neg (by intro hc; rw [Bool.and_eq_true] at hc; exact ne_t h4 (eq_t hc.1))
    rw [ew]
    exact ⟨rfl, { M with F := Fn, fs := fsn }, ⟨(hI.keep 6).1, ⟨fun y hy => hfn _ _ (hM.f0 y hy), fun y hy => hfn _ _ (hM.f1 y hy), hM.l0, hM.l1⟩, hfn, fun b hb => WM.K.frz (M' := M) hb (fun b hb => .inr (.inr (.inr hb))) hFn, hI.2⟩⟩
  refine SC.skip ?_
  refine SC.of_SE ?_
  refine SC.seq ?_
  refine SC.seq ?_
  refine SC.region_quiet (by kernel_rfl) (by kernel_rfl) ?_
  refine SQ.fa 2 fd46_2 ?_
  refine SQ.ld 6 ts3 ?_
  refine SQ.mv ?_
  refine SQ.nk ?_
  refine SQ.fa 4 fd92_2 ?_
  refine SQ.ld 0 ts3 ?_
  refine SQ.uu (ru_sub (r := (IntKind.i64.wrap (S.now - 8))) rfl rfl rfl rfl) ?_
  refine SQ.uu (ru_gt (b := (decide (((IntKind.i64.wrap (S.now - 8)) : Int) < ((takeR S.A1).1.1.2)))) rfl rfl rfl rfl) ?_
  refine SQ.nilE ?_
  refine SC.of_SE ?_
  refine SC.both (decide (((IntKind.i64.wrap (S.now - 8)) : Int) < ((takeR S.A1).1.1.2))) rfl (fun h5 => ?_) (fun h5 => ?_)
  · skip
    refine SC.region_any (by kernel_rfl) ?_
    refine SA.take 0 rfl (by kernel_rfl) (by kernel_rfl) (by kernel_rfl) rfl rfl (lt_b rfl) (fun _ => ru_move rfl rfl) ?_
    refine SA.take 1 rfl (by kernel_rfl) (by kernel_rfl) (by kernel_rfl) rfl rfl (lt_b rfl) (fun _ => ru_move rfl rfl) ?_
    refine SA.take 2 rfl (by kernel_rfl) (by kernel_rfl) (by kernel_rfl) rfl rfl (lt_b rfl) (fun _ => ru_move rfl rfl) ?_
    refine SA.take 3 rfl (by kernel_rfl) (by kernel_rfl) (by kernel_rfl) rfl rfl (lt_b rfl) (fun _ => ru_move rfl rfl) ?_
    refine SA.take 4 rfl (by kernel_rfl) (by kernel_rfl) (by kernel_rfl) rfl rfl (lt_b rfl) (fun _ => ru_nilCheck rfl rfl) ?_
    refine SA.take 5 rfl (by kernel_rfl) (by kernel_rfl) (by kernel_rfl) rfl rfl (lt_b rfl) (fun _ => ru_fieldAddr (o2 := 2) fd92_1 rfl rfl rfl) ?_
    refine SA.take 6 rfl (by kernel_rfl) (by kernel_rfl) (by kernel_rfl) rfl rfl (lt_b rfl) (fun _ => ru_indexA (o2 := 3) ar75 rfl rfl rfl (by decide) (by decide) rfl) ?_
    refine SA.take 11 rfl (by kernel_rfl) (by kernel_rfl) (by kernel_rfl) rfl rfl (lt_b rfl) (fun _ => ru_nilCheck rfl rfl) ?_
    refine SA.take 12 rfl (by kernel_rfl) (by kernel_rfl) (by kernel_rfl) rfl rfl (lt_b rfl) (fun _ => ru_fieldAddr (o2 := 2) fd92_1 rfl rfl rfl) ?_
    refine SA.lets (ζ := Nat) (fun b6 => [(4, iw 0), (34, pt wd 0), (35, iw 1), (36, pt wd 0), (37, iw 1), (38, pt wd 0), (39, pt wd 2), (40, pt wd 3), (41, Value.slice M.q1 M.ps1.length M.c1), (42, Value.agg #[Value.slice q1 ((takeR S.A1).1.1.1.length) c2, bo false, iw ((takeR S.A1).1.1.2)]), (43, sl b6 0 1 1), (45, pt wd 0), (46, pt wd 2)]) (fun b6 => [rB wd d0 d1 M S.now 92, rDv 100 d0 fsn S.A0, rDv 100 d1 fsn ((takeR S.A1).2), rR0 M 46, rR1 M 46, rZ Fn fsn, rBlk b3 [Value.slice q1 ((takeR S.A1).1.1.1.length) c2, bo false, iw ((takeR S.A1).1.1.2)] 46, rBlk b6 [Value.slice q1 ((takeR S.A1).1.1.1.length) c2, bo false, iw ((takeR S.A1).1.1.2)] 46]) (fun b6 => w.heap.size ≤ b6) 3 #[true, true, true, true, true, true, true, true, true, true, false, true, true, false, false] ?_ ?_
    · intro b6 hb6
      refine SA.one 10 rfl (by kernel_rfl) ?_
      refine SL.append_rowN (ri := 4) (rj := 7) (size := 3) (r := [Value.slice q1 ((takeR S.A1).1.1.1.length) c2, bo false, iw ((takeR S.A1).1.1.2)]) (z := Value.agg #[Value.slice none 0 0, bo false, iw 0]) (bytes := 40) rfl rfl (lt_b rfl) rfl (by decide) Try.underlying56 (by kernel_rfl) rfl rfl rfl rfl rfl rfl rfl (by rw [List.length_map]; omega) (by unfold maxLen; rw [List.length_map]; omega) (fun b hb => .inl (.inr (.inr (.inr (.inr hb))))) fun q7 c8 hq9 => ?_
      refine SL.nil ?_
      refine SA.se ?_
      refine SA.take 13 rfl (by kernel_rfl) (by kernel_rfl) (by kernel_rfl) rfl rfl (lt_b rfl) (fun _ => ru_indexA (o2 := 3) ar75 rfl rfl rfl (by decide) (by decide) rfl) ?_
      refine SA.one 14 rfl (by kernel_rfl) ?_
      refine SL.store (i := 0) (c' := [pt d0 0, pt d1 0, Value.slice M.q0 M.ps0.length M.c0, Value.slice q7 (M.ps1.length + 1) c8, iw S.now]) rfl rfl ts56 rfl rfl rfl rfl rfl (lt_b rfl) (.inl (.inl rfl)) rfl ?_
      refine SL.nil ?_
      refine SA.se ?_
      refine SA.done (by kernel_rfl) ?_
      refine SC.of_SE ?_
      refine SC.sr ?_
      refine SL.as ?_
      refine SL.nl ?_
      refine SC.ret ?_
      refine SE.res (.inl rfl) (res1 Try.results40 rfl) fun w1 hI => ?_
      have hz : (takeR S.A1).1.2 = 0 := bne_eq_false_iff_eq.1 h4
      rw [new_old hnow ht] at h5
      have er : oRows (M.ps1 ++ [⟨.slice q1 (takeR S.A1).1.1.1.length c2, ⟨(takeR S.A1).1.1.1, false, (takeR S.A1).1.1.2⟩⟩]) = oRows M.ps1 ++ [[Value.slice q1 ((takeR S.A1).1.1.1.length) c2, bo false, iw ((takeR S.A1).1.1.2)]] := List.map_append
      have el : (M.ps1 ++ [(⟨.slice q1 (takeR S.A1).1.1.1.length c2, ⟨(takeR S.A1).1.1.1, false, (takeR S.A1).1.1.2⟩⟩ : FmV)]).length = M.ps1.length + 1 := by rw [List.length_append]; rfl
      have ew : pullF S true = (0, (S.setA true (takeR S.A1).2).setL true (S.L1 ++ [⟨(takeR S.A1).1.1.1, false, (takeR S.A1).1.1.2⟩])) := by unfold pullF; show (if (((takeR S.A1).1.2 == 0) && !oldB S.now (takeR S.A1).1.1.2) = true then ((takeR S.A1).1.2, (S.setA true (takeR S.A1).2).setL true (S.L1 ++ [⟨(takeR S.A1).1.1.1, false, (takeR S.A1).1.1.2⟩])) else ((takeR S.A1).1.2, (S.setA true (takeR S.A1).2))) = _; rw [hz, h5]; rfl
      rw [← er, ← el] at hI
      rw [ew]
      have hO := hM.app1 (F := Fn) (fs := fsn) (y := ⟨.slice q1 (takeR S.A1).1.1.1.length c2, ⟨(takeR S.A1).1.1.1, false, (takeR S.A1).1.1.2⟩⟩) hfn q7 c8 hfv
      exact ⟨rfl, { M with F := Fn, fs := fsn, q1 := q7, c1 := c8, ps1 := M.ps1 ++ [⟨.slice q1 (takeR S.A1).1.1.1.length c2, ⟨(takeR S.A1).1.1.1, false, (takeR S.A1).1.1.2⟩⟩] }, ⟨(hI.keep 6).1, ⟨hO.f0, hO.f1, hO.l0, hO.l1⟩, hfn, fun b hb => WM.K.new1 hb hFn hq9, hI.2⟩⟩
    · intro hj6
      refine SA.two 7 8 rfl rfl (by kernel_rfl) ?_ ?_
      · skip
        refine SL.ld 0 ts56 ?_
        refine SL.nil ?_
        refine SA.se ?_
        refine SA.one 8 rfl (by kernel_rfl) ?_
        refine SL.uu (ru_loada (i := 6) (vs := [Value.slice q1 ((takeR S.A1).1.1.1.length) c2, bo false, iw ((takeR S.A1).1.1.2)]) ta46 rfl rfl rfl rfl (le_b rfl)) ?_
        refine SL.nil ?_
        refine SA.se ?_
        refine SA.one 9 rfl (by kernel_rfl) ?_
        refine SL.buildSlice (size := 3) (vals := [(0, Value.agg #[Value.slice q1 ((takeR S.A1).1.1.1.length) c2, bo false, iw ((takeR S.A1).1.1.2)])]) (z := [Value.slice none 0 0, bo false, iw 0]) (cs := [Value.slice q1 ((takeR S.A1).1.1.1.length) c2, bo false, iw ((takeR S.A1).1.1.2)]) rfl rfl (lt_b rfl) rfl Try.underlying56 (by kernel_rfl) rfl rfl (by kernel_rfl) fun b10 hb10 => ?_
        refine SL.nil ?_
        refine SA.se ?_
        exact SA.norm [(4, iw 0), (34, pt wd 0), (35, iw 1), (36, pt wd 0), (37, iw 1), (38, pt wd 0), (39, pt wd 2), (40, pt wd 3), (41, Value.slice M.q1 M.ps1.length M.c1), (42, Value.agg #[Value.slice q1 ((takeR S.A1).1.1.1.length) c2, bo false, iw ((takeR S.A1).1.1.2)]), (43, sl b10 0 1 1), (45, pt wd 0), (46, pt wd 2)] [rBlk wd [pt d0 0, pt d1 0, Value.slice M.q0 M.ps0.length M.c0, Value.slice M.q1 M.ps1.length M.c1, iw S.now] 92, rDv 100 d0 fsn S.A0, rDv 100 d1 fsn ((takeR S.A1).2), rRowN (.slice M.q0 M.ps0.length M.c0) (oRows M.ps0) 46 3, rRowN (.slice M.q1 M.ps1.length M.c1) (oRows M.ps1) 46 3, rZ Fn fsn, rBlk b3 [Value.slice q1 ((takeR S.A1).1.1.1.length) c2, bo false, iw ((takeR S.A1).1.1.2)] 46, rBlk b10 [Value.slice q1 ((takeR S.A1).1.1.1.length) c2, bo false, iw ((takeR S.A1).1.1.2)] 46] ⟨rfl, rfl, rfl, rfl, rfl, rfl, rfl, rfl, rfl, rfl, rfl, rfl, rfl, trivial⟩ rfl (SA.same (by kernel_rfl) (hj6 b10 hb10))
      refine SL.uu (ru_loada (i := 6) (vs := [Value.slice q1 ((takeR S.A1).1.1.1.length) c2, bo false, iw ((takeR S.A1).1.1.2)]) ta46 rfl rfl rfl rfl (le_b rfl)) ?_
      refine SL.nil ?_
      refine SA.se ?_
      refine SA.two 7 9 rfl rfl (by kernel_rfl) ?_ ?_
      · skip
        refine SL.ld 0 ts56 ?_
        refine SL.nil ?_
        refine SA.se ?_
        refine SA.one 9 rfl (by kernel_rfl) ?_
        refine SL.buildSlice (size := 3) (vals := [(0, Value.agg #[Value.slice q1 ((takeR S.A1).1.1.1.length) c2, bo false, iw ((takeR S.A1).1.1.2)])]) (z := [Value.slice none 0 0, bo false, iw 0]) (cs := [Value.slice q1 ((takeR S.A1).1.1.1.length) c2, bo false, iw ((takeR S.A1).1.1.2)]) rfl rfl (lt_b rfl) rfl Try.underlying56 (by kernel_rfl) rfl rfl (by kernel_rfl) fun b11 hb11 => ?_
        refine SL.nil ?_
        refine SA.se ?_
        exact SA.norm [(4, iw 0), (34, pt wd 0), (35, iw 1), (36, pt wd 0), (37, iw 1), (38, pt wd 0), (39, pt wd 2), (40, pt wd 3), (41, Value.slice M.q1 M.ps1.length M.c1), (42, Value.agg #[Value.slice q1 ((takeR S.A1).1.1.1.length) c2, bo false, iw ((takeR S.A1).1.1.2)]), (43, sl b11 0 1 1), (45, pt wd 0), (46, pt wd 2)] [rBlk wd [pt d0 0, pt d1 0, Value.slice M.q0 M.ps0.length M.c0, Value.slice M.q1 M.ps1.length M.c1, iw S.now] 92, rDv 100 d0 fsn S.A0, rDv 100 d1 fsn ((takeR S.A1).2), rRowN (.slice M.q0 M.ps0.length M.c0) (oRows M.ps0) 46 3, rRowN (.slice M.q1 M.ps1.length M.c1) (oRows M.ps1) 46 3, rZ Fn fsn, rBlk b3 [Value.slice q1 ((takeR S.A1).1.1.1.length) c2, bo false, iw ((takeR S.A1).1.1.2)] 46, rBlk b11 [Value.slice q1 ((takeR S.A1).1.1.1.length) c2, bo false, iw ((takeR S.A1).1.1.2)] 46] ⟨rfl, rfl, rfl, rfl, rfl, rfl, rfl, rfl, rfl, rfl, rfl, rfl, rfl, trivial⟩ rfl (SA.same (by kernel_rfl) (hj6 b11 hb11))
      refine SL.buildSlice (size := 3) (vals := [(0, Value.agg #[Value.slice q1 ((takeR S.A1).1.1.1.length) c2, bo false, iw ((takeR S.A1).1.1.2)])]) (z := [Value.slice none 0 0, bo false, iw 0]) (cs := [Value.slice q1 ((takeR S.A1).1.1.1.length) c2, bo false, iw ((takeR S.A1).1.1.2)]) rfl rfl (lt_b rfl) rfl Try.underlying56 (by kernel_rfl) rfl rfl (by kernel_rfl) fun b12 hb12 => ?_
      refine SL.nil ?_
      refine SA.se ?_
      refine SA.one 7 rfl (by kernel_rfl) ?_
      refine SL.ld 0 ts56 ?_
      refine SL.nil ?_
      refine SA.se ?_
      exact SA.norm [(4, iw 0), (34, pt wd 0), (35, iw 1), (36, pt wd 0), (37, iw 1), (38, pt wd 0), (39, pt wd 2), (40, pt wd 3), (41, Value.slice M.q1 M.ps1.length M.c1), (42, Value.agg #[Value.slice q1 ((takeR S.A1).1.1.1.length) c2, bo false, iw ((takeR S.A1).1.1.2)]), (43, sl b12 0 1 1), (45, pt wd 0), (46, pt wd 2)] [rBlk wd [pt d0 0, pt d1 0, Value.slice M.q0 M.ps0.length M.c0, Value.slice M.q1 M.ps1.length M.c1, iw S.now] 92, rDv 100 d0 fsn S.A0, rDv 100 d1 fsn ((takeR S.A1).2), rRowN (.slice M.q0 M.ps0.length M.c0) (oRows M.ps0) 46 3, rRowN (.slice M.q1 M.ps1.length M.c1) (oRows M.ps1) 46 3, rZ Fn fsn, rBlk b3 [Value.slice q1 ((takeR S.A1).1.1.1.length) c2, bo false, iw ((takeR S.A1).1.1.2)] 46, rBlk b12 [Value.slice q1 ((takeR S.A1).1.1.1.length) c2, bo false, iw ((takeR S.A1).1.1.2)] 46] ⟨rfl, rfl, rfl, rfl, rfl, rfl, rfl, rfl, rfl, rfl, rfl, rfl, rfl, trivial⟩ rfl (SA.same (by kernel_rfl) (hj6 b12 hb12))
  refine SC.skip ?_
  refine SC.of_SE ?_
  refine SC.sr ?_
  refine SL.as ?_
  refine SL.nl ?_
  refine SC.ret ?_
  refine SE.res (.inl rfl) (res1 Try.results40 rfl) fun w1 hI => ?_
  have hz : (takeR S.A1).1.2 = 0 := bne_eq_false_iff_eq.1 h4
  rw [new_old hnow ht] at h5
  have ew : pullF S true = (0, (S.setA true (takeR S.A1).2)) := by unfold pullF; show (if (((takeR S.A1).1.2 == 0) && !oldB S.now (takeR S.A1).1.1.2) = true then ((takeR S.A1).1.2, (S.setA true (takeR S.A1).2).setL true (S.L1 ++ [⟨(takeR S.A1).1.1.1, false, (takeR S.A1).1.1.2⟩])) else ((takeR S.A1).1.2, (S.setA true (takeR S.A1).2))) = _; rw [hz, h5]; rfl
  rw [ew]
  exact ⟨rfl, { M with F := Fn, fs := fsn }, ⟨(hI.keep 6).1, ⟨fun y hy => hfn _ _ (hM.f0 y hy), fun y hy => hfn _ _ (hM.f1 y hy), hM.l0, hM.l1⟩, hfn, fun b hb => WM.K.frz (M' := M) hb (fun b hb => .inr (.inr (.inr hb))) hFn, hI.2⟩⟩
theorem qpullX_any {w : World} {wd : Nat} {dir : Int} (hd : isD dir = false) : Calls Try.prog 40 #[pt wd 0, iw dir] w fun e w' => e = .returned (iw 1) ∧ Only (fun _ => False) w w' := by
  refine calls_sc (l0 := []) (args := [pt wd 0, iw dir]) (fun _ => False) Try.func40 rfl 48 Try.ntmps40 (le_b rfl) ⟨⟨by simp, List.Pairwise.nil⟩, Only.refl _ _⟩ ?_
  show SC _ _ _ _ [(0, pt wd 0), (1, iw dir)] []
  refine SC.sr ?_
  refine SL.as ?_
  refine SL.nl ?_
  refine SC.seq ?_
  refine SC.sr ?_
  refine SL.mv ?_
  refine SL.uu (ru_ne (b := ((dir : Int) != 0)) rfl rfl rfl rfl) ?_
  refine SL.mv ?_
  refine SL.join 3 [(0, pt wd 0), (1, iw dir), (4, iw 0), (7, iw dir), (8, bo ((dir : Int) != 0)), (9, bo ((dir : Int) != 0)), (12, bo (((dir : Int) != 0) && ((dir : Int) != 1)))] [] ?_ ?_
  rotate_left
  · intro K hK
    rcases tf ((dir : Int) != 0) with h1 | h1
    · skip
      refine SL.norm [(0, pt wd 0), (1, iw dir), (4, iw 0), (7, iw dir), (8, bo true), (9, bo true)] _ ⟨rfl, rfl, rfl, rfl, (congrArg (fun x => some (Value.bool x)) h1), (congrArg (fun x => some (Value.bool x)) h1), trivial⟩ rfl ?_
      refine SL.gg (ru_move rfl rfl) ?_
      refine SL.gg (ru_ne (b := ((dir : Int) != 1)) rfl rfl rfl rfl) ?_
      refine SL.pk (bo ((dir : Int) != 1)) (bo false) ?_
      exact SL.joined hK ⟨rfl, rfl, rfl, rfl, (congrArg (fun x => some (Value.bool x)) h1.symm), (congrArg (fun x => some (Value.bool x)) h1.symm), (congrArg (fun bx => some (Value.bool (bx && ((dir : Int) != 1)))) h1.symm), trivial⟩ rfl
    refine SL.norm [(0, pt wd 0), (1, iw dir), (4, iw 0), (7, iw dir), (8, bo false), (9, bo false)] _ ⟨rfl, rfl, rfl, rfl, (congrArg (fun x => some (Value.bool x)) h1), (congrArg (fun x => some (Value.bool x)) h1), trivial⟩ rfl ?_
    refine SL.oo ?_
    refine SL.oo ?_
    refine SL.pk (undef) (bo false) ?_
    exact SL.joined hK ⟨rfl, rfl, rfl, rfl, (congrArg (fun x => some (Value.bool x)) h1.symm), (congrArg (fun x => some (Value.bool x)) h1.symm), (congrArg (fun bx => some (Value.bool (bx && ((dir : Int) != 1)))) h1.symm), trivial⟩ rfl
  skip
  refine SL.nl ?_
  refine SC.yes (show some (Value.bool (((dir : Int) != 0) && ((dir : Int) != 1))) = some (Value.bool true) from congrArg (fun x => some (Value.bool x)) (isX_g hd)) ?_
  refine SC.sr ?_
  refine SL.as ?_
  refine SL.nl ?_
  refine SC.ret ?_
  refine SE.passr ?_
  refine SE.res (.inl rfl) (res1 Try.results40 rfl) fun w1 hI => ⟨rfl, hI.2⟩

end Go.Proofs.Ytcilikkljkdceaa

/-
  The document's Tick: plain facts.
-/
namespace Go.Proofs.Ytcilikkljkdceaa
open Go.RowKit
structure TB (S : Wi) : Prop where
  a0 : NicOk S.A0
  a1 : NicOk S.A1
  l0 : S.L0.length ≤ 3000000000000
  l1 : S.L1.length ≤ 3000000000000
  now : 0 ≤ S.now ∧ S.now ≤ 3000000000000
  p0 : ∀ i, 0 ≤ S.A0.tp i ∧ S.A0.tp i ≤ S.now
  p1 : ∀ i, 0 ≤ S.A1.tp i ∧ S.A1.tp i ≤ S.now
  t0 : ∀ x ∈ S.L0, 0 ≤ x.tick ∧ x.tick ≤ S.now
  t1 : ∀ x ∈ S.L1, 0 ≤ x.tick ∧ x.tick ≤ S.now
theorem Wb.tb {n : Nat} {S : Wi} (h : Wb n S) (hn : n < 3000000000000) : TB { S with now := inc S.now } := by
  have e : inc S.now = S.now + 1 := inc_lt ⟨h.now.1, by have := h.now.2; omega⟩
  have h1 := h.now
  refine ⟨h.d0.ok, h.d1.ok, Nat.le_trans h.l0.1 (by omega), Nat.le_trans h.l1.1 (by omega), ?_, fun i => ?_, fun i => ?_, fun x hx => ?_, fun x hx => ?_⟩ <;> simp only <;> rw [e]
  · omega
  · have := h.d0.tp i; omega
  · have := h.d1.tp i; omega
  · have := (h.l0.2 x hx).2; omega
  · have := (h.l1.2 x hx).2; omega
theorem drain_tp {now : Int} : ∀ (m : Nat) (A : NicA), (drainF now m A).tp = A.tp
  | 0, _ => rfl
  | m + 1, A => by
    unfold drainF
    split
    · split
      · exact (takeR_same A).2.1
      · exact (drain_tp m _).trans (takeR_same A).2.1
    · rfl
theorem drain_okw {now : Int} : ∀ (m : Nat) {A : NicA}, NicOk A → NicOk (drainF now m A)
  | 0, _, h => h
  | m + 1, A, h => by
    unfold drainF
    split
    · split
      · exact takeR_okw h
      · exact drain_okw m (takeR_okw h)
    · exact h
theorem TB.next {S : Wi} (h : TB S) (b : Bool) : TB (tick1 S b) := by
  have e : ∀ {A : NicA} i, (drainF S.now 16 (tickF A)).tp i = A.tp i := fun i => congrFun (drain_tp 16 _) i
  cases b
  · refine ⟨drain_okw 16 (tick_ok h.a0), h.a1, Nat.le_trans (age_len _ _) h.l0, h.l1, h.now, fun i => ?_, h.p1, fun x hx => h.t0 x (List.mem_filter.1 hx).1, h.t1⟩
    show 0 ≤ (drainF S.now 16 (tickF S.A0)).tp i ∧ (drainF S.now 16 (tickF S.A0)).tp i ≤ S.now
    rw [e]; exact h.p0 i
  · refine ⟨h.a0, drain_okw 16 (tick_ok h.a1), h.l0, Nat.le_trans (age_len _ _) h.l1, h.now, h.p0, fun i => ?_, h.t0, fun x hx => h.t1 x (List.mem_filter.1 hx).1⟩
    show 0 ≤ (drainF S.now 16 (tickF S.A1)).tp i ∧ (drainF S.now 16 (tickF S.A1)).tp i ≤ S.now
    rw [e]; exact h.p1 i
structure TqP (w : World) (wd d0 d1 : Nat) (M : WM) (S : Wi) (n : Nat) (g : WM × Wi) : Prop where
  le : n ≤ 2
  ok : g.1.Ok g.2
  st : g.2 = tkS S n
  tb : TB g.2
  fs : ∀ v f, M.fs v f → g.1.fs v f
  K : ∀ b, g.1.K b → (b = wd ∨ b = d0 ∨ b = d1 ∨ M.K b) ∨ w.heap.size ≤ b
section
variable {w : World} {wd d0 d1 : Nat} {M M1 M2 : WM} {S S1 S2 : Wi}
theorem TqP.start (hM : M.Ok S) (h : TB { S with now := inc S.now }) : TqP w wd d0 d1 M S 2 (M, { S with now := inc S.now }) :=
  ⟨Nat.le_refl _, ⟨hM.f0, hM.f1, hM.l0, hM.l1⟩, rfl, h, fun _ _ h => h, fun b hb => .inl (.inr (.inr (.inr hb)))⟩
theorem TqP.next0 (h : TqP w wd d0 d1 M S 2 (M1, S1)) (hO : M2.Ok S2) (hs : S2 = tick1 S1 false) (hf : ∀ v f, M1.fs v f → M2.fs v f) (hK : ∀ b, M2.K b → (b = wd ∨ b = d0 ∨ b = d1 ∨ M.K b) ∨ w.heap.size ≤ b) : TqP w wd d0 d1 M S 1 (M2, S2) :=
  ⟨by decide, hO, by have : S1 = tkS S 2 := h.st; show S2 = _; rw [hs, this]; rfl, by show TB S2; rw [hs]; exact TB.next h.tb false, fun v f hv => hf v f (h.fs v f hv), hK⟩
theorem TqP.next1 (h : TqP w wd d0 d1 M S 1 (M1, S1)) (hO : M2.Ok S2) (hs : S2 = tick1 S1 true) (hf : ∀ v f, M1.fs v f → M2.fs v f) (hK : ∀ b, M2.K b → (b = wd ∨ b = d0 ∨ b = d1 ∨ M.K b) ∨ w.heap.size ≤ b) : TqP w wd d0 d1 M S 0 (M2, S2) :=
  ⟨by decide, hO, by have : S1 = tkS S 1 := h.st; show S2 = _; rw [hs, this]; rfl, by show TB S2; rw [hs]; exact TB.next h.tb true, fun v f hv => hf v f (h.fs v f hv), hK⟩
end
theorem nb_t {b o : Bool} (h : (!b || !o) = true) : (b && o) = false := by cases b <;> cases o <;> simp_all
theorem nb_f {b o : Bool} (h : (!b || !o) = false) : (b && o) = true := by cases b <;> cases o <;> simp_all
theorem old_tp {A : NicA} {now : Int} (h : ∀ i, 0 ≤ A.tp i ∧ A.tp i ≤ now) (h0 : 0 ≤ now) : 0 ≤ (oldF A).1 ∧ (oldF A).1 ≤ now := by
  unfold oldF
  split
  · exact ⟨Int.le_refl _, h0⟩
  · exact h _
section
variable {P : Program} {X : Cx} {ops : Array Oper} {Q : Exit → Act → World → Prop} {rest : List Oper} {m : List (Nat × Value)} {l : List Res}
theorem SC.openDv {T : TypeId} {d : Nat} {fs : Value → List UInt8 → Prop} {A : NicA} {c : Code} (j : Nat) (hj : l[j]? = some (rDv T d fs A)) (h : ∀ tv cv, (∀ i, i < 16 → fs (tv i) (A.tb i) ∧ fs (cv i) (A.cb i)) → SC P X c Q m (l.set j (rBlk d (nc A tv cv) T))) : SC P X c Q m l := fun a w hf hI => by
  obtain ⟨tv, cv, h1, h2⟩ : (rDv T d fs A).ok w := hI.1.get hj
  exact h tv cv h2 a w hf (hI.weak (r' := rBlk d (nc A tv cv) T) hj (fun _ => h1) (fun b hb => hb))
theorem SE.weakN {ex : Exit} {r : Res} (i : Nat) (r' : Res) (hi : l[i]? = some r) (hr : ∀ w, r.ok w → r'.ok w) (hf : ∀ b, r'.fp b → r.fp b) (h : SE X Q ex m (l.set i r')) : SE X Q ex m l := fun a w hf' hI => h a w hf' (hI.weak hi (hr w) hf)
end
end Go.Proofs.Ytcilikkljkdceaa

/-
  The document's Tick.
-/
namespace Go.Proofs.Ytcilikkljkdceaa
open Go.RowKit
set_option maxRecDepth 100000
set_option maxHeartbeats 4000000
theorem not_old {b : Bool} (h : (!b) = true) : b = false := by cases b <;> simp_all
theorem is_old {b : Bool} (h : (!b) = false) : b = true := by cases b <;> simp_all
theorem WM.K.ageG0 {M1 : WM} {b n0 : Nat} {P : Nat → Prop} {F : Nat → Prop} {fs : Value → List UInt8 → Prop} {q : Option Addr} {c : Nat} {l : List FmV} (h : WM.K { M1 with F := F, fs := fs, q0 := q, c0 := c, ps0 := l } b) (hK : ∀ b, M1.K b → P b ∨ n0 ≤ b) (hF : ∀ b, F b → M1.F b ∨ n0 ≤ b) (hq : ∀ b, (Value.slice q l.length c).ownBlock = some b → P b ∨ n0 ≤ b) : P b ∨ n0 ≤ b := by
  rcases h with h | h | h
  · exact (hF b h).elim (fun h => hK b (.inl h)) .inr
  · exact hq b h
  · exact hK b (.inr (.inr h))
theorem WM.K.ageG1 {M1 : WM} {b n0 : Nat} {P : Nat → Prop} {F : Nat → Prop} {fs : Value → List UInt8 → Prop} {q : Option Addr} {c : Nat} {l : List FmV} (h : WM.K { M1 with F := F, fs := fs, q1 := q, c1 := c, ps1 := l } b) (hK : ∀ b, M1.K b → P b ∨ n0 ≤ b) (hF : ∀ b, F b → M1.F b ∨ n0 ≤ b) (hq : ∀ b, (Value.slice q l.length c).ownBlock = some b → P b ∨ n0 ≤ b) : P b ∨ n0 ≤ b := by
  rcases h with h | h | h
  · exact (hF b h).elim (fun h => hK b (.inl h)) .inr
  · exact hK b (.inr (.inl h))
  · exact hq b h
theorem qtick_any {w : World} {wd d0 d1 : Nat} {M : WM} {S : Wi} (hM : M.Ok S) (htb : TB { S with now := inc S.now }) (h : Sep w (WLm 100 92 46 wd d0 d1 M S.A0 S.A1 S.now)) : Calls Try.prog 47 #[pt wd 0] w fun e w' => e = .returned (.tuple #[]) ∧ ∃ M', WTo 100 92 46 w wd d0 d1 M M' (tickW S) w' := by
  refine calls_sc (l0 := (WLm 100 92 46 wd d0 d1 M S.A0 S.A1 S.now)) (args := [pt wd 0]) (M.G wd d0 d1) Try.func47 rfl 110 Try.ntmps47 (le_b rfl) ⟨h, Only.refl _ _⟩ ?_
  show SC _ _ _ _ [(0, pt wd 0)] (WLm 100 92 46 wd d0 d1 M S.A0 S.A1 S.now)
  refine SC.sr ?_
  refine SL.mv ?_
  refine SL.nk ?_
  refine SL.fa 4 fd92_2 ?_
  refine SL.ld 0 ts3 ?_
  refine SL.uu (ru_add (r := (inc S.now)) rfl rfl rfl rfl) ?_
  refine SL.nk ?_
  refine SL.fa 4 fd92_2 ?_
  refine SL.store (i := 0) (c' := [pt d0 0, pt d1 0, Value.slice M.q0 M.ps0.length M.c0, Value.slice M.q1 M.ps1.length M.c1, iw (inc S.now)]) rfl rfl ts3 rfl rfl rfl rfl rfl (lt_b rfl) (.inl (.inl rfl)) rfl ?_
  refine SL.nr [rBlk wd [pt d0 0, pt d1 0, Value.slice M.q0 M.ps0.length M.c0, Value.slice M.q1 M.ps1.length M.c1, iw (inc S.now)] 92, rDv 100 d0 M.fs S.A0, rDv 100 d1 M.fs S.A1, rR0 M 46, rR1 M 46, rZ M.F M.fs] ?_
  refine SC.sr ?_
  refine SL.as ?_
  refine SL.nl ?_
  refine SC.block ?_
  refine SC.loop (γ := WM × Wi) (fun n _ => [(0, pt wd 0), (2, iw (2 - (n : Int)))]) (fun n g => WLm 100 92 46 wd d0 d1 g.1 g.2.A0 g.2.A1 g.2.now) (TqP w wd d0 d1 M S) 2 (M, { S with now := inc S.now }) (TqP.start hM htb) ⟨rfl, rfl, trivial⟩ rfl ?_
  rintro n ⟨M1, S1⟩ hp
  have hp9 := hp
  obtain ⟨hle, hM1, hS1, htb1, hfs1, hK1⟩ := hp
  dsimp only at hle hM1 hS1 htb1 hfs1 hK1
  have hps0 : M1.ps0.length ≤ 3000000000000 := by have := htb1.l0; rw [← hM1.l0, List.length_map] at this; omega
  have hps1 : M1.ps1.length ≤ 3000000000000 := by have := htb1.l1; rw [← hM1.l1, List.length_map] at this; omega
  rcases n with _ | _ | _ | n
  · skip
    refine SC.nr [rB wd d0 d1 M1 S1.now 92, rDv 100 d0 M1.fs S1.A0, rDv 100 d1 M1.fs S1.A1, rR0 M1 46, rR1 M1 46, rZ M1.F M1.fs] ?_
    refine SC.seq ?_
    refine SC.sr ?_
    refine SL.mv ?_
    refine SL.uu (ru_lt (b := false) rfl rfl rfl rfl) ?_
    refine SL.nl ?_
    refine SC.no rfl ?_
    refine SC.exit ?_
    refine SE.passe ?_
    refine SE.passe ?_
    refine SE.blke ?_
    refine SE.res (.inr rfl) (res0 Try.results47) fun w3 hI => ⟨rfl, M1, ?_⟩
    have hS9 : S1 = tickW S := hS1
    subst hS9
    exact ⟨(hI.keep 6).1, hM1, hfs1, hK1, hI.2⟩
  · skip
    refine SC.nr [rB wd d0 d1 M1 S1.now 92, rDv 100 d0 M1.fs S1.A0, rDv 100 d1 M1.fs S1.A1, rR0 M1 46, rR1 M1 46, rZ M1.F M1.fs] ?_
    refine SC.seq ?_
    refine SC.sr ?_
    refine SL.mv ?_
    refine SL.uu (ru_lt (b := true) rfl rfl rfl rfl) ?_
    refine SL.nl ?_
    refine SC.yes rfl ?_
    refine SC.skip ?_
    refine SC.of_SE ?_
    refine SC.seq ?_
    refine SC.block ?_
    refine SC.seq ?_
    refine SC.openDv 2 rfl fun tv cv htc => ?_
    refine SC.region ?_
    refine SL.mv ?_
    refine SL.mv ?_
    refine SL.nk ?_
    refine SL.fa 0 fd92_0 ?_
    refine SL.ia 1 ar37 ?_
    refine SL.ld 0 ts36 ?_
    refine SL.nk ?_
    refine SL.fa 104 fd100_3 ?_
    refine SL.uu (ru_load (i := 2) (v := iw S1.A1.clk) ts3 rfl rfl rfl nc_clk) ?_
    refine SL.uu (ru_add (r := (inc S1.A1.clk)) rfl rfl rfl rfl) ?_
    refine SL.nk ?_
    refine SL.fa 104 fd100_3 ?_
    refine SL.store (i := 2) (c' := (nc { S1.A1 with clk := inc S1.A1.clk } tv cv)) rfl rfl ts3 rfl rfl rfl rfl rfl (by rw [nc_len]; omega) (.inl (.inr (.inr (.inl rfl)))) (set_clk (inc S1.A1.clk)) ?_
    refine SL.nil ?_
    refine SE.weakN 2 (rDv 100 d1 M1.fs (tickF S1.A1)) rfl (fun w h => ⟨tv, cv, h, htc⟩) (fun b hb => hb) ?_
    refine SC.of_SE ?_
    refine SC.nr [rB wd d0 d1 M1 S1.now 92, rDv 100 d0 M1.fs S1.A0, rDv 100 d1 M1.fs (tickF S1.A1), rR0 M1 46, rR1 M1 46, rZ M1.F M1.fs] ?_
    refine SC.sr ?_
    refine SL.as ?_
    refine SL.nl ?_
    refine SC.seq ?_
    refine SC.sr ?_
    refine SL.as ?_
    refine SL.nl ?_
    refine SC.block ?_
    refine SC.rows (rRowN (.slice none 0 0) [] 46 3) (fun b hb => by cases hb) (fun w => rowN_nil w 46 3) ?_
    refine SC.factN (p := ∀ x ∈ M1.ps1, ∃ a n c, x.v = Value.slice a n c) (fun w hI => hM1.sl1 ((hI.keep 6).1)) fun hv11 => ?_
    refine SC.loop (γ := Nat × Option Addr × Nat) (fun n z => [(0, pt wd 0), (2, iw 1), (3, Value.slice z.2.1 ((lfF S1.now (M1.ps1.take z.1)).length) z.2.2), (4, iw (z.1 : Int))]) (fun n z => [rB wd d0 d1 M1 S1.now 92, rDv 100 d0 M1.fs S1.A0, rDv 100 d1 M1.fs (tickF S1.A1), rR0 M1 46, rR1 M1 46, rZ M1.F M1.fs, rRowN (.slice z.2.1 ((lfF S1.now (M1.ps1.take z.1)).length) z.2.2) (oRows (lfF S1.now (M1.ps1.take z.1))) 46 3]) (fun n z => n + z.1 = M1.ps1.length ∧ ∀ b, (Value.slice z.2.1 (lfF S1.now (M1.ps1.take z.1)).length z.2.2).ownBlock = some b → M.G wd d0 d1 b ∨ w.heap.size ≤ b) M1.ps1.length (0, none, 0) ⟨rfl, fun b hb => by simp [Value.ownBlock] at hb⟩ ⟨rfl, rfl, rfl, rfl, trivial⟩ rfl ?_
    rintro N ⟨i, q1, c1⟩ ⟨hn1, hq1⟩
    dsimp only at hn1 hq1
    have hol : (lfF S1.now (M1.ps1.take i)).length ≤ M1.ps1.length := Nat.le_trans (lf_len _ _) (by rw [List.length_take]; omega)
    rcases N with _ | N
    · skip
      have hi9 : i = M1.ps1.length := by omega
      subst hi9
      rw [show M1.ps1.take M1.ps1.length = M1.ps1 from List.take_of_length_le (Nat.le_refl _)] at hq1 hol ⊢
      refine SC.seq ?_
      refine SC.sr ?_
      refine SL.mv ?_
      refine SL.mv ?_
      refine SL.mv ?_
      refine SL.nk ?_
      refine SL.fa 2 fd92_1 ?_
      refine SL.ia 3 ar75 ?_
      refine SL.ld 0 ts56 ?_
      refine SL.uu (ru_len Try.underlying56 rfl rfl) ?_
      refine SL.uu (ru_lt (b := false) rfl rfl rfl (by simp)) ?_
      refine SL.nr [rB wd d0 d1 M1 S1.now 92, rDv 100 d0 M1.fs S1.A0, rDv 100 d1 M1.fs (tickF S1.A1), rR0 M1 46, rR1 M1 46, rZ M1.F M1.fs, rRowN (.slice q1 ((lfF S1.now M1.ps1).length) c1) (oRows (lfF S1.now M1.ps1)) 46 3] ?_
      refine SC.no rfl ?_
      refine SC.exit ?_
      refine SE.passe ?_
      refine SE.passe ?_
      refine SE.blke ?_
      refine SC.of_SE ?_
      refine SC.sr ?_
      refine SL.mv ?_
      refine SL.mv ?_
      refine SL.mv ?_
      refine SL.nk ?_
      refine SL.fa 2 fd92_1 ?_
      refine SL.ia 3 ar75 ?_
      refine SL.store (i := 0) (c' := [pt d0 0, pt d1 0, Value.slice M1.q0 M1.ps0.length M1.c0, Value.slice q1 ((lfF S1.now M1.ps1).length) c1, iw S1.now]) rfl rfl ts56 rfl rfl rfl rfl rfl (lt_b rfl) (.inl (.inl rfl)) rfl ?_
      refine SL.nil ?_
      refine SE.reo [0, 1, 2, 3, 6, 5] [rBlk wd [pt d0 0, pt d1 0, Value.slice M1.q0 M1.ps0.length M1.c0, Value.slice q1 ((lfF S1.now M1.ps1).length) c1, iw S1.now] 92, rDv 100 d0 M1.fs S1.A0, rDv 100 d1 M1.fs (tickF S1.A1), rR0 M1 46, rRowN (.slice q1 ((lfF S1.now M1.ps1).length) c1) (oRows (lfF S1.now M1.ps1)) 46 3, rZ M1.F M1.fs] (by decide) rfl ?_
      refine SC.of_SE ?_
      refine SC.nr [rBlk wd [pt d0 0, pt d1 0, Value.slice M1.q0 M1.ps0.length M1.c0, Value.slice q1 ((lfF S1.now M1.ps1).length) c1, iw S1.now] 92, rDv 100 d0 M1.fs S1.A0, rDv 100 d1 M1.fs (tickF S1.A1), rR0 M1 46, rRowN (.slice q1 ((lfF S1.now M1.ps1).length) c1) (oRows (lfF S1.now M1.ps1)) 46 3, rZ M1.F M1.fs] ?_
      refine SC.block ?_
      refine SC.loop (γ := NicA × (Nat → Prop) × (Value → List UInt8 → Prop)) (fun n g => [(0, pt wd 0), (2, iw 1)]) (fun n g => [rBlk wd [pt d0 0, pt d1 0, Value.slice M1.q0 M1.ps0.length M1.c0, Value.slice q1 ((lfF S1.now M1.ps1).length) c1, iw S1.now] 92, rDv 100 d0 g.2.2 S1.A0, rDv 100 d1 g.2.2 g.1, rR0 M1 46, rRowN (.slice q1 ((lfF S1.now M1.ps1).length) c1) (oRows (lfF S1.now M1.ps1)) 46 3, rZ g.2.1 g.2.2]) (fun n g => NicOk g.1 ∧ drainF S1.now 16 (tickF S1.A1) = drainF S1.now n g.1 ∧ (g.1.r 5 - g.1.r 4) % 16 ≤ (n : Int) ∧ (∀ v f, M1.fs v f → g.2.2 v f) ∧ (∀ b, g.2.1 b → M1.F b ∨ w.heap.size ≤ b) ∧ ∀ i, 0 ≤ g.1.tp i ∧ g.1.tp i ≤ S1.now) 16 (tickF S1.A1, M1.F, M1.fs) ⟨tick_ok htb1.a1, rfl, by simp only; omega, fun _ _ h => h, fun _ h => .inl h, htb1.p1⟩ ⟨rfl, rfl, trivial⟩ rfl ?_
      rintro fu ⟨A9, F9, fs9⟩ ⟨hA9, hdr, hfu, hfs9, hF9, htp9⟩
      dsimp only at hA9 hdr hfu hfs9 hF9 htp9
      refine SC.block ?_
      refine SC.sr ?_
      refine SL.mv ?_
      refine SL.mv ?_
      refine SL.nk ?_
      refine SL.fa 0 fd92_0 ?_
      refine SL.ia 1 ar37 ?_
      refine SL.ld 0 ts36 ?_
      refine SL.callv (Value.tuple #[iw ((oldF A9).1), bo ((oldF A9).2)]) rfl rfl co63 rfl rfl rfl (lt_b rfl) (fun w hI => H_only hI (q_old hA9 (WL.nic1 (l := []) hI))) ?_
      refine SL.mv ?_
      refine SL.uu (ru_extract rfl rfl rfl) ?_
      refine SL.uu (ru_extract rfl rfl rfl) ?_
      refine SL.as ?_
      refine SL.as ?_
      refine SL.nr [rBlk wd [pt d0 0, pt d1 0, Value.slice M1.q0 M1.ps0.length M1.c0, Value.slice q1 ((lfF S1.now M1.ps1).length) c1, iw S1.now] 92, rDv 100 d0 fs9 S1.A0, rDv 100 d1 fs9 A9, rR0 M1 46, rRowN (.slice q1 ((lfF S1.now M1.ps1).length) c1) (oRows (lfF S1.now M1.ps1)) 46 3, rZ F9 fs9] ?_
      refine SC.seq ?_
      refine SC.sr ?_
      refine SL.mv ?_
      refine SL.uu (ru_not (c := (!((oldF A9).2))) rfl rfl rfl) ?_
      refine SL.mv ?_
      refine SL.join 8 [(0, pt wd 0), (2, iw 1), (5, iw ((oldF A9).1)), (6, bo ((oldF A9).2)), (87, bo ((oldF A9).2)), (88, bo (!((oldF A9).2))), (89, bo (!((oldF A9).2))), (97, bo ((!((oldF A9).2)) || (decide (((IntKind.i64.wrap (S1.now - 8)) : Int) < ((oldF A9).1)))))] [rBlk wd [pt d0 0, pt d1 0, Value.slice M1.q0 M1.ps0.length M1.c0, Value.slice q1 ((lfF S1.now M1.ps1).length) c1, iw S1.now] 92, rDv 100 d0 fs9 S1.A0, rDv 100 d1 fs9 A9, rR0 M1 46, rRowN (.slice q1 ((lfF S1.now M1.ps1).length) c1) (oRows (lfF S1.now M1.ps1)) 46 3, rZ F9 fs9] ?_ ?_
      rotate_left
      · intro K hK
        rcases tf (!((oldF A9).2)) with h1 | h1
        · skip
          refine SL.norm [(0, pt wd 0), (2, iw 1), (5, iw ((oldF A9).1)), (6, bo ((oldF A9).2)), (87, bo ((oldF A9).2)), (88, bo true), (89, bo true)] _ ⟨rfl, rfl, rfl, rfl, rfl, (congrArg (fun x => some (Value.bool x)) h1), (congrArg (fun x => some (Value.bool x)) h1), trivial⟩ rfl ?_
          refine SL.oo ?_
          refine SL.oo ?_
          refine SL.oo ?_
          refine SL.oo ?_
          refine SL.oo ?_
          refine SL.oo ?_
          refine SL.oo ?_
          refine SL.pk (bo true) (undef) ?_
          exact SL.joined hK ⟨rfl, rfl, rfl, rfl, rfl, (congrArg (fun x => some (Value.bool x)) h1.symm), (congrArg (fun x => some (Value.bool x)) h1.symm), (congrArg (fun bx => some (Value.bool (bx || (decide (((IntKind.i64.wrap (S1.now - 8)) : Int) < ((oldF A9).1)))))) h1.symm), trivial⟩ rfl
        refine SL.norm [(0, pt wd 0), (2, iw 1), (5, iw ((oldF A9).1)), (6, bo ((oldF A9).2)), (87, bo ((oldF A9).2)), (88, bo false), (89, bo false)] _ ⟨rfl, rfl, rfl, rfl, rfl, (congrArg (fun x => some (Value.bool x)) h1), (congrArg (fun x => some (Value.bool x)) h1), trivial⟩ rfl ?_
        refine SL.gg (ru_move rfl rfl) ?_
        refine SL.gg (ru_move rfl rfl) ?_
        refine SL.gg (ru_nilCheck rfl rfl) ?_
        refine SL.gg (ru_fieldAddr (o2 := 4) fd92_2 rfl rfl rfl) ?_
        refine SL.gg (ru_load (i := 0) ts3 rfl rfl rfl rfl) ?_
        refine SL.gg (ru_sub (r := (IntKind.i64.wrap (S1.now - 8))) rfl rfl rfl rfl) ?_
        refine SL.gg (ru_gt (b := (decide (((IntKind.i64.wrap (S1.now - 8)) : Int) < ((oldF A9).1)))) rfl rfl rfl rfl) ?_
        refine SL.pk (bo true) (bo (decide (((IntKind.i64.wrap (S1.now - 8)) : Int) < ((oldF A9).1)))) ?_
        exact SL.joined hK ⟨rfl, rfl, rfl, rfl, rfl, (congrArg (fun x => some (Value.bool x)) h1.symm), (congrArg (fun x => some (Value.bool x)) h1.symm), (congrArg (fun bx => some (Value.bool (bx || (decide (((IntKind.i64.wrap (S1.now - 8)) : Int) < ((oldF A9).1)))))) h1.symm), trivial⟩ rfl
      skip
      refine SL.nl ?_
      refine SC.both ((!((oldF A9).2)) || (decide (((IntKind.i64.wrap (S1.now - 8)) : Int) < ((oldF A9).1)))) rfl (fun h2 => ?_) (fun h2 => ?_)
      · skip
        rw [new_old htb1.now (old_tp htp9 htb1.now.1)] at h2
        refine SC.exit ?_
        refine SE.passe ?_
        refine SE.blko (by decide) ?_
        refine SE.passe ?_
        refine SE.blke ?_
        refine SE.blkn ?_
        refine SC.of_SE ?_
        refine SC.region ?_
        refine SL.mv ?_
        refine SL.uu (ru_add (r := 2) rfl rfl rfl rfl) ?_
        refine SL.as ?_
        refine SL.nil ?_
        have hdA : drainF S1.now 16 (tickF S1.A1) = A9 := by rw [hdr]; exact drain_end (nb_t h2)
        have hO2 : WM.Ok { M1 with F := F9, fs := fs9, q1 := q1, c1 := c1, ps1 := (lfF S1.now M1.ps1) } ((S1.setA true A9).setL true (ageF S1.now S1.L1)) := hM1.age1 S1.now q1 c1 F9 fs9 (hfs9)
        have hst2 : ((S1.setA true A9).setL true (ageF S1.now S1.L1)) = tick1 S1 true := by unfold tick1; show _ = (S1.setA true (drainF S1.now 16 (tickF S1.A1))).setL _ _; rw [hdA]; rfl
        have hK2 : ∀ b, WM.K { M1 with F := F9, fs := fs9, q1 := q1, c1 := c1, ps1 := (lfF S1.now M1.ps1) } b → (b = wd ∨ b = d0 ∨ b = d1 ∨ M.K b) ∨ w.heap.size ≤ b := fun b hb => hb.ageG1 hK1 (hF9) (fun b hb => (hq1 b hb).imp (fun h => h.sub) id)
        refine SE.keep 6 ?_
        refine SE.again 0 ({ M1 with F := F9, fs := fs9, q1 := q1, c1 := c1, ps1 := (lfF S1.now M1.ps1) }, ((S1.setA true A9).setL true (ageF S1.now S1.L1))) (by omega) (TqP.next1 hp9 hO2 hst2 (hfs9) hK2) ⟨rfl, rfl, trivial⟩ rfl
      rw [new_old htb1.now (old_tp htp9 htb1.now.1)] at h2
      refine SC.skip ?_
      refine SC.of_SE ?_
      refine SC.sr ?_
      refine SL.mv ?_
      refine SL.mv ?_
      refine SL.nk ?_
      refine SL.fa 0 fd92_0 ?_
      refine SL.ia 1 ar37 ?_
      refine SL.ld 0 ts36 ?_
      refine SL.call (ζ := Option Addr × Nat × (Nat → Prop) × (Value → List UInt8 → Prop)) (fun z => Value.tuple #[Value.agg #[Value.slice z.1 ((takeR A9).1.1.1.length) z.2.1, bo false, iw ((takeR A9).1.1.2)], iw ((takeR A9).1.2)]) (fun z => [rBlk wd [pt d0 0, pt d1 0, Value.slice M1.q0 M1.ps0.length M1.c0, Value.slice q1 ((lfF S1.now M1.ps1).length) c1, iw S1.now] 92, rDv 100 d0 z.2.2.2 S1.A0, rDv 100 d1 z.2.2.2 ((takeR A9).2), rR0 M1 46, rRowN (.slice q1 ((lfF S1.now M1.ps1).length) c1) (oRows (lfF S1.now M1.ps1)) 46 3, rZ z.2.2.1 z.2.2.2]) (fun z => (∀ v f, fs9 v f → z.2.2.2 v f) ∧ ∀ b, z.2.2.1 b → F9 b ∨ w.heap.size ≤ b) rfl rfl co59 rfl rfl rfl (lt_b rfl) (fun w5 hI => (q_take hA9 (WL.nic1 (l := []) hI)).mono fun e w2 ⟨v, h1, k1, k3, k4⟩ => by obtain ⟨qa, qc, rfl⟩ := k4.1.form; obtain ⟨F', fs', q1, q2, q3⟩ := WL.turn1 (g := fun _ _ => False) (l := []) hI (.inl (.inr (.inr (.inl rfl)))) k1 (fun b hb => .inl hb) k3 (fun _ _ h => h.elim); exact ⟨(qa, qc, F', fs'), h1, q2, fun v f h => q1 v f (.inl h), fun b hb => (q3 b hb).imp id (Nat.le_trans hI.2.size)⟩) ?_
      rintro ⟨q5, c6, Fz3, fz4⟩ ⟨hfz4, hFz3⟩
      dsimp only at hfz4 hFz3
      refine SL.mv ?_
      refine SL.uu (ru_extract rfl rfl rfl) ?_
      refine SL.uu (ru_extract rfl rfl rfl) ?_
      refine SL.alloca rfl rfl (lt_b rfl) ta46 rfl fun b7 hb7 => ?_
      refine SL.storea (i := 6) (vs := [Value.slice q5 ((takeR A9).1.1.1.length) c6, bo false, iw ((takeR A9).1.1.2)]) (c' := [Value.slice q5 ((takeR A9).1.1.1.length) c6, bo false, iw ((takeR A9).1.1.2)]) rfl rfl ta46 rfl rfl rfl rfl rfl rfl (le_b rfl) (.inr hb7) rfl ?_
      refine SL.as ?_
      refine SL.nr [rBlk wd [pt d0 0, pt d1 0, Value.slice M1.q0 M1.ps0.length M1.c0, Value.slice q1 ((lfF S1.now M1.ps1).length) c1, iw S1.now] 92, rDv 100 d0 fz4 S1.A0, rDv 100 d1 fz4 ((takeR A9).2), rR0 M1 46, rRowN (.slice q1 ((lfF S1.now M1.ps1).length) c1) (oRows (lfF S1.now M1.ps1)) 46 3, rZ Fz3 fz4, rBlk b7 [Value.slice q5 ((takeR A9).1.1.1.length) c6, bo false, iw ((takeR A9).1.1.2)] 46] ?_
      refine SC.sr ?_
      refine SL.mv ?_
      refine SL.uu (ru_ne (b := ((((takeR A9).1.2) : Int) != 0)) rfl rfl rfl rfl) ?_
      refine SL.nl ?_
      refine SC.both ((((takeR A9).1.2) : Int) != 0) rfl (fun h8 => ?_) (fun h8 => ?_)
      · skip
        refine SC.exit ?_
        refine SE.blko (by decide) ?_
        refine SE.passe ?_
        refine SE.blke ?_
        refine SE.blkn ?_
        refine SC.of_SE ?_
        refine SC.region ?_
        refine SL.mv ?_
        refine SL.uu (ru_add (r := 2) rfl rfl rfl rfl) ?_
        refine SL.as ?_
        refine SL.nil ?_
        have hdA : drainF S1.now 16 (tickF S1.A1) = (takeR A9).2 := by rw [hdr]; exact drain_stop hA9 hfu (nb_f h2) h8
        have hO2 : WM.Ok { M1 with F := Fz3, fs := fz4, q1 := q1, c1 := c1, ps1 := (lfF S1.now M1.ps1) } ((S1.setA true ((takeR A9).2)).setL true (ageF S1.now S1.L1)) := hM1.age1 S1.now q1 c1 Fz3 fz4 (fun v f h => hfz4 v f (hfs9 v f h))
        have hst2 : ((S1.setA true ((takeR A9).2)).setL true (ageF S1.now S1.L1)) = tick1 S1 true := by unfold tick1; show _ = (S1.setA true (drainF S1.now 16 (tickF S1.A1))).setL _ _; rw [hdA]; rfl
        have hK2 : ∀ b, WM.K { M1 with F := Fz3, fs := fz4, q1 := q1, c1 := c1, ps1 := (lfF S1.now M1.ps1) } b → (b = wd ∨ b = d0 ∨ b = d1 ∨ M.K b) ∨ w.heap.size ≤ b := fun b hb => hb.ageG1 hK1 (fun b hb => (hFz3 b hb).elim (hF9 b) .inr) (fun b hb => (hq1 b hb).imp (fun h => h.sub) id)
        refine SE.keep 6 ?_
        refine SE.again 0 ({ M1 with F := Fz3, fs := fz4, q1 := q1, c1 := c1, ps1 := (lfF S1.now M1.ps1) }, ((S1.setA true ((takeR A9).2)).setL true (ageF S1.now S1.L1))) (by omega) (TqP.next1 hp9 hO2 hst2 (fun v f h => hfz4 v f (hfs9 v f h)) hK2) ⟨rfl, rfl, trivial⟩ rfl
      refine SC.skip ?_
      refine SE.blkn ?_
      have hdd := drain_go (now := S1.now) (A := A9) hA9 hfu (nb_f h2) h8
      obtain ⟨f9, hfe, hd1, hd2, hd3⟩ := hdd
      refine SE.keep 6 ?_
      refine SE.again f9 ((takeR A9).2, Fz3, fz4) (by omega) ⟨hd3, by rw [hdr, hd1], hd2, fun v f h => hfz4 v f (hfs9 v f h), fun b hb => (hFz3 b hb).elim (hF9 b) .inr, fun i => by rw [(takeR_same A9).2.1]; exact htp9 i⟩ ⟨rfl, rfl, trivial⟩ rfl
    obtain ⟨xa, xn, xc, x, hx⟩ := o_all hv11 (show i < M1.ps1.length by omega)
    have hxt : 0 ≤ x.tick ∧ x.tick ≤ S1.now := htb1.t1 x (by rw [← hM1.l1]; exact List.mem_map.2 ⟨_, List.mem_of_getElem? hx, rfl⟩)
    refine SC.seq ?_
    refine SC.sr ?_
    refine SL.mv ?_
    refine SL.mv ?_
    refine SL.mv ?_
    refine SL.nk ?_
    refine SL.fa 2 fd92_1 ?_
    refine SL.ia 3 ar75 ?_
    refine SL.ld 0 ts56 ?_
    refine SL.uu (ru_len Try.underlying56 rfl rfl) ?_
    refine SL.uu (ru_lt (b := (decide (((i : Int) : Int) < (M1.ps1.length : Int)))) rfl rfl rfl rfl) ?_
    refine SL.nr [rB wd d0 d1 M1 S1.now 92, rDv 100 d0 M1.fs S1.A0, rDv 100 d1 M1.fs (tickF S1.A1), rR0 M1 46, rR1 M1 46, rZ M1.F M1.fs, rRowN (.slice q1 ((lfF S1.now (M1.ps1.take i)).length) c1) (oRows (lfF S1.now (M1.ps1.take i))) 46 3] ?_
    refine SC.yes (show some (Value.bool (decide (((i : Int) : Int) < (M1.ps1.length : Int)))) = some (Value.bool true) from congrArg (fun x => some (Value.bool x)) (decide_eq_true (by omega))) ?_
    refine SC.skip ?_
    refine SC.of_SE ?_
    refine SC.seq ?_
    refine SC.block ?_
    refine SC.seq ?_
    refine SC.region_quiet (by kernel_rfl) (by kernel_rfl) ?_
    refine SQ.mv ?_
    refine SQ.mv ?_
    refine SQ.nk ?_
    refine SQ.fa 2 fd92_1 ?_
    refine SQ.ia 3 ar75 ?_
    refine SQ.ld 0 ts56 ?_
    refine SQ.mv ?_
    refine SQ.uu (ru_index_rowN (ri := 4) si56 rfl rfl rfl rfl (by omega) (by omega)) ?_
    refine SQ.uu (ru_fieldAddr (o2 := (i : Int).toNat * 3 + 2) fd46_2 rfl rfl rfl) ?_
    refine SQ.uu (ru_load_rowN (ri := 4) (i := (i : Int).toNat) (k := 2) (r := [Value.slice xa xn xc, bo x.bad, iw x.tick]) ts3 rfl rfl rfl (by rw [Int.toNat_natCast]; show (M1.ps1.map FmV.row)[_]? = _; rw [List.getElem?_map, hx]; rfl) (by decide) rfl) ?_
    refine SQ.mv ?_
    refine SQ.nk ?_
    refine SQ.fa 4 fd92_2 ?_
    refine SQ.ld 0 ts3 ?_
    refine SQ.uu (ru_sub (r := (IntKind.i64.wrap (S1.now - 8))) rfl rfl rfl rfl) ?_
    refine SQ.uu (ru_gt (b := (decide (((IntKind.i64.wrap (S1.now - 8)) : Int) < x.tick))) rfl rfl rfl rfl) ?_
    refine SQ.nilE ?_
    refine SC.of_SE ?_
    refine SC.norm [(0, pt wd 0), (2, iw 1), (3, Value.slice q1 ((lfF S1.now (M1.ps1.take i)).length) c1), (4, iw (i : Int)), (58, bo (decide (((IntKind.i64.wrap (S1.now - 8)) : Int) < x.tick)))] _ ⟨rfl, rfl, rfl, rfl, rfl, trivial⟩ rfl ?_
    refine SC.both (decide (((IntKind.i64.wrap (S1.now - 8)) : Int) < x.tick)) rfl (fun h9 => ?_) (fun h9 => ?_)
    · skip
      rw [new_old htb1.now hxt] at h9
      refine SC.region ?_
      refine SL.mv ?_
      refine SL.mv ?_
      refine SL.mv ?_
      refine SL.nk ?_
      refine SL.fa 2 fd92_1 ?_
      refine SL.ia 3 ar75 ?_
      refine SL.ld 0 ts56 ?_
      refine SL.mv ?_
      refine SL.uu (ru_index_rowN (ri := 4) si56 rfl rfl rfl rfl (by omega) (by omega)) ?_
      refine SL.uu (ru_loada_rowN (ri := 4) (i := (i : Int).toNat) (r := [Value.slice xa xn xc, bo x.bad, iw x.tick]) ta46 rfl rfl rfl (by rw [Int.toNat_natCast]; show (M1.ps1.map FmV.row)[_]? = _; rw [List.getElem?_map, hx]; rfl) rfl rfl) ?_
      refine SL.buildSlice (size := 3) (vals := [(0, Value.agg #[Value.slice xa xn xc, bo x.bad, iw x.tick])]) (z := [Value.slice none 0 0, bo false, iw 0]) (cs := [Value.slice xa xn xc, bo x.bad, iw x.tick]) rfl rfl (lt_b rfl) rfl Try.underlying56 (by kernel_rfl) rfl rfl (by kernel_rfl) fun b10 hb10 => ?_
      refine SL.append_rowN (ri := 6) (rj := 7) (size := 3) (r := [Value.slice xa xn xc, bo x.bad, iw x.tick]) (z := Value.agg #[Value.slice none 0 0, bo false, iw 0]) (bytes := 40) rfl rfl (lt_b rfl) rfl (by decide) Try.underlying56 (by kernel_rfl) rfl rfl rfl rfl rfl rfl rfl (by rw [List.length_map]; omega) (by unfold maxLen; rw [List.length_map]; omega) (fun b hb => hq1 b hb) fun q11 c12 hq13 => ?_
      refine SL.as ?_
      refine SL.nil ?_
      refine SE.blkn ?_
      refine SC.of_SE ?_
      refine SC.nr [rB wd d0 d1 M1 S1.now 92, rDv 100 d0 M1.fs S1.A0, rDv 100 d1 M1.fs (tickF S1.A1), rR0 M1 46, rR1 M1 46, rZ M1.F M1.fs, rRowN (.slice q11 ((lfF S1.now (M1.ps1.take i)).length + 1) c12) (oRows (lfF S1.now (M1.ps1.take i)) ++ [[Value.slice xa xn xc, bo x.bad, iw x.tick]]) 46 3, rBlk b10 [Value.slice xa xn xc, bo x.bad, iw x.tick] 46] ?_
      refine SC.region ?_
      refine SL.mv ?_
      refine SL.uu (ru_add (r := (IntKind.i64.wrap ((i : Int) + 1))) rfl rfl rfl rfl) ?_
      refine SL.as ?_
      refine SL.nil ?_
      refine SE.keep 7 ?_
      have e1 : lfF S1.now (M1.ps1.take (i + 1)) = lfF S1.now (M1.ps1.take i) ++ [⟨.slice xa xn xc, x⟩] := lf_yes hx (not_old h9)
      have er : oRows (lfF S1.now (M1.ps1.take (i + 1))) = oRows (lfF S1.now (M1.ps1.take i)) ++ [[Value.slice xa xn xc, bo x.bad, iw x.tick]] := by rw [e1]; exact List.map_append
      have el : (lfF S1.now (M1.ps1.take (i + 1))).length = (lfF S1.now (M1.ps1.take i)).length + 1 := by rw [e1, List.length_append]; rfl
      refine SE.again N (i + 1, q11, c12) (by omega) ⟨by omega, (by rw [el]; exact hq13)⟩ ⟨rfl, rfl, (congrArg (fun n9 => some (Value.slice q11 n9 c12)) el.symm), (congrArg (fun x => some (iw x)) (show IntKind.i64.wrap ((i : Int) + 1) = ((i + 1 : Nat) : Int) by rw [IntKind.wrap_i64]; omega)), trivial⟩ (by dsimp only; rw [el, er]; rfl)
    rw [new_old htb1.now hxt] at h9
    refine SC.skip ?_
    refine SE.blkn ?_
    refine SC.of_SE ?_
    refine SC.region ?_
    refine SL.mv ?_
    refine SL.uu (ru_add (r := (IntKind.i64.wrap ((i : Int) + 1))) rfl rfl rfl rfl) ?_
    refine SL.as ?_
    refine SL.nil ?_
    refine SE.keep 7 ?_
    have e1 : lfF S1.now (M1.ps1.take (i + 1)) = lfF S1.now (M1.ps1.take i) := lf_no hx (is_old h9)
    refine SE.again N (i + 1, q1, c1) (by omega) ⟨by omega, by rw [e1]; exact hq1⟩ ⟨rfl, rfl, (by dsimp only; rw [e1]; rfl), (congrArg (fun x => some (iw x)) (show IntKind.i64.wrap ((i : Int) + 1) = ((i + 1 : Nat) : Int) by rw [IntKind.wrap_i64]; omega)), trivial⟩ (by dsimp only; rw [e1]; rfl)
  · skip
    refine SC.nr [rB wd d0 d1 M1 S1.now 92, rDv 100 d0 M1.fs S1.A0, rDv 100 d1 M1.fs S1.A1, rR0 M1 46, rR1 M1 46, rZ M1.F M1.fs] ?_
    refine SC.seq ?_
    refine SC.sr ?_
    refine SL.mv ?_
    refine SL.uu (ru_lt (b := true) rfl rfl rfl rfl) ?_
    refine SL.nl ?_
    refine SC.yes rfl ?_
    refine SC.skip ?_
    refine SC.of_SE ?_
    refine SC.seq ?_
    refine SC.block ?_
    refine SC.seq ?_
    refine SC.openDv 1 rfl fun tv cv htc => ?_
    refine SC.region ?_
    refine SL.mv ?_
    refine SL.mv ?_
    refine SL.nk ?_
    refine SL.fa 0 fd92_0 ?_
    refine SL.ia 0 ar37 ?_
    refine SL.ld 0 ts36 ?_
    refine SL.nk ?_
    refine SL.fa 104 fd100_3 ?_
    refine SL.uu (ru_load (i := 1) (v := iw S1.A0.clk) ts3 rfl rfl rfl nc_clk) ?_
    refine SL.uu (ru_add (r := (inc S1.A0.clk)) rfl rfl rfl rfl) ?_
    refine SL.nk ?_
    refine SL.fa 104 fd100_3 ?_
    refine SL.store (i := 1) (c' := (nc { S1.A0 with clk := inc S1.A0.clk } tv cv)) rfl rfl ts3 rfl rfl rfl rfl rfl (by rw [nc_len]; omega) (.inl (.inr (.inl rfl))) (set_clk (inc S1.A0.clk)) ?_
    refine SL.nil ?_
    refine SE.weakN 1 (rDv 100 d0 M1.fs (tickF S1.A0)) rfl (fun w h => ⟨tv, cv, h, htc⟩) (fun b hb => hb) ?_
    refine SC.of_SE ?_
    refine SC.nr [rB wd d0 d1 M1 S1.now 92, rDv 100 d0 M1.fs (tickF S1.A0), rDv 100 d1 M1.fs S1.A1, rR0 M1 46, rR1 M1 46, rZ M1.F M1.fs] ?_
    refine SC.sr ?_
    refine SL.as ?_
    refine SL.nl ?_
    refine SC.seq ?_
    refine SC.sr ?_
    refine SL.as ?_
    refine SL.nl ?_
    refine SC.block ?_
    refine SC.rows (rRowN (.slice none 0 0) [] 46 3) (fun b hb => by cases hb) (fun w => rowN_nil w 46 3) ?_
    refine SC.factN (p := ∀ x ∈ M1.ps0, ∃ a n c, x.v = Value.slice a n c) (fun w hI => hM1.sl0 ((hI.keep 6).1)) fun hv10 => ?_
    refine SC.loop (γ := Nat × Option Addr × Nat) (fun n z => [(0, pt wd 0), (2, iw 0), (3, Value.slice z.2.1 ((lfF S1.now (M1.ps0.take z.1)).length) z.2.2), (4, iw (z.1 : Int))]) (fun n z => [rB wd d0 d1 M1 S1.now 92, rDv 100 d0 M1.fs (tickF S1.A0), rDv 100 d1 M1.fs S1.A1, rR0 M1 46, rR1 M1 46, rZ M1.F M1.fs, rRowN (.slice z.2.1 ((lfF S1.now (M1.ps0.take z.1)).length) z.2.2) (oRows (lfF S1.now (M1.ps0.take z.1))) 46 3]) (fun n z => n + z.1 = M1.ps0.length ∧ ∀ b, (Value.slice z.2.1 (lfF S1.now (M1.ps0.take z.1)).length z.2.2).ownBlock = some b → M.G wd d0 d1 b ∨ w.heap.size ≤ b) M1.ps0.length (0, none, 0) ⟨rfl, fun b hb => by simp [Value.ownBlock] at hb⟩ ⟨rfl, rfl, rfl, rfl, trivial⟩ rfl ?_
    rintro N ⟨i, q1, c1⟩ ⟨hn1, hq1⟩
    dsimp only at hn1 hq1
    have hol : (lfF S1.now (M1.ps0.take i)).length ≤ M1.ps0.length := Nat.le_trans (lf_len _ _) (by rw [List.length_take]; omega)
    rcases N with _ | N
    · skip
      have hi9 : i = M1.ps0.length := by omega
      subst hi9
      rw [show M1.ps0.take M1.ps0.length = M1.ps0 from List.take_of_length_le (Nat.le_refl _)] at hq1 hol ⊢
      refine SC.seq ?_
      refine SC.sr ?_
      refine SL.mv ?_
      refine SL.mv ?_
      refine SL.mv ?_
      refine SL.nk ?_
      refine SL.fa 2 fd92_1 ?_
      refine SL.ia 2 ar75 ?_
      refine SL.ld 0 ts56 ?_
      refine SL.uu (ru_len Try.underlying56 rfl rfl) ?_
      refine SL.uu (ru_lt (b := false) rfl rfl rfl (by simp)) ?_
      refine SL.nr [rB wd d0 d1 M1 S1.now 92, rDv 100 d0 M1.fs (tickF S1.A0), rDv 100 d1 M1.fs S1.A1, rR0 M1 46, rR1 M1 46, rZ M1.F M1.fs, rRowN (.slice q1 ((lfF S1.now M1.ps0).length) c1) (oRows (lfF S1.now M1.ps0)) 46 3] ?_
      refine SC.no rfl ?_
      refine SC.exit ?_
      refine SE.passe ?_
      refine SE.passe ?_
      refine SE.blke ?_
      refine SC.of_SE ?_
      refine SC.sr ?_
      refine SL.mv ?_
      refine SL.mv ?_
      refine SL.mv ?_
      refine SL.nk ?_
      refine SL.fa 2 fd92_1 ?_
      refine SL.ia 2 ar75 ?_
      refine SL.store (i := 0) (c' := [pt d0 0, pt d1 0, Value.slice q1 ((lfF S1.now M1.ps0).length) c1, Value.slice M1.q1 M1.ps1.length M1.c1, iw S1.now]) rfl rfl ts56 rfl rfl rfl rfl rfl (lt_b rfl) (.inl (.inl rfl)) rfl ?_
      refine SL.nil ?_
      refine SE.reo [0, 1, 2, 6, 4, 5] [rBlk wd [pt d0 0, pt d1 0, Value.slice q1 ((lfF S1.now M1.ps0).length) c1, Value.slice M1.q1 M1.ps1.length M1.c1, iw S1.now] 92, rDv 100 d0 M1.fs (tickF S1.A0), rDv 100 d1 M1.fs S1.A1, rRowN (.slice q1 ((lfF S1.now M1.ps0).length) c1) (oRows (lfF S1.now M1.ps0)) 46 3, rR1 M1 46, rZ M1.F M1.fs] (by decide) rfl ?_
      refine SC.of_SE ?_
      refine SC.nr [rBlk wd [pt d0 0, pt d1 0, Value.slice q1 ((lfF S1.now M1.ps0).length) c1, Value.slice M1.q1 M1.ps1.length M1.c1, iw S1.now] 92, rDv 100 d0 M1.fs (tickF S1.A0), rDv 100 d1 M1.fs S1.A1, rRowN (.slice q1 ((lfF S1.now M1.ps0).length) c1) (oRows (lfF S1.now M1.ps0)) 46 3, rR1 M1 46, rZ M1.F M1.fs] ?_
      refine SC.block ?_
      refine SC.loop (γ := NicA × (Nat → Prop) × (Value → List UInt8 → Prop)) (fun n g => [(0, pt wd 0), (2, iw 0)]) (fun n g => [rBlk wd [pt d0 0, pt d1 0, Value.slice q1 ((lfF S1.now M1.ps0).length) c1, Value.slice M1.q1 M1.ps1.length M1.c1, iw S1.now] 92, rDv 100 d0 g.2.2 g.1, rDv 100 d1 g.2.2 S1.A1, rRowN (.slice q1 ((lfF S1.now M1.ps0).length) c1) (oRows (lfF S1.now M1.ps0)) 46 3, rR1 M1 46, rZ g.2.1 g.2.2]) (fun n g => NicOk g.1 ∧ drainF S1.now 16 (tickF S1.A0) = drainF S1.now n g.1 ∧ (g.1.r 5 - g.1.r 4) % 16 ≤ (n : Int) ∧ (∀ v f, M1.fs v f → g.2.2 v f) ∧ (∀ b, g.2.1 b → M1.F b ∨ w.heap.size ≤ b) ∧ ∀ i, 0 ≤ g.1.tp i ∧ g.1.tp i ≤ S1.now) 16 (tickF S1.A0, M1.F, M1.fs) ⟨tick_ok htb1.a0, rfl, by simp only; omega, fun _ _ h => h, fun _ h => .inl h, htb1.p0⟩ ⟨rfl, rfl, trivial⟩ rfl ?_
      rintro fu ⟨A9, F9, fs9⟩ ⟨hA9, hdr, hfu, hfs9, hF9, htp9⟩
      dsimp only at hA9 hdr hfu hfs9 hF9 htp9
      refine SC.block ?_
      refine SC.sr ?_
      refine SL.mv ?_
      refine SL.mv ?_
      refine SL.nk ?_
      refine SL.fa 0 fd92_0 ?_
      refine SL.ia 0 ar37 ?_
      refine SL.ld 0 ts36 ?_
      refine SL.callv (Value.tuple #[iw ((oldF A9).1), bo ((oldF A9).2)]) rfl rfl co63 rfl rfl rfl (lt_b rfl) (fun w hI => H_only hI (q_old hA9 (WL.nic0 (l := []) hI))) ?_
      refine SL.mv ?_
      refine SL.uu (ru_extract rfl rfl rfl) ?_
      refine SL.uu (ru_extract rfl rfl rfl) ?_
      refine SL.as ?_
      refine SL.as ?_
      refine SL.nr [rBlk wd [pt d0 0, pt d1 0, Value.slice q1 ((lfF S1.now M1.ps0).length) c1, Value.slice M1.q1 M1.ps1.length M1.c1, iw S1.now] 92, rDv 100 d0 fs9 A9, rDv 100 d1 fs9 S1.A1, rRowN (.slice q1 ((lfF S1.now M1.ps0).length) c1) (oRows (lfF S1.now M1.ps0)) 46 3, rR1 M1 46, rZ F9 fs9] ?_
      refine SC.seq ?_
      refine SC.sr ?_
      refine SL.mv ?_
      refine SL.uu (ru_not (c := (!((oldF A9).2))) rfl rfl rfl) ?_
      refine SL.mv ?_
      refine SL.join 8 [(0, pt wd 0), (2, iw 0), (5, iw ((oldF A9).1)), (6, bo ((oldF A9).2)), (87, bo ((oldF A9).2)), (88, bo (!((oldF A9).2))), (89, bo (!((oldF A9).2))), (97, bo ((!((oldF A9).2)) || (decide (((IntKind.i64.wrap (S1.now - 8)) : Int) < ((oldF A9).1)))))] [rBlk wd [pt d0 0, pt d1 0, Value.slice q1 ((lfF S1.now M1.ps0).length) c1, Value.slice M1.q1 M1.ps1.length M1.c1, iw S1.now] 92, rDv 100 d0 fs9 A9, rDv 100 d1 fs9 S1.A1, rRowN (.slice q1 ((lfF S1.now M1.ps0).length) c1) (oRows (lfF S1.now M1.ps0)) 46 3, rR1 M1 46, rZ F9 fs9] ?_ ?_
      rotate_left
      · intro K hK
        rcases tf (!((oldF A9).2)) with h14 | h14
        · skip
          refine SL.norm [(0, pt wd 0), (2, iw 0), (5, iw ((oldF A9).1)), (6, bo ((oldF A9).2)), (87, bo ((oldF A9).2)), (88, bo true), (89, bo true)] _ ⟨rfl, rfl, rfl, rfl, rfl, (congrArg (fun x => some (Value.bool x)) h14), (congrArg (fun x => some (Value.bool x)) h14), trivial⟩ rfl ?_
          refine SL.oo ?_
          refine SL.oo ?_
          refine SL.oo ?_
          refine SL.oo ?_
          refine SL.oo ?_
          refine SL.oo ?_
          refine SL.oo ?_
          refine SL.pk (bo true) (undef) ?_
          exact SL.joined hK ⟨rfl, rfl, rfl, rfl, rfl, (congrArg (fun x => some (Value.bool x)) h14.symm), (congrArg (fun x => some (Value.bool x)) h14.symm), (congrArg (fun bx => some (Value.bool (bx || (decide (((IntKind.i64.wrap (S1.now - 8)) : Int) < ((oldF A9).1)))))) h14.symm), trivial⟩ rfl
        refine SL.norm [(0, pt wd 0), (2, iw 0), (5, iw ((oldF A9).1)), (6, bo ((oldF A9).2)), (87, bo ((oldF A9).2)), (88, bo false), (89, bo false)] _ ⟨rfl, rfl, rfl, rfl, rfl, (congrArg (fun x => some (Value.bool x)) h14), (congrArg (fun x => some (Value.bool x)) h14), trivial⟩ rfl ?_
        refine SL.gg (ru_move rfl rfl) ?_
        refine SL.gg (ru_move rfl rfl) ?_
        refine SL.gg (ru_nilCheck rfl rfl) ?_
        refine SL.gg (ru_fieldAddr (o2 := 4) fd92_2 rfl rfl rfl) ?_
        refine SL.gg (ru_load (i := 0) ts3 rfl rfl rfl rfl) ?_
        refine SL.gg (ru_sub (r := (IntKind.i64.wrap (S1.now - 8))) rfl rfl rfl rfl) ?_
        refine SL.gg (ru_gt (b := (decide (((IntKind.i64.wrap (S1.now - 8)) : Int) < ((oldF A9).1)))) rfl rfl rfl rfl) ?_
        refine SL.pk (bo true) (bo (decide (((IntKind.i64.wrap (S1.now - 8)) : Int) < ((oldF A9).1)))) ?_
        exact SL.joined hK ⟨rfl, rfl, rfl, rfl, rfl, (congrArg (fun x => some (Value.bool x)) h14.symm), (congrArg (fun x => some (Value.bool x)) h14.symm), (congrArg (fun bx => some (Value.bool (bx || (decide (((IntKind.i64.wrap (S1.now - 8)) : Int) < ((oldF A9).1)))))) h14.symm), trivial⟩ rfl
      skip
      refine SL.nl ?_
      refine SC.both ((!((oldF A9).2)) || (decide (((IntKind.i64.wrap (S1.now - 8)) : Int) < ((oldF A9).1)))) rfl (fun h15 => ?_) (fun h15 => ?_)
      · skip
        rw [new_old htb1.now (old_tp htp9 htb1.now.1)] at h15
        refine SC.exit ?_
        refine SE.passe ?_
        refine SE.blko (by decide) ?_
        refine SE.passe ?_
        refine SE.blke ?_
        refine SE.blkn ?_
        refine SC.of_SE ?_
        refine SC.region ?_
        refine SL.mv ?_
        refine SL.uu (ru_add (r := 1) rfl rfl rfl rfl) ?_
        refine SL.as ?_
        refine SL.nil ?_
        have hdA : drainF S1.now 16 (tickF S1.A0) = A9 := by rw [hdr]; exact drain_end (nb_t h15)
        have hO2 : WM.Ok { M1 with F := F9, fs := fs9, q0 := q1, c0 := c1, ps0 := (lfF S1.now M1.ps0) } ((S1.setA false A9).setL false (ageF S1.now S1.L0)) := hM1.age0 S1.now q1 c1 F9 fs9 (hfs9)
        have hst2 : ((S1.setA false A9).setL false (ageF S1.now S1.L0)) = tick1 S1 false := by unfold tick1; show _ = (S1.setA false (drainF S1.now 16 (tickF S1.A0))).setL _ _; rw [hdA]; rfl
        have hK2 : ∀ b, WM.K { M1 with F := F9, fs := fs9, q0 := q1, c0 := c1, ps0 := (lfF S1.now M1.ps0) } b → (b = wd ∨ b = d0 ∨ b = d1 ∨ M.K b) ∨ w.heap.size ≤ b := fun b hb => hb.ageG0 hK1 (hF9) (fun b hb => (hq1 b hb).imp (fun h => h.sub) id)
        refine SE.keep 6 ?_
        refine SE.again 1 ({ M1 with F := F9, fs := fs9, q0 := q1, c0 := c1, ps0 := (lfF S1.now M1.ps0) }, ((S1.setA false A9).setL false (ageF S1.now S1.L0))) (by omega) (TqP.next0 hp9 hO2 hst2 (hfs9) hK2) ⟨rfl, rfl, trivial⟩ rfl
      rw [new_old htb1.now (old_tp htp9 htb1.now.1)] at h15
      refine SC.skip ?_
      refine SC.of_SE ?_
      refine SC.sr ?_
      refine SL.mv ?_
      refine SL.mv ?_
      refine SL.nk ?_
      refine SL.fa 0 fd92_0 ?_
      refine SL.ia 0 ar37 ?_
      refine SL.ld 0 ts36 ?_
      refine SL.call (ζ := Option Addr × Nat × (Nat → Prop) × (Value → List UInt8 → Prop)) (fun z => Value.tuple #[Value.agg #[Value.slice z.1 ((takeR A9).1.1.1.length) z.2.1, bo false, iw ((takeR A9).1.1.2)], iw ((takeR A9).1.2)]) (fun z => [rBlk wd [pt d0 0, pt d1 0, Value.slice q1 ((lfF S1.now M1.ps0).length) c1, Value.slice M1.q1 M1.ps1.length M1.c1, iw S1.now] 92, rDv 100 d0 z.2.2.2 ((takeR A9).2), rDv 100 d1 z.2.2.2 S1.A1, rRowN (.slice q1 ((lfF S1.now M1.ps0).length) c1) (oRows (lfF S1.now M1.ps0)) 46 3, rR1 M1 46, rZ z.2.2.1 z.2.2.2]) (fun z => (∀ v f, fs9 v f → z.2.2.2 v f) ∧ ∀ b, z.2.2.1 b → F9 b ∨ w.heap.size ≤ b) rfl rfl co59 rfl rfl rfl (lt_b rfl) (fun w5 hI => (q_take hA9 (WL.nic0 (l := []) hI)).mono fun e w2 ⟨v, h1, k1, k3, k4⟩ => by obtain ⟨qa, qc, rfl⟩ := k4.1.form; obtain ⟨F', fs', q1, q2, q3⟩ := WL.turn0 (g := fun _ _ => False) (l := []) hI (.inl (.inr (.inl rfl))) k1 (fun b hb => .inl hb) k3 (fun _ _ h => h.elim); exact ⟨(qa, qc, F', fs'), h1, q2, fun v f h => q1 v f (.inl h), fun b hb => (q3 b hb).imp id (Nat.le_trans hI.2.size)⟩) ?_
      rintro ⟨q18, c19, Fz16, fz17⟩ ⟨hfz17, hFz16⟩
      dsimp only at hfz17 hFz16
      refine SL.mv ?_
      refine SL.uu (ru_extract rfl rfl rfl) ?_
      refine SL.uu (ru_extract rfl rfl rfl) ?_
      refine SL.alloca rfl rfl (lt_b rfl) ta46 rfl fun b20 hb20 => ?_
      refine SL.storea (i := 6) (vs := [Value.slice q18 ((takeR A9).1.1.1.length) c19, bo false, iw ((takeR A9).1.1.2)]) (c' := [Value.slice q18 ((takeR A9).1.1.1.length) c19, bo false, iw ((takeR A9).1.1.2)]) rfl rfl ta46 rfl rfl rfl rfl rfl rfl (le_b rfl) (.inr hb20) rfl ?_
      refine SL.as ?_
      refine SL.nr [rBlk wd [pt d0 0, pt d1 0, Value.slice q1 ((lfF S1.now M1.ps0).length) c1, Value.slice M1.q1 M1.ps1.length M1.c1, iw S1.now] 92, rDv 100 d0 fz17 ((takeR A9).2), rDv 100 d1 fz17 S1.A1, rRowN (.slice q1 ((lfF S1.now M1.ps0).length) c1) (oRows (lfF S1.now M1.ps0)) 46 3, rR1 M1 46, rZ Fz16 fz17, rBlk b20 [Value.slice q18 ((takeR A9).1.1.1.length) c19, bo false, iw ((takeR A9).1.1.2)] 46] ?_
      refine SC.sr ?_
      refine SL.mv ?_
      refine SL.uu (ru_ne (b := ((((takeR A9).1.2) : Int) != 0)) rfl rfl rfl rfl) ?_
      refine SL.nl ?_
      refine SC.both ((((takeR A9).1.2) : Int) != 0) rfl (fun h21 => ?_) (fun h21 => ?_)
      · skip
        refine SC.exit ?_
        refine SE.blko (by decide) ?_
        refine SE.passe ?_
        refine SE.blke ?_
        refine SE.blkn ?_
        refine SC.of_SE ?_
        refine SC.region ?_
        refine SL.mv ?_
        refine SL.uu (ru_add (r := 1) rfl rfl rfl rfl) ?_
        refine SL.as ?_
        refine SL.nil ?_
        have hdA : drainF S1.now 16 (tickF S1.A0) = (takeR A9).2 := by rw [hdr]; exact drain_stop hA9 hfu (nb_f h15) h21
        have hO2 : WM.Ok { M1 with F := Fz16, fs := fz17, q0 := q1, c0 := c1, ps0 := (lfF S1.now M1.ps0) } ((S1.setA false ((takeR A9).2)).setL false (ageF S1.now S1.L0)) := hM1.age0 S1.now q1 c1 Fz16 fz17 (fun v f h => hfz17 v f (hfs9 v f h))
        have hst2 : ((S1.setA false ((takeR A9).2)).setL false (ageF S1.now S1.L0)) = tick1 S1 false := by unfold tick1; show _ = (S1.setA false (drainF S1.now 16 (tickF S1.A0))).setL _ _; rw [hdA]; rfl
        have hK2 : ∀ b, WM.K { M1 with F := Fz16, fs := fz17, q0 := q1, c0 := c1, ps0 := (lfF S1.now M1.ps0) } b → (b = wd ∨ b = d0 ∨ b = d1 ∨ M.K b) ∨ w.heap.size ≤ b := fun b hb => hb.ageG0 hK1 (fun b hb => (hFz16 b hb).elim (hF9 b) .inr) (fun b hb => (hq1 b hb).imp (fun h => h.sub) id)
        refine SE.keep 6 ?_
        refine SE.again 1 ({ M1 with F := Fz16, fs := fz17, q0 := q1, c0 := c1, ps0 := (lfF S1.now M1.ps0) }, ((S1.setA false ((takeR A9).2)).setL false (ageF S1.now S1.L0))) (by omega) (TqP.next0 hp9 hO2 hst2 (fun v f h => hfz17 v f (hfs9 v f h)) hK2) ⟨rfl, rfl, trivial⟩ rfl
      refine SC.skip ?_
      refine SE.blkn ?_
      have hdd := drain_go (now := S1.now) (A := A9) hA9 hfu (nb_f h15) h21
      obtain ⟨f9, hfe, hd1, hd2, hd3⟩ := hdd
      refine SE.keep 6 ?_
      refine SE.again f9 ((takeR A9).2, Fz16, fz17) (by omega) ⟨hd3, by rw [hdr, hd1], hd2, fun v f h => hfz17 v f (hfs9 v f h), fun b hb => (hFz16 b hb).elim (hF9 b) .inr, fun i => by rw [(takeR_same A9).2.1]; exact htp9 i⟩ ⟨rfl, rfl, trivial⟩ rfl
    obtain ⟨xa, xn, xc, x, hx⟩ := o_all hv10 (show i < M1.ps0.length by omega)
    have hxt : 0 ≤ x.tick ∧ x.tick ≤ S1.now := htb1.t0 x (by rw [← hM1.l0]; exact List.mem_map.2 ⟨_, List.mem_of_getElem? hx, rfl⟩)
    refine SC.seq ?_
    refine SC.sr ?_
    refine SL.mv ?_
    refine SL.mv ?_
    refine SL.mv ?_
    refine SL.nk ?_
    refine SL.fa 2 fd92_1 ?_
    refine SL.ia 2 ar75 ?_
    refine SL.ld 0 ts56 ?_
    refine SL.uu (ru_len Try.underlying56 rfl rfl) ?_
    refine SL.uu (ru_lt (b := (decide (((i : Int) : Int) < (M1.ps0.length : Int)))) rfl rfl rfl rfl) ?_
    refine SL.nr [rB wd d0 d1 M1 S1.now 92, rDv 100 d0 M1.fs (tickF S1.A0), rDv 100 d1 M1.fs S1.A1, rR0 M1 46, rR1 M1 46, rZ M1.F M1.fs, rRowN (.slice q1 ((lfF S1.now (M1.ps0.take i)).length) c1) (oRows (lfF S1.now (M1.ps0.take i))) 46 3] ?_
    refine SC.yes (show some (Value.bool (decide (((i : Int) : Int) < (M1.ps0.length : Int)))) = some (Value.bool true) from congrArg (fun x => some (Value.bool x)) (decide_eq_true (by omega))) ?_
    refine SC.skip ?_
    refine SC.of_SE ?_
    refine SC.seq ?_
    refine SC.block ?_
    refine SC.seq ?_
    refine SC.region_quiet (by kernel_rfl) (by kernel_rfl) ?_
    refine SQ.mv ?_
    refine SQ.mv ?_
    refine SQ.nk ?_
    refine SQ.fa 2 fd92_1 ?_
    refine SQ.ia 2 ar75 ?_
    refine SQ.ld 0 ts56 ?_
    refine SQ.mv ?_
    refine SQ.uu (ru_index_rowN (ri := 3) si56 rfl rfl rfl rfl (by omega) (by omega)) ?_
    refine SQ.uu (ru_fieldAddr (o2 := (i : Int).toNat * 3 + 2) fd46_2 rfl rfl rfl) ?_
    refine SQ.uu (ru_load_rowN (ri := 3) (i := (i : Int).toNat) (k := 2) (r := [Value.slice xa xn xc, bo x.bad, iw x.tick]) ts3 rfl rfl rfl (by rw [Int.toNat_natCast]; show (M1.ps0.map FmV.row)[_]? = _; rw [List.getElem?_map, hx]; rfl) (by decide) rfl) ?_
    refine SQ.mv ?_
    refine SQ.nk ?_
    refine SQ.fa 4 fd92_2 ?_
    refine SQ.ld 0 ts3 ?_
    refine SQ.uu (ru_sub (r := (IntKind.i64.wrap (S1.now - 8))) rfl rfl rfl rfl) ?_
    refine SQ.uu (ru_gt (b := (decide (((IntKind.i64.wrap (S1.now - 8)) : Int) < x.tick))) rfl rfl rfl rfl) ?_
    refine SQ.nilE ?_
    refine SC.of_SE ?_
    refine SC.norm [(0, pt wd 0), (2, iw 0), (3, Value.slice q1 ((lfF S1.now (M1.ps0.take i)).length) c1), (4, iw (i : Int)), (58, bo (decide (((IntKind.i64.wrap (S1.now - 8)) : Int) < x.tick)))] _ ⟨rfl, rfl, rfl, rfl, rfl, trivial⟩ rfl ?_
    refine SC.both (decide (((IntKind.i64.wrap (S1.now - 8)) : Int) < x.tick)) rfl (fun h22 => ?_) (fun h22 => ?_)
    · skip
      rw [new_old htb1.now hxt] at h22
      refine SC.region ?_
      refine SL.mv ?_
      refine SL.mv ?_
      refine SL.mv ?_
      refine SL.nk ?_
      refine SL.fa 2 fd92_1 ?_
      refine SL.ia 2 ar75 ?_
      refine SL.ld 0 ts56 ?_
      refine SL.mv ?_
      refine SL.uu (ru_index_rowN (ri := 3) si56 rfl rfl rfl rfl (by omega) (by omega)) ?_
      refine SL.uu (ru_loada_rowN (ri := 3) (i := (i : Int).toNat) (r := [Value.slice xa xn xc, bo x.bad, iw x.tick]) ta46 rfl rfl rfl (by rw [Int.toNat_natCast]; show (M1.ps0.map FmV.row)[_]? = _; rw [List.getElem?_map, hx]; rfl) rfl rfl) ?_
      refine SL.buildSlice (size := 3) (vals := [(0, Value.agg #[Value.slice xa xn xc, bo x.bad, iw x.tick])]) (z := [Value.slice none 0 0, bo false, iw 0]) (cs := [Value.slice xa xn xc, bo x.bad, iw x.tick]) rfl rfl (lt_b rfl) rfl Try.underlying56 (by kernel_rfl) rfl rfl (by kernel_rfl) fun b23 hb23 => ?_
      refine SL.append_rowN (ri := 6) (rj := 7) (size := 3) (r := [Value.slice xa xn xc, bo x.bad, iw x.tick]) (z := Value.agg #[Value.slice none 0 0, bo false, iw 0]) (bytes := 40) rfl rfl (lt_b rfl) rfl (by decide) Try.underlying56 (by kernel_rfl) rfl rfl rfl rfl rfl rfl rfl (by rw [List.length_map]; omega) (by unfold maxLen; rw [List.length_map]; omega) (fun b hb => hq1 b hb) fun q24 c25 hq26 => ?_
      refine SL.as ?_
      refine SL.nil ?_
      refine SE.blkn ?_
      refine SC.of_SE ?_
      refine SC.nr [rB wd d0 d1 M1 S1.now 92, rDv 100 d0 M1.fs (tickF S1.A0), rDv 100 d1 M1.fs S1.A1, rR0 M1 46, rR1 M1 46, rZ M1.F M1.fs, rRowN (.slice q24 ((lfF S1.now (M1.ps0.take i)).length + 1) c25) (oRows (lfF S1.now (M1.ps0.take i)) ++ [[Value.slice xa xn xc, bo x.bad, iw x.tick]]) 46 3, rBlk b23 [Value.slice xa xn xc, bo x.bad, iw x.tick] 46] ?_
      refine SC.region ?_
      refine SL.mv ?_
      refine SL.uu (ru_add (r := (IntKind.i64.wrap ((i : Int) + 1))) rfl rfl rfl rfl) ?_
      refine SL.as ?_
      refine SL.nil ?_
      refine SE.keep 7 ?_
      have e1 : lfF S1.now (M1.ps0.take (i + 1)) = lfF S1.now (M1.ps0.take i) ++ [⟨.slice xa xn xc, x⟩] := lf_yes hx (not_old h22)
      have er : oRows (lfF S1.now (M1.ps0.take (i + 1))) = oRows (lfF S1.now (M1.ps0.take i)) ++ [[Value.slice xa xn xc, bo x.bad, iw x.tick]] := by rw [e1]; exact List.map_append
      have el : (lfF S1.now (M1.ps0.take (i + 1))).length = (lfF S1.now (M1.ps0.take i)).length + 1 := by rw [e1, List.length_append]; rfl
      refine SE.again N (i + 1, q24, c25) (by omega) ⟨by omega, (by rw [el]; exact hq26)⟩ ⟨rfl, rfl, (congrArg (fun n9 => some (Value.slice q24 n9 c25)) el.symm), (congrArg (fun x => some (iw x)) (show IntKind.i64.wrap ((i : Int) + 1) = ((i + 1 : Nat) : Int) by rw [IntKind.wrap_i64]; omega)), trivial⟩ (by dsimp only; rw [el, er]; rfl)
    rw [new_old htb1.now hxt] at h22
    refine SC.skip ?_
    refine SE.blkn ?_
    refine SC.of_SE ?_
    refine SC.region ?_
    refine SL.mv ?_
    refine SL.uu (ru_add (r := (IntKind.i64.wrap ((i : Int) + 1))) rfl rfl rfl rfl) ?_
    refine SL.as ?_
    refine SL.nil ?_
    refine SE.keep 7 ?_
    have e1 : lfF S1.now (M1.ps0.take (i + 1)) = lfF S1.now (M1.ps0.take i) := lf_no hx (is_old h22)
    refine SE.again N (i + 1, q1, c1) (by omega) ⟨by omega, by rw [e1]; exact hq1⟩ ⟨rfl, rfl, (by dsimp only; rw [e1]; rfl), (congrArg (fun x => some (iw x)) (show IntKind.i64.wrap ((i : Int) + 1) = ((i + 1 : Nat) : Int) by rw [IntKind.wrap_i64]; omega)), trivial⟩ (by dsimp only; rw [e1]; rfl)
  · exfalso; omega

end Go.Proofs.Ytcilikkljkdceaa

/-
  The document's Damage.
-/
namespace Go.Proofs.Ytcilikkljkdceaa
open Go.RowKit
set_option maxRecDepth 100000
set_option maxHeartbeats 4000000
theorem wrap_u64s {x : Int} (h0 : 0 ≤ x) (h1 : x < 9223372036854775808) : IntKind.u64.wrap x = x := by
  have e : IntKind.u64.wrap x = x % 18446744073709551616 := by
    simp [IntKind.wrap, IntKind.bits, IntKind.signed]
  rw [e]; omega
theorem dam_cond {bit : Int} {n : Nat} : decide (8 * (n : Int) ≤ bit) = decide ((n : Int) ≤ bit / 8) := decide_eq_decide.2 ⟨fun h => by omega, fun h => by omega⟩
theorem qdamage0_any {w : World} {wd d0 d1 : Nat} {M : WM} {S : Wi} {k bit : Int} (hM : M.Ok S) (hn : M.ps0.length ≤ 3000000000000) (hbit : bit ≤ 9223372036854775807) (hfr : ∀ x ∈ S.L0, x.f.length ≤ 274) (h : Sep w (WLm 100 92 46 wd d0 d1 M S.A0 S.A1 S.now)) : Calls Try.prog 45 #[pt wd 0, iw 0, iw k, iw bit] w fun e w' => e = .returned (iw (damageF S false k bit).1) ∧ ∃ M', WTo 100 92 46 w wd d0 d1 M M' (damageF S false k bit).2 w' := by
  refine calls_sc (l0 := (WLm 100 92 46 wd d0 d1 M S.A0 S.A1 S.now)) (args := [pt wd 0, iw 0, iw k, iw bit]) (M.G wd d0 d1) Try.func45 rfl 67 Try.ntmps45 (le_b rfl) ⟨h, Only.refl _ _⟩ ?_
  show SC _ _ _ _ [(0, pt wd 0), (1, iw 0), (2, iw k), (3, iw bit)] (WLm 100 92 46 wd d0 d1 M S.A0 S.A1 S.now)
  refine SC.sr ?_
  refine SL.as ?_
  refine SL.nn [(0, pt wd 0), (1, iw 0), (2, iw k), (3, iw bit), (8, iw 0)] [rB wd d0 d1 M S.now 92, rDv 100 d0 M.fs S.A0, rDv 100 d1 M.fs S.A1, rR0 M 46, rR1 M 46, rZ M.F M.fs] ⟨rfl, rfl, rfl, rfl, rfl, trivial⟩ ?_
  refine SC.sr ?_
  refine SL.mv ?_
  refine SL.mv ?_
  refine SL.mv ?_
  refine SL.callv (iw (thereF M.ps0 k)) rfl rfl co60 rfl rfl rfl (lt_b rfl) (fun w hI => H_only hI (qthere0_any ((hI.keep 6).1))) ?_
  refine SL.as ?_
  refine SL.nn [(0, pt wd 0), (1, iw 0), (2, iw k), (3, iw bit), (8, iw 0), (9, iw (thereF M.ps0 k))] _ ⟨rfl, rfl, rfl, rfl, rfl, rfl, trivial⟩ ?_
  refine SC.seq ?_
  refine SC.sr ?_
  refine SL.mv ?_
  refine SL.uu (ru_ne (b := (((thereF M.ps0 k) : Int) != 0)) rfl rfl rfl rfl) ?_
  refine SL.nn [(0, pt wd 0), (1, iw 0), (2, iw k), (3, iw bit), (8, iw 0), (9, iw (thereF M.ps0 k)), (17, bo (((thereF M.ps0 k) : Int) != 0))] _ ⟨rfl, rfl, rfl, rfl, rfl, rfl, rfl, trivial⟩ ?_
  refine SC.both (((thereF M.ps0 k) : Int) != 0) rfl (fun h1 => ?_) (fun h1 => ?_)
  · skip
    refine SC.sr ?_
    refine SL.mv ?_
    refine SL.as ?_
    refine SL.nn [(0, pt wd 0), (1, iw 0), (2, iw k), (3, iw bit), (8, iw (thereF M.ps0 k))] _ ⟨rfl, rfl, rfl, rfl, rfl, trivial⟩ ?_
    refine SC.ret ?_
    refine SE.passr ?_
    refine SE.res (.inl rfl) (res1 Try.results45 rfl) fun w1 hI => ?_
    have eT : thereF (S.L false) k = thereF M.ps0 k := by show thereF S.L0 k = _; rw [← hM.l0, there_map]
    have ew : damageF S false k bit = (thereF M.ps0 k, S) := by unfold damageF; simp only [eT]; rw [if_pos h1]
    rw [ew]
    exact ⟨rfl, M, WTo.same (hI.keep 6).1 hM hI.2⟩
  have hth : thereF M.ps0 k = 0 := Classical.byContradiction (fun hc => ne_f h1 hc)
  obtain ⟨hk0, hk1, ⟨⟨vx, x⟩, hx⟩⟩ := there_get hth
  have hk : 0 ≤ k ∧ k < (M.ps0.length : Int) := ⟨hk0, hk1⟩
  obtain ⟨hxb, hxF, xa, xc, hxv⟩ := hM.form0 h _ (List.mem_of_getElem? hx)
  have hxf : M.fs vx x.f := hM.f0 _ (List.mem_of_getElem? hx)
  dsimp only at hxv hxb hxF
  subst hxv
  have ex : (S.L false).getD k.toNat fm0 = x := by show S.L0.getD k.toNat fm0 = x; rw [← hM.l0, List.getD_eq_getElem?_getD, List.getElem?_map, hx]; rfl
  refine SC.norm [(0, pt wd 0), (1, iw 0), (2, iw k), (3, iw bit), (8, iw 0), (9, iw (thereF M.ps0 k)), (17, bo (((thereF M.ps0 k) : Int) != 0))] _ ⟨rfl, rfl, rfl, rfl, rfl, rfl, rfl, trivial⟩ rfl ?_
  have hxl : x.f.length ≤ 274 := hfr x (by rw [← hM.l0]; exact List.mem_map.2 ⟨_, List.mem_of_getElem? hx, rfl⟩)
  refine SC.skip ?_
  refine SC.of_SE ?_
  refine SC.norm [(0, pt wd 0), (1, iw 0), (2, iw k), (3, iw bit), (8, iw 0)] _ ⟨rfl, rfl, rfl, rfl, rfl, trivial⟩ rfl ?_
  refine SC.sr ?_
  refine SL.mv ?_
  refine SL.mv ?_
  refine SL.nk ?_
  refine SL.fa 2 fd92_1 ?_
  refine SL.ia 2 ar75 ?_
  refine SL.ld 0 ts56 ?_
  refine SL.mv ?_
  refine SL.uu (ru_index_rowN (ri := 3) si56 rfl rfl rfl rfl (by omega) (by omega)) ?_
  refine SL.uu (ru_loada_rowN (ri := 3) (i := k.toNat) (r := [Value.slice xa x.f.length xc, bo x.bad, iw x.tick]) ta46 rfl rfl rfl (by show (M.ps0.map FmV.row)[_]? = _; rw [List.getElem?_map, hx]; rfl) rfl rfl) ?_
  refine SL.alloca rfl rfl (lt_b rfl) ta46 rfl fun b2 hb2 => ?_
  refine SL.storea (i := 6) (vs := [Value.slice xa x.f.length xc, bo x.bad, iw x.tick]) (c' := [Value.slice xa x.f.length xc, bo x.bad, iw x.tick]) rfl rfl ta46 rfl rfl rfl rfl rfl rfl (le_b rfl) (.inr hb2) rfl ?_
  refine SL.nn [(0, pt wd 0), (1, iw 0), (2, iw k), (3, iw bit), (8, iw 0), (10, pt b2 0)] [rB wd d0 d1 M S.now 92, rDv 100 d0 M.fs S.A0, rDv 100 d1 M.fs S.A1, rR0 M 46, rR1 M 46, rZ M.F M.fs, rBlk b2 [Value.slice xa x.f.length xc, bo x.bad, iw x.tick] 46] ⟨rfl, rfl, rfl, rfl, rfl, rfl, trivial⟩ ?_
  refine SC.seq ?_
  refine SC.sr ?_
  refine SL.mv ?_
  refine SL.uu (ru_lt (b := (decide ((bit : Int) < 0))) rfl rfl rfl rfl) ?_
  refine SL.mv ?_
  refine SL.join 7 [(0, pt wd 0), (1, iw 0), (2, iw k), (3, iw bit), (8, iw 0), (10, pt b2 0), (28, iw bit), (29, bo (decide ((bit : Int) < 0))), (30, bo (decide ((bit : Int) < 0))), (37, bo ((decide ((bit : Int) < 0)) || (decide (((8 * (x.f.length : Int)) : Int) ≤ bit))))] [rB wd d0 d1 M S.now 92, rDv 100 d0 M.fs S.A0, rDv 100 d1 M.fs S.A1, rR0 M 46, rR1 M 46, rZ M.F M.fs, rBlk b2 [Value.slice xa x.f.length xc, bo x.bad, iw x.tick] 46] ?_ ?_
  rotate_left
  · intro K hK
    rcases tf (decide ((bit : Int) < 0)) with h3 | h3
    · skip
      refine SL.norm [(0, pt wd 0), (1, iw 0), (2, iw k), (3, iw bit), (8, iw 0), (10, pt b2 0), (28, iw bit), (29, bo true), (30, bo true)] _ ⟨rfl, rfl, rfl, rfl, rfl, rfl, rfl, (congrArg (fun x => some (Value.bool x)) h3), (congrArg (fun x => some (Value.bool x)) h3), trivial⟩ rfl ?_
      refine SL.oo ?_
      refine SL.oo ?_
      refine SL.oo ?_
      refine SL.oo ?_
      refine SL.oo ?_
      refine SL.oo ?_
      refine SL.pk (bo true) (undef) ?_
      exact SL.joined hK ⟨rfl, rfl, rfl, rfl, rfl, rfl, rfl, (congrArg (fun x => some (Value.bool x)) h3.symm), (congrArg (fun x => some (Value.bool x)) h3.symm), (congrArg (fun bx => some (Value.bool (bx || (decide (((8 * (x.f.length : Int)) : Int) ≤ bit))))) h3.symm), trivial⟩ rfl
    refine SL.norm [(0, pt wd 0), (1, iw 0), (2, iw k), (3, iw bit), (8, iw 0), (10, pt b2 0), (28, iw bit), (29, bo false), (30, bo false)] _ ⟨rfl, rfl, rfl, rfl, rfl, rfl, rfl, (congrArg (fun x => some (Value.bool x)) h3), (congrArg (fun x => some (Value.bool x)) h3), trivial⟩ rfl ?_
    refine SL.gg (ru_move rfl rfl) ?_
    refine SL.gg (ru_fieldAddr (o2 := 0) fd46_0 rfl rfl rfl) ?_
    refine SL.gg (ru_load (i := 6) ts28 rfl rfl rfl rfl) ?_
    refine SL.gg (ru_len Try.underlying28 rfl rfl) ?_
    refine SL.gg (ru_mul (r := (8 * (x.f.length : Int))) rfl rfl rfl ((show IntKind.i64.wrap (8 * (x.f.length : Int)) = _ by rw [IntKind.wrap_i64]; omega))) ?_
    refine SL.gg (ru_ge (b := (decide (((8 * (x.f.length : Int)) : Int) ≤ bit))) rfl rfl rfl rfl) ?_
    refine SL.pk (bo true) (bo (decide (((8 * (x.f.length : Int)) : Int) ≤ bit))) ?_
    exact SL.joined hK ⟨rfl, rfl, rfl, rfl, rfl, rfl, rfl, (congrArg (fun x => some (Value.bool x)) h3.symm), (congrArg (fun x => some (Value.bool x)) h3.symm), (congrArg (fun bx => some (Value.bool (bx || (decide (((8 * (x.f.length : Int)) : Int) ≤ bit))))) h3.symm), trivial⟩ rfl
  skip
  refine SL.nn [(0, pt wd 0), (1, iw 0), (2, iw k), (3, iw bit), (8, iw 0), (10, pt b2 0), (37, bo ((decide ((bit : Int) < 0)) || (decide (((8 * (x.f.length : Int)) : Int) ≤ bit))))] _ ⟨rfl, rfl, rfl, rfl, rfl, rfl, rfl, trivial⟩ ?_
  refine SC.both ((decide ((bit : Int) < 0)) || (decide (((8 * (x.f.length : Int)) : Int) ≤ bit))) rfl (fun h4 => ?_) (fun h4 => ?_)
  · skip
    rw [dam_cond] at h4
    refine SC.sr ?_
    refine SL.as ?_
    refine SL.nn [(0, pt wd 0), (1, iw 0), (2, iw k), (3, iw bit), (8, iw 1), (10, pt b2 0)] _ ⟨rfl, rfl, rfl, rfl, rfl, rfl, trivial⟩ ?_
    refine SC.ret ?_
    refine SE.passr ?_
    refine SE.res (.inl rfl) (res1 Try.results45 rfl) fun w1 hI => ?_
    have eT : thereF (S.L false) k = thereF M.ps0 k := by show thereF S.L0 k = _; rw [← hM.l0, there_map]
    have ew : damageF S false k bit = (1, S) := by unfold damageF; simp only [eT, ex]; rw [if_neg (not_t h1), if_pos h4]
    rw [ew]
    exact ⟨rfl, M, WTo.same (hI.keep 6).1 hM hI.2⟩
  rw [dam_cond] at h4
  have hbt : 0 ≤ bit ∧ bit / 8 < (x.f.length : Int) := by simp only [Bool.or_eq_false_iff, decide_eq_false_iff_not] at h4; omega
  obtain ⟨y, hy⟩ : ∃ y, x.f[(bit / 8).toNat]? = some y := ⟨_, List.getElem?_eq_getElem (by omega)⟩
  refine SC.skip ?_
  refine SC.of_SE ?_
  refine SC.norm [(0, pt wd 0), (1, iw 0), (2, iw k), (3, iw bit), (8, iw 0), (10, pt b2 0)] _ ⟨rfl, rfl, rfl, rfl, rfl, rfl, trivial⟩ rfl ?_
  refine SC.seq ?_
  refine SC.rows (rMine (.slice none 0 0) [] 5) (fun b hb => by cases hb) (fun w => ⟨rfl, .inl ⟨rfl, rfl⟩⟩) ?_
  refine SC.region ?_
  refine SL.fa 0 fd46_0 ?_
  refine SL.ld 6 ts28 ?_
  refine SL.append_mineB (ri := 7) (h := x.f) rfl rfl (lt_b rfl) rfl Try.underlying28 (by kernel_rfl) rfl rfl rfl (fun w hI => ((hI.1.get (i := 5) rfl).2 _ _ hxf).1) (by simp; omega) (fun b hb => by simp [Value.ownBlock] at hb) fun q5 c6 hq7 => ?_
  have hq7n : ∀ b, (Value.slice q5 x.f.length c6).ownBlock = some b → w.heap.size ≤ b := fun b hb => (hq7 b hb).elim (fun h => by simp [Value.ownBlock] at h) id
  refine SL.weak (i := 7) (rRowN (.slice q5 x.f.length c6) (bRows x.f) 5 1) rfl (fun w h => mine_rows.1 h) (fun b hb => hb) ?_
  refine SL.norm [(0, pt wd 0), (1, iw 0), (2, iw k), (3, iw bit), (8, iw 0), (10, pt b2 0), (38, pt b2 0), (39, Value.slice xa x.f.length xc), (40, Value.slice q5 x.f.length c6)] [rB wd d0 d1 M S.now 92, rDv 100 d0 M.fs S.A0, rDv 100 d1 M.fs S.A1, rR0 M 46, rR1 M 46, rZ M.F M.fs, rBlk b2 [Value.slice xa x.f.length xc, bo x.bad, iw x.tick] 46, rRowN (.slice q5 x.f.length c6) (bRows x.f) 5 1] ⟨rfl, rfl, rfl, rfl, rfl, rfl, rfl, rfl, rfl, trivial⟩ rfl ?_
  refine SL.as ?_
  refine SL.nn [(0, pt wd 0), (1, iw 0), (2, iw k), (3, iw bit), (8, iw 0), (10, pt b2 0), (11, Value.slice q5 x.f.length c6)] _ ⟨rfl, rfl, rfl, rfl, rfl, rfl, rfl, trivial⟩ ?_
  refine SC.sr ?_
  refine SL.mv ?_
  refine SL.mv ?_
  refine SL.uu (ru_quo (r := (bit / 8)) rfl rfl rfl (by decide) ((show IntKind.i64.wrap (Int.tdiv bit 8) = bit / 8 by rw [Int.tdiv_eq_ediv_of_nonneg (by omega), IntKind.wrap_i64]; omega))) ?_
  refine SL.mv ?_
  refine SL.mv ?_
  refine SL.uu (ru_quo (r := (bit / 8)) rfl rfl rfl (by decide) ((show IntKind.i64.wrap (Int.tdiv bit 8) = bit / 8 by rw [Int.tdiv_eq_ediv_of_nonneg (by omega), IntKind.wrap_i64]; omega))) ?_
  refine SL.uu (ru_index_rowN (ri := 7) si28 rfl rfl rfl rfl (by omega) (by omega)) ?_
  refine SL.uu (ru_load_rowN (ri := 7) (i := (bit / 8).toNat) (k := 0) (r := [bv y]) ts5 rfl rfl rfl (by show (List.map _ x.f)[_]? = _; rw [List.getElem?_map, hy]; rfl) (by decide) rfl) ?_
  refine SL.mv ?_
  refine SL.uu (ru_rem (r := (bit % 8)) rfl rfl rfl (by decide) ((Int.tmod_eq_emod_of_nonneg (by omega)))) ?_
  refine SL.uu (ru_conv (r := (bit % 8)) ⟨_, Try.underlying3⟩ Try.underlying103 rfl rfl (show IntKind.u64.wrap (bit % 8) = bit % 8 by exact wrap_u64s (by omega) (by omega))) ?_
  refine SL.uu (ru_shl (r := IntKind.u8.wrap (1 * 2 ^ min (bit % 8).toNat 8)) (by omega) rfl rfl rfl rfl) ?_
  refine SL.uu (ru_xor (p := (y.toNat : Int)) (r := ((y ^^^ UInt8.ofNat (2 ^ (bit % 8).toNat)).toNat : Int)) rfl rfl rfl (dam_byte y (by omega))) ?_
  refine SL.uu (ru_index_rowN (ri := 7) si28 rfl rfl rfl rfl (by omega) (by omega)) ?_
  refine SL.store_rowN (ri := 7) (i := (bit / 8).toNat) (k := 0) (r := [bv y]) rfl rfl ts5 rfl rfl rfl rfl rfl (by show (List.map _ x.f)[_]? = _; rw [List.getElem?_map, hy]; rfl) (by decide) (fun b hb => .inr (hq7n b hb)) ?_
  refine SL.nn [(0, pt wd 0), (1, iw 0), (2, iw k), (8, iw 0), (10, pt b2 0), (11, Value.slice q5 x.f.length c6)] [rB wd d0 d1 M S.now 92, rDv 100 d0 M.fs S.A0, rDv 100 d1 M.fs S.A1, rR0 M 46, rR1 M 46, rZ M.F M.fs, rBlk b2 [Value.slice xa x.f.length xc, bo x.bad, iw x.tick] 46, rRowN (.slice q5 x.f.length c6) ((bRows x.f).set ((bit / 8).toNat) ([bv y].set 0 (bv (y ^^^ UInt8.ofNat (2 ^ (bit % 8).toNat))))) 5 1] ⟨rfl, rfl, rfl, rfl, rfl, rfl, trivial⟩ ?_
  refine SC.seq ?_
  refine SC.region_tail 12 (by kernel_rfl) (by kernel_rfl) ?_
  refine SQ.mv ?_
  refine SQ.mv ?_
  refine SQ.nk ?_
  refine SQ.fa 2 fd92_1 ?_
  refine SQ.ia 2 ar75 ?_
  refine SQ.ld 0 ts56 ?_
  refine SQ.mv ?_
  refine SQ.mv ?_
  refine SQ.fa 2 fd46_2 ?_
  refine SQ.ld 6 ts3 ?_
  refine SQ.uu (ru_build (vals := [(0, Value.slice q5 x.f.length c6), (1, bo true), (2, iw x.tick)]) (cells := [Value.slice q5 x.f.length c6, bo true, iw x.tick]) rfl rfl (by kernel_rfl)) ?_
  refine SQ.uu (ru_index_rowN (ri := 3) si56 rfl rfl rfl rfl (by omega) (by omega)) ?_
  refine SQ.nilL ?_
  refine SL.storea_rowN (ri := 3) (i := k.toNat) (vs := [Value.slice q5 x.f.length c6, bo true, iw x.tick]) rfl rfl ta46 rfl rfl rfl rfl rfl rfl rfl (by rw [List.length_map]; omega) (fun b hb => .inl (.inr (.inr (.inr (.inl hb))))) ?_
  refine SL.nn [(8, iw 0)] [rB wd d0 d1 M S.now 92, rDv 100 d0 M.fs S.A0, rDv 100 d1 M.fs S.A1, rRowN (.slice M.q0 M.ps0.length M.c0) ((oRows M.ps0).set k.toNat [Value.slice q5 x.f.length c6, bo true, iw x.tick]) 46 3, rR1 M 46, rZ M.F M.fs, rBlk b2 [Value.slice xa x.f.length xc, bo x.bad, iw x.tick] 46, rRowN (.slice q5 x.f.length c6) ((bRows x.f).set ((bit / 8).toNat) ([bv y].set 0 (bv (y ^^^ UInt8.ofNat (2 ^ (bit % 8).toNat))))) 5 1] ⟨rfl, trivial⟩ ?_
  refine SC.sr ?_
  refine SL.as ?_
  refine SL.nn [(8, iw 0)] _ ⟨rfl, trivial⟩ ?_
  refine SC.ret ?_
  refine SE.res (.inl rfl) (res1 Try.results45 rfl) fun w1 hI => ?_
  have eT : thereF (S.L false) k = thereF M.ps0 k := by show thereF S.L0 k = _; rw [← hM.l0, there_map]
  have ew : damageF S false k bit = (0, S.setL false (S.L0.set k.toNat ⟨damF x.f bit, true, x.tick⟩)) := by unfold damageF; simp only [eT, ex]; rw [if_neg (not_t h1), if_neg (not_t h4)]; rfl
  have er : (oRows M.ps0).set k.toNat [Value.slice q5 x.f.length c6, bo true, iw x.tick] = oRows (M.ps0.set k.toNat ⟨.slice q5 x.f.length c6, ⟨damF x.f bit, true, x.tick⟩⟩) := (List.map_set (f := FmV.row) (a := (⟨.slice q5 x.f.length c6, ⟨damF x.f bit, true, x.tick⟩⟩ : FmV))).symm
  have eb : (bRows x.f).set ((bit / 8).toNat) ([bv y].set 0 (bv (y ^^^ UInt8.ofNat (2 ^ (bit % 8).toNat)))) = bRows (damF x.f bit) := by unfold damF; rw [show bit.toNat / 8 = (bit / 8).toNat by omega, show bit.toNat % 8 = (bit % 8).toNat by omega, List.getD_eq_getElem?_getD, hy]; exact bRows_set _ _ _
  have el : (M.ps0.set k.toNat (⟨.slice q5 x.f.length c6, ⟨damF x.f bit, true, x.tick⟩⟩ : FmV)).length = M.ps0.length := List.length_set
  have ed : (damF x.f bit).length = x.f.length := List.length_set
  have hJ : Inv ⟨67, w, M.G wd d0 d1⟩ w1 [rBlk wd [pt d0 0, pt d1 0, Value.slice M.q0 M.ps0.length M.c0, Value.slice M.q1 M.ps1.length M.c1, iw S.now] 92, rDv 100 d0 M.fs S.A0, rDv 100 d1 M.fs S.A1, rRowN (.slice M.q0 M.ps0.length M.c0) ((oRows M.ps0).set k.toNat [Value.slice q5 x.f.length c6, bo true, iw x.tick]) 46 3, rRowN (.slice M.q1 M.ps1.length M.c1) (oRows M.ps1) 46 3, rZ M.F M.fs, rRowN (.slice q5 x.f.length c6) ((bRows x.f).set ((bit / 8).toNat) ([bv y].set 0 (bv (y ^^^ UInt8.ofNat (2 ^ (bit % 8).toNat))))) 5 1] := hI.reo [0, 1, 2, 3, 4, 5, 7] (by decide)
  rw [er, eb, ← el] at hJ
  have hZ := Inv.freeze (l := []) (Inv.weak (i := 6) (r' := rMine (.slice q5 x.f.length c6) (damF x.f bit) 5) hJ rfl (fun h => mine_rows.2 h) (fun b hb => hb)) (by omega)
  rw [ew]
  exact ⟨rfl, { M with F := fun b => M.F b ∨ (Value.slice q5 x.f.length c6).ownBlock = some b, fs := fun v f => M.fs v f ∨ v = .slice q5 x.f.length c6 ∧ f = damF x.f bit, ps0 := M.ps0.set k.toNat ⟨.slice q5 x.f.length c6, ⟨damF x.f bit, true, x.tick⟩⟩ }, ⟨(hZ.keep 6).1, hM.set0 (y := ⟨.slice q5 x.f.length c6, ⟨damF x.f bit, true, x.tick⟩⟩) (fun v f h => .inl h) (.inr ⟨rfl, rfl⟩) k, fun v f h => .inl h, fun b hb => WM.K.frz (M' := { M with ps0 := M.ps0.set k.toNat ⟨.slice q5 x.f.length c6, ⟨damF x.f bit, true, x.tick⟩⟩ }) hb (fun b hb => WM.K.same0 hb) (fun b hb => hb.imp id (hq7n b)), hZ.2⟩⟩
theorem qdamage1_any {w : World} {wd d0 d1 : Nat} {M : WM} {S : Wi} {k bit : Int} (hM : M.Ok S) (hn : M.ps1.length ≤ 3000000000000) (hbit : bit ≤ 9223372036854775807) (hfr : ∀ x ∈ S.L1, x.f.length ≤ 274) (h : Sep w (WLm 100 92 46 wd d0 d1 M S.A0 S.A1 S.now)) : Calls Try.prog 45 #[pt wd 0, iw 1, iw k, iw bit] w fun e w' => e = .returned (iw (damageF S true k bit).1) ∧ ∃ M', WTo 100 92 46 w wd d0 d1 M M' (damageF S true k bit).2 w' := by
  refine calls_sc (l0 := (WLm 100 92 46 wd d0 d1 M S.A0 S.A1 S.now)) (args := [pt wd 0, iw 1, iw k, iw bit]) (M.G wd d0 d1) Try.func45 rfl 67 Try.ntmps45 (le_b rfl) ⟨h, Only.refl _ _⟩ ?_
  show SC _ _ _ _ [(0, pt wd 0), (1, iw 1), (2, iw k), (3, iw bit)] (WLm 100 92 46 wd d0 d1 M S.A0 S.A1 S.now)
  refine SC.sr ?_
  refine SL.as ?_
  refine SL.nn [(0, pt wd 0), (1, iw 1), (2, iw k), (3, iw bit), (8, iw 0)] [rB wd d0 d1 M S.now 92, rDv 100 d0 M.fs S.A0, rDv 100 d1 M.fs S.A1, rR0 M 46, rR1 M 46, rZ M.F M.fs] ⟨rfl, rfl, rfl, rfl, rfl, trivial⟩ ?_
  refine SC.sr ?_
  refine SL.mv ?_
  refine SL.mv ?_
  refine SL.mv ?_
  refine SL.callv (iw (thereF M.ps1 k)) rfl rfl co60 rfl rfl rfl (lt_b rfl) (fun w hI => H_only hI (qthere1_any ((hI.keep 6).1))) ?_
  refine SL.as ?_
  refine SL.nn [(0, pt wd 0), (1, iw 1), (2, iw k), (3, iw bit), (8, iw 0), (9, iw (thereF M.ps1 k))] _ ⟨rfl, rfl, rfl, rfl, rfl, rfl, trivial⟩ ?_
  refine SC.seq ?_
  refine SC.sr ?_
  refine SL.mv ?_
  refine SL.uu (ru_ne (b := (((thereF M.ps1 k) : Int) != 0)) rfl rfl rfl rfl) ?_
  refine SL.nn [(0, pt wd 0), (1, iw 1), (2, iw k), (3, iw bit), (8, iw 0), (9, iw (thereF M.ps1 k)), (17, bo (((thereF M.ps1 k) : Int) != 0))] _ ⟨rfl, rfl, rfl, rfl, rfl, rfl, rfl, trivial⟩ ?_
  refine SC.both (((thereF M.ps1 k) : Int) != 0) rfl (fun h1 => ?_) (fun h1 => ?_)
  · skip
    refine SC.sr ?_
    refine SL.mv ?_
    refine SL.as ?_
    refine SL.nn [(0, pt wd 0), (1, iw 1), (2, iw k), (3, iw bit), (8, iw (thereF M.ps1 k))] _ ⟨rfl, rfl, rfl, rfl, rfl, trivial⟩ ?_
    refine SC.ret ?_
    refine SE.passr ?_
    refine SE.res (.inl rfl) (res1 Try.results45 rfl) fun w1 hI => ?_
    have eT : thereF (S.L true) k = thereF M.ps1 k := by show thereF S.L1 k = _; rw [← hM.l1, there_map]
    have ew : damageF S true k bit = (thereF M.ps1 k, S) := by unfold damageF; simp only [eT]; rw [if_pos h1]
    rw [ew]
    exact ⟨rfl, M, WTo.same (hI.keep 6).1 hM hI.2⟩
  have hth : thereF M.ps1 k = 0 := Classical.byContradiction (fun hc => ne_f h1 hc)
  obtain ⟨hk0, hk1, ⟨⟨vx, x⟩, hx⟩⟩ := there_get hth
  have hk : 0 ≤ k ∧ k < (M.ps1.length : Int) := ⟨hk0, hk1⟩
  obtain ⟨hxb, hxF, xa, xc, hxv⟩ := hM.form1 h _ (List.mem_of_getElem? hx)
  have hxf : M.fs vx x.f := hM.f1 _ (List.mem_of_getElem? hx)
  dsimp only at hxv hxb hxF
  subst hxv
  have ex : (S.L true).getD k.toNat fm0 = x := by show S.L1.getD k.toNat fm0 = x; rw [← hM.l1, List.getD_eq_getElem?_getD, List.getElem?_map, hx]; rfl
  refine SC.norm [(0, pt wd 0), (1, iw 1), (2, iw k), (3, iw bit), (8, iw 0), (9, iw (thereF M.ps1 k)), (17, bo (((thereF M.ps1 k) : Int) != 0))] _ ⟨rfl, rfl, rfl, rfl, rfl, rfl, rfl, trivial⟩ rfl ?_
  have hxl : x.f.length ≤ 274 := hfr x (by rw [← hM.l1]; exact List.mem_map.2 ⟨_, List.mem_of_getElem? hx, rfl⟩)
  refine SC.skip ?_
  refine SC.of_SE ?_
  refine SC.norm [(0, pt wd 0), (1, iw 1), (2, iw k), (3, iw bit), (8, iw 0)] _ ⟨rfl, rfl, rfl, rfl, rfl, trivial⟩ rfl ?_
  refine SC.sr ?_
  refine SL.mv ?_
  refine SL.mv ?_
  refine SL.nk ?_
  refine SL.fa 2 fd92_1 ?_
  refine SL.ia 3 ar75 ?_
  refine SL.ld 0 ts56 ?_
  refine SL.mv ?_
  refine SL.uu (ru_index_rowN (ri := 4) si56 rfl rfl rfl rfl (by omega) (by omega)) ?_
  refine SL.uu (ru_loada_rowN (ri := 4) (i := k.toNat) (r := [Value.slice xa x.f.length xc, bo x.bad, iw x.tick]) ta46 rfl rfl rfl (by show (M.ps1.map FmV.row)[_]? = _; rw [List.getElem?_map, hx]; rfl) rfl rfl) ?_
  refine SL.alloca rfl rfl (lt_b rfl) ta46 rfl fun b2 hb2 => ?_
  refine SL.storea (i := 6) (vs := [Value.slice xa x.f.length xc, bo x.bad, iw x.tick]) (c' := [Value.slice xa x.f.length xc, bo x.bad, iw x.tick]) rfl rfl ta46 rfl rfl rfl rfl rfl rfl (le_b rfl) (.inr hb2) rfl ?_
  refine SL.nn [(0, pt wd 0), (1, iw 1), (2, iw k), (3, iw bit), (8, iw 0), (10, pt b2 0)] [rB wd d0 d1 M S.now 92, rDv 100 d0 M.fs S.A0, rDv 100 d1 M.fs S.A1, rR0 M 46, rR1 M 46, rZ M.F M.fs, rBlk b2 [Value.slice xa x.f.length xc, bo x.bad, iw x.tick] 46] ⟨rfl, rfl, rfl, rfl, rfl, rfl, trivial⟩ ?_
  refine SC.seq ?_
  refine SC.sr ?_
  refine SL.mv ?_
  refine SL.uu (ru_lt (b := (decide ((bit : Int) < 0))) rfl rfl rfl rfl) ?_
  refine SL.mv ?_
  refine SL.join 7 [(0, pt wd 0), (1, iw 1), (2, iw k), (3, iw bit), (8, iw 0), (10, pt b2 0), (28, iw bit), (29, bo (decide ((bit : Int) < 0))), (30, bo (decide ((bit : Int) < 0))), (37, bo ((decide ((bit : Int) < 0)) || (decide (((8 * (x.f.length : Int)) : Int) ≤ bit))))] [rB wd d0 d1 M S.now 92, rDv 100 d0 M.fs S.A0, rDv 100 d1 M.fs S.A1, rR0 M 46, rR1 M 46, rZ M.F M.fs, rBlk b2 [Value.slice xa x.f.length xc, bo x.bad, iw x.tick] 46] ?_ ?_
  rotate_left
  · intro K hK
    rcases tf (decide ((bit : Int) < 0)) with h3 | h3
    · skip
      refine SL.norm [(0, pt wd 0), (1, iw 1), (2, iw k), (3, iw bit), (8, iw 0), (10, pt b2 0), (28, iw bit), (29, bo true), (30, bo true)] _ ⟨rfl, rfl, rfl, rfl, rfl, rfl, rfl, (congrArg (fun x => some (Value.bool x)) h3), (congrArg (fun x => some (Value.bool x)) h3), trivial⟩ rfl ?_
      refine SL.oo ?_
      refine SL.oo ?_
      refine SL.oo ?_
      refine SL.oo ?_
      refine SL.oo ?_
      refine SL.oo ?_
      refine SL.pk (bo true) (undef) ?_
      exact SL.joined hK ⟨rfl, rfl, rfl, rfl, rfl, rfl, rfl, (congrArg (fun x => some (Value.bool x)) h3.symm), (congrArg (fun x => some (Value.bool x)) h3.symm), (congrArg (fun bx => some (Value.bool (bx || (decide (((8 * (x.f.length : Int)) : Int) ≤ bit))))) h3.symm), trivial⟩ rfl
    refine SL.norm [(0, pt wd 0), (1, iw 1), (2, iw k), (3, iw bit), (8, iw 0), (10, pt b2 0), (28, iw bit), (29, bo false), (30, bo false)] _ ⟨rfl, rfl, rfl, rfl, rfl, rfl, rfl, (congrArg (fun x => some (Value.bool x)) h3), (congrArg (fun x => some (Value.bool x)) h3), trivial⟩ rfl ?_
    refine SL.gg (ru_move rfl rfl) ?_
    refine SL.gg (ru_fieldAddr (o2 := 0) fd46_0 rfl rfl rfl) ?_
    refine SL.gg (ru_load (i := 6) ts28 rfl rfl rfl rfl) ?_
    refine SL.gg (ru_len Try.underlying28 rfl rfl) ?_
    refine SL.gg (ru_mul (r := (8 * (x.f.length : Int))) rfl rfl rfl ((show IntKind.i64.wrap (8 * (x.f.length : Int)) = _ by rw [IntKind.wrap_i64]; omega))) ?_
    refine SL.gg (ru_ge (b := (decide (((8 * (x.f.length : Int)) : Int) ≤ bit))) rfl rfl rfl rfl) ?_
    refine SL.pk (bo true) (bo (decide (((8 * (x.f.length : Int)) : Int) ≤ bit))) ?_
    exact SL.joined hK ⟨rfl, rfl, rfl, rfl, rfl, rfl, rfl, (congrArg (fun x => some (Value.bool x)) h3.symm), (congrArg (fun x => some (Value.bool x)) h3.symm), (congrArg (fun bx => some (Value.bool (bx || (decide (((8 * (x.f.length : Int)) : Int) ≤ bit))))) h3.symm), trivial⟩ rfl
  skip
  refine SL.nn [(0, pt wd 0), (1, iw 1), (2, iw k), (3, iw bit), (8, iw 0), (10, pt b2 0), (37, bo ((decide ((bit : Int) < 0)) || (decide (((8 * (x.f.length : Int)) : Int) ≤ bit))))] _ ⟨rfl, rfl, rfl, rfl, rfl, rfl, rfl, trivial⟩ ?_
  refine SC.both ((decide ((bit : Int) < 0)) || (decide (((8 * (x.f.length : Int)) : Int) ≤ bit))) rfl (fun h4 => ?_) (fun h4 => ?_)
  · skip
    rw [dam_cond] at h4
    refine SC.sr ?_
    refine SL.as ?_
    refine SL.nn [(0, pt wd 0), (1, iw 1), (2, iw k), (3, iw bit), (8, iw 1), (10, pt b2 0)] _ ⟨rfl, rfl, rfl, rfl, rfl, rfl, trivial⟩ ?_
    refine SC.ret ?_
    refine SE.passr ?_
    refine SE.res (.inl rfl) (res1 Try.results45 rfl) fun w1 hI => ?_
    have eT : thereF (S.L true) k = thereF M.ps1 k := by show thereF S.L1 k = _; rw [← hM.l1, there_map]
    have ew : damageF S true k bit = (1, S) := by unfold damageF; simp only [eT, ex]; rw [if_neg (not_t h1), if_pos h4]
    rw [ew]
    exact ⟨rfl, M, WTo.same (hI.keep 6).1 hM hI.2⟩
  rw [dam_cond] at h4
  have hbt : 0 ≤ bit ∧ bit / 8 < (x.f.length : Int) := by simp only [Bool.or_eq_false_iff, decide_eq_false_iff_not] at h4; omega
  obtain ⟨y, hy⟩ : ∃ y, x.f[(bit / 8).toNat]? = some y := ⟨_, List.getElem?_eq_getElem (by omega)⟩
  refine SC.skip ?_
  refine SC.of_SE ?_
  refine SC.norm [(0, pt wd 0), (1, iw 1), (2, iw k), (3, iw bit), (8, iw 0), (10, pt b2 0)] _ ⟨rfl, rfl, rfl, rfl, rfl, rfl, trivial⟩ rfl ?_
  refine SC.seq ?_
  refine SC.rows (rMine (.slice none 0 0) [] 5) (fun b hb => by cases hb) (fun w => ⟨rfl, .inl ⟨rfl, rfl⟩⟩) ?_
  refine SC.region ?_
  refine SL.fa 0 fd46_0 ?_
  refine SL.ld 6 ts28 ?_
  refine SL.append_mineB (ri := 7) (h := x.f) rfl rfl (lt_b rfl) rfl Try.underlying28 (by kernel_rfl) rfl rfl rfl (fun w hI => ((hI.1.get (i := 5) rfl).2 _ _ hxf).1) (by simp; omega) (fun b hb => by simp [Value.ownBlock] at hb) fun q5 c6 hq7 => ?_
  have hq7n : ∀ b, (Value.slice q5 x.f.length c6).ownBlock = some b → w.heap.size ≤ b := fun b hb => (hq7 b hb).elim (fun h => by simp [Value.ownBlock] at h) id
  refine SL.weak (i := 7) (rRowN (.slice q5 x.f.length c6) (bRows x.f) 5 1) rfl (fun w h => mine_rows.1 h) (fun b hb => hb) ?_
  refine SL.norm [(0, pt wd 0), (1, iw 1), (2, iw k), (3, iw bit), (8, iw 0), (10, pt b2 0), (38, pt b2 0), (39, Value.slice xa x.f.length xc), (40, Value.slice q5 x.f.length c6)] [rB wd d0 d1 M S.now 92, rDv 100 d0 M.fs S.A0, rDv 100 d1 M.fs S.A1, rR0 M 46, rR1 M 46, rZ M.F M.fs, rBlk b2 [Value.slice xa x.f.length xc, bo x.bad, iw x.tick] 46, rRowN (.slice q5 x.f.length c6) (bRows x.f) 5 1] ⟨rfl, rfl, rfl, rfl, rfl, rfl, rfl, rfl, rfl, trivial⟩ rfl ?_
  refine SL.as ?_
  refine SL.nn [(0, pt wd 0), (1, iw 1), (2, iw k), (3, iw bit), (8, iw 0), (10, pt b2 0), (11, Value.slice q5 x.f.length c6)] _ ⟨rfl, rfl, rfl, rfl, rfl, rfl, rfl, trivial⟩ ?_
  refine SC.sr ?_
  refine SL.mv ?_
  refine SL.mv ?_
  refine SL.uu (ru_quo (r := (bit / 8)) rfl rfl rfl (by decide) ((show IntKind.i64.wrap (Int.tdiv bit 8) = bit / 8 by rw [Int.tdiv_eq_ediv_of_nonneg (by omega), IntKind.wrap_i64]; omega))) ?_
  refine SL.mv ?_
  refine SL.mv ?_
  refine SL.uu (ru_quo (r := (bit / 8)) rfl rfl rfl (by decide) ((show IntKind.i64.wrap (Int.tdiv bit 8) = bit / 8 by rw [Int.tdiv_eq_ediv_of_nonneg (by omega), IntKind.wrap_i64]; omega))) ?_
  refine SL.uu (ru_index_rowN (ri := 7) si28 rfl rfl rfl rfl (by omega) (by omega)) ?_
  refine SL.uu (ru_load_rowN (ri := 7) (i := (bit / 8).toNat) (k := 0) (r := [bv y]) ts5 rfl rfl rfl (by show (List.map _ x.f)[_]? = _; rw [List.getElem?_map, hy]; rfl) (by decide) rfl) ?_
  refine SL.mv ?_
  refine SL.uu (ru_rem (r := (bit % 8)) rfl rfl rfl (by decide) ((Int.tmod_eq_emod_of_nonneg (by omega)))) ?_
  refine SL.uu (ru_conv (r := (bit % 8)) ⟨_, Try.underlying3⟩ Try.underlying103 rfl rfl (show IntKind.u64.wrap (bit % 8) = bit % 8 by exact wrap_u64s (by omega) (by omega))) ?_
  refine SL.uu (ru_shl (r := IntKind.u8.wrap (1 * 2 ^ min (bit % 8).toNat 8)) (by omega) rfl rfl rfl rfl) ?_
  refine SL.uu (ru_xor (p := (y.toNat : Int)) (r := ((y ^^^ UInt8.ofNat (2 ^ (bit % 8).toNat)).toNat : Int)) rfl rfl rfl (dam_byte y (by omega))) ?_
  refine SL.uu (ru_index_rowN (ri := 7) si28 rfl rfl rfl rfl (by omega) (by omega)) ?_
  refine SL.store_rowN (ri := 7) (i := (bit / 8).toNat) (k := 0) (r := [bv y]) rfl rfl ts5 rfl rfl rfl rfl rfl (by show (List.map _ x.f)[_]? = _; rw [List.getElem?_map, hy]; rfl) (by decide) (fun b hb => .inr (hq7n b hb)) ?_
  refine SL.nn [(0, pt wd 0), (1, iw 1), (2, iw k), (8, iw 0), (10, pt b2 0), (11, Value.slice q5 x.f.length c6)] [rB wd d0 d1 M S.now 92, rDv 100 d0 M.fs S.A0, rDv 100 d1 M.fs S.A1, rR0 M 46, rR1 M 46, rZ M.F M.fs, rBlk b2 [Value.slice xa x.f.length xc, bo x.bad, iw x.tick] 46, rRowN (.slice q5 x.f.length c6) ((bRows x.f).set ((bit / 8).toNat) ([bv y].set 0 (bv (y ^^^ UInt8.ofNat (2 ^ (bit % 8).toNat))))) 5 1] ⟨rfl, rfl, rfl, rfl, rfl, rfl, trivial⟩ ?_
  refine SC.seq ?_
  refine SC.region_tail 12 (by kernel_rfl) (by kernel_rfl) ?_
  refine SQ.mv ?_
  refine SQ.mv ?_
  refine SQ.nk ?_
  refine SQ.fa 2 fd92_1 ?_
  refine SQ.ia 3 ar75 ?_
  refine SQ.ld 0 ts56 ?_
  refine SQ.mv ?_
  refine SQ.mv ?_
  refine SQ.fa 2 fd46_2 ?_
  refine SQ.ld 6 ts3 ?_
  refine SQ.uu (ru_build (vals := [(0, Value.slice q5 x.f.length c6), (1, bo true), (2, iw x.tick)]) (cells := [Value.slice q5 x.f.length c6, bo true, iw x.tick]) rfl rfl (by kernel_rfl)) ?_
  refine SQ.uu (ru_index_rowN (ri := 4) si56 rfl rfl rfl rfl (by omega) (by omega)) ?_
  refine SQ.nilL ?_
  refine SL.storea_rowN (ri := 4) (i := k.toNat) (vs := [Value.slice q5 x.f.length c6, bo true, iw x.tick]) rfl rfl ta46 rfl rfl rfl rfl rfl rfl rfl (by rw [List.length_map]; omega) (fun b hb => .inl (.inr (.inr (.inr (.inr hb))))) ?_
  refine SL.nn [(8, iw 0)] [rB wd d0 d1 M S.now 92, rDv 100 d0 M.fs S.A0, rDv 100 d1 M.fs S.A1, rR0 M 46, rRowN (.slice M.q1 M.ps1.length M.c1) ((oRows M.ps1).set k.toNat [Value.slice q5 x.f.length c6, bo true, iw x.tick]) 46 3, rZ M.F M.fs, rBlk b2 [Value.slice xa x.f.length xc, bo x.bad, iw x.tick] 46, rRowN (.slice q5 x.f.length c6) ((bRows x.f).set ((bit / 8).toNat) ([bv y].set 0 (bv (y ^^^ UInt8.ofNat (2 ^ (bit % 8).toNat))))) 5 1] ⟨rfl, trivial⟩ ?_
  refine SC.sr ?_
  refine SL.as ?_
  refine SL.nn [(8, iw 0)] _ ⟨rfl, trivial⟩ ?_
  refine SC.ret ?_
  refine SE.res (.inl rfl) (res1 Try.results45 rfl) fun w1 hI => ?_
  have eT : thereF (S.L true) k = thereF M.ps1 k := by show thereF S.L1 k = _; rw [← hM.l1, there_map]
  have ew : damageF S true k bit = (0, S.setL true (S.L1.set k.toNat ⟨damF x.f bit, true, x.tick⟩)) := by unfold damageF; simp only [eT, ex]; rw [if_neg (not_t h1), if_neg (not_t h4)]; rfl
  have er : (oRows M.ps1).set k.toNat [Value.slice q5 x.f.length c6, bo true, iw x.tick] = oRows (M.ps1.set k.toNat ⟨.slice q5 x.f.length c6, ⟨damF x.f bit, true, x.tick⟩⟩) := (List.map_set (f := FmV.row) (a := (⟨.slice q5 x.f.length c6, ⟨damF x.f bit, true, x.tick⟩⟩ : FmV))).symm
  have eb : (bRows x.f).set ((bit / 8).toNat) ([bv y].set 0 (bv (y ^^^ UInt8.ofNat (2 ^ (bit % 8).toNat)))) = bRows (damF x.f bit) := by unfold damF; rw [show bit.toNat / 8 = (bit / 8).toNat by omega, show bit.toNat % 8 = (bit % 8).toNat by omega, List.getD_eq_getElem?_getD, hy]; exact bRows_set _ _ _
  have el : (M.ps1.set k.toNat (⟨.slice q5 x.f.length c6, ⟨damF x.f bit, true, x.tick⟩⟩ : FmV)).length = M.ps1.length := List.length_set
  have ed : (damF x.f bit).length = x.f.length := List.length_set
  have hJ : Inv ⟨67, w, M.G wd d0 d1⟩ w1 [rBlk wd [pt d0 0, pt d1 0, Value.slice M.q0 M.ps0.length M.c0, Value.slice M.q1 M.ps1.length M.c1, iw S.now] 92, rDv 100 d0 M.fs S.A0, rDv 100 d1 M.fs S.A1, rRowN (.slice M.q0 M.ps0.length M.c0) (oRows M.ps0) 46 3, rRowN (.slice M.q1 M.ps1.length M.c1) ((oRows M.ps1).set k.toNat [Value.slice q5 x.f.length c6, bo true, iw x.tick]) 46 3, rZ M.F M.fs, rRowN (.slice q5 x.f.length c6) ((bRows x.f).set ((bit / 8).toNat) ([bv y].set 0 (bv (y ^^^ UInt8.ofNat (2 ^ (bit % 8).toNat))))) 5 1] := hI.reo [0, 1, 2, 3, 4, 5, 7] (by decide)
  rw [er, eb, ← el] at hJ
  have hZ := Inv.freeze (l := []) (Inv.weak (i := 6) (r' := rMine (.slice q5 x.f.length c6) (damF x.f bit) 5) hJ rfl (fun h => mine_rows.2 h) (fun b hb => hb)) (by omega)
  rw [ew]
  exact ⟨rfl, { M with F := fun b => M.F b ∨ (Value.slice q5 x.f.length c6).ownBlock = some b, fs := fun v f => M.fs v f ∨ v = .slice q5 x.f.length c6 ∧ f = damF x.f bit, ps1 := M.ps1.set k.toNat ⟨.slice q5 x.f.length c6, ⟨damF x.f bit, true, x.tick⟩⟩ }, ⟨(hZ.keep 6).1, hM.set1 (y := ⟨.slice q5 x.f.length c6, ⟨damF x.f bit, true, x.tick⟩⟩) (fun v f h => .inl h) (.inr ⟨rfl, rfl⟩) k, fun v f h => .inl h, fun b hb => WM.K.frz (M' := { M with ps1 := M.ps1.set k.toNat ⟨.slice q5 x.f.length c6, ⟨damF x.f bit, true, x.tick⟩⟩ }) hb (fun b hb => WM.K.same1 hb) (fun b hb => hb.imp id (hq7n b)), hZ.2⟩⟩
theorem qdamageX_any {w : World} {wd : Nat} {dir : Int} {k bit : Int} (hd : isD dir = false) : Calls Try.prog 45 #[pt wd 0, iw dir, iw k, iw bit] w fun e w' => e = .returned (iw 1) ∧ Only (fun _ => False) w w' := by
  refine calls_sc (l0 := []) (args := [pt wd 0, iw dir, iw k, iw bit]) (fun _ => False) Try.func45 rfl 67 Try.ntmps45 (le_b rfl) ⟨⟨by simp, List.Pairwise.nil⟩, Only.refl _ _⟩ ?_
  show SC _ _ _ _ [(0, pt wd 0), (1, iw dir), (2, iw k), (3, iw bit)] []
  refine SC.sr ?_
  refine SL.as ?_
  refine SL.nn [(0, pt wd 0), (1, iw dir), (2, iw k), (3, iw bit), (8, iw 0)] [] ⟨rfl, rfl, rfl, rfl, rfl, trivial⟩ ?_
  refine SC.sr ?_
  refine SL.mv ?_
  refine SL.mv ?_
  refine SL.mv ?_
  refine SL.callv (iw 1) rfl rfl co60 rfl rfl rfl (lt_b rfl) (fun w hI => H_only hI (qthereX_any hd)) ?_
  refine SL.as ?_
  refine SL.nn [(0, pt wd 0), (1, iw dir), (2, iw k), (3, iw bit), (8, iw 0), (9, iw 1)] _ ⟨rfl, rfl, rfl, rfl, rfl, rfl, trivial⟩ ?_
  refine SC.seq ?_
  refine SC.sr ?_
  refine SL.mv ?_
  refine SL.uu (ru_ne (b := true) rfl rfl rfl rfl) ?_
  refine SL.nn [(0, pt wd 0), (1, iw dir), (2, iw k), (3, iw bit), (8, iw 0), (9, iw 1), (17, bo true)] _ ⟨rfl, rfl, rfl, rfl, rfl, rfl, rfl, trivial⟩ ?_
  refine SC.yes rfl ?_
  refine SC.sr ?_
  refine SL.mv ?_
  refine SL.as ?_
  refine SL.nn [(0, pt wd 0), (1, iw dir), (2, iw k), (3, iw bit), (8, iw 1)] _ ⟨rfl, rfl, rfl, rfl, rfl, trivial⟩ ?_
  refine SC.ret ?_
  refine SE.passr ?_
  refine SE.res (.inl rfl) (res1 Try.results45 rfl) fun w1 hI => ⟨rfl, hI.2⟩

end Go.Proofs.Ytcilikkljkdceaa
