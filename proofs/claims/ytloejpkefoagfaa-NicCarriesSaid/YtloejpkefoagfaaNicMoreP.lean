/-
  What a device's other calls do (the program's).
-/
import Derived.Test.YtloejpkefoagfaaNicApp
namespace Go.Proofs.Ytloejpkefoagfaa
open Go.RowKit
set_option maxRecDepth 100000
set_option maxHeartbeats 4000000
theorem p_settx {w : World} {d : Nat} {F : Nat → Prop} {A : NicA} (hk : NicOk A) (h : NicAt 68 w d F A) {v : Value} {f : List UInt8} (hb : BytesAt w v f) (hs : sliceIn v (fun b => ¬ b = d)) (i : Int) : Calls Try.prog 10 #[pt d 0, iw i, v] w fun e w' => e = .returned (iw (setTxF A i f).1) ∧ NicTo 68 w d F (setTxF A i f).2 w' := by
  have hok := hk
  obtain ⟨r2, r3, r4, r5, r6, _, _, _⟩ := hok
  obtain ⟨a, c, rfl⟩ := hb.form
  have hbl := hb.len
  obtain ⟨tv, cv, hI⟩ := h.inv 28 (fun b => b = d)
  refine calls_sc (l0 := _) (args := [pt d 0, iw i, Value.slice a f.length c]) (fun b => b = d) Try.func10 rfl 28 Try.ntmps10 (le_b rfl) hI ?_
  show SC _ _ _ _ [(0, pt d 0), (1, iw i), (2, Value.slice a f.length c)] [rBlk d (nc A tv cv) 68, rFrs F tv cv A.tb A.cb]
  refine SC.seq ?_
  refine SC.region ?_
  refine SL.ru rfl rfl (lt_b rfl) (ru_assign rfl rfl) ?_
  refine SL.nil ?_
  refine SC.of_SE ?_
  refine SC.norm [(0, pt d 0), (1, iw i), (2, Value.slice a f.length c), (6, iw 0)] [rBlk d (nc A tv cv) 68, rFrs F tv cv A.tb A.cb] ⟨rfl, rfl, rfl, rfl, trivial⟩ rfl ?_
  refine SC.seq ?_
  refine SC.block ?_
  refine SC.seq ?_
  refine SC.region ?_
  refine SL.ru rfl rfl (lt_b rfl) (ru_move rfl rfl) ?_
  refine SL.ru rfl rfl (lt_b rfl) (ru_move rfl rfl) ?_
  refine SL.callv (bo (hostB i (A.r 4) (A.r 5))) rfl rfl co24 rfl rfl rfl (lt_b rfl) (fun w hI => H_only hI (p_hosttx hk (NicAt.of hI) i)) ?_
  refine SL.ru rfl rfl (lt_b rfl) (ru_not (c := (!(hostB i (A.r 4) (A.r 5)))) rfl rfl rfl) ?_
  refine SL.ru rfl rfl (lt_b rfl) (ru_assign rfl rfl) ?_
  refine SL.nil ?_
  refine SC.of_SE ?_
  refine SC.norm [(0, pt d 0), (1, iw i), (2, Value.slice a f.length c), (6, iw 0), (7, bo (!(hostB i (A.r 4) (A.r 5))))] [rBlk d (nc A tv cv) 68, rFrs F tv cv A.tb A.cb] ⟨rfl, rfl, rfl, rfl, rfl, trivial⟩ rfl ?_
  refine SC.both (!(hostB i (A.r 4) (A.r 5))) rfl (fun h1 => ?_) (fun h1 => ?_)
  · skip
    refine SC.seq ?_
    refine SC.region ?_
    refine SL.ru rfl rfl (lt_b rfl) (ru_assign rfl rfl) ?_
    refine SL.nil ?_
    refine SC.of_SE ?_
    refine SC.norm [(0, pt d 0), (1, iw i), (2, Value.slice a f.length c), (6, iw 1)] [rBlk d (nc A tv cv) 68, rFrs F tv cv A.tb A.cb] ⟨rfl, rfl, rfl, rfl, trivial⟩ rfl ?_
    refine SC.ret ?_
    refine SE.blkr ?_
    refine SE.passr ?_
    refine SE.res (.inl rfl) (res1 Try.results10 rfl) fun w1 hI => ?_
    have e : setTxF A i f = (1, A) := by
      try simp at h1
      unfold setTxF
      (repeat' split) <;> first | rfl | (exfalso; omega) | (exfalso; simp_all; done) | (exfalso; simp_all; omega)
    rw [e]
    exact ⟨rfl, NicAt.fin hI⟩
  · skip
    have hi := host_bd1 h1
    refine SC.seq ?_
    refine SC.region ?_
    refine SL.ru rfl rfl (lt_b rfl) (ru_move rfl rfl) ?_
    refine SL.ru rfl rfl (lt_b rfl) (ru_len Try.underlying30 rfl rfl) ?_
    refine SL.ru rfl rfl (lt_b rfl) (ru_eq (b := (((f.length : Int) : Int) == 0)) rfl rfl rfl rfl) ?_
    refine SL.ru rfl rfl (lt_b rfl) (ru_assign rfl rfl) ?_
    refine SL.nil ?_
    refine SC.of_SE ?_
    refine SC.norm [(0, pt d 0), (1, iw i), (2, Value.slice a f.length c), (6, iw 0), (12, bo (((f.length : Int) : Int) == 0))] [rBlk d (nc A tv cv) 68, rFrs F tv cv A.tb A.cb] ⟨rfl, rfl, rfl, rfl, rfl, trivial⟩ rfl ?_
    refine SC.both (((f.length : Int) : Int) == 0) rfl (fun h2 => ?_) (fun h2 => ?_)
    · skip
      refine SC.seq ?_
      refine SC.region ?_
      refine SL.ru rfl rfl (lt_b rfl) (ru_assign rfl rfl) ?_
      refine SL.nil ?_
      refine SC.of_SE ?_
      refine SC.norm [(0, pt d 0), (1, iw i), (2, Value.slice a f.length c), (6, iw 3)] [rBlk d (nc A tv cv) 68, rFrs F tv cv A.tb A.cb] ⟨rfl, rfl, rfl, rfl, trivial⟩ rfl ?_
      refine SC.ret ?_
      refine SE.blkr ?_
      refine SE.passr ?_
      refine SE.res (.inl rfl) (res1 Try.results10 rfl) fun w1 hI => ?_
      have e : setTxF A i f = (3, A) := by
        try simp at h1 h2
        unfold setTxF
        (repeat' split) <;> first | rfl | (exfalso; omega) | (exfalso; simp_all; done) | (exfalso; simp_all; omega)
      rw [e]
      exact ⟨rfl, NicAt.fin hI⟩
    · skip
      refine SC.seq ?_
      refine SC.region ?_
      refine SL.ru rfl rfl (lt_b rfl) (ru_move rfl rfl) ?_
      refine SL.ru rfl rfl (lt_b rfl) (ru_len Try.underlying30 rfl rfl) ?_
      refine SL.ru rfl rfl (lt_b rfl) (ru_gt (b := (decide ((274 : Int) < (f.length : Int)))) rfl rfl rfl rfl) ?_
      refine SL.ru rfl rfl (lt_b rfl) (ru_assign rfl rfl) ?_
      refine SL.nil ?_
      refine SC.of_SE ?_
      refine SC.norm [(0, pt d 0), (1, iw i), (2, Value.slice a f.length c), (6, iw 0), (16, bo (decide ((274 : Int) < (f.length : Int))))] [rBlk d (nc A tv cv) 68, rFrs F tv cv A.tb A.cb] ⟨rfl, rfl, rfl, rfl, rfl, trivial⟩ rfl ?_
      refine SC.both (decide ((274 : Int) < (f.length : Int))) rfl (fun h3 => ?_) (fun h3 => ?_)
      · skip
        refine SC.seq ?_
        refine SC.region ?_
        refine SL.ru rfl rfl (lt_b rfl) (ru_assign rfl rfl) ?_
        refine SL.nil ?_
        refine SC.of_SE ?_
        refine SC.norm [(0, pt d 0), (1, iw i), (2, Value.slice a f.length c), (6, iw 2)] [rBlk d (nc A tv cv) 68, rFrs F tv cv A.tb A.cb] ⟨rfl, rfl, rfl, rfl, trivial⟩ rfl ?_
        refine SC.ret ?_
        refine SE.blkr ?_
        refine SE.passr ?_
        refine SE.res (.inl rfl) (res1 Try.results10 rfl) fun w1 hI => ?_
        have e : setTxF A i f = (2, A) := by
          try simp at h1 h2 h3
          unfold setTxF
          (repeat' split) <;> first | rfl | (exfalso; omega) | (exfalso; simp_all; done) | (exfalso; simp_all; omega)
        rw [e]
        exact ⟨rfl, NicAt.fin hI⟩
      · skip
        refine SC.skip ?_
        refine SE.blkn ?_
        refine SC.of_SE ?_
        refine SC.norm [(0, pt d 0), (1, iw i), (2, Value.slice a f.length c), (6, iw 0)] [rBlk d (nc A tv cv) 68, rFrs F tv cv A.tb A.cb] ⟨rfl, rfl, rfl, rfl, trivial⟩ rfl ?_
        refine SC.seq ?_
        refine SC.region_alloc 8 3 (fun b4 => rBlk b4 (f.map bv) 5) (by kernel_rfl) (by kernel_rfl) rfl (fun b4 hb4 => ?_)
        refine SS.ru _ CA.base rfl rfl rfl (lt_b rfl) (ru_move rfl rfl) ?_
        refine SS.ru _ CA.base rfl rfl rfl (lt_b rfl) (ru_move rfl rfl) ?_
        refine SS.ru _ CA.base rfl rfl rfl (lt_b rfl) (ru_move rfl rfl) ?_
        refine SS.newcall (sl b4 0 f.length f.length) rfl rfl co25 rfl rfl rfl (lt_b rfl) (fun w hI hz => (copied_any (hb.only hI.2 hs)).mono fun e w2 ⟨h1, h2, h3⟩ => ⟨by rw [h1, hz], hI.add h3 (hz ▸ h2) (fun q hq => by cases hq; rw [hz]; exact Nat.le_refl _)⟩) ?_
        refine SS.ru _ CA.base rfl rfl rfl (lt_b rfl) (ru_nilCheck rfl rfl) ?_
        refine SS.ru _ CA.base rfl rfl rfl (lt_b rfl) (ru_fieldAddr (o2 := 8) fd68_1 rfl rfl rfl) ?_
        refine SS.ru _ CA.base rfl rfl rfl (lt_b rfl) (ru_indexA (o2 := 8 + i.toNat * 2) ar63 rfl rfl rfl (by omega) (by omega) rfl) ?_
        refine SS.ru _ CA.base rfl rfl rfl (lt_b rfl) (ru_fieldAddr (o2 := (8 + i.toNat * 2)) fd62_0 rfl rfl rfl) ?_
        refine SS.nilA ?_
        refine SL.store (i := 0) (c' := (nc A (up tv i.toNat (sl b4 0 f.length f.length)) cv)) rfl rfl ts30 rfl rfl rfl rfl rfl (by rw [nc_len]; omega) (.inl rfl) (set_tv (by omega) (sl b4 0 f.length f.length)) ?_
        refine SL.nil ?_
        refine SC.of_SE ?_
        refine SC.norm [(6, iw 0)] [rBlk d (nc A (up tv i.toNat (sl b4 0 f.length f.length)) cv) 68, rFrs F tv cv A.tb A.cb, rBlk b4 (f.map bv) 5] ⟨rfl, trivial⟩ rfl ?_
        refine SC.seq ?_
        refine SC.region ?_
        refine SL.ru rfl rfl (lt_b rfl) (ru_assign rfl rfl) ?_
        refine SL.nil ?_
        refine SC.of_SE ?_
        refine SC.norm [(6, iw 0)] [rBlk d (nc A (up tv i.toNat (sl b4 0 f.length f.length)) cv) 68, rFrs F tv cv A.tb A.cb, rBlk b4 (f.map bv) 5] ⟨rfl, trivial⟩ rfl ?_
        refine SC.ret ?_
        refine SE.res (.inl rfl) (res1 Try.results10 rfl) fun w1 hI => ?_
        have e : setTxF A i f = (0, { A with tb := up A.tb i.toNat f }) := by
          try simp at h1 h2 h3
          unfold setTxF
          (repeat' split) <;> first | rfl | (exfalso; omega) | (exfalso; simp_all; done) | (exfalso; simp_all; omega)
        rw [e]
        exact ⟨rfl, NicAt.fin_tx hbl hb4 hI⟩

theorem p_setrx {w : World} {d : Nat} {F : Nat → Prop} {A : NicA} (hk : NicOk A) (h : NicAt 68 w d F A) (i room : Int) : Calls Try.prog 13 #[pt d 0, iw i, iw room] w fun e w' => e = .returned (iw (setRxF A i room).1) ∧ NicTo 68 w d F (setRxF A i room).2 w' := by
  have hok := hk
  obtain ⟨r2, r3, r4, r5, r6, _, _, _⟩ := hok
  obtain ⟨tv, cv, hI⟩ := h.inv 26 (fun b => b = d)
  refine calls_sc (l0 := _) (args := [pt d 0, iw i, iw room]) (fun b => b = d) Try.func13 rfl 26 Try.ntmps13 (le_b rfl) hI ?_
  show SC _ _ _ _ [(0, pt d 0), (1, iw i), (2, iw room)] [rBlk d (nc A tv cv) 68, rFrs F tv cv A.tb A.cb]
  refine SC.seq ?_
  refine SC.region ?_
  refine SL.ru rfl rfl (lt_b rfl) (ru_assign rfl rfl) ?_
  refine SL.nil ?_
  refine SC.of_SE ?_
  refine SC.norm [(0, pt d 0), (1, iw i), (2, iw room), (6, iw 0)] [rBlk d (nc A tv cv) 68, rFrs F tv cv A.tb A.cb] ⟨rfl, rfl, rfl, rfl, trivial⟩ rfl ?_
  refine SC.seq ?_
  refine SC.seq ?_
  refine SC.region ?_
  refine SL.ru rfl rfl (lt_b rfl) (ru_move rfl rfl) ?_
  refine SL.ru rfl rfl (lt_b rfl) (ru_move rfl rfl) ?_
  refine SL.callv (bo (hostB i (A.r 2) (A.r 3))) rfl rfl co24 rfl rfl rfl (lt_b rfl) (fun w hI => H_only hI (p_hostrx hk (NicAt.of hI) i)) ?_
  refine SL.ru rfl rfl (lt_b rfl) (ru_not (c := (!(hostB i (A.r 2) (A.r 3)))) rfl rfl rfl) ?_
  refine SL.ru rfl rfl (lt_b rfl) (ru_move rfl rfl) ?_
  refine SL.join 3 [(0, pt d 0), (1, iw i), (2, iw room), (6, iw 0), (7, pt d 0), (8, iw i), (9, bo (hostB i (A.r 2) (A.r 3))), (10, bo (!(hostB i (A.r 2) (A.r 3)))), (11, bo (!(hostB i (A.r 2) (A.r 3)))), (14, bo ((!(hostB i (A.r 2) (A.r 3))) || (decide ((room : Int) < 0))))] [rBlk d (nc A tv cv) 68, rFrs F tv cv A.tb A.cb] ?_ ?_
  rotate_left
  · intro K hK
    rcases tf (!(hostB i (A.r 2) (A.r 3))) with h1 | h1
    · skip
      refine SL.norm [(0, pt d 0), (1, iw i), (2, iw room), (6, iw 0), (7, pt d 0), (8, iw i), (9, bo (hostB i (A.r 2) (A.r 3))), (10, bo true), (11, bo true)] [rBlk d (nc A tv cv) 68, rFrs F tv cv A.tb A.cb] ⟨rfl, rfl, rfl, rfl, rfl, rfl, rfl, (congrArg (fun x => some (Value.bool x)) h1), (congrArg (fun x => some (Value.bool x)) h1), trivial⟩ rfl ?_
      refine SL.off (b := true) rfl rfl rfl rfl rfl (lt_b rfl) ?_
      refine SL.off (b := true) rfl rfl rfl rfl rfl (lt_b rfl) ?_
      refine SL.ru rfl rfl (lt_b rfl) (ru_pick (u := bo true) (v := undef) rfl rfl rfl rfl) ?_
      exact SL.joined hK ⟨rfl, rfl, rfl, rfl, rfl, rfl, rfl, (congrArg (fun x => some (Value.bool x)) h1.symm), (congrArg (fun x => some (Value.bool x)) h1.symm), (congrArg (fun x => some (Value.bool (x || (decide ((room : Int) < 0))))) h1.symm), trivial⟩ rfl
    · skip
      refine SL.norm [(0, pt d 0), (1, iw i), (2, iw room), (6, iw 0), (7, pt d 0), (8, iw i), (9, bo (hostB i (A.r 2) (A.r 3))), (10, bo false), (11, bo false)] [rBlk d (nc A tv cv) 68, rFrs F tv cv A.tb A.cb] ⟨rfl, rfl, rfl, rfl, rfl, rfl, rfl, (congrArg (fun x => some (Value.bool x)) h1), (congrArg (fun x => some (Value.bool x)) h1), trivial⟩ rfl ?_
      refine SL.rug rfl rfl rfl rfl (lt_b rfl) (ru_move rfl rfl) ?_
      refine SL.rug rfl rfl rfl rfl (lt_b rfl) (ru_lt (b := (decide ((room : Int) < 0))) rfl rfl rfl rfl) ?_
      refine SL.ru rfl rfl (lt_b rfl) (ru_pick (u := bo true) (v := bo (decide ((room : Int) < 0))) rfl rfl rfl rfl) ?_
      exact SL.joined hK ⟨rfl, rfl, rfl, rfl, rfl, rfl, rfl, (congrArg (fun x => some (Value.bool x)) h1.symm), (congrArg (fun x => some (Value.bool x)) h1.symm), (congrArg (fun x => some (Value.bool (x || (decide ((room : Int) < 0))))) h1.symm), trivial⟩ rfl
  skip
  refine SL.ru rfl rfl (lt_b rfl) (ru_move rfl rfl) ?_
  refine SL.join 3 [(0, pt d 0), (1, iw i), (2, iw room), (6, iw 0), (7, pt d 0), (8, iw i), (9, bo (hostB i (A.r 2) (A.r 3))), (10, bo (!(hostB i (A.r 2) (A.r 3)))), (11, bo (!(hostB i (A.r 2) (A.r 3)))), (14, bo ((!(hostB i (A.r 2) (A.r 3))) || (decide ((room : Int) < 0)))), (15, bo ((!(hostB i (A.r 2) (A.r 3))) || (decide ((room : Int) < 0)))), (18, bo (((!(hostB i (A.r 2) (A.r 3))) || (decide ((room : Int) < 0))) || (decide ((65535 : Int) < room))))] [rBlk d (nc A tv cv) 68, rFrs F tv cv A.tb A.cb] ?_ ?_
  rotate_left
  · intro K hK
    rcases tf ((!(hostB i (A.r 2) (A.r 3))) || (decide ((room : Int) < 0))) with h2 | h2
    · skip
      refine SL.norm [(0, pt d 0), (1, iw i), (2, iw room), (6, iw 0), (7, pt d 0), (8, iw i), (9, bo (hostB i (A.r 2) (A.r 3))), (10, bo (!(hostB i (A.r 2) (A.r 3)))), (11, bo (!(hostB i (A.r 2) (A.r 3)))), (14, bo true), (15, bo true)] [rBlk d (nc A tv cv) 68, rFrs F tv cv A.tb A.cb] ⟨rfl, rfl, rfl, rfl, rfl, rfl, rfl, rfl, rfl, (congrArg (fun x => some (Value.bool x)) h2), (congrArg (fun x => some (Value.bool x)) h2), trivial⟩ rfl ?_
      refine SL.off (b := true) rfl rfl rfl rfl rfl (lt_b rfl) ?_
      refine SL.off (b := true) rfl rfl rfl rfl rfl (lt_b rfl) ?_
      refine SL.ru rfl rfl (lt_b rfl) (ru_pick (u := bo true) (v := undef) rfl rfl rfl rfl) ?_
      exact SL.joined hK ⟨rfl, rfl, rfl, rfl, rfl, rfl, rfl, rfl, rfl, (congrArg (fun x => some (Value.bool x)) h2.symm), (congrArg (fun x => some (Value.bool x)) h2.symm), (congrArg (fun x => some (Value.bool (x || (decide ((65535 : Int) < room))))) h2.symm), trivial⟩ rfl
    · skip
      refine SL.norm [(0, pt d 0), (1, iw i), (2, iw room), (6, iw 0), (7, pt d 0), (8, iw i), (9, bo (hostB i (A.r 2) (A.r 3))), (10, bo (!(hostB i (A.r 2) (A.r 3)))), (11, bo (!(hostB i (A.r 2) (A.r 3)))), (14, bo false), (15, bo false)] [rBlk d (nc A tv cv) 68, rFrs F tv cv A.tb A.cb] ⟨rfl, rfl, rfl, rfl, rfl, rfl, rfl, rfl, rfl, (congrArg (fun x => some (Value.bool x)) h2), (congrArg (fun x => some (Value.bool x)) h2), trivial⟩ rfl ?_
      refine SL.rug rfl rfl rfl rfl (lt_b rfl) (ru_move rfl rfl) ?_
      refine SL.rug rfl rfl rfl rfl (lt_b rfl) (ru_gt (b := (decide ((65535 : Int) < room))) rfl rfl rfl rfl) ?_
      refine SL.ru rfl rfl (lt_b rfl) (ru_pick (u := bo true) (v := bo (decide ((65535 : Int) < room))) rfl rfl rfl rfl) ?_
      exact SL.joined hK ⟨rfl, rfl, rfl, rfl, rfl, rfl, rfl, rfl, rfl, (congrArg (fun x => some (Value.bool x)) h2.symm), (congrArg (fun x => some (Value.bool x)) h2.symm), (congrArg (fun x => some (Value.bool (x || (decide ((65535 : Int) < room))))) h2.symm), trivial⟩ rfl
  skip
  refine SL.nil ?_
  refine SC.of_SE ?_
  refine SC.norm [(0, pt d 0), (1, iw i), (2, iw room), (6, iw 0), (18, bo (((!(hostB i (A.r 2) (A.r 3))) || (decide ((room : Int) < 0))) || (decide ((65535 : Int) < room))))] [rBlk d (nc A tv cv) 68, rFrs F tv cv A.tb A.cb] ⟨rfl, rfl, rfl, rfl, rfl, trivial⟩ rfl ?_
  refine SC.both (((!(hostB i (A.r 2) (A.r 3))) || (decide ((room : Int) < 0))) || (decide ((65535 : Int) < room))) rfl (fun h3 => ?_) (fun h3 => ?_)
  · skip
    refine SC.seq ?_
    refine SC.region ?_
    refine SL.ru rfl rfl (lt_b rfl) (ru_assign rfl rfl) ?_
    refine SL.nil ?_
    refine SC.of_SE ?_
    refine SC.norm [(0, pt d 0), (1, iw i), (2, iw room), (6, iw 1)] [rBlk d (nc A tv cv) 68, rFrs F tv cv A.tb A.cb] ⟨rfl, rfl, rfl, rfl, trivial⟩ rfl ?_
    refine SC.ret ?_
    refine SE.passr ?_
    refine SE.res (.inl rfl) (res1 Try.results13 rfl) fun w1 hI => ?_
    have e : setRxF A i room = (1, A) := by
      try simp at h3
      unfold setRxF
      (repeat' split) <;> first | rfl | (exfalso; omega) | (exfalso; simp_all; done) | (exfalso; simp_all; omega)
    rw [e]
    exact ⟨rfl, NicAt.fin hI⟩
  · skip
    have hi := host_bd3 h3
    refine SC.skip ?_
    refine SC.of_SE ?_
    refine SC.norm [(0, pt d 0), (1, iw i), (2, iw room), (6, iw 0)] [rBlk d (nc A tv cv) 68, rFrs F tv cv A.tb A.cb] ⟨rfl, rfl, rfl, rfl, trivial⟩ rfl ?_
    refine SC.seq ?_
    refine SC.region ?_
    refine SL.ru rfl rfl (lt_b rfl) (ru_move rfl rfl) ?_
    refine SL.ru rfl rfl (lt_b rfl) (ru_move rfl rfl) ?_
    refine SL.ru rfl rfl (lt_b rfl) (ru_move rfl rfl) ?_
    refine SL.ru rfl rfl (lt_b rfl) (ru_build (vals := [(0, iw room)]) (cells := [iw room, bo false, Value.slice none 0 0, bo false]) rfl rfl (by kernel_rfl)) ?_
    refine SL.ru rfl rfl (lt_b rfl) (ru_nilCheck rfl rfl) ?_
    refine SL.ru rfl rfl (lt_b rfl) (ru_fieldAddr (o2 := 40) fd68_2 rfl rfl rfl) ?_
    refine SL.ru rfl rfl (lt_b rfl) (ru_indexA (o2 := 40 + i.toNat * 4) ar66 rfl rfl rfl (by omega) (by omega) rfl) ?_
    refine SL.storea (i := 0) (vs := [iw room, bo false, Value.slice none 0 0, bo false]) (c' := (nc { A with room := up A.room i.toNat room, has := up A.has i.toNat false, bad := up A.bad i.toNat false } tv (up cv i.toNat (Value.slice none 0 0)))) rfl rfl ta65 rfl rfl rfl rfl rfl rfl (by rw [nc_len]; simp; omega) (.inl rfl) (set_rx (by omega) room false false (Value.slice none 0 0)) ?_
    refine SL.nil ?_
    refine SC.of_SE ?_
    refine SC.norm [(6, iw 0)] [rBlk d (nc { A with room := up A.room i.toNat room, has := up A.has i.toNat false, bad := up A.bad i.toNat false } tv (up cv i.toNat (Value.slice none 0 0))) 68, rFrs F tv cv A.tb A.cb] ⟨rfl, trivial⟩ rfl ?_
    refine SC.seq ?_
    refine SC.region ?_
    refine SL.ru rfl rfl (lt_b rfl) (ru_assign rfl rfl) ?_
    refine SL.nil ?_
    refine SC.of_SE ?_
    refine SC.norm [(6, iw 0)] [rBlk d (nc { A with room := up A.room i.toNat room, has := up A.has i.toNat false, bad := up A.bad i.toNat false } tv (up cv i.toNat (Value.slice none 0 0))) 68, rFrs F tv cv A.tb A.cb] ⟨rfl, trivial⟩ rfl ?_
    refine SC.ret ?_
    refine SE.res (.inl rfl) (res1 Try.results13 rfl) fun w1 hI => ?_
    have e : setRxF A i room = (0, { A with cb := up A.cb i.toNat [], room := up A.room i.toNat room, has := up A.has i.toNat false, bad := up A.bad i.toNat false }) := by
      try simp at h3
      unfold setRxF
      (repeat' split) <;> first | rfl | (exfalso; omega) | (exfalso; simp_all; done) | (exfalso; simp_all; omega)
    rw [e]
    exact ⟨rfl, NicAt.fin_no hI⟩

theorem p_give {w : World} {d : Nat} {F : Nat → Prop} {A : NicA} (hk : NicOk A) (h : NicAt 68 w d F A) {v : Value} {f : List UInt8} (hb : BytesAt w v f) (hs : sliceIn v (fun b => ¬ b = d)) (bad : Bool) : Calls Try.prog 14 #[pt d 0, v, bo bad] w fun e w' => e = .returned (iw (giveF A f bad).1) ∧ NicTo 68 w d F (giveF A f bad).2 w' := by
  have hok := hk
  obtain ⟨r2, r3, r4, r5, r6, _, _, _⟩ := hok
  obtain ⟨a, c, rfl⟩ := hb.form
  have hbl := hb.len
  obtain ⟨tv, cv, hI⟩ := h.inv 84 (fun b => b = d)
  refine calls_sc (l0 := _) (args := [pt d 0, Value.slice a f.length c, bo bad]) (fun b => b = d) Try.func14 rfl 84 Try.ntmps14 (le_b rfl) hI ?_
  show SC _ _ _ _ [(0, pt d 0), (1, Value.slice a f.length c), (2, bo bad)] [rBlk d (nc A tv cv) 68, rFrs F tv cv A.tb A.cb]
  refine SC.seq ?_
  refine SC.region ?_
  refine SL.ru rfl rfl (lt_b rfl) (ru_assign rfl rfl) ?_
  refine SL.nil ?_
  refine SC.of_SE ?_
  refine SC.norm [(0, pt d 0), (1, Value.slice a f.length c), (2, bo bad), (6, iw 0)] [rBlk d (nc A tv cv) 68, rFrs F tv cv A.tb A.cb] ⟨rfl, rfl, rfl, rfl, trivial⟩ rfl ?_
  refine SC.seq ?_
  refine SC.region ?_
  refine SL.ru rfl rfl (lt_b rfl) (ru_move rfl rfl) ?_
  refine SL.ru rfl rfl (lt_b rfl) (ru_nilCheck rfl rfl) ?_
  refine SL.ru rfl rfl (lt_b rfl) (ru_fieldAddr (o2 := 0) fd68_0 rfl rfl rfl) ?_
  refine SL.ru rfl rfl (lt_b rfl) (ru_indexA (o2 := 2) ar44 rfl rfl rfl (by decide) (by decide) rfl) ?_
  refine SL.ru rfl rfl (lt_b rfl) (ru_load (i := 0) (v := iw (A.r 2)) ts3 rfl rfl rfl (nc_r (by decide))) ?_
  refine SL.ru rfl rfl (lt_b rfl) (ru_assign rfl rfl) ?_
  refine SL.nil ?_
  refine SC.of_SE ?_
  refine SC.norm [(0, pt d 0), (1, Value.slice a f.length c), (2, bo bad), (6, iw 0), (7, iw (A.r 2))] [rBlk d (nc A tv cv) 68, rFrs F tv cv A.tb A.cb] ⟨rfl, rfl, rfl, rfl, rfl, trivial⟩ rfl ?_
  refine SC.seq ?_
  refine SC.block ?_
  refine SC.seq ?_
  refine SC.region ?_
  refine SL.ru rfl rfl (lt_b rfl) (ru_move rfl rfl) ?_
  refine SL.callv (bo (offB A)) rfl rfl co26 rfl rfl rfl (lt_b rfl) (fun w hI => H_only hI (p_off hk (NicAt.of hI))) ?_
  refine SL.ru rfl rfl (lt_b rfl) (ru_assign rfl rfl) ?_
  refine SL.nil ?_
  refine SC.of_SE ?_
  refine SC.norm [(0, pt d 0), (1, Value.slice a f.length c), (2, bo bad), (6, iw 0), (7, iw (A.r 2)), (13, bo (offB A))] [rBlk d (nc A tv cv) 68, rFrs F tv cv A.tb A.cb] ⟨rfl, rfl, rfl, rfl, rfl, rfl, trivial⟩ rfl ?_
  refine SC.both (offB A) rfl (fun h1 => ?_) (fun h1 => ?_)
  · skip
    refine SC.seq ?_
    refine SC.region ?_
    refine SL.ru rfl rfl (lt_b rfl) (ru_assign rfl rfl) ?_
    refine SL.nil ?_
    refine SC.of_SE ?_
    refine SC.norm [(0, pt d 0), (1, Value.slice a f.length c), (2, bo bad), (6, iw 20), (7, iw (A.r 2))] [rBlk d (nc A tv cv) 68, rFrs F tv cv A.tb A.cb] ⟨rfl, rfl, rfl, rfl, rfl, trivial⟩ rfl ?_
    refine SC.ret ?_
    refine SE.blkr ?_
    refine SE.passr ?_
    refine SE.res (.inl rfl) (res1 Try.results14 rfl) fun w1 hI => ?_
    have e : giveF A f bad = (20, A) := by
      try simp at h1
      unfold giveF
      (repeat' split) <;> first | rfl | (exfalso; omega) | (exfalso; simp_all; done) | (exfalso; simp_all; omega)
    rw [e]
    exact ⟨rfl, NicAt.fin hI⟩
  · skip
    refine SC.seq ?_
    refine SC.region ?_
    refine SL.ru rfl rfl (lt_b rfl) (ru_move rfl rfl) ?_
    refine SL.ru rfl rfl (lt_b rfl) (ru_move rfl rfl) ?_
    refine SL.ru rfl rfl (lt_b rfl) (ru_nilCheck rfl rfl) ?_
    refine SL.ru rfl rfl (lt_b rfl) (ru_fieldAddr (o2 := 0) fd68_0 rfl rfl rfl) ?_
    refine SL.ru rfl rfl (lt_b rfl) (ru_indexA (o2 := 3) ar44 rfl rfl rfl (by decide) (by decide) rfl) ?_
    refine SL.ru rfl rfl (lt_b rfl) (ru_load (i := 0) (v := iw (A.r 3)) ts3 rfl rfl rfl (nc_r (by decide))) ?_
    refine SL.ru rfl rfl (lt_b rfl) (ru_eq (b := (((A.r 2) : Int) == (A.r 3))) rfl rfl rfl rfl) ?_
    refine SL.ru rfl rfl (lt_b rfl) (ru_assign rfl rfl) ?_
    refine SL.nil ?_
    refine SC.of_SE ?_
    refine SC.norm [(0, pt d 0), (1, Value.slice a f.length c), (2, bo bad), (6, iw 0), (7, iw (A.r 2)), (16, bo (((A.r 2) : Int) == (A.r 3)))] [rBlk d (nc A tv cv) 68, rFrs F tv cv A.tb A.cb] ⟨rfl, rfl, rfl, rfl, rfl, rfl, trivial⟩ rfl ?_
    refine SC.both (((A.r 2) : Int) == (A.r 3)) rfl (fun h2 => ?_) (fun h2 => ?_)
    · skip
      refine SC.seq ?_
      refine SC.region_tail 9 (by kernel_rfl) (by kernel_rfl) ?_
      refine SQ.ru rfl rfl (lt_b rfl) (ru_move rfl rfl) ?_
      refine SQ.ru rfl rfl (lt_b rfl) (ru_nilCheck rfl rfl) ?_
      refine SQ.ru rfl rfl (lt_b rfl) (ru_fieldAddr (o2 := 0) fd68_0 rfl rfl rfl) ?_
      refine SQ.ru rfl rfl (lt_b rfl) (ru_indexA (o2 := 7) ar44 rfl rfl rfl (by decide) (by decide) rfl) ?_
      refine SQ.ru rfl rfl (lt_b rfl) (ru_load (i := 0) (v := iw (A.r 7)) ts3 rfl rfl rfl (nc_r (by decide))) ?_
      refine SQ.ru rfl rfl (lt_b rfl) (ru_add (r := (IntKind.i64.wrap ((A.r 7) + 1))) rfl rfl rfl rfl) ?_
      refine SQ.ru rfl rfl (lt_b rfl) (ru_nilCheck rfl rfl) ?_
      refine SQ.ru rfl rfl (lt_b rfl) (ru_fieldAddr (o2 := 0) fd68_0 rfl rfl rfl) ?_
      refine SQ.ru rfl rfl (lt_b rfl) (ru_indexA (o2 := 7) ar44 rfl rfl rfl (by decide) (by decide) rfl) ?_
      refine SQ.nilL ?_
      refine SL.store (i := 0) (c' := (nc { A with r := up A.r 7 (IntKind.i64.wrap ((A.r 7) + 1)) } tv cv)) rfl rfl ts3 rfl rfl rfl rfl rfl (by rw [nc_len]; omega) (.inl rfl) (set_r (by decide) (IntKind.i64.wrap ((A.r 7) + 1))) ?_
      refine SL.nil ?_
      refine SC.of_SE ?_
      refine SC.norm [(0, pt d 0), (1, Value.slice a f.length c), (2, bo bad), (6, iw 0), (7, iw (A.r 2))] [rBlk d (nc { A with r := up A.r 7 (IntKind.i64.wrap ((A.r 7) + 1)) } tv cv) 68, rFrs F tv cv A.tb A.cb] ⟨rfl, rfl, rfl, rfl, rfl, trivial⟩ rfl ?_
      refine SC.seq ?_
      refine SC.region ?_
      refine SL.ru rfl rfl (lt_b rfl) (ru_assign rfl rfl) ?_
      refine SL.nil ?_
      refine SC.of_SE ?_
      refine SC.norm [(0, pt d 0), (1, Value.slice a f.length c), (2, bo bad), (6, iw 21), (7, iw (A.r 2))] [rBlk d (nc { A with r := up A.r 7 (IntKind.i64.wrap ((A.r 7) + 1)) } tv cv) 68, rFrs F tv cv A.tb A.cb] ⟨rfl, rfl, rfl, rfl, rfl, trivial⟩ rfl ?_
      refine SC.ret ?_
      refine SE.blkr ?_
      refine SE.passr ?_
      refine SE.res (.inl rfl) (res1 Try.results14 rfl) fun w1 hI => ?_
      have e : giveF A f bad = (21, { A with r := up A.r 7 (IntKind.i64.wrap ((A.r 7) + 1)) }) := by
        try simp at h1 h2
        unfold giveF
        (repeat' split) <;> first | rfl | (exfalso; omega) | (exfalso; simp_all; done) | (exfalso; simp_all; omega)
      rw [e]
      exact ⟨rfl, NicAt.fin hI⟩
    · skip
      refine SC.seq ?_
      refine SC.region ?_
      refine SL.ru rfl rfl (lt_b rfl) (ru_move rfl rfl) ?_
      refine SL.ru rfl rfl (lt_b rfl) (ru_len Try.underlying30 rfl rfl) ?_
      refine SL.ru rfl rfl (lt_b rfl) (ru_move rfl rfl) ?_
      refine SL.ru rfl rfl (lt_b rfl) (ru_move rfl rfl) ?_
      refine SL.ru rfl rfl (lt_b rfl) (ru_nilCheck rfl rfl) ?_
      refine SL.ru rfl rfl (lt_b rfl) (ru_fieldAddr (o2 := 40) fd68_2 rfl rfl rfl) ?_
      refine SL.ru rfl rfl (lt_b rfl) (ru_indexA (o2 := 40 + ((A.r 2).toNat) * 4) ar66 rfl rfl rfl (by omega) (by omega) rfl) ?_
      refine SL.ru rfl rfl (lt_b rfl) (ru_fieldAddr (o2 := (40 + ((A.r 2).toNat) * 4)) fd65_0 rfl rfl rfl) ?_
      refine SL.ru rfl rfl (lt_b rfl) (ru_load (i := 0) (v := iw (A.room ((A.r 2).toNat))) ts3 rfl rfl rfl (nc_room (by omega))) ?_
      refine SL.ru rfl rfl (lt_b rfl) (ru_gt (b := (decide (((A.room ((A.r 2).toNat)) : Int) < (f.length : Int)))) rfl rfl rfl rfl) ?_
      refine SL.ru rfl rfl (lt_b rfl) (ru_assign rfl rfl) ?_
      refine SL.nil ?_
      refine SC.of_SE ?_
      refine SC.norm [(0, pt d 0), (1, Value.slice a f.length c), (2, bo bad), (6, iw 0), (7, iw (A.r 2)), (33, bo (decide (((A.room ((A.r 2).toNat)) : Int) < (f.length : Int))))] [rBlk d (nc A tv cv) 68, rFrs F tv cv A.tb A.cb] ⟨rfl, rfl, rfl, rfl, rfl, rfl, trivial⟩ rfl ?_
      refine SC.both (decide (((A.room ((A.r 2).toNat)) : Int) < (f.length : Int))) rfl (fun h3 => ?_) (fun h3 => ?_)
      · skip
        refine SC.seq ?_
        refine SC.region_tail 9 (by kernel_rfl) (by kernel_rfl) ?_
        refine SQ.ru rfl rfl (lt_b rfl) (ru_move rfl rfl) ?_
        refine SQ.ru rfl rfl (lt_b rfl) (ru_nilCheck rfl rfl) ?_
        refine SQ.ru rfl rfl (lt_b rfl) (ru_fieldAddr (o2 := 0) fd68_0 rfl rfl rfl) ?_
        refine SQ.ru rfl rfl (lt_b rfl) (ru_indexA (o2 := 7) ar44 rfl rfl rfl (by decide) (by decide) rfl) ?_
        refine SQ.ru rfl rfl (lt_b rfl) (ru_load (i := 0) (v := iw (A.r 7)) ts3 rfl rfl rfl (nc_r (by decide))) ?_
        refine SQ.ru rfl rfl (lt_b rfl) (ru_add (r := (IntKind.i64.wrap ((A.r 7) + 1))) rfl rfl rfl rfl) ?_
        refine SQ.ru rfl rfl (lt_b rfl) (ru_nilCheck rfl rfl) ?_
        refine SQ.ru rfl rfl (lt_b rfl) (ru_fieldAddr (o2 := 0) fd68_0 rfl rfl rfl) ?_
        refine SQ.ru rfl rfl (lt_b rfl) (ru_indexA (o2 := 7) ar44 rfl rfl rfl (by decide) (by decide) rfl) ?_
        refine SQ.nilL ?_
        refine SL.store (i := 0) (c' := (nc { A with r := up A.r 7 (IntKind.i64.wrap ((A.r 7) + 1)) } tv cv)) rfl rfl ts3 rfl rfl rfl rfl rfl (by rw [nc_len]; omega) (.inl rfl) (set_r (by decide) (IntKind.i64.wrap ((A.r 7) + 1))) ?_
        refine SL.nil ?_
        refine SC.of_SE ?_
        refine SC.norm [(0, pt d 0), (1, Value.slice a f.length c), (2, bo bad), (6, iw 0), (7, iw (A.r 2))] [rBlk d (nc { A with r := up A.r 7 (IntKind.i64.wrap ((A.r 7) + 1)) } tv cv) 68, rFrs F tv cv A.tb A.cb] ⟨rfl, rfl, rfl, rfl, rfl, trivial⟩ rfl ?_
        refine SC.seq ?_
        refine SC.region ?_
        refine SL.ru rfl rfl (lt_b rfl) (ru_assign rfl rfl) ?_
        refine SL.nil ?_
        refine SC.of_SE ?_
        refine SC.norm [(0, pt d 0), (1, Value.slice a f.length c), (2, bo bad), (6, iw 2), (7, iw (A.r 2))] [rBlk d (nc { A with r := up A.r 7 (IntKind.i64.wrap ((A.r 7) + 1)) } tv cv) 68, rFrs F tv cv A.tb A.cb] ⟨rfl, rfl, rfl, rfl, rfl, trivial⟩ rfl ?_
        refine SC.ret ?_
        refine SE.blkr ?_
        refine SE.passr ?_
        refine SE.res (.inl rfl) (res1 Try.results14 rfl) fun w1 hI => ?_
        have e : giveF A f bad = (2, { A with r := up A.r 7 (IntKind.i64.wrap ((A.r 7) + 1)) }) := by
          try simp at h1 h2 h3
          unfold giveF
          (repeat' split) <;> first | rfl | (exfalso; omega) | (exfalso; simp_all; done) | (exfalso; simp_all; omega)
        rw [e]
        exact ⟨rfl, NicAt.fin hI⟩
      · skip
        refine SC.skip ?_
        refine SE.blkn ?_
        refine SC.of_SE ?_
        refine SC.norm [(0, pt d 0), (1, Value.slice a f.length c), (2, bo bad), (6, iw 0), (7, iw (A.r 2))] [rBlk d (nc A tv cv) 68, rFrs F tv cv A.tb A.cb] ⟨rfl, rfl, rfl, rfl, rfl, trivial⟩ rfl ?_
        refine SC.seq ?_
        refine SC.region_alloc 16 10 (fun b4 => rBlk b4 (f.map bv) 5) (by kernel_rfl) (by kernel_rfl) rfl (fun b4 hb4 => ?_)
        refine SS.ru _ CA.base rfl rfl rfl (lt_b rfl) (ru_move rfl rfl) ?_
        refine SS.ru _ CA.base rfl rfl rfl (lt_b rfl) (ru_move rfl rfl) ?_
        refine SS.ru _ CA.base rfl rfl rfl (lt_b rfl) (ru_move rfl rfl) ?_
        refine SS.ru _ CA.base rfl rfl rfl (lt_b rfl) (ru_move rfl rfl) ?_
        refine SS.ru _ CA.base rfl rfl rfl (lt_b rfl) (ru_nilCheck rfl rfl) ?_
        refine SS.ru _ CA.base rfl rfl rfl (lt_b rfl) (ru_fieldAddr (o2 := 40) fd68_2 rfl rfl rfl) ?_
        refine SS.ru _ CA.base rfl rfl rfl (lt_b rfl) (ru_indexA (o2 := 40 + ((A.r 2).toNat) * 4) ar66 rfl rfl rfl (by omega) (by omega) rfl) ?_
        refine SS.ru _ CA.base rfl rfl rfl (lt_b rfl) (ru_fieldAddr (o2 := (40 + ((A.r 2).toNat) * 4)) fd65_0 rfl rfl rfl) ?_
        refine SS.ru _ CA.base rfl rfl rfl (lt_b rfl) (ru_load (i := 0) (v := iw (A.room ((A.r 2).toNat))) ts3 rfl rfl rfl (nc_room (by omega))) ?_
        refine SS.ru _ CA.base rfl rfl rfl (lt_b rfl) (ru_move rfl rfl) ?_
        refine SS.newcall (sl b4 0 f.length f.length) rfl rfl co25 rfl rfl rfl (lt_b rfl) (fun w hI hz => (copied_any (hb.only hI.2 hs)).mono fun e w2 ⟨h1, h2, h3⟩ => ⟨by rw [h1, hz], hI.add h3 (hz ▸ h2) (fun q hq => by cases hq; rw [hz]; exact Nat.le_refl _)⟩) ?_
        refine SS.ru _ CA.base rfl rfl rfl (lt_b rfl) (ru_move rfl rfl) ?_
        refine SS.ru _ CA.base rfl rfl rfl (lt_b rfl) (ru_build (vals := [(0, iw (A.room ((A.r 2).toNat))), (1, bo true), (2, sl b4 0 f.length f.length), (3, bo bad)]) (cells := [iw (A.room ((A.r 2).toNat)), bo true, sl b4 0 f.length f.length, bo bad]) rfl rfl (by kernel_rfl)) ?_
        refine SS.ru _ CA.base rfl rfl rfl (lt_b rfl) (ru_nilCheck rfl rfl) ?_
        refine SS.ru _ CA.base rfl rfl rfl (lt_b rfl) (ru_fieldAddr (o2 := 40) fd68_2 rfl rfl rfl) ?_
        refine SS.ru _ CA.base rfl rfl rfl (lt_b rfl) (ru_indexA (o2 := 40 + ((A.r 2).toNat) * 4) ar66 rfl rfl rfl (by omega) (by omega) rfl) ?_
        refine SS.nilA ?_
        refine SL.storea (i := 0) (vs := [iw (A.room ((A.r 2).toNat)), bo true, sl b4 0 f.length f.length, bo bad]) (c' := (nc { A with room := up A.room ((A.r 2).toNat) (A.room ((A.r 2).toNat)), has := up A.has ((A.r 2).toNat) true, bad := up A.bad ((A.r 2).toNat) bad } tv (up cv ((A.r 2).toNat) (sl b4 0 f.length f.length)))) rfl rfl ta65 rfl rfl rfl rfl rfl rfl (by rw [nc_len]; simp; omega) (.inl rfl) (set_rx (by omega) (A.room ((A.r 2).toNat)) true bad (sl b4 0 f.length f.length)) ?_
        refine SL.nil ?_
        refine SC.of_SE ?_
        refine SC.norm [(0, pt d 0), (6, iw 0), (7, iw (A.r 2))] [rBlk d (nc { A with room := up A.room ((A.r 2).toNat) (A.room ((A.r 2).toNat)), has := up A.has ((A.r 2).toNat) true, bad := up A.bad ((A.r 2).toNat) bad } tv (up cv ((A.r 2).toNat) (sl b4 0 f.length f.length))) 68, rFrs F tv cv A.tb A.cb, rBlk b4 (f.map bv) 5] ⟨rfl, rfl, rfl, trivial⟩ rfl ?_
        refine SC.seq ?_
        refine SC.region_tail 6 (by kernel_rfl) (by kernel_rfl) ?_
        refine SQ.ru rfl rfl (lt_b rfl) (ru_move rfl rfl) ?_
        refine SQ.ru rfl rfl (lt_b rfl) (ru_move rfl rfl) ?_
        refine SQ.call (iw (nx (A.r 2))) rfl rfl co23 rfl rfl rfl (lt_b rfl) (fun w hI => H_same hI (next_any w (by omega))) ?_
        refine SQ.ru rfl rfl (lt_b rfl) (ru_nilCheck rfl rfl) ?_
        refine SQ.ru rfl rfl (lt_b rfl) (ru_fieldAddr (o2 := 0) fd68_0 rfl rfl rfl) ?_
        refine SQ.ru rfl rfl (lt_b rfl) (ru_indexA (o2 := 2) ar44 rfl rfl rfl (by decide) (by decide) rfl) ?_
        refine SQ.nilL ?_
        refine SL.store (i := 0) (c' := (nc { A with r := up A.r 2 (nx (A.r 2)), room := up A.room ((A.r 2).toNat) (A.room ((A.r 2).toNat)), has := up A.has ((A.r 2).toNat) true, bad := up A.bad ((A.r 2).toNat) bad } tv (up cv ((A.r 2).toNat) (sl b4 0 f.length f.length)))) rfl rfl ts3 rfl rfl rfl rfl rfl (by rw [nc_len]; omega) (.inl rfl) (set_r (by decide) (nx (A.r 2))) ?_
        refine SL.nil ?_
        refine SC.of_SE ?_
        refine SC.norm [(0, pt d 0), (6, iw 0)] [rBlk d (nc { A with r := up A.r 2 (nx (A.r 2)), room := up A.room ((A.r 2).toNat) (A.room ((A.r 2).toNat)), has := up A.has ((A.r 2).toNat) true, bad := up A.bad ((A.r 2).toNat) bad } tv (up cv ((A.r 2).toNat) (sl b4 0 f.length f.length))) 68, rFrs F tv cv A.tb A.cb, rBlk b4 (f.map bv) 5] ⟨rfl, rfl, trivial⟩ rfl ?_
        refine SC.seq ?_
        refine SC.region_tail 9 (by kernel_rfl) (by kernel_rfl) ?_
        refine SQ.ru rfl rfl (lt_b rfl) (ru_move rfl rfl) ?_
        refine SQ.ru rfl rfl (lt_b rfl) (ru_nilCheck rfl rfl) ?_
        refine SQ.ru rfl rfl (lt_b rfl) (ru_fieldAddr (o2 := 0) fd68_0 rfl rfl rfl) ?_
        refine SQ.ru rfl rfl (lt_b rfl) (ru_indexA (o2 := 6) ar44 rfl rfl rfl (by decide) (by decide) rfl) ?_
        refine SQ.ru rfl rfl (lt_b rfl) (ru_load (i := 0) (v := iw (A.r 6)) ts3 rfl rfl rfl (nc_r (by decide))) ?_
        refine SQ.ru rfl rfl (lt_b rfl) (ru_or (r := (bits .or .i64 (A.r 6) 1)) rfl rfl rfl rfl) ?_
        refine SQ.ru rfl rfl (lt_b rfl) (ru_nilCheck rfl rfl) ?_
        refine SQ.ru rfl rfl (lt_b rfl) (ru_fieldAddr (o2 := 0) fd68_0 rfl rfl rfl) ?_
        refine SQ.ru rfl rfl (lt_b rfl) (ru_indexA (o2 := 6) ar44 rfl rfl rfl (by decide) (by decide) rfl) ?_
        refine SQ.nilL ?_
        refine SL.store (i := 0) (c' := (nc { A with r := up (up A.r 2 (nx (A.r 2))) 6 (bits .or .i64 (A.r 6) 1), room := up A.room ((A.r 2).toNat) (A.room ((A.r 2).toNat)), has := up A.has ((A.r 2).toNat) true, bad := up A.bad ((A.r 2).toNat) bad } tv (up cv ((A.r 2).toNat) (sl b4 0 f.length f.length)))) rfl rfl ts3 rfl rfl rfl rfl rfl (by rw [nc_len]; omega) (.inl rfl) (set_r (by decide) (bits .or .i64 (A.r 6) 1)) ?_
        refine SL.nil ?_
        refine SC.of_SE ?_
        refine SC.norm [(6, iw 0)] [rBlk d (nc { A with r := up (up A.r 2 (nx (A.r 2))) 6 (bits .or .i64 (A.r 6) 1), room := up A.room ((A.r 2).toNat) (A.room ((A.r 2).toNat)), has := up A.has ((A.r 2).toNat) true, bad := up A.bad ((A.r 2).toNat) bad } tv (up cv ((A.r 2).toNat) (sl b4 0 f.length f.length))) 68, rFrs F tv cv A.tb A.cb, rBlk b4 (f.map bv) 5] ⟨rfl, trivial⟩ rfl ?_
        refine SC.seq ?_
        refine SC.region ?_
        refine SL.ru rfl rfl (lt_b rfl) (ru_assign rfl rfl) ?_
        refine SL.nil ?_
        refine SC.of_SE ?_
        refine SC.norm [(6, iw 0)] [rBlk d (nc { A with r := up (up A.r 2 (nx (A.r 2))) 6 (bits .or .i64 (A.r 6) 1), room := up A.room ((A.r 2).toNat) (A.room ((A.r 2).toNat)), has := up A.has ((A.r 2).toNat) true, bad := up A.bad ((A.r 2).toNat) bad } tv (up cv ((A.r 2).toNat) (sl b4 0 f.length f.length))) 68, rFrs F tv cv A.tb A.cb, rBlk b4 (f.map bv) 5] ⟨rfl, trivial⟩ rfl ?_
        refine SC.ret ?_
        refine SE.res (.inl rfl) (res1 Try.results14 rfl) fun w1 hI => ?_
        have e : giveF A f bad = (0, { A with cb := up A.cb (A.r 2).toNat f, r := up (up A.r 2 (nx (A.r 2))) 6 (bits .or .i64 (A.r 6) 1), room := up A.room ((A.r 2).toNat) (A.room ((A.r 2).toNat)), has := up A.has ((A.r 2).toNat) true, bad := up A.bad ((A.r 2).toNat) bad }) := by
          try simp at h1 h2 h3
          unfold giveF
          (repeat' split) <;> first | rfl | (exfalso; omega) | (exfalso; simp_all; done) | (exfalso; simp_all; omega)
        rw [e]
        exact ⟨rfl, NicAt.fin_rx hbl hb4 hI⟩

theorem p_take {w : World} {d : Nat} {F : Nat → Prop} {A : NicA} (hk : NicOk A) (h : NicAt 68 w d F A)  : Calls Try.prog 11 #[pt d 0] w fun e w' => ∃ v, e = .returned (.tuple #[.agg #[v, bo false, iw (takeR A).1.1.2], iw (takeR A).1.2]) ∧ NicAt 68 w' d F (takeR A).2 ∧ Only (fun b => b = d) w w' ∧ Out 5 w w' v (takeR A).1.1.1 := by
  have hok := hk
  obtain ⟨r2, r3, r4, r5, r6, _, _, _⟩ := hok
  obtain ⟨tv, cv, hI⟩ := h.inv 54 (fun b => b = d)
  refine calls_sc (l0 := _) (args := [pt d 0]) (fun b => b = d) Try.func11 rfl 54 Try.ntmps11 (le_b rfl) hI ?_
  show SC _ _ _ _ [(0, pt d 0)] [rBlk d (nc A tv cv) 68, rFrs F tv cv A.tb A.cb]
  refine SC.seq ?_
  refine SC.region ?_
  refine SL.alloca rfl rfl (lt_b rfl) ta35 rfl fun b1 hb1 => ?_
  refine SL.ru rfl rfl (lt_b rfl) (ru_assign rfl rfl) ?_
  refine SL.nil ?_
  refine SC.of_SE ?_
  refine SC.norm [(0, pt d 0), (2, pt b1 0), (3, iw 0)] [rBlk d (nc A tv cv) 68, rFrs F tv cv A.tb A.cb, rBlk b1 [Value.slice none 0 0, bo false, iw 0] 35] ⟨rfl, rfl, rfl, trivial⟩ rfl ?_
  refine SC.seq ?_
  refine SC.region ?_
  refine SL.ru rfl rfl (lt_b rfl) (ru_move rfl rfl) ?_
  refine SL.ru rfl rfl (lt_b rfl) (ru_nilCheck rfl rfl) ?_
  refine SL.ru rfl rfl (lt_b rfl) (ru_fieldAddr (o2 := 0) fd68_0 rfl rfl rfl) ?_
  refine SL.ru rfl rfl (lt_b rfl) (ru_indexA (o2 := 4) ar44 rfl rfl rfl (by decide) (by decide) rfl) ?_
  refine SL.ru rfl rfl (lt_b rfl) (ru_load (i := 0) (v := iw (A.r 4)) ts3 rfl rfl rfl (nc_r (by decide))) ?_
  refine SL.ru rfl rfl (lt_b rfl) (ru_assign rfl rfl) ?_
  refine SL.nil ?_
  refine SC.of_SE ?_
  refine SC.norm [(0, pt d 0), (2, pt b1 0), (3, iw 0), (4, iw (A.r 4))] [rBlk d (nc A tv cv) 68, rFrs F tv cv A.tb A.cb, rBlk b1 [Value.slice none 0 0, bo false, iw 0] 35] ⟨rfl, rfl, rfl, rfl, trivial⟩ rfl ?_
  refine SC.seq ?_
  refine SC.block ?_
  refine SC.seq ?_
  refine SC.region ?_
  refine SL.ru rfl rfl (lt_b rfl) (ru_move rfl rfl) ?_
  refine SL.callv (bo (offB A)) rfl rfl co26 rfl rfl rfl (lt_b rfl) (fun w hI => H_only hI (p_off hk (NicAt.of hI))) ?_
  refine SL.ru rfl rfl (lt_b rfl) (ru_assign rfl rfl) ?_
  refine SL.nil ?_
  refine SC.of_SE ?_
  refine SC.norm [(0, pt d 0), (2, pt b1 0), (3, iw 0), (4, iw (A.r 4)), (10, bo (offB A))] [rBlk d (nc A tv cv) 68, rFrs F tv cv A.tb A.cb, rBlk b1 [Value.slice none 0 0, bo false, iw 0] 35] ⟨rfl, rfl, rfl, rfl, rfl, trivial⟩ rfl ?_
  refine SC.both (offB A) rfl (fun h2 => ?_) (fun h2 => ?_)
  · skip
    refine SC.seq ?_
    refine SC.region ?_
    refine SL.ru rfl rfl (lt_b rfl) (ru_build (vals := []) (cells := [Value.slice none 0 0, bo false, iw 0]) rfl rfl (by kernel_rfl)) ?_
    refine SL.storea (i := 2) (vs := [Value.slice none 0 0, bo false, iw 0]) (c' := [Value.slice none 0 0, bo false, iw 0]) rfl rfl ta35 rfl rfl rfl rfl rfl rfl (le_b rfl) (.inr hb1) rfl ?_
    refine SL.ru rfl rfl (lt_b rfl) (ru_assign rfl rfl) ?_
    refine SL.nil ?_
    refine SC.of_SE ?_
    refine SC.norm [(0, pt d 0), (2, pt b1 0), (3, iw 20), (4, iw (A.r 4))] [rBlk d (nc A tv cv) 68, rFrs F tv cv A.tb A.cb, rBlk b1 [Value.slice none 0 0, bo false, iw 0] 35] ⟨rfl, rfl, rfl, rfl, trivial⟩ rfl ?_
    refine SC.ret ?_
    refine SE.blkr ?_
    refine SE.passr ?_
    refine SE.res (.inl rfl) (res_ct (z := [Value.slice none 0 0, bo false, iw 0]) (c := [Value.slice none 0 0, bo false, iw 0]) Try.results11 ta35 rfl rfl 2 rfl rfl) fun w1 hI => ?_
    have e : takeR A = ((([], 0), 20), A) := by
      try simp at h2
      unfold takeR
      (repeat' split) <;> first | rfl | (exfalso; omega) | (exfalso; simp_all; done) | (exfalso; simp_all; omega)
    rw [e]
    exact ⟨_, rfl, NicAt.of hI, hI.2, .inl ⟨rfl, rfl⟩⟩
  · skip
    refine SC.seq ?_
    refine SC.region ?_
    refine SL.ru rfl rfl (lt_b rfl) (ru_move rfl rfl) ?_
    refine SL.ru rfl rfl (lt_b rfl) (ru_move rfl rfl) ?_
    refine SL.ru rfl rfl (lt_b rfl) (ru_nilCheck rfl rfl) ?_
    refine SL.ru rfl rfl (lt_b rfl) (ru_fieldAddr (o2 := 0) fd68_0 rfl rfl rfl) ?_
    refine SL.ru rfl rfl (lt_b rfl) (ru_indexA (o2 := 5) ar44 rfl rfl rfl (by decide) (by decide) rfl) ?_
    refine SL.ru rfl rfl (lt_b rfl) (ru_load (i := 0) (v := iw (A.r 5)) ts3 rfl rfl rfl (nc_r (by decide))) ?_
    refine SL.ru rfl rfl (lt_b rfl) (ru_eq (b := (((A.r 4) : Int) == (A.r 5))) rfl rfl rfl rfl) ?_
    refine SL.ru rfl rfl (lt_b rfl) (ru_assign rfl rfl) ?_
    refine SL.nil ?_
    refine SC.of_SE ?_
    refine SC.norm [(0, pt d 0), (2, pt b1 0), (3, iw 0), (4, iw (A.r 4)), (14, bo (((A.r 4) : Int) == (A.r 5)))] [rBlk d (nc A tv cv) 68, rFrs F tv cv A.tb A.cb, rBlk b1 [Value.slice none 0 0, bo false, iw 0] 35] ⟨rfl, rfl, rfl, rfl, rfl, trivial⟩ rfl ?_
    refine SC.both (((A.r 4) : Int) == (A.r 5)) rfl (fun h3 => ?_) (fun h3 => ?_)
    · skip
      refine SC.seq ?_
      refine SC.region ?_
      refine SL.ru rfl rfl (lt_b rfl) (ru_build (vals := []) (cells := [Value.slice none 0 0, bo false, iw 0]) rfl rfl (by kernel_rfl)) ?_
      refine SL.storea (i := 2) (vs := [Value.slice none 0 0, bo false, iw 0]) (c' := [Value.slice none 0 0, bo false, iw 0]) rfl rfl ta35 rfl rfl rfl rfl rfl rfl (le_b rfl) (.inr hb1) rfl ?_
      refine SL.ru rfl rfl (lt_b rfl) (ru_assign rfl rfl) ?_
      refine SL.nil ?_
      refine SC.of_SE ?_
      refine SC.norm [(0, pt d 0), (2, pt b1 0), (3, iw 7), (4, iw (A.r 4))] [rBlk d (nc A tv cv) 68, rFrs F tv cv A.tb A.cb, rBlk b1 [Value.slice none 0 0, bo false, iw 0] 35] ⟨rfl, rfl, rfl, rfl, trivial⟩ rfl ?_
      refine SC.ret ?_
      refine SE.blkr ?_
      refine SE.passr ?_
      refine SE.res (.inl rfl) (res_ct (z := [Value.slice none 0 0, bo false, iw 0]) (c := [Value.slice none 0 0, bo false, iw 0]) Try.results11 ta35 rfl rfl 2 rfl rfl) fun w1 hI => ?_
      have e : takeR A = ((([], 0), 7), A) := by
        try simp at h2 h3
        unfold takeR
        (repeat' split) <;> first | rfl | (exfalso; omega) | (exfalso; simp_all; done) | (exfalso; simp_all; omega)
      rw [e]
      exact ⟨_, rfl, NicAt.of hI, hI.2, .inl ⟨rfl, rfl⟩⟩
    · skip
      refine SC.skip ?_
      refine SE.blkn ?_
      refine SC.of_SE ?_
      refine SC.norm [(0, pt d 0), (2, pt b1 0), (3, iw 0), (4, iw (A.r 4))] [rBlk d (nc A tv cv) 68, rFrs F tv cv A.tb A.cb, rBlk b1 [Value.slice none 0 0, bo false, iw 0] 35] ⟨rfl, rfl, rfl, rfl, trivial⟩ rfl ?_
      refine SC.seq ?_
      refine SC.region_tail 6 (by kernel_rfl) (by kernel_rfl) ?_
      refine SQ.ru rfl rfl (lt_b rfl) (ru_move rfl rfl) ?_
      refine SQ.ru rfl rfl (lt_b rfl) (ru_move rfl rfl) ?_
      refine SQ.call (iw (nx (A.r 4))) rfl rfl co23 rfl rfl rfl (lt_b rfl) (fun w hI => H_same hI (next_any w (by omega))) ?_
      refine SQ.ru rfl rfl (lt_b rfl) (ru_nilCheck rfl rfl) ?_
      refine SQ.ru rfl rfl (lt_b rfl) (ru_fieldAddr (o2 := 0) fd68_0 rfl rfl rfl) ?_
      refine SQ.ru rfl rfl (lt_b rfl) (ru_indexA (o2 := 4) ar44 rfl rfl rfl (by decide) (by decide) rfl) ?_
      refine SQ.nilL ?_
      refine SL.store (i := 0) (c' := (nc { A with r := up A.r 4 (nx (A.r 4)) } tv cv)) rfl rfl ts3 rfl rfl rfl rfl rfl (by rw [nc_len]; omega) (.inl rfl) (set_r (by decide) (nx (A.r 4))) ?_
      refine SL.nil ?_
      refine SC.of_SE ?_
      refine SC.norm [(0, pt d 0), (2, pt b1 0), (3, iw 0), (4, iw (A.r 4))] [rBlk d (nc { A with r := up A.r 4 (nx (A.r 4)) } tv cv) 68, rFrs F tv cv A.tb A.cb, rBlk b1 [Value.slice none 0 0, bo false, iw 0] 35] ⟨rfl, rfl, rfl, rfl, trivial⟩ rfl ?_
      refine SC.seq ?_
      refine SC.region_tail 9 (by kernel_rfl) (by kernel_rfl) ?_
      refine SQ.ru rfl rfl (lt_b rfl) (ru_move rfl rfl) ?_
      refine SQ.ru rfl rfl (lt_b rfl) (ru_nilCheck rfl rfl) ?_
      refine SQ.ru rfl rfl (lt_b rfl) (ru_fieldAddr (o2 := 0) fd68_0 rfl rfl rfl) ?_
      refine SQ.ru rfl rfl (lt_b rfl) (ru_indexA (o2 := 6) ar44 rfl rfl rfl (by decide) (by decide) rfl) ?_
      refine SQ.ru rfl rfl (lt_b rfl) (ru_load (i := 0) (v := iw (A.r 6)) ts3 rfl rfl rfl (nc_r (by decide))) ?_
      refine SQ.ru rfl rfl (lt_b rfl) (ru_or (r := (bits .or .i64 (A.r 6) 2)) rfl rfl rfl rfl) ?_
      refine SQ.ru rfl rfl (lt_b rfl) (ru_nilCheck rfl rfl) ?_
      refine SQ.ru rfl rfl (lt_b rfl) (ru_fieldAddr (o2 := 0) fd68_0 rfl rfl rfl) ?_
      refine SQ.ru rfl rfl (lt_b rfl) (ru_indexA (o2 := 6) ar44 rfl rfl rfl (by decide) (by decide) rfl) ?_
      refine SQ.nilL ?_
      refine SL.store (i := 0) (c' := (nc { A with r := up (up A.r 4 (nx (A.r 4))) 6 (bits .or .i64 (A.r 6) 2) } tv cv)) rfl rfl ts3 rfl rfl rfl rfl rfl (by rw [nc_len]; omega) (.inl rfl) (set_r (by decide) (bits .or .i64 (A.r 6) 2)) ?_
      refine SL.nil ?_
      refine SC.of_SE ?_
      refine SC.norm [(0, pt d 0), (2, pt b1 0), (3, iw 0), (4, iw (A.r 4))] [rBlk d (nc { A with r := up (up A.r 4 (nx (A.r 4))) 6 (bits .or .i64 (A.r 6) 2) } tv cv) 68, rFrs F tv cv A.tb A.cb, rBlk b1 [Value.slice none 0 0, bo false, iw 0] 35] ⟨rfl, rfl, rfl, rfl, trivial⟩ rfl ?_
      refine SC.seq ?_
      refine SC.region_alloc 16 7 (fun b4 => rBlk b4 ((A.tb (A.r 4).toNat).map bv) 5) (by kernel_rfl) (by kernel_rfl) rfl (fun b4 hb4 => ?_)
      refine SS.ru _ CA.base rfl rfl rfl (lt_b rfl) (ru_move rfl rfl) ?_
      refine SS.ru _ CA.base rfl rfl rfl (lt_b rfl) (ru_move rfl rfl) ?_
      refine SS.ru _ CA.base rfl rfl rfl (lt_b rfl) (ru_nilCheck rfl rfl) ?_
      refine SS.ru _ CA.base rfl rfl rfl (lt_b rfl) (ru_fieldAddr (o2 := 8) fd68_1 rfl rfl rfl) ?_
      refine SS.ru _ CA.base rfl rfl rfl (lt_b rfl) (ru_indexA (o2 := 8 + ((A.r 4).toNat) * 2) ar63 rfl rfl rfl (by omega) (by omega) rfl) ?_
      refine SS.ru _ CA.base rfl rfl rfl (lt_b rfl) (ru_fieldAddr (o2 := (8 + ((A.r 4).toNat) * 2)) fd62_0 rfl rfl rfl) ?_
      refine SS.ru _ CA.base rfl rfl rfl (lt_b rfl) (ru_load (i := 0) (v := tv ((A.r 4).toNat)) ts30 rfl rfl rfl (nc_tv (by omega))) ?_
      refine SS.newcall (sl b4 0 ((A.tb (A.r 4).toNat).length) ((A.tb (A.r 4).toNat).length)) rfl rfl co25 rfl rfl rfl (lt_b rfl) (fun w hI hz => (copied_any (frs_tx hI (by omega))).mono fun e w2 ⟨h1, h2, h3⟩ => ⟨by rw [h1, hz], hI.add h3 (hz ▸ h2) (fun q hq => by cases hq; rw [hz]; exact Nat.le_refl _)⟩) ?_
      refine SS.ru _ CA.base rfl rfl rfl (lt_b rfl) (ru_move rfl rfl) ?_
      refine SS.ru _ CA.base rfl rfl rfl (lt_b rfl) (ru_move rfl rfl) ?_
      refine SS.ru _ CA.base rfl rfl rfl (lt_b rfl) (ru_nilCheck rfl rfl) ?_
      refine SS.ru _ CA.base rfl rfl rfl (lt_b rfl) (ru_fieldAddr (o2 := 8) fd68_1 rfl rfl rfl) ?_
      refine SS.ru _ CA.base rfl rfl rfl (lt_b rfl) (ru_indexA (o2 := 8 + ((A.r 4).toNat) * 2) ar63 rfl rfl rfl (by omega) (by omega) rfl) ?_
      refine SS.ru _ CA.base rfl rfl rfl (lt_b rfl) (ru_fieldAddr (o2 := (8 + ((A.r 4).toNat) * 2 + 1)) fd62_1 rfl rfl rfl) ?_
      refine SS.ru _ CA.base rfl rfl rfl (lt_b rfl) (ru_load (i := 0) (v := iw (A.tp ((A.r 4).toNat))) ts3 rfl rfl rfl (nc_tp (by omega))) ?_
      refine SS.ru _ CA.base rfl rfl rfl (lt_b rfl) (ru_build (vals := [(0, sl b4 0 ((A.tb (A.r 4).toNat).length) ((A.tb (A.r 4).toNat).length)), (2, iw (A.tp ((A.r 4).toNat)))]) (cells := [sl b4 0 ((A.tb (A.r 4).toNat).length) ((A.tb (A.r 4).toNat).length), bo false, iw (A.tp ((A.r 4).toNat))]) rfl rfl (by kernel_rfl)) ?_
      refine SS.nilA ?_
      refine SL.storea (i := 2) (vs := [sl b4 0 ((A.tb (A.r 4).toNat).length) ((A.tb (A.r 4).toNat).length), bo false, iw (A.tp ((A.r 4).toNat))]) (c' := [sl b4 0 ((A.tb (A.r 4).toNat).length) ((A.tb (A.r 4).toNat).length), bo false, iw (A.tp ((A.r 4).toNat))]) rfl rfl ta35 rfl rfl rfl rfl rfl rfl (le_b rfl) (.inr hb1) rfl ?_
      refine SL.ru rfl rfl (lt_b rfl) (ru_assign rfl rfl) ?_
      refine SL.nil ?_
      refine SC.of_SE ?_
      refine SC.norm [(2, pt b1 0), (3, iw 0)] [rBlk d (nc { A with r := up (up A.r 4 (nx (A.r 4))) 6 (bits .or .i64 (A.r 6) 2) } tv cv) 68, rFrs F tv cv A.tb A.cb, rBlk b1 [sl b4 0 ((A.tb (A.r 4).toNat).length) ((A.tb (A.r 4).toNat).length), bo false, iw (A.tp ((A.r 4).toNat))] 35, rBlk b4 ((A.tb (A.r 4).toNat).map bv) 5] ⟨rfl, rfl, trivial⟩ rfl ?_
      refine SC.ret ?_
      refine SE.res (.inl rfl) (res_ct (z := [Value.slice none 0 0, bo false, iw 0]) (c := [sl b4 0 ((A.tb (A.r 4).toNat).length) ((A.tb (A.r 4).toNat).length), bo false, iw (A.tp ((A.r 4).toNat))]) Try.results11 ta35 rfl rfl 2 rfl rfl) fun w1 hI => ?_
      have e : takeR A = (((A.tb (A.r 4).toNat, A.tp (A.r 4).toNat), 0), takeF A) := by
        try simp at h2 h3
        unfold takeR
        (repeat' split) <;> first | rfl | (exfalso; omega) | (exfalso; simp_all; done) | (exfalso; simp_all; omega)
      rw [e]
      exact ⟨_, rfl, NicAt.of hI, hI.2, .inr ⟨b4, hb4, rfl, hI.1.get (i := 3) rfl⟩⟩

theorem p_rx {w : World} {d : Nat} {F : Nat → Prop} {A : NicA} (hk : NicOk A) (h : NicAt 68 w d F A) (i : Int) : Calls Try.prog 15 #[pt d 0, iw i] w fun e w' => ∃ v, e = .returned (.tuple #[v, bo (rxR A i).1.2, iw (rxR A i).2]) ∧ Only (fun _ => False) w w' ∧ Out 5 w w' v (rxR A i).1.1 := by
  have hok := hk
  obtain ⟨r2, r3, r4, r5, r6, _, _, _⟩ := hok
  obtain ⟨tv, cv, hI⟩ := h.inv 38 (fun _ => False)
  refine calls_sc (l0 := _) (args := [pt d 0, iw i]) (fun _ => False) Try.func15 rfl 38 Try.ntmps15 (le_b rfl) hI ?_
  show SC _ _ _ _ [(0, pt d 0), (1, iw i)] [rBlk d (nc A tv cv) 68, rFrs F tv cv A.tb A.cb]
  refine SC.seq ?_
  refine SC.region ?_
  refine SL.ru rfl rfl (lt_b rfl) (ru_assign rfl rfl) ?_
  refine SL.ru rfl rfl (lt_b rfl) (ru_assign rfl rfl) ?_
  refine SL.ru rfl rfl (lt_b rfl) (ru_assign rfl rfl) ?_
  refine SL.nil ?_
  refine SC.of_SE ?_
  refine SC.norm [(0, pt d 0), (1, iw i), (4, Value.slice none 0 0), (5, bo false), (6, iw 0)] [rBlk d (nc A tv cv) 68, rFrs F tv cv A.tb A.cb] ⟨rfl, rfl, rfl, rfl, rfl, trivial⟩ rfl ?_
  refine SC.seq ?_
  refine SC.block ?_
  refine SC.seq ?_
  refine SC.region ?_
  refine SL.ru rfl rfl (lt_b rfl) (ru_move rfl rfl) ?_
  refine SL.ru rfl rfl (lt_b rfl) (ru_lt (b := (decide ((i : Int) < 0))) rfl rfl rfl rfl) ?_
  refine SL.ru rfl rfl (lt_b rfl) (ru_move rfl rfl) ?_
  refine SL.join 3 [(0, pt d 0), (1, iw i), (4, Value.slice none 0 0), (5, bo false), (6, iw 0), (8, iw i), (9, bo (decide ((i : Int) < 0))), (10, bo (decide ((i : Int) < 0))), (13, bo ((decide ((i : Int) < 0)) || (decide ((16 : Int) ≤ i))))] [rBlk d (nc A tv cv) 68, rFrs F tv cv A.tb A.cb] ?_ ?_
  rotate_left
  · intro K hK
    rcases tf (decide ((i : Int) < 0)) with h1 | h1
    · skip
      refine SL.norm [(0, pt d 0), (1, iw i), (4, Value.slice none 0 0), (5, bo false), (6, iw 0), (8, iw i), (9, bo true), (10, bo true)] [rBlk d (nc A tv cv) 68, rFrs F tv cv A.tb A.cb] ⟨rfl, rfl, rfl, rfl, rfl, rfl, (congrArg (fun x => some (Value.bool x)) h1), (congrArg (fun x => some (Value.bool x)) h1), trivial⟩ rfl ?_
      refine SL.off (b := true) rfl rfl rfl rfl rfl (lt_b rfl) ?_
      refine SL.off (b := true) rfl rfl rfl rfl rfl (lt_b rfl) ?_
      refine SL.ru rfl rfl (lt_b rfl) (ru_pick (u := bo true) (v := undef) rfl rfl rfl rfl) ?_
      exact SL.joined hK ⟨rfl, rfl, rfl, rfl, rfl, rfl, (congrArg (fun x => some (Value.bool x)) h1.symm), (congrArg (fun x => some (Value.bool x)) h1.symm), (congrArg (fun x => some (Value.bool (x || (decide ((16 : Int) ≤ i))))) h1.symm), trivial⟩ rfl
    · skip
      refine SL.norm [(0, pt d 0), (1, iw i), (4, Value.slice none 0 0), (5, bo false), (6, iw 0), (8, iw i), (9, bo false), (10, bo false)] [rBlk d (nc A tv cv) 68, rFrs F tv cv A.tb A.cb] ⟨rfl, rfl, rfl, rfl, rfl, rfl, (congrArg (fun x => some (Value.bool x)) h1), (congrArg (fun x => some (Value.bool x)) h1), trivial⟩ rfl ?_
      refine SL.rug rfl rfl rfl rfl (lt_b rfl) (ru_move rfl rfl) ?_
      refine SL.rug rfl rfl rfl rfl (lt_b rfl) (ru_ge (b := (decide ((16 : Int) ≤ i))) rfl rfl rfl rfl) ?_
      refine SL.ru rfl rfl (lt_b rfl) (ru_pick (u := bo true) (v := bo (decide ((16 : Int) ≤ i))) rfl rfl rfl rfl) ?_
      exact SL.joined hK ⟨rfl, rfl, rfl, rfl, rfl, rfl, (congrArg (fun x => some (Value.bool x)) h1.symm), (congrArg (fun x => some (Value.bool x)) h1.symm), (congrArg (fun x => some (Value.bool (x || (decide ((16 : Int) ≤ i))))) h1.symm), trivial⟩ rfl
  skip
  refine SL.ru rfl rfl (lt_b rfl) (ru_assign rfl rfl) ?_
  refine SL.nil ?_
  refine SC.of_SE ?_
  refine SC.norm [(0, pt d 0), (1, iw i), (4, Value.slice none 0 0), (5, bo false), (6, iw 0), (7, bo ((decide ((i : Int) < 0)) || (decide ((16 : Int) ≤ i))))] [rBlk d (nc A tv cv) 68, rFrs F tv cv A.tb A.cb] ⟨rfl, rfl, rfl, rfl, rfl, rfl, trivial⟩ rfl ?_
  refine SC.both ((decide ((i : Int) < 0)) || (decide ((16 : Int) ≤ i))) rfl (fun h2 => ?_) (fun h2 => ?_)
  · skip
    refine SC.seq ?_
    refine SC.region ?_
    refine SL.ru rfl rfl (lt_b rfl) (ru_assign rfl rfl) ?_
    refine SL.ru rfl rfl (lt_b rfl) (ru_assign rfl rfl) ?_
    refine SL.ru rfl rfl (lt_b rfl) (ru_assign rfl rfl) ?_
    refine SL.nil ?_
    refine SC.of_SE ?_
    refine SC.norm [(0, pt d 0), (1, iw i), (4, Value.slice none 0 0), (5, bo false), (6, iw 1)] [rBlk d (nc A tv cv) 68, rFrs F tv cv A.tb A.cb] ⟨rfl, rfl, rfl, rfl, rfl, trivial⟩ rfl ?_
    refine SC.ret ?_
    refine SE.blkr ?_
    refine SE.passr ?_
    refine SE.res (.inl rfl) (res3 Try.results15 rfl rfl rfl) fun w1 hI => ?_
    have e : rxR A i = (([], false), 1) := by
      try simp at h2
      unfold rxR
      (repeat' split) <;> first | rfl | (exfalso; omega) | (exfalso; simp_all; done) | (exfalso; simp_all; omega)
    rw [e]
    exact ⟨_, rfl, hI.2, .inl ⟨rfl, rfl⟩⟩
  · skip
    have hi := host_in h2
    refine SC.seq ?_
    refine SC.region ?_
    refine SL.ru rfl rfl (lt_b rfl) (ru_move rfl rfl) ?_
    refine SL.ru rfl rfl (lt_b rfl) (ru_move rfl rfl) ?_
    refine SL.ru rfl rfl (lt_b rfl) (ru_nilCheck rfl rfl) ?_
    refine SL.ru rfl rfl (lt_b rfl) (ru_fieldAddr (o2 := 40) fd68_2 rfl rfl rfl) ?_
    refine SL.ru rfl rfl (lt_b rfl) (ru_indexA (o2 := 40 + i.toNat * 4) ar66 rfl rfl rfl (by omega) (by omega) rfl) ?_
    refine SL.ru rfl rfl (lt_b rfl) (ru_fieldAddr (o2 := (40 + i.toNat * 4 + 1)) fd65_1 rfl rfl rfl) ?_
    refine SL.ru rfl rfl (lt_b rfl) (ru_load (i := 0) (v := bo (A.has i.toNat)) ts4 rfl rfl rfl (nc_has (by omega))) ?_
    refine SL.ru rfl rfl (lt_b rfl) (ru_not (c := (!(A.has i.toNat))) rfl rfl rfl) ?_
    refine SL.ru rfl rfl (lt_b rfl) (ru_assign rfl rfl) ?_
    refine SL.nil ?_
    refine SC.of_SE ?_
    refine SC.norm [(0, pt d 0), (1, iw i), (4, Value.slice none 0 0), (5, bo false), (6, iw 0), (14, bo (!(A.has i.toNat)))] [rBlk d (nc A tv cv) 68, rFrs F tv cv A.tb A.cb] ⟨rfl, rfl, rfl, rfl, rfl, rfl, trivial⟩ rfl ?_
    refine SC.both (!(A.has i.toNat)) rfl (fun h3 => ?_) (fun h3 => ?_)
    · skip
      refine SC.seq ?_
      refine SC.region ?_
      refine SL.ru rfl rfl (lt_b rfl) (ru_assign rfl rfl) ?_
      refine SL.ru rfl rfl (lt_b rfl) (ru_assign rfl rfl) ?_
      refine SL.ru rfl rfl (lt_b rfl) (ru_assign rfl rfl) ?_
      refine SL.nil ?_
      refine SC.of_SE ?_
      refine SC.norm [(0, pt d 0), (1, iw i), (4, Value.slice none 0 0), (5, bo false), (6, iw 7)] [rBlk d (nc A tv cv) 68, rFrs F tv cv A.tb A.cb] ⟨rfl, rfl, rfl, rfl, rfl, trivial⟩ rfl ?_
      refine SC.ret ?_
      refine SE.blkr ?_
      refine SE.passr ?_
      refine SE.res (.inl rfl) (res3 Try.results15 rfl rfl rfl) fun w1 hI => ?_
      have e : rxR A i = (([], false), 7) := by
        try simp at h2 h3
        unfold rxR
        (repeat' split) <;> first | rfl | (exfalso; omega) | (exfalso; simp_all; done) | (exfalso; simp_all; omega)
      rw [e]
      exact ⟨_, rfl, hI.2, .inl ⟨rfl, rfl⟩⟩
    · skip
      refine SC.skip ?_
      refine SE.blkn ?_
      refine SC.of_SE ?_
      refine SC.norm [(0, pt d 0), (1, iw i), (4, Value.slice none 0 0), (5, bo false), (6, iw 0)] [rBlk d (nc A tv cv) 68, rFrs F tv cv A.tb A.cb] ⟨rfl, rfl, rfl, rfl, rfl, trivial⟩ rfl ?_
      refine SC.seq ?_
      refine SC.region_alloc0 7 (fun b4 => rBlk b4 ((A.cb i.toNat).map bv) 5) (by kernel_rfl) (by kernel_rfl) (by kernel_rfl) rfl (fun b4 hb4 => ?_)
      refine SS.ru _ CA.base rfl rfl rfl (lt_b rfl) (ru_move rfl rfl) ?_
      refine SS.ru _ CA.base rfl rfl rfl (lt_b rfl) (ru_move rfl rfl) ?_
      refine SS.ru _ CA.base rfl rfl rfl (lt_b rfl) (ru_nilCheck rfl rfl) ?_
      refine SS.ru _ CA.base rfl rfl rfl (lt_b rfl) (ru_fieldAddr (o2 := 40) fd68_2 rfl rfl rfl) ?_
      refine SS.ru _ CA.base rfl rfl rfl (lt_b rfl) (ru_indexA (o2 := 40 + i.toNat * 4) ar66 rfl rfl rfl (by omega) (by omega) rfl) ?_
      refine SS.ru _ CA.base rfl rfl rfl (lt_b rfl) (ru_fieldAddr (o2 := (40 + i.toNat * 4 + 2)) fd65_2 rfl rfl rfl) ?_
      refine SS.ru _ CA.base rfl rfl rfl (lt_b rfl) (ru_load (i := 0) (v := cv i.toNat) ts30 rfl rfl rfl (nc_cv (by omega))) ?_
      refine SS.newcall (sl b4 0 ((A.cb i.toNat).length) ((A.cb i.toNat).length)) rfl rfl co25 rfl rfl rfl (lt_b rfl) (fun w hI hz => (copied_any (frs_rx hI (by omega))).mono fun e w2 ⟨h1, h2, h3⟩ => ⟨by rw [h1, hz], hI.add h3 (hz ▸ h2) (fun q hq => by cases hq; rw [hz]; exact Nat.le_refl _)⟩) ?_
      refine SS.ru _ CA.base rfl rfl rfl (lt_b rfl) (ru_move rfl rfl) ?_
      refine SS.ru _ CA.base rfl rfl rfl (lt_b rfl) (ru_move rfl rfl) ?_
      refine SS.ru _ CA.base rfl rfl rfl (lt_b rfl) (ru_nilCheck rfl rfl) ?_
      refine SS.ru _ CA.base rfl rfl rfl (lt_b rfl) (ru_fieldAddr (o2 := 40) fd68_2 rfl rfl rfl) ?_
      refine SS.ru _ CA.base rfl rfl rfl (lt_b rfl) (ru_indexA (o2 := 40 + i.toNat * 4) ar66 rfl rfl rfl (by omega) (by omega) rfl) ?_
      refine SS.ru _ CA.base rfl rfl rfl (lt_b rfl) (ru_fieldAddr (o2 := (40 + i.toNat * 4 + 3)) fd65_3 rfl rfl rfl) ?_
      refine SS.ru _ CA.base rfl rfl rfl (lt_b rfl) (ru_load (i := 0) (v := bo (A.bad i.toNat)) ts4 rfl rfl rfl (nc_bad (by omega))) ?_
      refine SS.ru _ CA.base rfl rfl rfl (lt_b rfl) (ru_assign rfl rfl) ?_
      refine SS.ru _ CA.base rfl rfl rfl (lt_b rfl) (ru_assign rfl rfl) ?_
      refine SS.ru _ CA.base rfl rfl rfl (lt_b rfl) (ru_assign rfl rfl) ?_
      refine SS.nilE ?_
      refine SC.of_SE ?_
      refine SC.norm [(4, sl b4 0 ((A.cb i.toNat).length) ((A.cb i.toNat).length)), (5, bo (A.bad i.toNat)), (6, iw 0)] [rBlk d (nc A tv cv) 68, rFrs F tv cv A.tb A.cb, rBlk b4 ((A.cb i.toNat).map bv) 5] ⟨rfl, rfl, rfl, trivial⟩ rfl ?_
      refine SC.ret ?_
      refine SE.res (.inl rfl) (res3 Try.results15 rfl rfl rfl) fun w1 hI => ?_
      have e : rxR A i = ((A.cb i.toNat, A.bad i.toNat), 0) := by
        try simp at h2 h3
        unfold rxR
        (repeat' split) <;> first | rfl | (exfalso; omega) | (exfalso; simp_all; done) | (exfalso; simp_all; omega)
      rw [e]
      exact ⟨_, rfl, hI.2, .inr ⟨b4, hb4, rfl, hI.1.get (i := 2) rfl⟩⟩

end Go.Proofs.Ytloejpkefoagfaa
