/-
  A call of both devices.
-/
import Derived.Test.YtloejpkefoagfaaNicLaw
namespace Go.Proofs.Ytloejpkefoagfaa
open Go.RowKit
set_option maxRecDepth 100000
set_option maxHeartbeats 4000000
theorem does_any {w : World} {d r : Nat} {F G : Nat → Prop} {A : NicA} (hk : NicOk A) (h : Sep w [rNic 68 d F A, rNic 58 r G A]) {k n v : Int} {ov : Value} {f : List UInt8} {y : Bool} (hb : BytesAt w ov f) (hs : sliceIn ov (fun b => ¬ (b = d ∨ b = r))) :
    Calls Try.prog 20 #[pt d 0, pt r 0, .agg #[iw k, iw n, iw v, ov, bo y]] w fun e w' => e = .returned (bo true) ∧ (∃ F' G', Sep w' [rNic 68 d F' (playF A k n v f y), rNic 58 r G' (playF A k n v f y)]) ∧ Only (fun b => b = d ∨ b = r) w w' := by
  have hbl := hb.len
  obtain ⟨a, c, rfl⟩ := hb.form
  refine calls_sc (l0 := [rNic 68 d F A, rNic 58 r G A]) (args := [pt d 0, pt r 0, .agg #[iw k, iw n, iw v, .slice a f.length c, bo y]]) (fun b => b = d ∨ b = r) Try.func20 rfl 218 Try.ntmps20 (le_b rfl) ⟨h, Only.refl _ _⟩ ?_
  show SC _ _ _ _ [(0, pt d 0), (1, pt r 0), (2, .agg #[iw k, iw n, iw v, .slice a f.length c, bo y])] [rNic 68 d F A, rNic 58 r G A]
  refine SC.seq ?_
  refine SC.region ?_
  refine SL.box (c := [iw k, iw n, iw v, Value.slice a f.length c, bo y]) rfl rfl (lt_b rfl) rfl rfl rfl fun b1 hb1 => ?_
  refine SL.ru rfl rfl (lt_b rfl) (ru_assign rfl rfl) ?_
  refine SL.nil ?_
  refine SC.of_SE ?_
  refine SC.norm [(0, pt d 0), (1, pt r 0), (5, pt b1 0), (6, bo false)] [rNic 68 d F A, rNic 58 r G A, rBlk b1 [iw k, iw n, iw v, Value.slice a f.length c, bo y] 32] ⟨rfl, rfl, rfl, rfl, trivial⟩ rfl ?_
  refine SC.seq ?_
  refine SC.region ?_
  refine SL.ru rfl rfl (lt_b rfl) (ru_fieldAddr (o2 := 3) fd32_3 rfl rfl rfl) ?_
  refine SL.ru rfl rfl (lt_b rfl) (ru_load (i := 2) ts30 rfl rfl rfl rfl) ?_
  refine SL.append0 (f := f) rfl rfl (lt_b rfl) rfl Try.underlying30 (by kernel_rfl) rfl rfl (fun w hI => hb.only hI.2 hs) fun a2 c3 hq4 => ?_
  refine SL.ru rfl rfl (lt_b rfl) (ru_assign rfl rfl) ?_
  refine SL.nil ?_
  refine SC.of_SE ?_
  refine SC.norm [(0, pt d 0), (1, pt r 0), (5, pt b1 0), (6, bo false), (7, Value.slice a2 f.length c3)] [rNic 68 d F A, rNic 58 r G A, rBlk b1 [iw k, iw n, iw v, Value.slice a f.length c, bo y] 32, rMine (.slice a2 f.length c3) f 5] ⟨rfl, rfl, rfl, rfl, rfl, trivial⟩ rfl ?_
  refine SC.seq ?_
  refine SC.region ?_
  refine SL.ru rfl rfl (lt_b rfl) (ru_assign rfl rfl) ?_
  refine SL.nil ?_
  refine SC.of_SE ?_
  refine SC.norm [(0, pt d 0), (1, pt r 0), (5, pt b1 0), (6, bo false), (7, Value.slice a2 f.length c3), (8, bo true)] [rNic 68 d F A, rNic 58 r G A, rBlk b1 [iw k, iw n, iw v, Value.slice a f.length c, bo y] 32, rMine (.slice a2 f.length c3) f 5] ⟨rfl, rfl, rfl, rfl, rfl, rfl, trivial⟩ rfl ?_
  refine SC.seq ?_
  refine SC.seq ?_
  refine SC.region ?_
  refine SL.ru rfl rfl (lt_b rfl) (ru_fieldAddr (o2 := 0) fd32_0 rfl rfl rfl) ?_
  refine SL.ru rfl rfl (lt_b rfl) (ru_load (i := 2) ts3 rfl rfl rfl rfl) ?_
  refine SL.nil ?_
  refine SC.of_SE ?_
  refine SC.norm [(0, pt d 0), (1, pt r 0), (5, pt b1 0), (6, bo false), (7, Value.slice a2 f.length c3), (8, bo true), (30, iw k)] [rNic 68 d F A, rNic 58 r G A, rBlk b1 [iw k, iw n, iw v, Value.slice a f.length c, bo y] 32, rMine (.slice a2 f.length c3) f 5] ⟨rfl, rfl, rfl, rfl, rfl, rfl, rfl, trivial⟩ rfl ?_
  refine SC.block ?_
  refine SC.seq ?_
  refine SC.region ?_
  refine SL.ru rfl rfl (lt_b rfl) (ru_eq (b := ((k : Int) == 0)) rfl rfl rfl rfl) ?_
  refine SL.ru rfl rfl (lt_b rfl) (ru_assign rfl rfl) ?_
  refine SL.nil ?_
  refine SC.of_SE ?_
  refine SC.norm [(0, pt d 0), (1, pt r 0), (5, pt b1 0), (6, bo false), (7, Value.slice a2 f.length c3), (8, bo true), (30, iw k), (31, bo ((k : Int) == 0))] [rNic 68 d F A, rNic 58 r G A, rBlk b1 [iw k, iw n, iw v, Value.slice a f.length c, bo y] 32, rMine (.slice a2 f.length c3) f 5] ⟨rfl, rfl, rfl, rfl, rfl, rfl, rfl, rfl, trivial⟩ rfl ?_
  refine SC.both ((k : Int) == 0) rfl (fun h5 => ?_) (fun h5 => ?_)
  · skip
    refine SC.seq ?_
    refine SC.region ?_
    refine SL.ru rfl rfl (lt_b rfl) (ru_move rfl rfl) ?_
    refine SL.ru rfl rfl (lt_b rfl) (ru_fieldAddr (o2 := 1) fd32_1 rfl rfl rfl) ?_
    refine SL.ru rfl rfl (lt_b rfl) (ru_load (i := 2) ts3 rfl rfl rfl rfl) ?_
    refine SL.call (ζ := Nat → Prop) (fun F6 => Value.tuple #[iw ((readF A n).1.1), iw ((readF A n).1.2)]) (fun F6 => [rNic 68 d F6 ((readF A n).2), rNic 58 r G A, rBlk b1 [iw k, iw n, iw v, Value.slice a f.length c, bo y] 32, rMine (.slice a2 f.length c3) f 5]) (fun F6 => True) rfl rfl co18 rfl rfl rfl (lt_b rfl) (fun w hI => (p_read hk (nic_at hI (i := 0) rfl) n).mono fun e w2 ⟨h1, h2⟩ => by obtain ⟨F2, h3⟩ := hI.nicTo (i := 0) rfl (.inl (.inl rfl)) h2; exact ⟨F2, h1, h3, trivial⟩) ?_
    intro F6 _
    refine SL.ru rfl rfl (lt_b rfl) (ru_move rfl rfl) ?_
    refine SL.ru rfl rfl (lt_b rfl) (ru_extract rfl rfl rfl) ?_
    refine SL.ru rfl rfl (lt_b rfl) (ru_extract rfl rfl rfl) ?_
    refine SL.ru rfl rfl (lt_b rfl) (ru_assign rfl rfl) ?_
    refine SL.ru rfl rfl (lt_b rfl) (ru_assign rfl rfl) ?_
    refine SL.nil ?_
    refine SC.of_SE ?_
    refine SC.norm [(1, pt r 0), (5, pt b1 0), (6, bo false), (7, Value.slice a2 f.length c3), (8, bo true), (9, iw ((readF A n).1.1)), (10, iw ((readF A n).1.2))] [rNic 68 d F6 ((readF A n).2), rNic 58 r G A, rBlk b1 [iw k, iw n, iw v, Value.slice a f.length c, bo y] 32, rMine (.slice a2 f.length c3) f 5] ⟨rfl, rfl, rfl, rfl, rfl, rfl, rfl, trivial⟩ rfl ?_
    refine SC.seq ?_
    refine SC.region ?_
    refine SL.ru rfl rfl (lt_b rfl) (ru_move rfl rfl) ?_
    refine SL.ru rfl rfl (lt_b rfl) (ru_fieldAddr (o2 := 1) fd32_1 rfl rfl rfl) ?_
    refine SL.ru rfl rfl (lt_b rfl) (ru_load (i := 2) ts3 rfl rfl rfl rfl) ?_
    refine SL.call (ζ := Nat → Prop) (fun F7 => Value.tuple #[iw ((readF A n).1.1), iw ((readF A n).1.2)]) (fun F7 => [rNic 68 d F6 ((readF A n).2), rNic 58 r F7 ((readF A n).2), rBlk b1 [iw k, iw n, iw v, Value.slice a f.length c, bo y] 32, rMine (.slice a2 f.length c3) f 5]) (fun F7 => True) rfl rfl co27 rfl rfl rfl (lt_b rfl) (fun w hI => (q_read hk (nic_at hI (i := 1) rfl) n).mono fun e w2 ⟨h1, h2⟩ => by obtain ⟨F2, h3⟩ := hI.nicTo (i := 1) rfl (.inl (.inr rfl)) h2; exact ⟨F2, h1, h3, trivial⟩) ?_
    intro F7 _
    refine SL.ru rfl rfl (lt_b rfl) (ru_move rfl rfl) ?_
    refine SL.ru rfl rfl (lt_b rfl) (ru_extract rfl rfl rfl) ?_
    refine SL.ru rfl rfl (lt_b rfl) (ru_extract rfl rfl rfl) ?_
    refine SL.ru rfl rfl (lt_b rfl) (ru_assign rfl rfl) ?_
    refine SL.ru rfl rfl (lt_b rfl) (ru_assign rfl rfl) ?_
    refine SL.nil ?_
    refine SC.of_SE ?_
    refine SC.norm [(6, bo false), (7, Value.slice a2 f.length c3), (8, bo true), (9, iw ((readF A n).1.1)), (10, iw ((readF A n).1.2)), (11, iw ((readF A n).1.1)), (12, iw ((readF A n).1.2))] [rNic 68 d F6 ((readF A n).2), rNic 58 r F7 ((readF A n).2), rBlk b1 [iw k, iw n, iw v, Value.slice a f.length c, bo y] 32, rMine (.slice a2 f.length c3) f 5] ⟨rfl, rfl, rfl, rfl, rfl, rfl, rfl, trivial⟩ rfl ?_
    refine SC.seq ?_
    refine SC.region ?_
    refine SL.ru rfl rfl (lt_b rfl) (ru_move rfl rfl) ?_
    refine SL.ru rfl rfl (lt_b rfl) (ru_move rfl rfl) ?_
    refine SL.ru rfl rfl (lt_b rfl) (ru_eq (b := true) rfl rfl rfl (by simp)) ?_
    refine SL.ru rfl rfl (lt_b rfl) (ru_move rfl rfl) ?_
    refine SL.rug rfl rfl rfl rfl (lt_b rfl) (ru_move rfl rfl) ?_
    refine SL.rug rfl rfl rfl rfl (lt_b rfl) (ru_move rfl rfl) ?_
    refine SL.rug rfl rfl rfl rfl (lt_b rfl) (ru_eq (b := true) rfl rfl rfl (by simp)) ?_
    refine SL.ru rfl rfl (lt_b rfl) (ru_pick (u := bo true) (v := bo false) rfl rfl rfl rfl) ?_
    refine SL.ru rfl rfl (lt_b rfl) (ru_assign rfl rfl) ?_
    refine SL.nil ?_
    refine SC.of_SE ?_
    refine SC.norm [(6, bo true), (7, Value.slice a2 f.length c3), (8, bo true)] [rNic 68 d F6 ((readF A n).2), rNic 58 r F7 ((readF A n).2), rBlk b1 [iw k, iw n, iw v, Value.slice a f.length c, bo y] 32, rMine (.slice a2 f.length c3) f 5] ⟨rfl, rfl, rfl, trivial⟩ rfl ?_
    refine SC.ret ?_
    refine SE.blkr ?_
    refine SE.passr ?_
    refine SE.res (.inl rfl) (res1 Try.results20 rfl) fun w1 hI => ⟨rfl, ?_⟩
    have e : playF A k n v f y = (readF A n).2 := by
      try simp at h5
      unfold playF
      (repeat' split) <;> first | rfl | (exfalso; omega)
    rw [e]
    exact ⟨⟨_, _, hI.pair⟩, hI.2⟩
  · skip
    refine SC.seq ?_
    refine SC.region ?_
    refine SL.ru rfl rfl (lt_b rfl) (ru_eq (b := ((k : Int) == 1)) rfl rfl rfl rfl) ?_
    refine SL.ru rfl rfl (lt_b rfl) (ru_assign rfl rfl) ?_
    refine SL.nil ?_
    refine SC.of_SE ?_
    refine SC.norm [(0, pt d 0), (1, pt r 0), (5, pt b1 0), (6, bo false), (7, Value.slice a2 f.length c3), (8, bo true), (30, iw k), (55, bo ((k : Int) == 1))] [rNic 68 d F A, rNic 58 r G A, rBlk b1 [iw k, iw n, iw v, Value.slice a f.length c, bo y] 32, rMine (.slice a2 f.length c3) f 5] ⟨rfl, rfl, rfl, rfl, rfl, rfl, rfl, rfl, trivial⟩ rfl ?_
    refine SC.both ((k : Int) == 1) rfl (fun h8 => ?_) (fun h8 => ?_)
    · skip
      refine SC.seq ?_
      refine SC.region_cls [5, 11] (CP ⟨218, w, fun b => b = d ∨ b = r⟩ 5 11 d r A ((writeF A n v).2) [rBlk b1 [iw k, iw n, iw v, Value.slice a f.length c, bo y] 32, rMine (.slice a2 f.length c3) f 5]) (by kernel_rfl) (by kernel_rfl) (by kernel_rfl) rfl (fun w hI => ⟨_, _, hI⟩) ?_
      refine SS.ru _ CP.base rfl rfl rfl (lt_b rfl) (ru_move rfl rfl) ?_
      refine SS.ru _ CP.base rfl rfl rfl (lt_b rfl) (ru_fieldAddr (o2 := 1) fd32_1 rfl rfl rfl) ?_
      refine SS.ru _ CP.base rfl rfl rfl (lt_b rfl) (ru_load (i := 0) ts3 rfl rfl rfl rfl) ?_
      refine SS.ru _ CP.base rfl rfl rfl (lt_b rfl) (ru_fieldAddr (o2 := 2) fd32_2 rfl rfl rfl) ?_
      refine SS.ru _ CP.base rfl rfl rfl (lt_b rfl) (ru_load (i := 0) ts3 rfl rfl rfl rfl) ?_
      refine SS.turn (iw ((writeF A n v).1)) rfl rfl rfl co9 rfl rfl rfl (lt_b rfl) (CP.p (by decide) (.inl (.inl rfl)) (fun w F G B hI => (p_write hk (hI.1.get (i := 0) rfl) n v).mono fun e w2 ⟨h1, h2⟩ => ⟨h1, NicTo.of h2⟩)) ?_
      refine SS.ru _ CP.base rfl rfl rfl (lt_b rfl) (ru_move rfl rfl) ?_
      refine SS.ru _ CP.base rfl rfl rfl (lt_b rfl) (ru_fieldAddr (o2 := 1) fd32_1 rfl rfl rfl) ?_
      refine SS.ru _ CP.base rfl rfl rfl (lt_b rfl) (ru_load (i := 0) ts3 rfl rfl rfl rfl) ?_
      refine SS.ru _ CP.base rfl rfl rfl (lt_b rfl) (ru_fieldAddr (o2 := 2) fd32_2 rfl rfl rfl) ?_
      refine SS.ru _ CP.base rfl rfl rfl (lt_b rfl) (ru_load (i := 0) ts3 rfl rfl rfl rfl) ?_
      refine SS.turn (iw ((writeF A n v).1)) rfl rfl rfl co28 rfl rfl rfl (lt_b rfl) (CP.q (by decide) (.inl (.inr rfl)) (fun w F G B hI => (q_write hk (hI.1.get (i := 1) rfl) n v).mono fun e w2 ⟨h1, h2⟩ => ⟨h1, NicTo.of h2⟩)) ?_
      refine SS.ru _ CP.base rfl rfl rfl (lt_b rfl) (ru_eq (b := true) rfl rfl rfl (by simp)) ?_
      refine SS.ru _ CP.base rfl rfl rfl (lt_b rfl) (ru_assign rfl rfl) ?_
      refine SS.nilP fun F9 G10 => ?_
      refine SC.of_SE ?_
      refine SC.norm [(6, bo true), (7, Value.slice a2 f.length c3), (8, bo true)] [rNic 68 d F9 ((writeF A n v).2), rNic 58 r G10 ((writeF A n v).2), rBlk b1 [iw k, iw n, iw v, Value.slice a f.length c, bo y] 32, rMine (.slice a2 f.length c3) f 5] ⟨rfl, rfl, rfl, trivial⟩ rfl ?_
      refine SC.ret ?_
      refine SE.blkr ?_
      refine SE.passr ?_
      refine SE.res (.inl rfl) (res1 Try.results20 rfl) fun w1 hI => ⟨rfl, ?_⟩
      have e : playF A k n v f y = (writeF A n v).2 := by
        try simp at h5 h8
        unfold playF
        (repeat' split) <;> first | rfl | (exfalso; omega)
      rw [e]
      exact ⟨⟨_, _, hI.pair⟩, hI.2⟩
    · skip
      refine SC.seq ?_
      refine SC.region ?_
      refine SL.ru rfl rfl (lt_b rfl) (ru_eq (b := ((k : Int) == 2)) rfl rfl rfl rfl) ?_
      refine SL.ru rfl rfl (lt_b rfl) (ru_assign rfl rfl) ?_
      refine SL.nil ?_
      refine SC.of_SE ?_
      refine SC.norm [(0, pt d 0), (1, pt r 0), (5, pt b1 0), (6, bo false), (7, Value.slice a2 f.length c3), (8, bo true), (30, iw k), (70, bo ((k : Int) == 2))] [rNic 68 d F A, rNic 58 r G A, rBlk b1 [iw k, iw n, iw v, Value.slice a f.length c, bo y] 32, rMine (.slice a2 f.length c3) f 5] ⟨rfl, rfl, rfl, rfl, rfl, rfl, rfl, rfl, trivial⟩ rfl ?_
      refine SC.both ((k : Int) == 2) rfl (fun h11 => ?_) (fun h11 => ?_)
      · skip
        refine SC.region_cls [4, 10] (CP ⟨218, w, fun b => b = d ∨ b = r⟩ 4 10 d r A ((setTxF A n f).2) [rBlk b1 [iw k, iw n, iw v, Value.slice a f.length c, bo y] 32, rMine (.slice a2 f.length c3) f 5]) (by kernel_rfl) (by kernel_rfl) (by kernel_rfl) rfl (fun w hI => ⟨_, _, hI⟩) ?_
        refine SS.ru _ CP.base rfl rfl rfl (lt_b rfl) (ru_move rfl rfl) ?_
        refine SS.ru _ CP.base rfl rfl rfl (lt_b rfl) (ru_fieldAddr (o2 := 1) fd32_1 rfl rfl rfl) ?_
        refine SS.ru _ CP.base rfl rfl rfl (lt_b rfl) (ru_load (i := 0) ts3 rfl rfl rfl rfl) ?_
        refine SS.ru _ CP.base rfl rfl rfl (lt_b rfl) (ru_move rfl rfl) ?_
        refine SS.turn (iw ((setTxF A n f).1)) rfl rfl rfl co10 rfl rfl rfl (lt_b rfl) (CP.p (by decide) (.inl (.inl rfl)) (fun w F G B hI => p_settx hk (hI.1.get (i := 0) rfl) (OwnBytes.bytes (hI.1.get (i := 3) rfl) hbl) (mine_in fun b hb e => hI.apart (i := 3) (j := 0) rfl rfl (by decide) b hb (.inl e)) n)) ?_
        refine SS.ru _ CP.base rfl rfl rfl (lt_b rfl) (ru_move rfl rfl) ?_
        refine SS.ru _ CP.base rfl rfl rfl (lt_b rfl) (ru_fieldAddr (o2 := 1) fd32_1 rfl rfl rfl) ?_
        refine SS.ru _ CP.base rfl rfl rfl (lt_b rfl) (ru_load (i := 0) ts3 rfl rfl rfl rfl) ?_
        refine SS.ru _ CP.base rfl rfl rfl (lt_b rfl) (ru_fieldAddr (o2 := 3) fd32_3 rfl rfl rfl) ?_
        refine SS.ru _ CP.base rfl rfl rfl (lt_b rfl) (ru_load (i := 0) ts30 rfl rfl rfl rfl) ?_
        refine SS.turn (iw ((setTxF A n f).1)) rfl rfl rfl co29 rfl rfl rfl (lt_b rfl) (CP.q (by decide) (.inl (.inr rfl)) (fun w F G B hI => q_settx hk (hI.1.get (i := 1) rfl) (hb.only hI.2 hs) (fun b o n c e hn h => hs b o n c e hn (.inr h)) n)) ?_
        refine SS.ru _ CP.base rfl rfl rfl (lt_b rfl) (ru_eq (b := true) rfl rfl rfl (by simp)) ?_
        refine SS.ru _ CP.base rfl rfl rfl (lt_b rfl) (ru_assign rfl rfl) ?_
        refine SS.nilP fun F12 G13 => ?_
        refine SE.blkn ?_
        refine SC.of_SE ?_
        refine SC.norm [(6, bo false), (7, Value.slice a2 f.length c3), (8, bo true)] [rNic 68 d F12 ((setTxF A n f).2), rNic 58 r G13 ((setTxF A n f).2), rBlk b1 [iw k, iw n, iw v, Value.slice a f.length c, bo y] 32, rMine (.slice a2 f.length c3) f 5] ⟨rfl, rfl, rfl, trivial⟩ rfl ?_
        refine SC.seq ?_
        refine SC.seq ?_
        refine SC.region ?_
        refine SL.ru rfl rfl (lt_b rfl) (ru_assign rfl rfl) ?_
        refine SL.nil ?_
        refine SC.of_SE ?_
        refine SC.norm [(6, bo false), (7, Value.slice a2 f.length c3), (8, bo true), (25, iw 0)] [rNic 68 d F12 ((setTxF A n f).2), rNic 58 r G13 ((setTxF A n f).2), rBlk b1 [iw k, iw n, iw v, Value.slice a f.length c, bo y] 32, rMine (.slice a2 f.length c3) f 5] ⟨rfl, rfl, rfl, rfl, trivial⟩ rfl ?_
        refine SC.block ?_
        refine SC.mine (i := 3) rfl (fun eq hf0 => ?_) (fun g tl eq hc1 hc2 => ?_)
        · subst eq
          refine SC.rounds 1 ?_
          refine SR.norm [(6, bo false), (7, Value.slice none f.length c3), (8, bo true), (25, iw 0)] [rNic 68 d F12 ((setTxF A n f).2), rNic 58 r G13 ((setTxF A n f).2), rBlk b1 [iw k, iw n, iw v, Value.slice a f.length c, bo y] 32, rMine (.slice none f.length c3) f 5] ⟨rfl, rfl, rfl, rfl, trivial⟩ rfl ?_
          refine SR.next ?_
          refine SC.seq ?_
          refine SC.seq ?_
          refine SC.region ?_
          refine SL.ru rfl rfl (lt_b rfl) (ru_move rfl rfl) ?_
          refine SL.ru rfl rfl (lt_b rfl) (ru_move rfl rfl) ?_
          refine SL.ru rfl rfl (lt_b rfl) (ru_len Try.underlying30 rfl rfl) ?_
          refine SL.ru rfl rfl (lt_b rfl) (ru_lt (b := (decide ((0 : Int) < (f.length : Int)))) rfl rfl rfl rfl) ?_
          refine SL.nil ?_
          refine SC.of_SE ?_
          refine SC.norm [(6, bo false), (7, Value.slice none f.length c3), (8, bo true), (25, iw 0), (206, bo (decide ((0 : Int) < (f.length : Int))))] [rNic 68 d F12 ((setTxF A n f).2), rNic 58 r G13 ((setTxF A n f).2), rBlk b1 [iw k, iw n, iw v, Value.slice a f.length c, bo y] 32, rMine (.slice none f.length c3) f 5] ⟨rfl, rfl, rfl, rfl, rfl, trivial⟩ rfl ?_
          refine SC.no (show some (Value.bool (decide ((0 : Int) < (f.length : Int)))) = some (Value.bool false) from congrArg (fun x => some (Value.bool x)) (decide_eq_false (by rw [hf0]; decide))) ?_
          refine SC.exit ?_
          refine SE.passe ?_
          refine SE.passe ?_
          refine SE.blke ?_
          refine SC.of_SE ?_
          refine SC.norm [(6, bo false), (8, bo true)] [rNic 68 d F12 ((setTxF A n f).2), rNic 58 r G13 ((setTxF A n f).2), rBlk b1 [iw k, iw n, iw v, Value.slice a f.length c, bo y] 32, rMine (.slice none f.length c3) f 5] ⟨rfl, rfl, trivial⟩ rfl ?_
          refine SC.seq ?_
          refine SC.region ?_
          refine SL.ru rfl rfl (lt_b rfl) (ru_move rfl rfl) ?_
          refine SL.ru rfl rfl (lt_b rfl) (ru_assign rfl rfl) ?_
          refine SL.nil ?_
          refine SC.of_SE ?_
          refine SC.norm [(6, bo true)] [rNic 68 d F12 ((setTxF A n f).2), rNic 58 r G13 ((setTxF A n f).2), rBlk b1 [iw k, iw n, iw v, Value.slice a f.length c, bo y] 32, rMine (.slice none f.length c3) f 5] ⟨rfl, trivial⟩ rfl ?_
          refine SC.ret ?_
          refine SE.res (.inl rfl) (res1 Try.results20 rfl) fun w1 hI => ⟨rfl, ?_⟩
          have e : playF A k n v f y = (setTxF A n f).2 := by
            try simp at h5 h8 h11
            unfold playF
            (repeat' split) <;> first | rfl | (exfalso; omega)
          rw [e]
          exact ⟨⟨_, _, hI.pair⟩, hI.2⟩
        · subst eq
          have hg := hq4 g rfl
          refine SC.loop (γ := List UInt8) (fun nn uu => [(6, bo false), (7, sl g 0 f.length c3), (8, bo true), (25, iw ((f.length : Int) - (nn : Int)))]) (fun nn uu => [rNic 68 d F12 ((setTxF A n f).2), rNic 58 r G13 ((setTxF A n f).2), rBlk b1 [iw k, iw n, iw v, Value.slice a f.length c, bo y] 32, rBlk g (uu.map bv ++ tl) 5]) (fun nn uu => nn ≤ f.length ∧ uu.length = f.length) f.length f ⟨Nat.le_refl _, rfl⟩ ⟨rfl, rfl, rfl, (congrArg (fun x => some (iw x)) (show (0 : Int) = (f.length : Int) - ((f.length : Nat) : Int) by omega)), trivial⟩ rfl ?_
          rintro nn uu ⟨hn, hq⟩
          rcases Nat.eq_zero_or_pos nn with h0 | h0
          · skip
            refine SC.seq ?_
            refine SC.seq ?_
            refine SC.region ?_
            refine SL.ru rfl rfl (lt_b rfl) (ru_move rfl rfl) ?_
            refine SL.ru rfl rfl (lt_b rfl) (ru_move rfl rfl) ?_
            refine SL.ru rfl rfl (lt_b rfl) (ru_len Try.underlying30 rfl rfl) ?_
            refine SL.ru rfl rfl (lt_b rfl) (ru_lt (b := (decide ((((f.length : Int) - (nn : Int)) : Int) < (f.length : Int)))) rfl rfl rfl rfl) ?_
            refine SL.nil ?_
            refine SC.of_SE ?_
            refine SC.norm [(6, bo false), (7, sl g 0 f.length c3), (8, bo true), (25, iw ((f.length : Int) - (nn : Int))), (206, bo (decide ((((f.length : Int) - (nn : Int)) : Int) < (f.length : Int))))] [rNic 68 d F12 ((setTxF A n f).2), rNic 58 r G13 ((setTxF A n f).2), rBlk b1 [iw k, iw n, iw v, Value.slice a f.length c, bo y] 32, rBlk g (uu.map bv ++ tl) 5] ⟨rfl, rfl, rfl, rfl, rfl, trivial⟩ rfl ?_
            refine SC.no (show some (Value.bool (decide ((((f.length : Int) - (nn : Int)) : Int) < (f.length : Int)))) = some (Value.bool false) from congrArg (fun x => some (Value.bool x)) (decide_eq_false (by omega))) ?_
            refine SC.exit ?_
            refine SE.passe ?_
            refine SE.passe ?_
            refine SE.blke ?_
            refine SC.of_SE ?_
            refine SC.norm [(6, bo false), (8, bo true)] [rNic 68 d F12 ((setTxF A n f).2), rNic 58 r G13 ((setTxF A n f).2), rBlk b1 [iw k, iw n, iw v, Value.slice a f.length c, bo y] 32, rBlk g (uu.map bv ++ tl) 5] ⟨rfl, rfl, trivial⟩ rfl ?_
            refine SC.seq ?_
            refine SC.region ?_
            refine SL.ru rfl rfl (lt_b rfl) (ru_move rfl rfl) ?_
            refine SL.ru rfl rfl (lt_b rfl) (ru_assign rfl rfl) ?_
            refine SL.nil ?_
            refine SC.of_SE ?_
            refine SC.norm [(6, bo true)] [rNic 68 d F12 ((setTxF A n f).2), rNic 58 r G13 ((setTxF A n f).2), rBlk b1 [iw k, iw n, iw v, Value.slice a f.length c, bo y] 32, rBlk g (uu.map bv ++ tl) 5] ⟨rfl, trivial⟩ rfl ?_
            refine SC.ret ?_
            refine SE.res (.inl rfl) (res1 Try.results20 rfl) fun w1 hI => ⟨rfl, ?_⟩
            have e : playF A k n v f y = (setTxF A n f).2 := by
              try simp at h5 h8 h11
              unfold playF
              (repeat' split) <;> first | rfl | (exfalso; omega)
            rw [e]
            exact ⟨⟨_, _, hI.pair⟩, hI.2⟩
          · skip
            refine SC.seq ?_
            refine SC.seq ?_
            refine SC.region ?_
            refine SL.ru rfl rfl (lt_b rfl) (ru_move rfl rfl) ?_
            refine SL.ru rfl rfl (lt_b rfl) (ru_move rfl rfl) ?_
            refine SL.ru rfl rfl (lt_b rfl) (ru_len Try.underlying30 rfl rfl) ?_
            refine SL.ru rfl rfl (lt_b rfl) (ru_lt (b := (decide ((((f.length : Int) - (nn : Int)) : Int) < (f.length : Int)))) rfl rfl rfl rfl) ?_
            refine SL.nil ?_
            refine SC.of_SE ?_
            refine SC.norm [(6, bo false), (7, sl g 0 f.length c3), (8, bo true), (25, iw ((f.length : Int) - (nn : Int))), (206, bo (decide ((((f.length : Int) - (nn : Int)) : Int) < (f.length : Int))))] [rNic 68 d F12 ((setTxF A n f).2), rNic 58 r G13 ((setTxF A n f).2), rBlk b1 [iw k, iw n, iw v, Value.slice a f.length c, bo y] 32, rBlk g (uu.map bv ++ tl) 5] ⟨rfl, rfl, rfl, rfl, rfl, trivial⟩ rfl ?_
            refine SC.yes (show some (Value.bool (decide ((((f.length : Int) - (nn : Int)) : Int) < (f.length : Int)))) = some (Value.bool true) from congrArg (fun x => some (Value.bool x)) (decide_eq_true (by omega))) ?_
            refine SC.skip ?_
            refine SC.of_SE ?_
            refine SC.norm [(6, bo false), (7, sl g 0 f.length c3), (8, bo true), (25, iw ((f.length : Int) - (nn : Int)))] [rNic 68 d F12 ((setTxF A n f).2), rNic 58 r G13 ((setTxF A n f).2), rBlk b1 [iw k, iw n, iw v, Value.slice a f.length c, bo y] 32, rBlk g (uu.map bv ++ tl) 5] ⟨rfl, rfl, rfl, rfl, trivial⟩ rfl ?_
            refine SC.seq ?_
            refine SC.block ?_
            refine SC.region ?_
            refine SL.ru rfl rfl (lt_b rfl) (ru_move rfl rfl) ?_
            refine SL.ru rfl rfl (lt_b rfl) (ru_move rfl rfl) ?_
            refine SL.ru rfl rfl (lt_b rfl) (ru_move rfl rfl) ?_
            refine SL.ru rfl rfl (lt_b rfl) (ru_move rfl rfl) ?_
            refine SL.ru rfl rfl (lt_b rfl) (ru_indexS (o2 := (0 + (((f.length : Int) - (nn : Int)).toNat) * 1)) si30 rfl rfl rfl (by omega) (by omega) rfl) ?_
            refine SL.ru rfl rfl (lt_b rfl) (ru_load (i := 3) (v := Value.int .u8 ((uu.getD (((f.length : Int) - (nn : Int)).toNat) 0).toNat : Int)) ts5 rfl rfl rfl (by rw [Nat.zero_add, Nat.mul_one]; exact get_at (by omega))) ?_
            refine SL.ru rfl rfl (lt_b rfl) (ru_add (r := (IntKind.u8.wrap (((uu.getD (((f.length : Int) - (nn : Int)).toNat) 0).toNat : Int) + 1))) rfl rfl rfl rfl) ?_
            refine SL.ru rfl rfl (lt_b rfl) (ru_indexS (o2 := (0 + (((f.length : Int) - (nn : Int)).toNat) * 1)) si30 rfl rfl rfl (by omega) (by omega) rfl) ?_
            refine SL.store (i := 3) (c' := ((uu.set (((f.length : Int) - (nn : Int)).toNat) (uu.getD (((f.length : Int) - (nn : Int)).toNat) 0 + 1)).map bv ++ tl)) rfl rfl ts5 rfl rfl rfl rfl rfl (by simp; omega) (.inr hg) (by rw [Nat.zero_add, Nat.mul_one]; exact set_inc (by omega)) ?_
            refine SL.nil ?_
            refine SE.blkn ?_
            refine SC.of_SE ?_
            refine SC.norm [(6, bo false), (7, sl g 0 f.length c3), (8, bo true), (25, iw ((f.length : Int) - (nn : Int)))] [rNic 68 d F12 ((setTxF A n f).2), rNic 58 r G13 ((setTxF A n f).2), rBlk b1 [iw k, iw n, iw v, Value.slice a f.length c, bo y] 32, rBlk g ((uu.set (((f.length : Int) - (nn : Int)).toNat) (uu.getD (((f.length : Int) - (nn : Int)).toNat) 0 + 1)).map bv ++ tl) 5] ⟨rfl, rfl, rfl, rfl, trivial⟩ rfl ?_
            refine SC.region ?_
            refine SL.ru rfl rfl (lt_b rfl) (ru_move rfl rfl) ?_
            refine SL.ru rfl rfl (lt_b rfl) (ru_add (r := (IntKind.i64.wrap (((f.length : Int) - (nn : Int)) + 1))) rfl rfl rfl rfl) ?_
            refine SL.ru rfl rfl (lt_b rfl) (ru_assign rfl rfl) ?_
            refine SL.nil ?_
            refine SE.again (nn - 1) _ (by omega) ⟨by omega, by rw [List.length_set]; exact hq⟩ ⟨rfl, rfl, rfl, (congrArg (fun x => some (iw x)) (show IntKind.i64.wrap (((f.length : Int) - (nn : Int)) + 1) = (f.length : Int) - (((nn - 1 : Nat) : Int) : Int) by rw [IntKind.wrap_i64]; omega)), trivial⟩ rfl
      · skip
        refine SC.seq ?_
        refine SC.region ?_
        refine SL.ru rfl rfl (lt_b rfl) (ru_eq (b := ((k : Int) == 3)) rfl rfl rfl rfl) ?_
        refine SL.ru rfl rfl (lt_b rfl) (ru_assign rfl rfl) ?_
        refine SL.nil ?_
        refine SC.of_SE ?_
        refine SC.norm [(0, pt d 0), (1, pt r 0), (5, pt b1 0), (6, bo false), (7, Value.slice a2 f.length c3), (8, bo true), (30, iw k), (84, bo ((k : Int) == 3))] [rNic 68 d F A, rNic 58 r G A, rBlk b1 [iw k, iw n, iw v, Value.slice a f.length c, bo y] 32, rMine (.slice a2 f.length c3) f 5] ⟨rfl, rfl, rfl, rfl, rfl, rfl, rfl, rfl, trivial⟩ rfl ?_
        refine SC.both ((k : Int) == 3) rfl (fun h14 => ?_) (fun h14 => ?_)
        · skip
          refine SC.region_cls [5, 11] (CP ⟨218, w, fun b => b = d ∨ b = r⟩ 5 11 d r A ((setRxF A n v).2) [rBlk b1 [iw k, iw n, iw v, Value.slice a f.length c, bo y] 32, rMine (.slice a2 f.length c3) f 5]) (by kernel_rfl) (by kernel_rfl) (by kernel_rfl) rfl (fun w hI => ⟨_, _, hI⟩) ?_
          refine SS.ru _ CP.base rfl rfl rfl (lt_b rfl) (ru_move rfl rfl) ?_
          refine SS.ru _ CP.base rfl rfl rfl (lt_b rfl) (ru_fieldAddr (o2 := 1) fd32_1 rfl rfl rfl) ?_
          refine SS.ru _ CP.base rfl rfl rfl (lt_b rfl) (ru_load (i := 0) ts3 rfl rfl rfl rfl) ?_
          refine SS.ru _ CP.base rfl rfl rfl (lt_b rfl) (ru_fieldAddr (o2 := 2) fd32_2 rfl rfl rfl) ?_
          refine SS.ru _ CP.base rfl rfl rfl (lt_b rfl) (ru_load (i := 0) ts3 rfl rfl rfl rfl) ?_
          refine SS.turn (iw ((setRxF A n v).1)) rfl rfl rfl co13 rfl rfl rfl (lt_b rfl) (CP.p (by decide) (.inl (.inl rfl)) (fun w F G B hI => p_setrx hk (hI.1.get (i := 0) rfl) n v)) ?_
          refine SS.ru _ CP.base rfl rfl rfl (lt_b rfl) (ru_move rfl rfl) ?_
          refine SS.ru _ CP.base rfl rfl rfl (lt_b rfl) (ru_fieldAddr (o2 := 1) fd32_1 rfl rfl rfl) ?_
          refine SS.ru _ CP.base rfl rfl rfl (lt_b rfl) (ru_load (i := 0) ts3 rfl rfl rfl rfl) ?_
          refine SS.ru _ CP.base rfl rfl rfl (lt_b rfl) (ru_fieldAddr (o2 := 2) fd32_2 rfl rfl rfl) ?_
          refine SS.ru _ CP.base rfl rfl rfl (lt_b rfl) (ru_load (i := 0) ts3 rfl rfl rfl rfl) ?_
          refine SS.turn (iw ((setRxF A n v).1)) rfl rfl rfl co30 rfl rfl rfl (lt_b rfl) (CP.q (by decide) (.inl (.inr rfl)) (fun w F G B hI => q_setrx hk (hI.1.get (i := 1) rfl) n v)) ?_
          refine SS.ru _ CP.base rfl rfl rfl (lt_b rfl) (ru_eq (b := true) rfl rfl rfl (by simp)) ?_
          refine SS.ru _ CP.base rfl rfl rfl (lt_b rfl) (ru_assign rfl rfl) ?_
          refine SS.nilP fun F15 G16 => ?_
          refine SE.blkn ?_
          refine SC.of_SE ?_
          refine SC.norm [(6, bo false), (7, Value.slice a2 f.length c3), (8, bo true)] [rNic 68 d F15 ((setRxF A n v).2), rNic 58 r G16 ((setRxF A n v).2), rBlk b1 [iw k, iw n, iw v, Value.slice a f.length c, bo y] 32, rMine (.slice a2 f.length c3) f 5] ⟨rfl, rfl, rfl, trivial⟩ rfl ?_
          refine SC.seq ?_
          refine SC.seq ?_
          refine SC.region ?_
          refine SL.ru rfl rfl (lt_b rfl) (ru_assign rfl rfl) ?_
          refine SL.nil ?_
          refine SC.of_SE ?_
          refine SC.norm [(6, bo false), (7, Value.slice a2 f.length c3), (8, bo true), (25, iw 0)] [rNic 68 d F15 ((setRxF A n v).2), rNic 58 r G16 ((setRxF A n v).2), rBlk b1 [iw k, iw n, iw v, Value.slice a f.length c, bo y] 32, rMine (.slice a2 f.length c3) f 5] ⟨rfl, rfl, rfl, rfl, trivial⟩ rfl ?_
          refine SC.block ?_
          refine SC.mine (i := 3) rfl (fun eq hf0 => ?_) (fun g tl eq hc1 hc2 => ?_)
          · subst eq
            refine SC.rounds 1 ?_
            refine SR.norm [(6, bo false), (7, Value.slice none f.length c3), (8, bo true), (25, iw 0)] [rNic 68 d F15 ((setRxF A n v).2), rNic 58 r G16 ((setRxF A n v).2), rBlk b1 [iw k, iw n, iw v, Value.slice a f.length c, bo y] 32, rMine (.slice none f.length c3) f 5] ⟨rfl, rfl, rfl, rfl, trivial⟩ rfl ?_
            refine SR.next ?_
            refine SC.seq ?_
            refine SC.seq ?_
            refine SC.region ?_
            refine SL.ru rfl rfl (lt_b rfl) (ru_move rfl rfl) ?_
            refine SL.ru rfl rfl (lt_b rfl) (ru_move rfl rfl) ?_
            refine SL.ru rfl rfl (lt_b rfl) (ru_len Try.underlying30 rfl rfl) ?_
            refine SL.ru rfl rfl (lt_b rfl) (ru_lt (b := (decide ((0 : Int) < (f.length : Int)))) rfl rfl rfl rfl) ?_
            refine SL.nil ?_
            refine SC.of_SE ?_
            refine SC.norm [(6, bo false), (7, Value.slice none f.length c3), (8, bo true), (25, iw 0), (206, bo (decide ((0 : Int) < (f.length : Int))))] [rNic 68 d F15 ((setRxF A n v).2), rNic 58 r G16 ((setRxF A n v).2), rBlk b1 [iw k, iw n, iw v, Value.slice a f.length c, bo y] 32, rMine (.slice none f.length c3) f 5] ⟨rfl, rfl, rfl, rfl, rfl, trivial⟩ rfl ?_
            refine SC.no (show some (Value.bool (decide ((0 : Int) < (f.length : Int)))) = some (Value.bool false) from congrArg (fun x => some (Value.bool x)) (decide_eq_false (by rw [hf0]; decide))) ?_
            refine SC.exit ?_
            refine SE.passe ?_
            refine SE.passe ?_
            refine SE.blke ?_
            refine SC.of_SE ?_
            refine SC.norm [(6, bo false), (8, bo true)] [rNic 68 d F15 ((setRxF A n v).2), rNic 58 r G16 ((setRxF A n v).2), rBlk b1 [iw k, iw n, iw v, Value.slice a f.length c, bo y] 32, rMine (.slice none f.length c3) f 5] ⟨rfl, rfl, trivial⟩ rfl ?_
            refine SC.seq ?_
            refine SC.region ?_
            refine SL.ru rfl rfl (lt_b rfl) (ru_move rfl rfl) ?_
            refine SL.ru rfl rfl (lt_b rfl) (ru_assign rfl rfl) ?_
            refine SL.nil ?_
            refine SC.of_SE ?_
            refine SC.norm [(6, bo true)] [rNic 68 d F15 ((setRxF A n v).2), rNic 58 r G16 ((setRxF A n v).2), rBlk b1 [iw k, iw n, iw v, Value.slice a f.length c, bo y] 32, rMine (.slice none f.length c3) f 5] ⟨rfl, trivial⟩ rfl ?_
            refine SC.ret ?_
            refine SE.res (.inl rfl) (res1 Try.results20 rfl) fun w1 hI => ⟨rfl, ?_⟩
            have e : playF A k n v f y = (setRxF A n v).2 := by
              try simp at h5 h8 h11 h14
              unfold playF
              (repeat' split) <;> first | rfl | (exfalso; omega)
            rw [e]
            exact ⟨⟨_, _, hI.pair⟩, hI.2⟩
          · subst eq
            have hg := hq4 g rfl
            refine SC.loop (γ := List UInt8) (fun nn uu => [(6, bo false), (7, sl g 0 f.length c3), (8, bo true), (25, iw ((f.length : Int) - (nn : Int)))]) (fun nn uu => [rNic 68 d F15 ((setRxF A n v).2), rNic 58 r G16 ((setRxF A n v).2), rBlk b1 [iw k, iw n, iw v, Value.slice a f.length c, bo y] 32, rBlk g (uu.map bv ++ tl) 5]) (fun nn uu => nn ≤ f.length ∧ uu.length = f.length) f.length f ⟨Nat.le_refl _, rfl⟩ ⟨rfl, rfl, rfl, (congrArg (fun x => some (iw x)) (show (0 : Int) = (f.length : Int) - ((f.length : Nat) : Int) by omega)), trivial⟩ rfl ?_
            rintro nn uu ⟨hn, hq⟩
            rcases Nat.eq_zero_or_pos nn with h0 | h0
            · skip
              refine SC.seq ?_
              refine SC.seq ?_
              refine SC.region ?_
              refine SL.ru rfl rfl (lt_b rfl) (ru_move rfl rfl) ?_
              refine SL.ru rfl rfl (lt_b rfl) (ru_move rfl rfl) ?_
              refine SL.ru rfl rfl (lt_b rfl) (ru_len Try.underlying30 rfl rfl) ?_
              refine SL.ru rfl rfl (lt_b rfl) (ru_lt (b := (decide ((((f.length : Int) - (nn : Int)) : Int) < (f.length : Int)))) rfl rfl rfl rfl) ?_
              refine SL.nil ?_
              refine SC.of_SE ?_
              refine SC.norm [(6, bo false), (7, sl g 0 f.length c3), (8, bo true), (25, iw ((f.length : Int) - (nn : Int))), (206, bo (decide ((((f.length : Int) - (nn : Int)) : Int) < (f.length : Int))))] [rNic 68 d F15 ((setRxF A n v).2), rNic 58 r G16 ((setRxF A n v).2), rBlk b1 [iw k, iw n, iw v, Value.slice a f.length c, bo y] 32, rBlk g (uu.map bv ++ tl) 5] ⟨rfl, rfl, rfl, rfl, rfl, trivial⟩ rfl ?_
              refine SC.no (show some (Value.bool (decide ((((f.length : Int) - (nn : Int)) : Int) < (f.length : Int)))) = some (Value.bool false) from congrArg (fun x => some (Value.bool x)) (decide_eq_false (by omega))) ?_
              refine SC.exit ?_
              refine SE.passe ?_
              refine SE.passe ?_
              refine SE.blke ?_
              refine SC.of_SE ?_
              refine SC.norm [(6, bo false), (8, bo true)] [rNic 68 d F15 ((setRxF A n v).2), rNic 58 r G16 ((setRxF A n v).2), rBlk b1 [iw k, iw n, iw v, Value.slice a f.length c, bo y] 32, rBlk g (uu.map bv ++ tl) 5] ⟨rfl, rfl, trivial⟩ rfl ?_
              refine SC.seq ?_
              refine SC.region ?_
              refine SL.ru rfl rfl (lt_b rfl) (ru_move rfl rfl) ?_
              refine SL.ru rfl rfl (lt_b rfl) (ru_assign rfl rfl) ?_
              refine SL.nil ?_
              refine SC.of_SE ?_
              refine SC.norm [(6, bo true)] [rNic 68 d F15 ((setRxF A n v).2), rNic 58 r G16 ((setRxF A n v).2), rBlk b1 [iw k, iw n, iw v, Value.slice a f.length c, bo y] 32, rBlk g (uu.map bv ++ tl) 5] ⟨rfl, trivial⟩ rfl ?_
              refine SC.ret ?_
              refine SE.res (.inl rfl) (res1 Try.results20 rfl) fun w1 hI => ⟨rfl, ?_⟩
              have e : playF A k n v f y = (setRxF A n v).2 := by
                try simp at h5 h8 h11 h14
                unfold playF
                (repeat' split) <;> first | rfl | (exfalso; omega)
              rw [e]
              exact ⟨⟨_, _, hI.pair⟩, hI.2⟩
            · skip
              refine SC.seq ?_
              refine SC.seq ?_
              refine SC.region ?_
              refine SL.ru rfl rfl (lt_b rfl) (ru_move rfl rfl) ?_
              refine SL.ru rfl rfl (lt_b rfl) (ru_move rfl rfl) ?_
              refine SL.ru rfl rfl (lt_b rfl) (ru_len Try.underlying30 rfl rfl) ?_
              refine SL.ru rfl rfl (lt_b rfl) (ru_lt (b := (decide ((((f.length : Int) - (nn : Int)) : Int) < (f.length : Int)))) rfl rfl rfl rfl) ?_
              refine SL.nil ?_
              refine SC.of_SE ?_
              refine SC.norm [(6, bo false), (7, sl g 0 f.length c3), (8, bo true), (25, iw ((f.length : Int) - (nn : Int))), (206, bo (decide ((((f.length : Int) - (nn : Int)) : Int) < (f.length : Int))))] [rNic 68 d F15 ((setRxF A n v).2), rNic 58 r G16 ((setRxF A n v).2), rBlk b1 [iw k, iw n, iw v, Value.slice a f.length c, bo y] 32, rBlk g (uu.map bv ++ tl) 5] ⟨rfl, rfl, rfl, rfl, rfl, trivial⟩ rfl ?_
              refine SC.yes (show some (Value.bool (decide ((((f.length : Int) - (nn : Int)) : Int) < (f.length : Int)))) = some (Value.bool true) from congrArg (fun x => some (Value.bool x)) (decide_eq_true (by omega))) ?_
              refine SC.skip ?_
              refine SC.of_SE ?_
              refine SC.norm [(6, bo false), (7, sl g 0 f.length c3), (8, bo true), (25, iw ((f.length : Int) - (nn : Int)))] [rNic 68 d F15 ((setRxF A n v).2), rNic 58 r G16 ((setRxF A n v).2), rBlk b1 [iw k, iw n, iw v, Value.slice a f.length c, bo y] 32, rBlk g (uu.map bv ++ tl) 5] ⟨rfl, rfl, rfl, rfl, trivial⟩ rfl ?_
              refine SC.seq ?_
              refine SC.block ?_
              refine SC.region ?_
              refine SL.ru rfl rfl (lt_b rfl) (ru_move rfl rfl) ?_
              refine SL.ru rfl rfl (lt_b rfl) (ru_move rfl rfl) ?_
              refine SL.ru rfl rfl (lt_b rfl) (ru_move rfl rfl) ?_
              refine SL.ru rfl rfl (lt_b rfl) (ru_move rfl rfl) ?_
              refine SL.ru rfl rfl (lt_b rfl) (ru_indexS (o2 := (0 + (((f.length : Int) - (nn : Int)).toNat) * 1)) si30 rfl rfl rfl (by omega) (by omega) rfl) ?_
              refine SL.ru rfl rfl (lt_b rfl) (ru_load (i := 3) (v := Value.int .u8 ((uu.getD (((f.length : Int) - (nn : Int)).toNat) 0).toNat : Int)) ts5 rfl rfl rfl (by rw [Nat.zero_add, Nat.mul_one]; exact get_at (by omega))) ?_
              refine SL.ru rfl rfl (lt_b rfl) (ru_add (r := (IntKind.u8.wrap (((uu.getD (((f.length : Int) - (nn : Int)).toNat) 0).toNat : Int) + 1))) rfl rfl rfl rfl) ?_
              refine SL.ru rfl rfl (lt_b rfl) (ru_indexS (o2 := (0 + (((f.length : Int) - (nn : Int)).toNat) * 1)) si30 rfl rfl rfl (by omega) (by omega) rfl) ?_
              refine SL.store (i := 3) (c' := ((uu.set (((f.length : Int) - (nn : Int)).toNat) (uu.getD (((f.length : Int) - (nn : Int)).toNat) 0 + 1)).map bv ++ tl)) rfl rfl ts5 rfl rfl rfl rfl rfl (by simp; omega) (.inr hg) (by rw [Nat.zero_add, Nat.mul_one]; exact set_inc (by omega)) ?_
              refine SL.nil ?_
              refine SE.blkn ?_
              refine SC.of_SE ?_
              refine SC.norm [(6, bo false), (7, sl g 0 f.length c3), (8, bo true), (25, iw ((f.length : Int) - (nn : Int)))] [rNic 68 d F15 ((setRxF A n v).2), rNic 58 r G16 ((setRxF A n v).2), rBlk b1 [iw k, iw n, iw v, Value.slice a f.length c, bo y] 32, rBlk g ((uu.set (((f.length : Int) - (nn : Int)).toNat) (uu.getD (((f.length : Int) - (nn : Int)).toNat) 0 + 1)).map bv ++ tl) 5] ⟨rfl, rfl, rfl, rfl, trivial⟩ rfl ?_
              refine SC.region ?_
              refine SL.ru rfl rfl (lt_b rfl) (ru_move rfl rfl) ?_
              refine SL.ru rfl rfl (lt_b rfl) (ru_add (r := (IntKind.i64.wrap (((f.length : Int) - (nn : Int)) + 1))) rfl rfl rfl rfl) ?_
              refine SL.ru rfl rfl (lt_b rfl) (ru_assign rfl rfl) ?_
              refine SL.nil ?_
              refine SE.again (nn - 1) _ (by omega) ⟨by omega, by rw [List.length_set]; exact hq⟩ ⟨rfl, rfl, rfl, (congrArg (fun x => some (iw x)) (show IntKind.i64.wrap (((f.length : Int) - (nn : Int)) + 1) = (f.length : Int) - (((nn - 1 : Nat) : Int) : Int) by rw [IntKind.wrap_i64]; omega)), trivial⟩ rfl
        · skip
          refine SC.seq ?_
          refine SC.region ?_
          refine SL.ru rfl rfl (lt_b rfl) (ru_eq (b := ((k : Int) == 4)) rfl rfl rfl rfl) ?_
          refine SL.ru rfl rfl (lt_b rfl) (ru_assign rfl rfl) ?_
          refine SL.nil ?_
          refine SC.of_SE ?_
          refine SC.norm [(0, pt d 0), (1, pt r 0), (5, pt b1 0), (6, bo false), (7, Value.slice a2 f.length c3), (8, bo true), (30, iw k), (99, bo ((k : Int) == 4))] [rNic 68 d F A, rNic 58 r G A, rBlk b1 [iw k, iw n, iw v, Value.slice a f.length c, bo y] 32, rMine (.slice a2 f.length c3) f 5] ⟨rfl, rfl, rfl, rfl, rfl, rfl, rfl, rfl, trivial⟩ rfl ?_
          refine SC.both ((k : Int) == 4) rfl (fun h17 => ?_) (fun h17 => ?_)
          · skip
            refine SC.seq ?_
            refine SC.region ?_
            refine SL.ru rfl rfl (lt_b rfl) (ru_move rfl rfl) ?_
            refine SL.ru rfl rfl (lt_b rfl) (ru_fieldAddr (o2 := 1) fd32_1 rfl rfl rfl) ?_
            refine SL.ru rfl rfl (lt_b rfl) (ru_load (i := 2) ts3 rfl rfl rfl rfl) ?_
            refine SL.call (ζ := Option Addr × Nat) (fun z => Value.tuple #[Value.slice z.1 ((rxR A n).1.1.length) z.2, bo ((rxR A n).1.2), iw ((rxR A n).2)]) (fun z => [rNic 68 d F A, rNic 58 r G A, rBlk b1 [iw k, iw n, iw v, Value.slice a f.length c, bo y] 32, rMine (.slice a2 f.length c3) f 5, rMine (.slice z.1 ((rxR A n).1.1).length z.2) ((rxR A n).1.1) 5]) (fun z => ∀ b, (Value.slice z.1 (rxR A n).1.1.length z.2).ownBlock = some b → w.heap.size ≤ b) rfl rfl co15 rfl rfl rfl (lt_b rfl) (fun w hI => (p_rx hk (nic_at hI (i := 0) rfl) n).mono fun e w2 ⟨v, h1, h3, h4⟩ => by obtain ⟨qa, qc, rfl, k1, k2⟩ := hI.rxed (rx_len hk _) h3 h4; exact ⟨(qa, qc), h1, k1, k2⟩) ?_
            rintro ⟨a18, c19⟩ hq20
            refine SL.ru rfl rfl (lt_b rfl) (ru_move rfl rfl) ?_
            refine SL.ru rfl rfl (lt_b rfl) (ru_extract rfl rfl rfl) ?_
            refine SL.ru rfl rfl (lt_b rfl) (ru_extract rfl rfl rfl) ?_
            refine SL.ru rfl rfl (lt_b rfl) (ru_extract rfl rfl rfl) ?_
            refine SL.ru rfl rfl (lt_b rfl) (ru_assign rfl rfl) ?_
            refine SL.ru rfl rfl (lt_b rfl) (ru_assign rfl rfl) ?_
            refine SL.ru rfl rfl (lt_b rfl) (ru_assign rfl rfl) ?_
            refine SL.nil ?_
            refine SC.of_SE ?_
            refine SC.norm [(1, pt r 0), (5, pt b1 0), (6, bo false), (7, Value.slice a2 f.length c3), (8, bo true), (13, Value.slice a18 ((rxR A n).1.1.length) c19), (14, bo ((rxR A n).1.2)), (15, iw ((rxR A n).2))] [rNic 68 d F A, rNic 58 r G A, rBlk b1 [iw k, iw n, iw v, Value.slice a f.length c, bo y] 32, rMine (.slice a2 f.length c3) f 5, rMine (.slice a18 ((rxR A n).1.1).length c19) ((rxR A n).1.1) 5] ⟨rfl, rfl, rfl, rfl, rfl, rfl, rfl, rfl, trivial⟩ rfl ?_
            refine SC.seq ?_
            refine SC.region ?_
            refine SL.ru rfl rfl (lt_b rfl) (ru_move rfl rfl) ?_
            refine SL.ru rfl rfl (lt_b rfl) (ru_fieldAddr (o2 := 1) fd32_1 rfl rfl rfl) ?_
            refine SL.ru rfl rfl (lt_b rfl) (ru_load (i := 2) ts3 rfl rfl rfl rfl) ?_
            refine SL.call (ζ := Option Addr × Nat) (fun z => Value.tuple #[Value.slice z.1 ((rxR A n).1.1.length) z.2, bo ((rxR A n).1.2), iw ((rxR A n).2)]) (fun z => [rNic 68 d F A, rNicL 58 r G A (.slice z.1 (rxR A n).1.1.length z.2) ((rxR A n).1.1), rBlk b1 [iw k, iw n, iw v, Value.slice a f.length c, bo y] 32, rMine (.slice a2 f.length c3) f 5, rMine (.slice a18 ((rxR A n).1.1).length c19) ((rxR A n).1.1) 5]) (fun z => True) rfl rfl co31 rfl rfl rfl (lt_b rfl) (fun w hI => (q_rx hk (nic_at hI (i := 1) rfl) n).mono fun e w2 ⟨v, h1, h3, h4⟩ => by obtain ⟨qa, qc, rfl, k1⟩ := hI.lent (i := 1) rfl (.inl (.inr rfl)) (NicAt.only (nic_at hI (i := 1) rfl) h3) (h3.mono (fun b hb => hb.elim)) h4; exact ⟨(qa, qc), h1, k1, trivial⟩) ?_
            rintro ⟨a21, c22⟩ hq23
            refine SL.ru rfl rfl (lt_b rfl) (ru_move rfl rfl) ?_
            refine SL.ru rfl rfl (lt_b rfl) (ru_extract rfl rfl rfl) ?_
            refine SL.ru rfl rfl (lt_b rfl) (ru_extract rfl rfl rfl) ?_
            refine SL.ru rfl rfl (lt_b rfl) (ru_extract rfl rfl rfl) ?_
            refine SL.ru rfl rfl (lt_b rfl) (ru_assign rfl rfl) ?_
            refine SL.ru rfl rfl (lt_b rfl) (ru_assign rfl rfl) ?_
            refine SL.ru rfl rfl (lt_b rfl) (ru_assign rfl rfl) ?_
            refine SL.nil ?_
            refine SC.of_SE ?_
            refine SC.norm [(6, bo false), (7, Value.slice a2 f.length c3), (8, bo true), (13, Value.slice a18 ((rxR A n).1.1.length) c19), (14, bo ((rxR A n).1.2)), (15, iw ((rxR A n).2)), (16, Value.slice a21 ((rxR A n).1.1.length) c22), (17, bo ((rxR A n).1.2)), (18, iw ((rxR A n).2))] [rNic 68 d F A, rNicL 58 r G A (.slice a21 (rxR A n).1.1.length c22) ((rxR A n).1.1), rBlk b1 [iw k, iw n, iw v, Value.slice a f.length c, bo y] 32, rMine (.slice a2 f.length c3) f 5, rMine (.slice a18 ((rxR A n).1.1).length c19) ((rxR A n).1.1) 5] ⟨rfl, rfl, rfl, rfl, rfl, rfl, rfl, rfl, rfl, trivial⟩ rfl ?_
            refine SC.seq ?_
            refine SC.region ?_
            refine SL.ru rfl rfl (lt_b rfl) (ru_move rfl rfl) ?_
            refine SL.ru rfl rfl (lt_b rfl) (ru_move rfl rfl) ?_
            refine SL.call (ζ := Unit) (fun _ => bo true) (fun _ => [rNic 68 d F A, rNic 58 r G A, rBlk b1 [iw k, iw n, iw v, Value.slice a f.length c, bo y] 32, rMine (.slice a2 f.length c3) f 5, rNone]) (fun _ => True) rfl rfl co32 rfl rfl rfl (lt_b rfl) (fun w hI => (own_any (hI.1.get (i := 4) rfl) (rx_len hk _) (hI.1.get (i := 1) rfl).2.1 (fun b o n c e hn hb => hI.apart (i := 1) (j := 4) rfl rfl (by decide) b (.inr ((hI.1.get (i := 1) rfl).2.2 b o n c e hn)) hb)).mono fun e w2 ⟨h1, h2⟩ => ⟨(), h1.trans (by rw [decide_eq_true rfl]), hI.owned (i := 4) (j := 1) rfl rfl (by decide) hq20 h2, trivial⟩) ?_
            intro _ _
            refine SL.ru rfl rfl (lt_b rfl) (ru_assign rfl rfl) ?_
            refine SL.nil ?_
            refine SC.of_SE ?_
            refine SC.norm [(6, bo false), (7, Value.slice a2 f.length c3), (8, bo true), (14, bo ((rxR A n).1.2)), (15, iw ((rxR A n).2)), (17, bo ((rxR A n).1.2)), (18, iw ((rxR A n).2)), (19, bo true)] [rNic 68 d F A, rNic 58 r G A, rBlk b1 [iw k, iw n, iw v, Value.slice a f.length c, bo y] 32, rMine (.slice a2 f.length c3) f 5, rNone] ⟨rfl, rfl, rfl, rfl, rfl, rfl, rfl, rfl, trivial⟩ rfl ?_
            refine SC.seq ?_
            refine SC.region ?_
            refine SL.ru rfl rfl (lt_b rfl) (ru_move rfl rfl) ?_
            refine SL.ru rfl rfl (lt_b rfl) (ru_move rfl rfl) ?_
            refine SL.rug rfl rfl rfl rfl (lt_b rfl) (ru_move rfl rfl) ?_
            refine SL.rug rfl rfl rfl rfl (lt_b rfl) (ru_move rfl rfl) ?_
            refine SL.rug rfl rfl rfl rfl (lt_b rfl) (ru_eqb (b := true) Try.underlying4 rfl rfl rfl (by simp)) ?_
            refine SL.ru rfl rfl (lt_b rfl) (ru_pick (u := bo true) (v := bo false) rfl rfl rfl rfl) ?_
            refine SL.ru rfl rfl (lt_b rfl) (ru_move rfl rfl) ?_
            refine SL.rug rfl rfl rfl rfl (lt_b rfl) (ru_move rfl rfl) ?_
            refine SL.rug rfl rfl rfl rfl (lt_b rfl) (ru_move rfl rfl) ?_
            refine SL.rug rfl rfl rfl rfl (lt_b rfl) (ru_eq (b := true) rfl rfl rfl (by simp)) ?_
            refine SL.ru rfl rfl (lt_b rfl) (ru_pick (u := bo true) (v := bo false) rfl rfl rfl rfl) ?_
            refine SL.ru rfl rfl (lt_b rfl) (ru_assign rfl rfl) ?_
            refine SL.nil ?_
            refine SC.of_SE ?_
            refine SC.norm [(6, bo true), (7, Value.slice a2 f.length c3), (8, bo true)] [rNic 68 d F A, rNic 58 r G A, rBlk b1 [iw k, iw n, iw v, Value.slice a f.length c, bo y] 32, rMine (.slice a2 f.length c3) f 5, rNone] ⟨rfl, rfl, rfl, trivial⟩ rfl ?_
            refine SC.ret ?_
            refine SE.blkr ?_
            refine SE.passr ?_
            refine SE.res (.inl rfl) (res1 Try.results20 rfl) fun w1 hI => ⟨rfl, ?_⟩
            have e : playF A k n v f y = A := by
              try simp at h5 h8 h11 h14 h17
              unfold playF
              (repeat' split) <;> first | rfl | (exfalso; omega)
            rw [e]
            exact ⟨⟨_, _, hI.pair⟩, hI.2⟩
          · skip
            refine SC.seq ?_
            refine SC.region ?_
            refine SL.ru rfl rfl (lt_b rfl) (ru_eq (b := ((k : Int) == 5)) rfl rfl rfl rfl) ?_
            refine SL.ru rfl rfl (lt_b rfl) (ru_assign rfl rfl) ?_
            refine SL.nil ?_
            refine SC.of_SE ?_
            refine SC.norm [(0, pt d 0), (1, pt r 0), (5, pt b1 0), (6, bo false), (7, Value.slice a2 f.length c3), (8, bo true), (30, iw k), (131, bo ((k : Int) == 5))] [rNic 68 d F A, rNic 58 r G A, rBlk b1 [iw k, iw n, iw v, Value.slice a f.length c, bo y] 32, rMine (.slice a2 f.length c3) f 5] ⟨rfl, rfl, rfl, rfl, rfl, rfl, rfl, rfl, trivial⟩ rfl ?_
            refine SC.both ((k : Int) == 5) rfl (fun h24 => ?_) (fun h24 => ?_)
            · skip
              refine SC.seq ?_
              refine SC.region ?_
              refine SL.ru rfl rfl (lt_b rfl) (ru_move rfl rfl) ?_
              refine SL.call (ζ := Option Addr × Nat) (fun z => Value.tuple #[Value.agg #[Value.slice z.1 ((takeR A).1.1.1.length) z.2, bo false, iw ((takeR A).1.1.2)], iw ((takeR A).1.2)]) (fun z => [rNic 68 d F ((takeR A).2), rNic 58 r G A, rBlk b1 [iw k, iw n, iw v, Value.slice a f.length c, bo y] 32, rMine (.slice a2 f.length c3) f 5, rMine (.slice z.1 ((takeR A).1.1.1).length z.2) ((takeR A).1.1.1) 5]) (fun z => ∀ b, (Value.slice z.1 (takeR A).1.1.1.length z.2).ownBlock = some b → w.heap.size ≤ b) rfl rfl co11 rfl rfl rfl (lt_b rfl) (fun w hI => (p_take hk (nic_at hI (i := 0) rfl)).mono fun e w2 ⟨v, h1, h2, h3, h4⟩ => by obtain ⟨qa, qc, rfl, k1, k2⟩ := hI.took (i := 0) rfl (.inl (.inl rfl)) (take_len hk) h2 h3 h4; exact ⟨(qa, qc), h1, k1, k2⟩) ?_
              rintro ⟨a25, c26⟩ hq27
              refine SL.ru rfl rfl (lt_b rfl) (ru_move rfl rfl) ?_
              refine SL.ru rfl rfl (lt_b rfl) (ru_extract rfl rfl rfl) ?_
              refine SL.ru rfl rfl (lt_b rfl) (ru_extract rfl rfl rfl) ?_
              refine SL.alloca rfl rfl (lt_b rfl) ta35 rfl fun b28 hb28 => ?_
              refine SL.storea (i := 5) (vs := [Value.slice a25 ((takeR A).1.1.1.length) c26, bo false, iw ((takeR A).1.1.2)]) (c' := [Value.slice a25 ((takeR A).1.1.1.length) c26, bo false, iw ((takeR A).1.1.2)]) rfl rfl ta35 rfl rfl rfl rfl rfl rfl (le_b rfl) (.inr hb28) rfl ?_
              refine SL.ru rfl rfl (lt_b rfl) (ru_assign rfl rfl) ?_
              refine SL.nil ?_
              refine SC.of_SE ?_
              refine SC.norm [(1, pt r 0), (6, bo false), (7, Value.slice a2 f.length c3), (8, bo true), (20, pt b28 0), (21, iw ((takeR A).1.2))] [rNic 68 d F ((takeR A).2), rNic 58 r G A, rBlk b1 [iw k, iw n, iw v, Value.slice a f.length c, bo y] 32, rMine (.slice a2 f.length c3) f 5, rMine (.slice a25 ((takeR A).1.1.1).length c26) ((takeR A).1.1.1) 5, rBlk b28 [Value.slice a25 ((takeR A).1.1.1.length) c26, bo false, iw ((takeR A).1.1.2)] 35] ⟨rfl, rfl, rfl, rfl, rfl, rfl, trivial⟩ rfl ?_
              refine SC.seq ?_
              refine SC.region ?_
              refine SL.ru rfl rfl (lt_b rfl) (ru_move rfl rfl) ?_
              refine SL.call (ζ := Option Addr × Nat) (fun z => Value.tuple #[Value.agg #[Value.slice z.1 ((takeR A).1.1.1.length) z.2, bo false, iw ((takeR A).1.1.2)], iw ((takeR A).1.2)]) (fun z => [rNic 68 d F ((takeR A).2), rNicL 58 r G ((takeR A).2) (.slice z.1 (takeR A).1.1.1.length z.2) ((takeR A).1.1.1), rBlk b1 [iw k, iw n, iw v, Value.slice a f.length c, bo y] 32, rMine (.slice a2 f.length c3) f 5, rMine (.slice a25 ((takeR A).1.1.1).length c26) ((takeR A).1.1.1) 5, rBlk b28 [Value.slice a25 ((takeR A).1.1.1.length) c26, bo false, iw ((takeR A).1.1.2)] 35]) (fun z => True) rfl rfl co33 rfl rfl rfl (lt_b rfl) (fun w hI => (q_take hk (nic_at hI (i := 1) rfl)).mono fun e w2 ⟨v, h1, h2, h3, h4⟩ => by obtain ⟨qa, qc, rfl, k1⟩ := hI.lent (i := 1) rfl (.inl (.inr rfl)) h2 h3 h4; exact ⟨(qa, qc), h1, k1, trivial⟩) ?_
              rintro ⟨a29, c30⟩ hq31
              refine SL.ru rfl rfl (lt_b rfl) (ru_move rfl rfl) ?_
              refine SL.ru rfl rfl (lt_b rfl) (ru_extract rfl rfl rfl) ?_
              refine SL.ru rfl rfl (lt_b rfl) (ru_extract rfl rfl rfl) ?_
              refine SL.alloca rfl rfl (lt_b rfl) ta35 rfl fun b32 hb32 => ?_
              refine SL.storea (i := 6) (vs := [Value.slice a29 ((takeR A).1.1.1.length) c30, bo false, iw ((takeR A).1.1.2)]) (c' := [Value.slice a29 ((takeR A).1.1.1.length) c30, bo false, iw ((takeR A).1.1.2)]) rfl rfl ta35 rfl rfl rfl rfl rfl rfl (le_b rfl) (.inr hb32) rfl ?_
              refine SL.ru rfl rfl (lt_b rfl) (ru_assign rfl rfl) ?_
              refine SL.nil ?_
              refine SC.of_SE ?_
              refine SC.norm [(6, bo false), (7, Value.slice a2 f.length c3), (8, bo true), (20, pt b28 0), (21, iw ((takeR A).1.2)), (22, pt b32 0), (23, iw ((takeR A).1.2))] [rNic 68 d F ((takeR A).2), rNicL 58 r G ((takeR A).2) (.slice a29 (takeR A).1.1.1.length c30) ((takeR A).1.1.1), rBlk b1 [iw k, iw n, iw v, Value.slice a f.length c, bo y] 32, rMine (.slice a2 f.length c3) f 5, rMine (.slice a25 ((takeR A).1.1.1).length c26) ((takeR A).1.1.1) 5, rBlk b28 [Value.slice a25 ((takeR A).1.1.1.length) c26, bo false, iw ((takeR A).1.1.2)] 35, rBlk b32 [Value.slice a29 ((takeR A).1.1.1.length) c30, bo false, iw ((takeR A).1.1.2)] 35] ⟨rfl, rfl, rfl, rfl, rfl, rfl, rfl, trivial⟩ rfl ?_
              refine SC.seq ?_
              refine SC.region ?_
              refine SL.ru rfl rfl (lt_b rfl) (ru_fieldAddr (o2 := 0) fd35_0 rfl rfl rfl) ?_
              refine SL.ru rfl rfl (lt_b rfl) (ru_load (i := 5) ts30 rfl rfl rfl rfl) ?_
              refine SL.ru rfl rfl (lt_b rfl) (ru_fieldAddr (o2 := 0) fd35_0 rfl rfl rfl) ?_
              refine SL.ru rfl rfl (lt_b rfl) (ru_load (i := 6) ts30 rfl rfl rfl rfl) ?_
              refine SL.call (ζ := Unit) (fun _ => bo true) (fun _ => [rNic 68 d F ((takeR A).2), rNic 58 r G ((takeR A).2), rBlk b1 [iw k, iw n, iw v, Value.slice a f.length c, bo y] 32, rMine (.slice a2 f.length c3) f 5, rNone, rBlk b28 [Value.slice a25 ((takeR A).1.1.1.length) c26, bo false, iw ((takeR A).1.1.2)] 35, rBlk b32 [Value.slice a29 ((takeR A).1.1.1.length) c30, bo false, iw ((takeR A).1.1.2)] 35]) (fun _ => True) rfl rfl co32 rfl rfl rfl (lt_b rfl) (fun w hI => (own_any (hI.1.get (i := 4) rfl) (take_len hk) (hI.1.get (i := 1) rfl).2.1 (fun b o n c e hn hb => hI.apart (i := 1) (j := 4) rfl rfl (by decide) b (.inr ((hI.1.get (i := 1) rfl).2.2 b o n c e hn)) hb)).mono fun e w2 ⟨h1, h2⟩ => ⟨(), h1.trans (by rw [decide_eq_true rfl]), hI.owned (i := 4) (j := 1) rfl rfl (by decide) hq27 h2, trivial⟩) ?_
              intro _ _
              refine SL.ru rfl rfl (lt_b rfl) (ru_assign rfl rfl) ?_
              refine SL.nil ?_
              refine SC.of_SE ?_
              refine SC.norm [(6, bo false), (7, Value.slice a2 f.length c3), (8, bo true), (20, pt b28 0), (21, iw ((takeR A).1.2)), (22, pt b32 0), (23, iw ((takeR A).1.2)), (24, bo true)] [rNic 68 d F ((takeR A).2), rNic 58 r G ((takeR A).2), rBlk b1 [iw k, iw n, iw v, Value.slice a f.length c, bo y] 32, rMine (.slice a2 f.length c3) f 5, rNone, rBlk b28 [Value.slice a25 ((takeR A).1.1.1.length) c26, bo false, iw ((takeR A).1.1.2)] 35, rBlk b32 [Value.slice a29 ((takeR A).1.1.1.length) c30, bo false, iw ((takeR A).1.1.2)] 35] ⟨rfl, rfl, rfl, rfl, rfl, rfl, rfl, rfl, trivial⟩ rfl ?_
              refine SC.seq ?_
              refine SC.region ?_
              refine SL.ru rfl rfl (lt_b rfl) (ru_move rfl rfl) ?_
              refine SL.ru rfl rfl (lt_b rfl) (ru_move rfl rfl) ?_
              refine SL.rug rfl rfl rfl rfl (lt_b rfl) (ru_fieldAddr (o2 := 1) fd35_1 rfl rfl rfl) ?_
              refine SL.rug rfl rfl rfl rfl (lt_b rfl) (ru_load (i := 5) ts4 rfl rfl rfl rfl) ?_
              refine SL.rug rfl rfl rfl rfl (lt_b rfl) (ru_fieldAddr (o2 := 1) fd35_1 rfl rfl rfl) ?_
              refine SL.rug rfl rfl rfl rfl (lt_b rfl) (ru_load (i := 6) ts4 rfl rfl rfl rfl) ?_
              refine SL.rug rfl rfl rfl rfl (lt_b rfl) (ru_eqb (b := true) Try.underlying4 rfl rfl rfl rfl) ?_
              refine SL.ru rfl rfl (lt_b rfl) (ru_pick (u := bo true) (v := bo false) rfl rfl rfl rfl) ?_
              refine SL.ru rfl rfl (lt_b rfl) (ru_move rfl rfl) ?_
              refine SL.rug rfl rfl rfl rfl (lt_b rfl) (ru_fieldAddr (o2 := 2) fd35_2 rfl rfl rfl) ?_
              refine SL.rug rfl rfl rfl rfl (lt_b rfl) (ru_load (i := 5) ts3 rfl rfl rfl rfl) ?_
              refine SL.rug rfl rfl rfl rfl (lt_b rfl) (ru_fieldAddr (o2 := 2) fd35_2 rfl rfl rfl) ?_
              refine SL.rug rfl rfl rfl rfl (lt_b rfl) (ru_load (i := 6) ts3 rfl rfl rfl rfl) ?_
              refine SL.rug rfl rfl rfl rfl (lt_b rfl) (ru_eq (b := true) rfl rfl rfl (by simp)) ?_
              refine SL.ru rfl rfl (lt_b rfl) (ru_pick (u := bo true) (v := bo false) rfl rfl rfl rfl) ?_
              refine SL.ru rfl rfl (lt_b rfl) (ru_move rfl rfl) ?_
              refine SL.rug rfl rfl rfl rfl (lt_b rfl) (ru_move rfl rfl) ?_
              refine SL.rug rfl rfl rfl rfl (lt_b rfl) (ru_move rfl rfl) ?_
              refine SL.rug rfl rfl rfl rfl (lt_b rfl) (ru_eq (b := true) rfl rfl rfl (by simp)) ?_
              refine SL.ru rfl rfl (lt_b rfl) (ru_pick (u := bo true) (v := bo false) rfl rfl rfl rfl) ?_
              refine SL.ru rfl rfl (lt_b rfl) (ru_assign rfl rfl) ?_
              refine SL.nil ?_
              refine SC.of_SE ?_
              refine SC.norm [(6, bo true), (7, Value.slice a2 f.length c3), (8, bo true)] [rNic 68 d F ((takeR A).2), rNic 58 r G ((takeR A).2), rBlk b1 [iw k, iw n, iw v, Value.slice a f.length c, bo y] 32, rMine (.slice a2 f.length c3) f 5, rNone, rBlk b28 [Value.slice a25 ((takeR A).1.1.1.length) c26, bo false, iw ((takeR A).1.1.2)] 35, rBlk b32 [Value.slice a29 ((takeR A).1.1.1.length) c30, bo false, iw ((takeR A).1.1.2)] 35] ⟨rfl, rfl, rfl, trivial⟩ rfl ?_
              refine SC.ret ?_
              refine SE.blkr ?_
              refine SE.passr ?_
              refine SE.res (.inl rfl) (res1 Try.results20 rfl) fun w1 hI => ⟨rfl, ?_⟩
              have e : playF A k n v f y = (takeR A).2 := by
                try simp at h5 h8 h11 h14 h17 h24
                unfold playF
                (repeat' split) <;> first | rfl | (exfalso; omega)
              rw [e]
              exact ⟨⟨_, _, hI.pair⟩, hI.2⟩
            · skip
              refine SC.seq ?_
              refine SC.region ?_
              refine SL.ru rfl rfl (lt_b rfl) (ru_eq (b := ((k : Int) == 6)) rfl rfl rfl rfl) ?_
              refine SL.ru rfl rfl (lt_b rfl) (ru_assign rfl rfl) ?_
              refine SL.nil ?_
              refine SC.of_SE ?_
              refine SC.norm [(0, pt d 0), (1, pt r 0), (5, pt b1 0), (6, bo false), (7, Value.slice a2 f.length c3), (8, bo true), (30, iw k), (168, bo ((k : Int) == 6))] [rNic 68 d F A, rNic 58 r G A, rBlk b1 [iw k, iw n, iw v, Value.slice a f.length c, bo y] 32, rMine (.slice a2 f.length c3) f 5] ⟨rfl, rfl, rfl, rfl, rfl, rfl, rfl, rfl, trivial⟩ rfl ?_
              refine SC.both ((k : Int) == 6) rfl (fun h33 => ?_) (fun h33 => ?_)
              · skip
                refine SC.region_cls [4, 10] (CP ⟨218, w, fun b => b = d ∨ b = r⟩ 4 10 d r A ((giveF A f y).2) [rBlk b1 [iw k, iw n, iw v, Value.slice a f.length c, bo y] 32, rMine (.slice a2 f.length c3) f 5]) (by kernel_rfl) (by kernel_rfl) (by kernel_rfl) rfl (fun w hI => ⟨_, _, hI⟩) ?_
                refine SS.ru _ CP.base rfl rfl rfl (lt_b rfl) (ru_move rfl rfl) ?_
                refine SS.ru _ CP.base rfl rfl rfl (lt_b rfl) (ru_move rfl rfl) ?_
                refine SS.ru _ CP.base rfl rfl rfl (lt_b rfl) (ru_fieldAddr (o2 := 4) fd32_4 rfl rfl rfl) ?_
                refine SS.ru _ CP.base rfl rfl rfl (lt_b rfl) (ru_load (i := 0) ts4 rfl rfl rfl rfl) ?_
                refine SS.turn (iw ((giveF A f y).1)) rfl rfl rfl co14 rfl rfl rfl (lt_b rfl) (CP.p (by decide) (.inl (.inl rfl)) (fun w F G B hI => p_give hk (hI.1.get (i := 0) rfl) (OwnBytes.bytes (hI.1.get (i := 3) rfl) hbl) (mine_in fun b hb e => hI.apart (i := 3) (j := 0) rfl rfl (by decide) b hb (.inl e)) y)) ?_
                refine SS.ru _ CP.base rfl rfl rfl (lt_b rfl) (ru_move rfl rfl) ?_
                refine SS.ru _ CP.base rfl rfl rfl (lt_b rfl) (ru_fieldAddr (o2 := 3) fd32_3 rfl rfl rfl) ?_
                refine SS.ru _ CP.base rfl rfl rfl (lt_b rfl) (ru_load (i := 0) ts30 rfl rfl rfl rfl) ?_
                refine SS.ru _ CP.base rfl rfl rfl (lt_b rfl) (ru_fieldAddr (o2 := 4) fd32_4 rfl rfl rfl) ?_
                refine SS.ru _ CP.base rfl rfl rfl (lt_b rfl) (ru_load (i := 0) ts4 rfl rfl rfl rfl) ?_
                refine SS.turn (iw ((giveF A f y).1)) rfl rfl rfl co34 rfl rfl rfl (lt_b rfl) (CP.q (by decide) (.inl (.inr rfl)) (fun w F G B hI => q_give hk (hI.1.get (i := 1) rfl) (hb.only hI.2 hs) (fun b o n c e hn h => hs b o n c e hn (.inr h)) y)) ?_
                refine SS.ru _ CP.base rfl rfl rfl (lt_b rfl) (ru_eq (b := true) rfl rfl rfl (by simp)) ?_
                refine SS.ru _ CP.base rfl rfl rfl (lt_b rfl) (ru_assign rfl rfl) ?_
                refine SS.nilP fun F34 G35 => ?_
                refine SE.blkn ?_
                refine SC.of_SE ?_
                refine SC.norm [(6, bo false), (7, Value.slice a2 f.length c3), (8, bo true)] [rNic 68 d F34 ((giveF A f y).2), rNic 58 r G35 ((giveF A f y).2), rBlk b1 [iw k, iw n, iw v, Value.slice a f.length c, bo y] 32, rMine (.slice a2 f.length c3) f 5] ⟨rfl, rfl, rfl, trivial⟩ rfl ?_
                refine SC.seq ?_
                refine SC.seq ?_
                refine SC.region ?_
                refine SL.ru rfl rfl (lt_b rfl) (ru_assign rfl rfl) ?_
                refine SL.nil ?_
                refine SC.of_SE ?_
                refine SC.norm [(6, bo false), (7, Value.slice a2 f.length c3), (8, bo true), (25, iw 0)] [rNic 68 d F34 ((giveF A f y).2), rNic 58 r G35 ((giveF A f y).2), rBlk b1 [iw k, iw n, iw v, Value.slice a f.length c, bo y] 32, rMine (.slice a2 f.length c3) f 5] ⟨rfl, rfl, rfl, rfl, trivial⟩ rfl ?_
                refine SC.block ?_
                refine SC.mine (i := 3) rfl (fun eq hf0 => ?_) (fun g tl eq hc1 hc2 => ?_)
                · subst eq
                  refine SC.rounds 1 ?_
                  refine SR.norm [(6, bo false), (7, Value.slice none f.length c3), (8, bo true), (25, iw 0)] [rNic 68 d F34 ((giveF A f y).2), rNic 58 r G35 ((giveF A f y).2), rBlk b1 [iw k, iw n, iw v, Value.slice a f.length c, bo y] 32, rMine (.slice none f.length c3) f 5] ⟨rfl, rfl, rfl, rfl, trivial⟩ rfl ?_
                  refine SR.next ?_
                  refine SC.seq ?_
                  refine SC.seq ?_
                  refine SC.region ?_
                  refine SL.ru rfl rfl (lt_b rfl) (ru_move rfl rfl) ?_
                  refine SL.ru rfl rfl (lt_b rfl) (ru_move rfl rfl) ?_
                  refine SL.ru rfl rfl (lt_b rfl) (ru_len Try.underlying30 rfl rfl) ?_
                  refine SL.ru rfl rfl (lt_b rfl) (ru_lt (b := (decide ((0 : Int) < (f.length : Int)))) rfl rfl rfl rfl) ?_
                  refine SL.nil ?_
                  refine SC.of_SE ?_
                  refine SC.norm [(6, bo false), (7, Value.slice none f.length c3), (8, bo true), (25, iw 0), (206, bo (decide ((0 : Int) < (f.length : Int))))] [rNic 68 d F34 ((giveF A f y).2), rNic 58 r G35 ((giveF A f y).2), rBlk b1 [iw k, iw n, iw v, Value.slice a f.length c, bo y] 32, rMine (.slice none f.length c3) f 5] ⟨rfl, rfl, rfl, rfl, rfl, trivial⟩ rfl ?_
                  refine SC.no (show some (Value.bool (decide ((0 : Int) < (f.length : Int)))) = some (Value.bool false) from congrArg (fun x => some (Value.bool x)) (decide_eq_false (by rw [hf0]; decide))) ?_
                  refine SC.exit ?_
                  refine SE.passe ?_
                  refine SE.passe ?_
                  refine SE.blke ?_
                  refine SC.of_SE ?_
                  refine SC.norm [(6, bo false), (8, bo true)] [rNic 68 d F34 ((giveF A f y).2), rNic 58 r G35 ((giveF A f y).2), rBlk b1 [iw k, iw n, iw v, Value.slice a f.length c, bo y] 32, rMine (.slice none f.length c3) f 5] ⟨rfl, rfl, trivial⟩ rfl ?_
                  refine SC.seq ?_
                  refine SC.region ?_
                  refine SL.ru rfl rfl (lt_b rfl) (ru_move rfl rfl) ?_
                  refine SL.ru rfl rfl (lt_b rfl) (ru_assign rfl rfl) ?_
                  refine SL.nil ?_
                  refine SC.of_SE ?_
                  refine SC.norm [(6, bo true)] [rNic 68 d F34 ((giveF A f y).2), rNic 58 r G35 ((giveF A f y).2), rBlk b1 [iw k, iw n, iw v, Value.slice a f.length c, bo y] 32, rMine (.slice none f.length c3) f 5] ⟨rfl, trivial⟩ rfl ?_
                  refine SC.ret ?_
                  refine SE.res (.inl rfl) (res1 Try.results20 rfl) fun w1 hI => ⟨rfl, ?_⟩
                  have e : playF A k n v f y = (giveF A f y).2 := by
                    try simp at h5 h8 h11 h14 h17 h24 h33
                    unfold playF
                    (repeat' split) <;> first | rfl | (exfalso; omega)
                  rw [e]
                  exact ⟨⟨_, _, hI.pair⟩, hI.2⟩
                · subst eq
                  have hg := hq4 g rfl
                  refine SC.loop (γ := List UInt8) (fun nn uu => [(6, bo false), (7, sl g 0 f.length c3), (8, bo true), (25, iw ((f.length : Int) - (nn : Int)))]) (fun nn uu => [rNic 68 d F34 ((giveF A f y).2), rNic 58 r G35 ((giveF A f y).2), rBlk b1 [iw k, iw n, iw v, Value.slice a f.length c, bo y] 32, rBlk g (uu.map bv ++ tl) 5]) (fun nn uu => nn ≤ f.length ∧ uu.length = f.length) f.length f ⟨Nat.le_refl _, rfl⟩ ⟨rfl, rfl, rfl, (congrArg (fun x => some (iw x)) (show (0 : Int) = (f.length : Int) - ((f.length : Nat) : Int) by omega)), trivial⟩ rfl ?_
                  rintro nn uu ⟨hn, hq⟩
                  rcases Nat.eq_zero_or_pos nn with h0 | h0
                  · skip
                    refine SC.seq ?_
                    refine SC.seq ?_
                    refine SC.region ?_
                    refine SL.ru rfl rfl (lt_b rfl) (ru_move rfl rfl) ?_
                    refine SL.ru rfl rfl (lt_b rfl) (ru_move rfl rfl) ?_
                    refine SL.ru rfl rfl (lt_b rfl) (ru_len Try.underlying30 rfl rfl) ?_
                    refine SL.ru rfl rfl (lt_b rfl) (ru_lt (b := (decide ((((f.length : Int) - (nn : Int)) : Int) < (f.length : Int)))) rfl rfl rfl rfl) ?_
                    refine SL.nil ?_
                    refine SC.of_SE ?_
                    refine SC.norm [(6, bo false), (7, sl g 0 f.length c3), (8, bo true), (25, iw ((f.length : Int) - (nn : Int))), (206, bo (decide ((((f.length : Int) - (nn : Int)) : Int) < (f.length : Int))))] [rNic 68 d F34 ((giveF A f y).2), rNic 58 r G35 ((giveF A f y).2), rBlk b1 [iw k, iw n, iw v, Value.slice a f.length c, bo y] 32, rBlk g (uu.map bv ++ tl) 5] ⟨rfl, rfl, rfl, rfl, rfl, trivial⟩ rfl ?_
                    refine SC.no (show some (Value.bool (decide ((((f.length : Int) - (nn : Int)) : Int) < (f.length : Int)))) = some (Value.bool false) from congrArg (fun x => some (Value.bool x)) (decide_eq_false (by omega))) ?_
                    refine SC.exit ?_
                    refine SE.passe ?_
                    refine SE.passe ?_
                    refine SE.blke ?_
                    refine SC.of_SE ?_
                    refine SC.norm [(6, bo false), (8, bo true)] [rNic 68 d F34 ((giveF A f y).2), rNic 58 r G35 ((giveF A f y).2), rBlk b1 [iw k, iw n, iw v, Value.slice a f.length c, bo y] 32, rBlk g (uu.map bv ++ tl) 5] ⟨rfl, rfl, trivial⟩ rfl ?_
                    refine SC.seq ?_
                    refine SC.region ?_
                    refine SL.ru rfl rfl (lt_b rfl) (ru_move rfl rfl) ?_
                    refine SL.ru rfl rfl (lt_b rfl) (ru_assign rfl rfl) ?_
                    refine SL.nil ?_
                    refine SC.of_SE ?_
                    refine SC.norm [(6, bo true)] [rNic 68 d F34 ((giveF A f y).2), rNic 58 r G35 ((giveF A f y).2), rBlk b1 [iw k, iw n, iw v, Value.slice a f.length c, bo y] 32, rBlk g (uu.map bv ++ tl) 5] ⟨rfl, trivial⟩ rfl ?_
                    refine SC.ret ?_
                    refine SE.res (.inl rfl) (res1 Try.results20 rfl) fun w1 hI => ⟨rfl, ?_⟩
                    have e : playF A k n v f y = (giveF A f y).2 := by
                      try simp at h5 h8 h11 h14 h17 h24 h33
                      unfold playF
                      (repeat' split) <;> first | rfl | (exfalso; omega)
                    rw [e]
                    exact ⟨⟨_, _, hI.pair⟩, hI.2⟩
                  · skip
                    refine SC.seq ?_
                    refine SC.seq ?_
                    refine SC.region ?_
                    refine SL.ru rfl rfl (lt_b rfl) (ru_move rfl rfl) ?_
                    refine SL.ru rfl rfl (lt_b rfl) (ru_move rfl rfl) ?_
                    refine SL.ru rfl rfl (lt_b rfl) (ru_len Try.underlying30 rfl rfl) ?_
                    refine SL.ru rfl rfl (lt_b rfl) (ru_lt (b := (decide ((((f.length : Int) - (nn : Int)) : Int) < (f.length : Int)))) rfl rfl rfl rfl) ?_
                    refine SL.nil ?_
                    refine SC.of_SE ?_
                    refine SC.norm [(6, bo false), (7, sl g 0 f.length c3), (8, bo true), (25, iw ((f.length : Int) - (nn : Int))), (206, bo (decide ((((f.length : Int) - (nn : Int)) : Int) < (f.length : Int))))] [rNic 68 d F34 ((giveF A f y).2), rNic 58 r G35 ((giveF A f y).2), rBlk b1 [iw k, iw n, iw v, Value.slice a f.length c, bo y] 32, rBlk g (uu.map bv ++ tl) 5] ⟨rfl, rfl, rfl, rfl, rfl, trivial⟩ rfl ?_
                    refine SC.yes (show some (Value.bool (decide ((((f.length : Int) - (nn : Int)) : Int) < (f.length : Int)))) = some (Value.bool true) from congrArg (fun x => some (Value.bool x)) (decide_eq_true (by omega))) ?_
                    refine SC.skip ?_
                    refine SC.of_SE ?_
                    refine SC.norm [(6, bo false), (7, sl g 0 f.length c3), (8, bo true), (25, iw ((f.length : Int) - (nn : Int)))] [rNic 68 d F34 ((giveF A f y).2), rNic 58 r G35 ((giveF A f y).2), rBlk b1 [iw k, iw n, iw v, Value.slice a f.length c, bo y] 32, rBlk g (uu.map bv ++ tl) 5] ⟨rfl, rfl, rfl, rfl, trivial⟩ rfl ?_
                    refine SC.seq ?_
                    refine SC.block ?_
                    refine SC.region ?_
                    refine SL.ru rfl rfl (lt_b rfl) (ru_move rfl rfl) ?_
                    refine SL.ru rfl rfl (lt_b rfl) (ru_move rfl rfl) ?_
                    refine SL.ru rfl rfl (lt_b rfl) (ru_move rfl rfl) ?_
                    refine SL.ru rfl rfl (lt_b rfl) (ru_move rfl rfl) ?_
                    refine SL.ru rfl rfl (lt_b rfl) (ru_indexS (o2 := (0 + (((f.length : Int) - (nn : Int)).toNat) * 1)) si30 rfl rfl rfl (by omega) (by omega) rfl) ?_
                    refine SL.ru rfl rfl (lt_b rfl) (ru_load (i := 3) (v := Value.int .u8 ((uu.getD (((f.length : Int) - (nn : Int)).toNat) 0).toNat : Int)) ts5 rfl rfl rfl (by rw [Nat.zero_add, Nat.mul_one]; exact get_at (by omega))) ?_
                    refine SL.ru rfl rfl (lt_b rfl) (ru_add (r := (IntKind.u8.wrap (((uu.getD (((f.length : Int) - (nn : Int)).toNat) 0).toNat : Int) + 1))) rfl rfl rfl rfl) ?_
                    refine SL.ru rfl rfl (lt_b rfl) (ru_indexS (o2 := (0 + (((f.length : Int) - (nn : Int)).toNat) * 1)) si30 rfl rfl rfl (by omega) (by omega) rfl) ?_
                    refine SL.store (i := 3) (c' := ((uu.set (((f.length : Int) - (nn : Int)).toNat) (uu.getD (((f.length : Int) - (nn : Int)).toNat) 0 + 1)).map bv ++ tl)) rfl rfl ts5 rfl rfl rfl rfl rfl (by simp; omega) (.inr hg) (by rw [Nat.zero_add, Nat.mul_one]; exact set_inc (by omega)) ?_
                    refine SL.nil ?_
                    refine SE.blkn ?_
                    refine SC.of_SE ?_
                    refine SC.norm [(6, bo false), (7, sl g 0 f.length c3), (8, bo true), (25, iw ((f.length : Int) - (nn : Int)))] [rNic 68 d F34 ((giveF A f y).2), rNic 58 r G35 ((giveF A f y).2), rBlk b1 [iw k, iw n, iw v, Value.slice a f.length c, bo y] 32, rBlk g ((uu.set (((f.length : Int) - (nn : Int)).toNat) (uu.getD (((f.length : Int) - (nn : Int)).toNat) 0 + 1)).map bv ++ tl) 5] ⟨rfl, rfl, rfl, rfl, trivial⟩ rfl ?_
                    refine SC.region ?_
                    refine SL.ru rfl rfl (lt_b rfl) (ru_move rfl rfl) ?_
                    refine SL.ru rfl rfl (lt_b rfl) (ru_add (r := (IntKind.i64.wrap (((f.length : Int) - (nn : Int)) + 1))) rfl rfl rfl rfl) ?_
                    refine SL.ru rfl rfl (lt_b rfl) (ru_assign rfl rfl) ?_
                    refine SL.nil ?_
                    refine SE.again (nn - 1) _ (by omega) ⟨by omega, by rw [List.length_set]; exact hq⟩ ⟨rfl, rfl, rfl, (congrArg (fun x => some (iw x)) (show IntKind.i64.wrap (((f.length : Int) - (nn : Int)) + 1) = (f.length : Int) - (((nn - 1 : Nat) : Int) : Int) by rw [IntKind.wrap_i64]; omega)), trivial⟩ rfl
              · skip
                refine SC.seq ?_
                refine SC.region ?_
                refine SL.ru rfl rfl (lt_b rfl) (ru_eq (b := ((k : Int) == 7)) rfl rfl rfl rfl) ?_
                refine SL.ru rfl rfl (lt_b rfl) (ru_assign rfl rfl) ?_
                refine SL.nil ?_
                refine SC.of_SE ?_
                refine SC.norm [(0, pt d 0), (1, pt r 0), (5, pt b1 0), (6, bo false), (7, Value.slice a2 f.length c3), (8, bo true), (30, iw k), (182, bo ((k : Int) == 7))] [rNic 68 d F A, rNic 58 r G A, rBlk b1 [iw k, iw n, iw v, Value.slice a f.length c, bo y] 32, rMine (.slice a2 f.length c3) f 5] ⟨rfl, rfl, rfl, rfl, rfl, rfl, rfl, rfl, trivial⟩ rfl ?_
                refine SC.both ((k : Int) == 7) rfl (fun h36 => ?_) (fun h36 => ?_)
                · skip
                  refine SC.seq ?_
                  refine SC.region ?_
                  refine SL.ru rfl rfl (lt_b rfl) (ru_move rfl rfl) ?_
                  refine SL.ru rfl rfl (lt_b rfl) (ru_fieldAddr (o2 := 4) fd32_4 rfl rfl rfl) ?_
                  refine SL.ru rfl rfl (lt_b rfl) (ru_load (i := 2) ts4 rfl rfl rfl rfl) ?_
                  refine SL.call (ζ := Nat → Prop) (fun F37 => Value.tuple #[]) (fun F37 => [rNic 68 d F37 (linkF A y), rNic 58 r G A, rBlk b1 [iw k, iw n, iw v, Value.slice a f.length c, bo y] 32, rMine (.slice a2 f.length c3) f 5]) (fun F37 => True) rfl rfl co17 rfl rfl rfl (lt_b rfl) (fun w hI => (p_link hk (nic_at hI (i := 0) rfl) y).mono fun e w2 ⟨h1, h2⟩ => by obtain ⟨F2, h3⟩ := hI.nicTo (i := 0) rfl (.inl (.inl rfl)) h2; exact ⟨F2, h1, h3, trivial⟩) ?_
                  intro F37 _
                  refine SL.nil ?_
                  refine SC.of_SE ?_
                  refine SC.norm [(1, pt r 0), (5, pt b1 0), (6, bo false), (7, Value.slice a2 f.length c3), (8, bo true)] [rNic 68 d F37 (linkF A y), rNic 58 r G A, rBlk b1 [iw k, iw n, iw v, Value.slice a f.length c, bo y] 32, rMine (.slice a2 f.length c3) f 5] ⟨rfl, rfl, rfl, rfl, rfl, trivial⟩ rfl ?_
                  refine SC.region ?_
                  refine SL.ru rfl rfl (lt_b rfl) (ru_move rfl rfl) ?_
                  refine SL.ru rfl rfl (lt_b rfl) (ru_fieldAddr (o2 := 4) fd32_4 rfl rfl rfl) ?_
                  refine SL.ru rfl rfl (lt_b rfl) (ru_load (i := 2) ts4 rfl rfl rfl rfl) ?_
                  refine SL.call (ζ := Nat → Prop) (fun F38 => Value.tuple #[]) (fun F38 => [rNic 68 d F37 (linkF A y), rNic 58 r F38 (linkF A y), rBlk b1 [iw k, iw n, iw v, Value.slice a f.length c, bo y] 32, rMine (.slice a2 f.length c3) f 5]) (fun F38 => True) rfl rfl co35 rfl rfl rfl (lt_b rfl) (fun w hI => (q_link hk (nic_at hI (i := 1) rfl) y).mono fun e w2 ⟨h1, h2⟩ => by obtain ⟨F2, h3⟩ := hI.nicTo (i := 1) rfl (.inl (.inr rfl)) h2; exact ⟨F2, h1, h3, trivial⟩) ?_
                  intro F38 _
                  refine SL.nil ?_
                  refine SE.blkn ?_
                  refine SC.of_SE ?_
                  refine SC.norm [(6, bo false), (7, Value.slice a2 f.length c3), (8, bo true)] [rNic 68 d F37 (linkF A y), rNic 58 r F38 (linkF A y), rBlk b1 [iw k, iw n, iw v, Value.slice a f.length c, bo y] 32, rMine (.slice a2 f.length c3) f 5] ⟨rfl, rfl, rfl, trivial⟩ rfl ?_
                  refine SC.seq ?_
                  refine SC.seq ?_
                  refine SC.region ?_
                  refine SL.ru rfl rfl (lt_b rfl) (ru_assign rfl rfl) ?_
                  refine SL.nil ?_
                  refine SC.of_SE ?_
                  refine SC.norm [(6, bo false), (7, Value.slice a2 f.length c3), (8, bo true), (25, iw 0)] [rNic 68 d F37 (linkF A y), rNic 58 r F38 (linkF A y), rBlk b1 [iw k, iw n, iw v, Value.slice a f.length c, bo y] 32, rMine (.slice a2 f.length c3) f 5] ⟨rfl, rfl, rfl, rfl, trivial⟩ rfl ?_
                  refine SC.block ?_
                  refine SC.mine (i := 3) rfl (fun eq hf0 => ?_) (fun g tl eq hc1 hc2 => ?_)
                  · subst eq
                    refine SC.rounds 1 ?_
                    refine SR.norm [(6, bo false), (7, Value.slice none f.length c3), (8, bo true), (25, iw 0)] [rNic 68 d F37 (linkF A y), rNic 58 r F38 (linkF A y), rBlk b1 [iw k, iw n, iw v, Value.slice a f.length c, bo y] 32, rMine (.slice none f.length c3) f 5] ⟨rfl, rfl, rfl, rfl, trivial⟩ rfl ?_
                    refine SR.next ?_
                    refine SC.seq ?_
                    refine SC.seq ?_
                    refine SC.region ?_
                    refine SL.ru rfl rfl (lt_b rfl) (ru_move rfl rfl) ?_
                    refine SL.ru rfl rfl (lt_b rfl) (ru_move rfl rfl) ?_
                    refine SL.ru rfl rfl (lt_b rfl) (ru_len Try.underlying30 rfl rfl) ?_
                    refine SL.ru rfl rfl (lt_b rfl) (ru_lt (b := (decide ((0 : Int) < (f.length : Int)))) rfl rfl rfl rfl) ?_
                    refine SL.nil ?_
                    refine SC.of_SE ?_
                    refine SC.norm [(6, bo false), (7, Value.slice none f.length c3), (8, bo true), (25, iw 0), (206, bo (decide ((0 : Int) < (f.length : Int))))] [rNic 68 d F37 (linkF A y), rNic 58 r F38 (linkF A y), rBlk b1 [iw k, iw n, iw v, Value.slice a f.length c, bo y] 32, rMine (.slice none f.length c3) f 5] ⟨rfl, rfl, rfl, rfl, rfl, trivial⟩ rfl ?_
                    refine SC.no (show some (Value.bool (decide ((0 : Int) < (f.length : Int)))) = some (Value.bool false) from congrArg (fun x => some (Value.bool x)) (decide_eq_false (by rw [hf0]; decide))) ?_
                    refine SC.exit ?_
                    refine SE.passe ?_
                    refine SE.passe ?_
                    refine SE.blke ?_
                    refine SC.of_SE ?_
                    refine SC.norm [(6, bo false), (8, bo true)] [rNic 68 d F37 (linkF A y), rNic 58 r F38 (linkF A y), rBlk b1 [iw k, iw n, iw v, Value.slice a f.length c, bo y] 32, rMine (.slice none f.length c3) f 5] ⟨rfl, rfl, trivial⟩ rfl ?_
                    refine SC.seq ?_
                    refine SC.region ?_
                    refine SL.ru rfl rfl (lt_b rfl) (ru_move rfl rfl) ?_
                    refine SL.ru rfl rfl (lt_b rfl) (ru_assign rfl rfl) ?_
                    refine SL.nil ?_
                    refine SC.of_SE ?_
                    refine SC.norm [(6, bo true)] [rNic 68 d F37 (linkF A y), rNic 58 r F38 (linkF A y), rBlk b1 [iw k, iw n, iw v, Value.slice a f.length c, bo y] 32, rMine (.slice none f.length c3) f 5] ⟨rfl, trivial⟩ rfl ?_
                    refine SC.ret ?_
                    refine SE.res (.inl rfl) (res1 Try.results20 rfl) fun w1 hI => ⟨rfl, ?_⟩
                    have e : playF A k n v f y = linkF A y := by
                      try simp at h5 h8 h11 h14 h17 h24 h33 h36
                      unfold playF
                      (repeat' split) <;> first | rfl | (exfalso; omega)
                    rw [e]
                    exact ⟨⟨_, _, hI.pair⟩, hI.2⟩
                  · subst eq
                    have hg := hq4 g rfl
                    refine SC.loop (γ := List UInt8) (fun nn uu => [(6, bo false), (7, sl g 0 f.length c3), (8, bo true), (25, iw ((f.length : Int) - (nn : Int)))]) (fun nn uu => [rNic 68 d F37 (linkF A y), rNic 58 r F38 (linkF A y), rBlk b1 [iw k, iw n, iw v, Value.slice a f.length c, bo y] 32, rBlk g (uu.map bv ++ tl) 5]) (fun nn uu => nn ≤ f.length ∧ uu.length = f.length) f.length f ⟨Nat.le_refl _, rfl⟩ ⟨rfl, rfl, rfl, (congrArg (fun x => some (iw x)) (show (0 : Int) = (f.length : Int) - ((f.length : Nat) : Int) by omega)), trivial⟩ rfl ?_
                    rintro nn uu ⟨hn, hq⟩
                    rcases Nat.eq_zero_or_pos nn with h0 | h0
                    · skip
                      refine SC.seq ?_
                      refine SC.seq ?_
                      refine SC.region ?_
                      refine SL.ru rfl rfl (lt_b rfl) (ru_move rfl rfl) ?_
                      refine SL.ru rfl rfl (lt_b rfl) (ru_move rfl rfl) ?_
                      refine SL.ru rfl rfl (lt_b rfl) (ru_len Try.underlying30 rfl rfl) ?_
                      refine SL.ru rfl rfl (lt_b rfl) (ru_lt (b := (decide ((((f.length : Int) - (nn : Int)) : Int) < (f.length : Int)))) rfl rfl rfl rfl) ?_
                      refine SL.nil ?_
                      refine SC.of_SE ?_
                      refine SC.norm [(6, bo false), (7, sl g 0 f.length c3), (8, bo true), (25, iw ((f.length : Int) - (nn : Int))), (206, bo (decide ((((f.length : Int) - (nn : Int)) : Int) < (f.length : Int))))] [rNic 68 d F37 (linkF A y), rNic 58 r F38 (linkF A y), rBlk b1 [iw k, iw n, iw v, Value.slice a f.length c, bo y] 32, rBlk g (uu.map bv ++ tl) 5] ⟨rfl, rfl, rfl, rfl, rfl, trivial⟩ rfl ?_
                      refine SC.no (show some (Value.bool (decide ((((f.length : Int) - (nn : Int)) : Int) < (f.length : Int)))) = some (Value.bool false) from congrArg (fun x => some (Value.bool x)) (decide_eq_false (by omega))) ?_
                      refine SC.exit ?_
                      refine SE.passe ?_
                      refine SE.passe ?_
                      refine SE.blke ?_
                      refine SC.of_SE ?_
                      refine SC.norm [(6, bo false), (8, bo true)] [rNic 68 d F37 (linkF A y), rNic 58 r F38 (linkF A y), rBlk b1 [iw k, iw n, iw v, Value.slice a f.length c, bo y] 32, rBlk g (uu.map bv ++ tl) 5] ⟨rfl, rfl, trivial⟩ rfl ?_
                      refine SC.seq ?_
                      refine SC.region ?_
                      refine SL.ru rfl rfl (lt_b rfl) (ru_move rfl rfl) ?_
                      refine SL.ru rfl rfl (lt_b rfl) (ru_assign rfl rfl) ?_
                      refine SL.nil ?_
                      refine SC.of_SE ?_
                      refine SC.norm [(6, bo true)] [rNic 68 d F37 (linkF A y), rNic 58 r F38 (linkF A y), rBlk b1 [iw k, iw n, iw v, Value.slice a f.length c, bo y] 32, rBlk g (uu.map bv ++ tl) 5] ⟨rfl, trivial⟩ rfl ?_
                      refine SC.ret ?_
                      refine SE.res (.inl rfl) (res1 Try.results20 rfl) fun w1 hI => ⟨rfl, ?_⟩
                      have e : playF A k n v f y = linkF A y := by
                        try simp at h5 h8 h11 h14 h17 h24 h33 h36
                        unfold playF
                        (repeat' split) <;> first | rfl | (exfalso; omega)
                      rw [e]
                      exact ⟨⟨_, _, hI.pair⟩, hI.2⟩
                    · skip
                      refine SC.seq ?_
                      refine SC.seq ?_
                      refine SC.region ?_
                      refine SL.ru rfl rfl (lt_b rfl) (ru_move rfl rfl) ?_
                      refine SL.ru rfl rfl (lt_b rfl) (ru_move rfl rfl) ?_
                      refine SL.ru rfl rfl (lt_b rfl) (ru_len Try.underlying30 rfl rfl) ?_
                      refine SL.ru rfl rfl (lt_b rfl) (ru_lt (b := (decide ((((f.length : Int) - (nn : Int)) : Int) < (f.length : Int)))) rfl rfl rfl rfl) ?_
                      refine SL.nil ?_
                      refine SC.of_SE ?_
                      refine SC.norm [(6, bo false), (7, sl g 0 f.length c3), (8, bo true), (25, iw ((f.length : Int) - (nn : Int))), (206, bo (decide ((((f.length : Int) - (nn : Int)) : Int) < (f.length : Int))))] [rNic 68 d F37 (linkF A y), rNic 58 r F38 (linkF A y), rBlk b1 [iw k, iw n, iw v, Value.slice a f.length c, bo y] 32, rBlk g (uu.map bv ++ tl) 5] ⟨rfl, rfl, rfl, rfl, rfl, trivial⟩ rfl ?_
                      refine SC.yes (show some (Value.bool (decide ((((f.length : Int) - (nn : Int)) : Int) < (f.length : Int)))) = some (Value.bool true) from congrArg (fun x => some (Value.bool x)) (decide_eq_true (by omega))) ?_
                      refine SC.skip ?_
                      refine SC.of_SE ?_
                      refine SC.norm [(6, bo false), (7, sl g 0 f.length c3), (8, bo true), (25, iw ((f.length : Int) - (nn : Int)))] [rNic 68 d F37 (linkF A y), rNic 58 r F38 (linkF A y), rBlk b1 [iw k, iw n, iw v, Value.slice a f.length c, bo y] 32, rBlk g (uu.map bv ++ tl) 5] ⟨rfl, rfl, rfl, rfl, trivial⟩ rfl ?_
                      refine SC.seq ?_
                      refine SC.block ?_
                      refine SC.region ?_
                      refine SL.ru rfl rfl (lt_b rfl) (ru_move rfl rfl) ?_
                      refine SL.ru rfl rfl (lt_b rfl) (ru_move rfl rfl) ?_
                      refine SL.ru rfl rfl (lt_b rfl) (ru_move rfl rfl) ?_
                      refine SL.ru rfl rfl (lt_b rfl) (ru_move rfl rfl) ?_
                      refine SL.ru rfl rfl (lt_b rfl) (ru_indexS (o2 := (0 + (((f.length : Int) - (nn : Int)).toNat) * 1)) si30 rfl rfl rfl (by omega) (by omega) rfl) ?_
                      refine SL.ru rfl rfl (lt_b rfl) (ru_load (i := 3) (v := Value.int .u8 ((uu.getD (((f.length : Int) - (nn : Int)).toNat) 0).toNat : Int)) ts5 rfl rfl rfl (by rw [Nat.zero_add, Nat.mul_one]; exact get_at (by omega))) ?_
                      refine SL.ru rfl rfl (lt_b rfl) (ru_add (r := (IntKind.u8.wrap (((uu.getD (((f.length : Int) - (nn : Int)).toNat) 0).toNat : Int) + 1))) rfl rfl rfl rfl) ?_
                      refine SL.ru rfl rfl (lt_b rfl) (ru_indexS (o2 := (0 + (((f.length : Int) - (nn : Int)).toNat) * 1)) si30 rfl rfl rfl (by omega) (by omega) rfl) ?_
                      refine SL.store (i := 3) (c' := ((uu.set (((f.length : Int) - (nn : Int)).toNat) (uu.getD (((f.length : Int) - (nn : Int)).toNat) 0 + 1)).map bv ++ tl)) rfl rfl ts5 rfl rfl rfl rfl rfl (by simp; omega) (.inr hg) (by rw [Nat.zero_add, Nat.mul_one]; exact set_inc (by omega)) ?_
                      refine SL.nil ?_
                      refine SE.blkn ?_
                      refine SC.of_SE ?_
                      refine SC.norm [(6, bo false), (7, sl g 0 f.length c3), (8, bo true), (25, iw ((f.length : Int) - (nn : Int)))] [rNic 68 d F37 (linkF A y), rNic 58 r F38 (linkF A y), rBlk b1 [iw k, iw n, iw v, Value.slice a f.length c, bo y] 32, rBlk g ((uu.set (((f.length : Int) - (nn : Int)).toNat) (uu.getD (((f.length : Int) - (nn : Int)).toNat) 0 + 1)).map bv ++ tl) 5] ⟨rfl, rfl, rfl, rfl, trivial⟩ rfl ?_
                      refine SC.region ?_
                      refine SL.ru rfl rfl (lt_b rfl) (ru_move rfl rfl) ?_
                      refine SL.ru rfl rfl (lt_b rfl) (ru_add (r := (IntKind.i64.wrap (((f.length : Int) - (nn : Int)) + 1))) rfl rfl rfl rfl) ?_
                      refine SL.ru rfl rfl (lt_b rfl) (ru_assign rfl rfl) ?_
                      refine SL.nil ?_
                      refine SE.again (nn - 1) _ (by omega) ⟨by omega, by rw [List.length_set]; exact hq⟩ ⟨rfl, rfl, rfl, (congrArg (fun x => some (iw x)) (show IntKind.i64.wrap (((f.length : Int) - (nn : Int)) + 1) = (f.length : Int) - (((nn - 1 : Nat) : Int) : Int) by rw [IntKind.wrap_i64]; omega)), trivial⟩ rfl
                · skip
                  refine SC.seq ?_
                  refine SC.region ?_
                  refine SL.ru rfl rfl (lt_b rfl) (ru_eq (b := ((k : Int) == 8)) rfl rfl rfl rfl) ?_
                  refine SL.ru rfl rfl (lt_b rfl) (ru_assign rfl rfl) ?_
                  refine SL.nil ?_
                  refine SC.of_SE ?_
                  refine SC.norm [(0, pt d 0), (1, pt r 0), (6, bo false), (7, Value.slice a2 f.length c3), (8, bo true), (192, bo ((k : Int) == 8))] [rNic 68 d F A, rNic 58 r G A, rBlk b1 [iw k, iw n, iw v, Value.slice a f.length c, bo y] 32, rMine (.slice a2 f.length c3) f 5] ⟨rfl, rfl, rfl, rfl, rfl, rfl, trivial⟩ rfl ?_
                  refine SC.both ((k : Int) == 8) rfl (fun h39 => ?_) (fun h39 => ?_)
                  · skip
                    refine SC.seq ?_
                    refine SC.region ?_
                    refine SL.ru rfl rfl (lt_b rfl) (ru_move rfl rfl) ?_
                    refine SL.call (ζ := Nat → Prop) (fun F40 => Value.tuple #[]) (fun F40 => [rNic 68 d F40 (tickF A), rNic 58 r G A, rBlk b1 [iw k, iw n, iw v, Value.slice a f.length c, bo y] 32, rMine (.slice a2 f.length c3) f 5]) (fun F40 => True) rfl rfl co12 rfl rfl rfl (lt_b rfl) (fun w hI => (p_tick hk (nic_at hI (i := 0) rfl)).mono fun e w2 ⟨h1, h2⟩ => by obtain ⟨F2, h3⟩ := hI.nicTo (i := 0) rfl (.inl (.inl rfl)) h2; exact ⟨F2, h1, h3, trivial⟩) ?_
                    intro F40 _
                    refine SL.nil ?_
                    refine SC.of_SE ?_
                    refine SC.norm [(1, pt r 0), (6, bo false), (7, Value.slice a2 f.length c3), (8, bo true)] [rNic 68 d F40 (tickF A), rNic 58 r G A, rBlk b1 [iw k, iw n, iw v, Value.slice a f.length c, bo y] 32, rMine (.slice a2 f.length c3) f 5] ⟨rfl, rfl, rfl, rfl, trivial⟩ rfl ?_
                    refine SC.region ?_
                    refine SL.ru rfl rfl (lt_b rfl) (ru_move rfl rfl) ?_
                    refine SL.ru rfl rfl (lt_b rfl) (ru_nilCheck rfl rfl) ?_
                    refine SL.ru rfl rfl (lt_b rfl) (ru_fieldAddr (o2 := 104) fd58_3 rfl rfl rfl) ?_
                    refine SL.ru rfl rfl (lt_b rfl) (ru_nic_clk (i := 1) ts3 rfl rfl rfl) ?_
                    refine SL.ru rfl rfl (lt_b rfl) (ru_add (r := (IntKind.i64.wrap (A.clk + 1))) rfl rfl rfl rfl) ?_
                    refine SL.ru rfl rfl (lt_b rfl) (ru_nilCheck rfl rfl) ?_
                    refine SL.ru rfl rfl (lt_b rfl) (ru_fieldAddr (o2 := 104) fd58_3 rfl rfl rfl) ?_
                    refine SL.nic_clk (i := 1) rfl rfl ts3 rfl rfl rfl rfl (.inl (.inr rfl)) ?_
                    refine SL.nil ?_
                    refine SE.blkn ?_
                    refine SC.of_SE ?_
                    refine SC.norm [(6, bo false), (7, Value.slice a2 f.length c3), (8, bo true)] [rNic 68 d F40 (tickF A), rNic 58 r G (tickF A), rBlk b1 [iw k, iw n, iw v, Value.slice a f.length c, bo y] 32, rMine (.slice a2 f.length c3) f 5] ⟨rfl, rfl, rfl, trivial⟩ rfl ?_
                    refine SC.seq ?_
                    refine SC.seq ?_
                    refine SC.region ?_
                    refine SL.ru rfl rfl (lt_b rfl) (ru_assign rfl rfl) ?_
                    refine SL.nil ?_
                    refine SC.of_SE ?_
                    refine SC.norm [(6, bo false), (7, Value.slice a2 f.length c3), (8, bo true), (25, iw 0)] [rNic 68 d F40 (tickF A), rNic 58 r G (tickF A), rBlk b1 [iw k, iw n, iw v, Value.slice a f.length c, bo y] 32, rMine (.slice a2 f.length c3) f 5] ⟨rfl, rfl, rfl, rfl, trivial⟩ rfl ?_
                    refine SC.block ?_
                    refine SC.mine (i := 3) rfl (fun eq hf0 => ?_) (fun g tl eq hc1 hc2 => ?_)
                    · subst eq
                      refine SC.rounds 1 ?_
                      refine SR.norm [(6, bo false), (7, Value.slice none f.length c3), (8, bo true), (25, iw 0)] [rNic 68 d F40 (tickF A), rNic 58 r G (tickF A), rBlk b1 [iw k, iw n, iw v, Value.slice a f.length c, bo y] 32, rMine (.slice none f.length c3) f 5] ⟨rfl, rfl, rfl, rfl, trivial⟩ rfl ?_
                      refine SR.next ?_
                      refine SC.seq ?_
                      refine SC.seq ?_
                      refine SC.region ?_
                      refine SL.ru rfl rfl (lt_b rfl) (ru_move rfl rfl) ?_
                      refine SL.ru rfl rfl (lt_b rfl) (ru_move rfl rfl) ?_
                      refine SL.ru rfl rfl (lt_b rfl) (ru_len Try.underlying30 rfl rfl) ?_
                      refine SL.ru rfl rfl (lt_b rfl) (ru_lt (b := (decide ((0 : Int) < (f.length : Int)))) rfl rfl rfl rfl) ?_
                      refine SL.nil ?_
                      refine SC.of_SE ?_
                      refine SC.norm [(6, bo false), (7, Value.slice none f.length c3), (8, bo true), (25, iw 0), (206, bo (decide ((0 : Int) < (f.length : Int))))] [rNic 68 d F40 (tickF A), rNic 58 r G (tickF A), rBlk b1 [iw k, iw n, iw v, Value.slice a f.length c, bo y] 32, rMine (.slice none f.length c3) f 5] ⟨rfl, rfl, rfl, rfl, rfl, trivial⟩ rfl ?_
                      refine SC.no (show some (Value.bool (decide ((0 : Int) < (f.length : Int)))) = some (Value.bool false) from congrArg (fun x => some (Value.bool x)) (decide_eq_false (by rw [hf0]; decide))) ?_
                      refine SC.exit ?_
                      refine SE.passe ?_
                      refine SE.passe ?_
                      refine SE.blke ?_
                      refine SC.of_SE ?_
                      refine SC.norm [(6, bo false), (8, bo true)] [rNic 68 d F40 (tickF A), rNic 58 r G (tickF A), rBlk b1 [iw k, iw n, iw v, Value.slice a f.length c, bo y] 32, rMine (.slice none f.length c3) f 5] ⟨rfl, rfl, trivial⟩ rfl ?_
                      refine SC.seq ?_
                      refine SC.region ?_
                      refine SL.ru rfl rfl (lt_b rfl) (ru_move rfl rfl) ?_
                      refine SL.ru rfl rfl (lt_b rfl) (ru_assign rfl rfl) ?_
                      refine SL.nil ?_
                      refine SC.of_SE ?_
                      refine SC.norm [(6, bo true)] [rNic 68 d F40 (tickF A), rNic 58 r G (tickF A), rBlk b1 [iw k, iw n, iw v, Value.slice a f.length c, bo y] 32, rMine (.slice none f.length c3) f 5] ⟨rfl, trivial⟩ rfl ?_
                      refine SC.ret ?_
                      refine SE.res (.inl rfl) (res1 Try.results20 rfl) fun w1 hI => ⟨rfl, ?_⟩
                      have e : playF A k n v f y = tickF A := by
                        try simp at h5 h8 h11 h14 h17 h24 h33 h36 h39
                        unfold playF
                        (repeat' split) <;> first | rfl | (exfalso; omega)
                      rw [e]
                      exact ⟨⟨_, _, hI.pair⟩, hI.2⟩
                    · subst eq
                      have hg := hq4 g rfl
                      refine SC.loop (γ := List UInt8) (fun nn uu => [(6, bo false), (7, sl g 0 f.length c3), (8, bo true), (25, iw ((f.length : Int) - (nn : Int)))]) (fun nn uu => [rNic 68 d F40 (tickF A), rNic 58 r G (tickF A), rBlk b1 [iw k, iw n, iw v, Value.slice a f.length c, bo y] 32, rBlk g (uu.map bv ++ tl) 5]) (fun nn uu => nn ≤ f.length ∧ uu.length = f.length) f.length f ⟨Nat.le_refl _, rfl⟩ ⟨rfl, rfl, rfl, (congrArg (fun x => some (iw x)) (show (0 : Int) = (f.length : Int) - ((f.length : Nat) : Int) by omega)), trivial⟩ rfl ?_
                      rintro nn uu ⟨hn, hq⟩
                      rcases Nat.eq_zero_or_pos nn with h0 | h0
                      · skip
                        refine SC.seq ?_
                        refine SC.seq ?_
                        refine SC.region ?_
                        refine SL.ru rfl rfl (lt_b rfl) (ru_move rfl rfl) ?_
                        refine SL.ru rfl rfl (lt_b rfl) (ru_move rfl rfl) ?_
                        refine SL.ru rfl rfl (lt_b rfl) (ru_len Try.underlying30 rfl rfl) ?_
                        refine SL.ru rfl rfl (lt_b rfl) (ru_lt (b := (decide ((((f.length : Int) - (nn : Int)) : Int) < (f.length : Int)))) rfl rfl rfl rfl) ?_
                        refine SL.nil ?_
                        refine SC.of_SE ?_
                        refine SC.norm [(6, bo false), (7, sl g 0 f.length c3), (8, bo true), (25, iw ((f.length : Int) - (nn : Int))), (206, bo (decide ((((f.length : Int) - (nn : Int)) : Int) < (f.length : Int))))] [rNic 68 d F40 (tickF A), rNic 58 r G (tickF A), rBlk b1 [iw k, iw n, iw v, Value.slice a f.length c, bo y] 32, rBlk g (uu.map bv ++ tl) 5] ⟨rfl, rfl, rfl, rfl, rfl, trivial⟩ rfl ?_
                        refine SC.no (show some (Value.bool (decide ((((f.length : Int) - (nn : Int)) : Int) < (f.length : Int)))) = some (Value.bool false) from congrArg (fun x => some (Value.bool x)) (decide_eq_false (by omega))) ?_
                        refine SC.exit ?_
                        refine SE.passe ?_
                        refine SE.passe ?_
                        refine SE.blke ?_
                        refine SC.of_SE ?_
                        refine SC.norm [(6, bo false), (8, bo true)] [rNic 68 d F40 (tickF A), rNic 58 r G (tickF A), rBlk b1 [iw k, iw n, iw v, Value.slice a f.length c, bo y] 32, rBlk g (uu.map bv ++ tl) 5] ⟨rfl, rfl, trivial⟩ rfl ?_
                        refine SC.seq ?_
                        refine SC.region ?_
                        refine SL.ru rfl rfl (lt_b rfl) (ru_move rfl rfl) ?_
                        refine SL.ru rfl rfl (lt_b rfl) (ru_assign rfl rfl) ?_
                        refine SL.nil ?_
                        refine SC.of_SE ?_
                        refine SC.norm [(6, bo true)] [rNic 68 d F40 (tickF A), rNic 58 r G (tickF A), rBlk b1 [iw k, iw n, iw v, Value.slice a f.length c, bo y] 32, rBlk g (uu.map bv ++ tl) 5] ⟨rfl, trivial⟩ rfl ?_
                        refine SC.ret ?_
                        refine SE.res (.inl rfl) (res1 Try.results20 rfl) fun w1 hI => ⟨rfl, ?_⟩
                        have e : playF A k n v f y = tickF A := by
                          try simp at h5 h8 h11 h14 h17 h24 h33 h36 h39
                          unfold playF
                          (repeat' split) <;> first | rfl | (exfalso; omega)
                        rw [e]
                        exact ⟨⟨_, _, hI.pair⟩, hI.2⟩
                      · skip
                        refine SC.seq ?_
                        refine SC.seq ?_
                        refine SC.region ?_
                        refine SL.ru rfl rfl (lt_b rfl) (ru_move rfl rfl) ?_
                        refine SL.ru rfl rfl (lt_b rfl) (ru_move rfl rfl) ?_
                        refine SL.ru rfl rfl (lt_b rfl) (ru_len Try.underlying30 rfl rfl) ?_
                        refine SL.ru rfl rfl (lt_b rfl) (ru_lt (b := (decide ((((f.length : Int) - (nn : Int)) : Int) < (f.length : Int)))) rfl rfl rfl rfl) ?_
                        refine SL.nil ?_
                        refine SC.of_SE ?_
                        refine SC.norm [(6, bo false), (7, sl g 0 f.length c3), (8, bo true), (25, iw ((f.length : Int) - (nn : Int))), (206, bo (decide ((((f.length : Int) - (nn : Int)) : Int) < (f.length : Int))))] [rNic 68 d F40 (tickF A), rNic 58 r G (tickF A), rBlk b1 [iw k, iw n, iw v, Value.slice a f.length c, bo y] 32, rBlk g (uu.map bv ++ tl) 5] ⟨rfl, rfl, rfl, rfl, rfl, trivial⟩ rfl ?_
                        refine SC.yes (show some (Value.bool (decide ((((f.length : Int) - (nn : Int)) : Int) < (f.length : Int)))) = some (Value.bool true) from congrArg (fun x => some (Value.bool x)) (decide_eq_true (by omega))) ?_
                        refine SC.skip ?_
                        refine SC.of_SE ?_
                        refine SC.norm [(6, bo false), (7, sl g 0 f.length c3), (8, bo true), (25, iw ((f.length : Int) - (nn : Int)))] [rNic 68 d F40 (tickF A), rNic 58 r G (tickF A), rBlk b1 [iw k, iw n, iw v, Value.slice a f.length c, bo y] 32, rBlk g (uu.map bv ++ tl) 5] ⟨rfl, rfl, rfl, rfl, trivial⟩ rfl ?_
                        refine SC.seq ?_
                        refine SC.block ?_
                        refine SC.region ?_
                        refine SL.ru rfl rfl (lt_b rfl) (ru_move rfl rfl) ?_
                        refine SL.ru rfl rfl (lt_b rfl) (ru_move rfl rfl) ?_
                        refine SL.ru rfl rfl (lt_b rfl) (ru_move rfl rfl) ?_
                        refine SL.ru rfl rfl (lt_b rfl) (ru_move rfl rfl) ?_
                        refine SL.ru rfl rfl (lt_b rfl) (ru_indexS (o2 := (0 + (((f.length : Int) - (nn : Int)).toNat) * 1)) si30 rfl rfl rfl (by omega) (by omega) rfl) ?_
                        refine SL.ru rfl rfl (lt_b rfl) (ru_load (i := 3) (v := Value.int .u8 ((uu.getD (((f.length : Int) - (nn : Int)).toNat) 0).toNat : Int)) ts5 rfl rfl rfl (by rw [Nat.zero_add, Nat.mul_one]; exact get_at (by omega))) ?_
                        refine SL.ru rfl rfl (lt_b rfl) (ru_add (r := (IntKind.u8.wrap (((uu.getD (((f.length : Int) - (nn : Int)).toNat) 0).toNat : Int) + 1))) rfl rfl rfl rfl) ?_
                        refine SL.ru rfl rfl (lt_b rfl) (ru_indexS (o2 := (0 + (((f.length : Int) - (nn : Int)).toNat) * 1)) si30 rfl rfl rfl (by omega) (by omega) rfl) ?_
                        refine SL.store (i := 3) (c' := ((uu.set (((f.length : Int) - (nn : Int)).toNat) (uu.getD (((f.length : Int) - (nn : Int)).toNat) 0 + 1)).map bv ++ tl)) rfl rfl ts5 rfl rfl rfl rfl rfl (by simp; omega) (.inr hg) (by rw [Nat.zero_add, Nat.mul_one]; exact set_inc (by omega)) ?_
                        refine SL.nil ?_
                        refine SE.blkn ?_
                        refine SC.of_SE ?_
                        refine SC.norm [(6, bo false), (7, sl g 0 f.length c3), (8, bo true), (25, iw ((f.length : Int) - (nn : Int)))] [rNic 68 d F40 (tickF A), rNic 58 r G (tickF A), rBlk b1 [iw k, iw n, iw v, Value.slice a f.length c, bo y] 32, rBlk g ((uu.set (((f.length : Int) - (nn : Int)).toNat) (uu.getD (((f.length : Int) - (nn : Int)).toNat) 0 + 1)).map bv ++ tl) 5] ⟨rfl, rfl, rfl, rfl, trivial⟩ rfl ?_
                        refine SC.region ?_
                        refine SL.ru rfl rfl (lt_b rfl) (ru_move rfl rfl) ?_
                        refine SL.ru rfl rfl (lt_b rfl) (ru_add (r := (IntKind.i64.wrap (((f.length : Int) - (nn : Int)) + 1))) rfl rfl rfl rfl) ?_
                        refine SL.ru rfl rfl (lt_b rfl) (ru_assign rfl rfl) ?_
                        refine SL.nil ?_
                        refine SE.again (nn - 1) _ (by omega) ⟨by omega, by rw [List.length_set]; exact hq⟩ ⟨rfl, rfl, rfl, (congrArg (fun x => some (iw x)) (show IntKind.i64.wrap (((f.length : Int) - (nn : Int)) + 1) = (f.length : Int) - (((nn - 1 : Nat) : Int) : Int) by rw [IntKind.wrap_i64]; omega)), trivial⟩ rfl
                  · skip
                    refine SC.skip ?_
                    refine SE.blkn ?_
                    refine SC.of_SE ?_
                    refine SC.norm [(6, bo false), (7, Value.slice a2 f.length c3), (8, bo true)] [rNic 68 d F A, rNic 58 r G A, rBlk b1 [iw k, iw n, iw v, Value.slice a f.length c, bo y] 32, rMine (.slice a2 f.length c3) f 5] ⟨rfl, rfl, rfl, trivial⟩ rfl ?_
                    refine SC.seq ?_
                    refine SC.seq ?_
                    refine SC.region ?_
                    refine SL.ru rfl rfl (lt_b rfl) (ru_assign rfl rfl) ?_
                    refine SL.nil ?_
                    refine SC.of_SE ?_
                    refine SC.norm [(6, bo false), (7, Value.slice a2 f.length c3), (8, bo true), (25, iw 0)] [rNic 68 d F A, rNic 58 r G A, rBlk b1 [iw k, iw n, iw v, Value.slice a f.length c, bo y] 32, rMine (.slice a2 f.length c3) f 5] ⟨rfl, rfl, rfl, rfl, trivial⟩ rfl ?_
                    refine SC.block ?_
                    refine SC.mine (i := 3) rfl (fun eq hf0 => ?_) (fun g tl eq hc1 hc2 => ?_)
                    · subst eq
                      refine SC.rounds 1 ?_
                      refine SR.norm [(6, bo false), (7, Value.slice none f.length c3), (8, bo true), (25, iw 0)] [rNic 68 d F A, rNic 58 r G A, rBlk b1 [iw k, iw n, iw v, Value.slice a f.length c, bo y] 32, rMine (.slice none f.length c3) f 5] ⟨rfl, rfl, rfl, rfl, trivial⟩ rfl ?_
                      refine SR.next ?_
                      refine SC.seq ?_
                      refine SC.seq ?_
                      refine SC.region ?_
                      refine SL.ru rfl rfl (lt_b rfl) (ru_move rfl rfl) ?_
                      refine SL.ru rfl rfl (lt_b rfl) (ru_move rfl rfl) ?_
                      refine SL.ru rfl rfl (lt_b rfl) (ru_len Try.underlying30 rfl rfl) ?_
                      refine SL.ru rfl rfl (lt_b rfl) (ru_lt (b := (decide ((0 : Int) < (f.length : Int)))) rfl rfl rfl rfl) ?_
                      refine SL.nil ?_
                      refine SC.of_SE ?_
                      refine SC.norm [(6, bo false), (7, Value.slice none f.length c3), (8, bo true), (25, iw 0), (206, bo (decide ((0 : Int) < (f.length : Int))))] [rNic 68 d F A, rNic 58 r G A, rBlk b1 [iw k, iw n, iw v, Value.slice a f.length c, bo y] 32, rMine (.slice none f.length c3) f 5] ⟨rfl, rfl, rfl, rfl, rfl, trivial⟩ rfl ?_
                      refine SC.no (show some (Value.bool (decide ((0 : Int) < (f.length : Int)))) = some (Value.bool false) from congrArg (fun x => some (Value.bool x)) (decide_eq_false (by rw [hf0]; decide))) ?_
                      refine SC.exit ?_
                      refine SE.passe ?_
                      refine SE.passe ?_
                      refine SE.blke ?_
                      refine SC.of_SE ?_
                      refine SC.norm [(6, bo false), (8, bo true)] [rNic 68 d F A, rNic 58 r G A, rBlk b1 [iw k, iw n, iw v, Value.slice a f.length c, bo y] 32, rMine (.slice none f.length c3) f 5] ⟨rfl, rfl, trivial⟩ rfl ?_
                      refine SC.seq ?_
                      refine SC.region ?_
                      refine SL.ru rfl rfl (lt_b rfl) (ru_move rfl rfl) ?_
                      refine SL.ru rfl rfl (lt_b rfl) (ru_assign rfl rfl) ?_
                      refine SL.nil ?_
                      refine SC.of_SE ?_
                      refine SC.norm [(6, bo true)] [rNic 68 d F A, rNic 58 r G A, rBlk b1 [iw k, iw n, iw v, Value.slice a f.length c, bo y] 32, rMine (.slice none f.length c3) f 5] ⟨rfl, trivial⟩ rfl ?_
                      refine SC.ret ?_
                      refine SE.res (.inl rfl) (res1 Try.results20 rfl) fun w1 hI => ⟨rfl, ?_⟩
                      have e : playF A k n v f y = A := by
                        try simp at h5 h8 h11 h14 h17 h24 h33 h36 h39
                        unfold playF
                        (repeat' split) <;> first | rfl | (exfalso; omega)
                      rw [e]
                      exact ⟨⟨_, _, hI.pair⟩, hI.2⟩
                    · subst eq
                      have hg := hq4 g rfl
                      refine SC.loop (γ := List UInt8) (fun nn uu => [(6, bo false), (7, sl g 0 f.length c3), (8, bo true), (25, iw ((f.length : Int) - (nn : Int)))]) (fun nn uu => [rNic 68 d F A, rNic 58 r G A, rBlk b1 [iw k, iw n, iw v, Value.slice a f.length c, bo y] 32, rBlk g (uu.map bv ++ tl) 5]) (fun nn uu => nn ≤ f.length ∧ uu.length = f.length) f.length f ⟨Nat.le_refl _, rfl⟩ ⟨rfl, rfl, rfl, (congrArg (fun x => some (iw x)) (show (0 : Int) = (f.length : Int) - ((f.length : Nat) : Int) by omega)), trivial⟩ rfl ?_
                      rintro nn uu ⟨hn, hq⟩
                      rcases Nat.eq_zero_or_pos nn with h0 | h0
                      · skip
                        refine SC.seq ?_
                        refine SC.seq ?_
                        refine SC.region ?_
                        refine SL.ru rfl rfl (lt_b rfl) (ru_move rfl rfl) ?_
                        refine SL.ru rfl rfl (lt_b rfl) (ru_move rfl rfl) ?_
                        refine SL.ru rfl rfl (lt_b rfl) (ru_len Try.underlying30 rfl rfl) ?_
                        refine SL.ru rfl rfl (lt_b rfl) (ru_lt (b := (decide ((((f.length : Int) - (nn : Int)) : Int) < (f.length : Int)))) rfl rfl rfl rfl) ?_
                        refine SL.nil ?_
                        refine SC.of_SE ?_
                        refine SC.norm [(6, bo false), (7, sl g 0 f.length c3), (8, bo true), (25, iw ((f.length : Int) - (nn : Int))), (206, bo (decide ((((f.length : Int) - (nn : Int)) : Int) < (f.length : Int))))] [rNic 68 d F A, rNic 58 r G A, rBlk b1 [iw k, iw n, iw v, Value.slice a f.length c, bo y] 32, rBlk g (uu.map bv ++ tl) 5] ⟨rfl, rfl, rfl, rfl, rfl, trivial⟩ rfl ?_
                        refine SC.no (show some (Value.bool (decide ((((f.length : Int) - (nn : Int)) : Int) < (f.length : Int)))) = some (Value.bool false) from congrArg (fun x => some (Value.bool x)) (decide_eq_false (by omega))) ?_
                        refine SC.exit ?_
                        refine SE.passe ?_
                        refine SE.passe ?_
                        refine SE.blke ?_
                        refine SC.of_SE ?_
                        refine SC.norm [(6, bo false), (8, bo true)] [rNic 68 d F A, rNic 58 r G A, rBlk b1 [iw k, iw n, iw v, Value.slice a f.length c, bo y] 32, rBlk g (uu.map bv ++ tl) 5] ⟨rfl, rfl, trivial⟩ rfl ?_
                        refine SC.seq ?_
                        refine SC.region ?_
                        refine SL.ru rfl rfl (lt_b rfl) (ru_move rfl rfl) ?_
                        refine SL.ru rfl rfl (lt_b rfl) (ru_assign rfl rfl) ?_
                        refine SL.nil ?_
                        refine SC.of_SE ?_
                        refine SC.norm [(6, bo true)] [rNic 68 d F A, rNic 58 r G A, rBlk b1 [iw k, iw n, iw v, Value.slice a f.length c, bo y] 32, rBlk g (uu.map bv ++ tl) 5] ⟨rfl, trivial⟩ rfl ?_
                        refine SC.ret ?_
                        refine SE.res (.inl rfl) (res1 Try.results20 rfl) fun w1 hI => ⟨rfl, ?_⟩
                        have e : playF A k n v f y = A := by
                          try simp at h5 h8 h11 h14 h17 h24 h33 h36 h39
                          unfold playF
                          (repeat' split) <;> first | rfl | (exfalso; omega)
                        rw [e]
                        exact ⟨⟨_, _, hI.pair⟩, hI.2⟩
                      · skip
                        refine SC.seq ?_
                        refine SC.seq ?_
                        refine SC.region ?_
                        refine SL.ru rfl rfl (lt_b rfl) (ru_move rfl rfl) ?_
                        refine SL.ru rfl rfl (lt_b rfl) (ru_move rfl rfl) ?_
                        refine SL.ru rfl rfl (lt_b rfl) (ru_len Try.underlying30 rfl rfl) ?_
                        refine SL.ru rfl rfl (lt_b rfl) (ru_lt (b := (decide ((((f.length : Int) - (nn : Int)) : Int) < (f.length : Int)))) rfl rfl rfl rfl) ?_
                        refine SL.nil ?_
                        refine SC.of_SE ?_
                        refine SC.norm [(6, bo false), (7, sl g 0 f.length c3), (8, bo true), (25, iw ((f.length : Int) - (nn : Int))), (206, bo (decide ((((f.length : Int) - (nn : Int)) : Int) < (f.length : Int))))] [rNic 68 d F A, rNic 58 r G A, rBlk b1 [iw k, iw n, iw v, Value.slice a f.length c, bo y] 32, rBlk g (uu.map bv ++ tl) 5] ⟨rfl, rfl, rfl, rfl, rfl, trivial⟩ rfl ?_
                        refine SC.yes (show some (Value.bool (decide ((((f.length : Int) - (nn : Int)) : Int) < (f.length : Int)))) = some (Value.bool true) from congrArg (fun x => some (Value.bool x)) (decide_eq_true (by omega))) ?_
                        refine SC.skip ?_
                        refine SC.of_SE ?_
                        refine SC.norm [(6, bo false), (7, sl g 0 f.length c3), (8, bo true), (25, iw ((f.length : Int) - (nn : Int)))] [rNic 68 d F A, rNic 58 r G A, rBlk b1 [iw k, iw n, iw v, Value.slice a f.length c, bo y] 32, rBlk g (uu.map bv ++ tl) 5] ⟨rfl, rfl, rfl, rfl, trivial⟩ rfl ?_
                        refine SC.seq ?_
                        refine SC.block ?_
                        refine SC.region ?_
                        refine SL.ru rfl rfl (lt_b rfl) (ru_move rfl rfl) ?_
                        refine SL.ru rfl rfl (lt_b rfl) (ru_move rfl rfl) ?_
                        refine SL.ru rfl rfl (lt_b rfl) (ru_move rfl rfl) ?_
                        refine SL.ru rfl rfl (lt_b rfl) (ru_move rfl rfl) ?_
                        refine SL.ru rfl rfl (lt_b rfl) (ru_indexS (o2 := (0 + (((f.length : Int) - (nn : Int)).toNat) * 1)) si30 rfl rfl rfl (by omega) (by omega) rfl) ?_
                        refine SL.ru rfl rfl (lt_b rfl) (ru_load (i := 3) (v := Value.int .u8 ((uu.getD (((f.length : Int) - (nn : Int)).toNat) 0).toNat : Int)) ts5 rfl rfl rfl (by rw [Nat.zero_add, Nat.mul_one]; exact get_at (by omega))) ?_
                        refine SL.ru rfl rfl (lt_b rfl) (ru_add (r := (IntKind.u8.wrap (((uu.getD (((f.length : Int) - (nn : Int)).toNat) 0).toNat : Int) + 1))) rfl rfl rfl rfl) ?_
                        refine SL.ru rfl rfl (lt_b rfl) (ru_indexS (o2 := (0 + (((f.length : Int) - (nn : Int)).toNat) * 1)) si30 rfl rfl rfl (by omega) (by omega) rfl) ?_
                        refine SL.store (i := 3) (c' := ((uu.set (((f.length : Int) - (nn : Int)).toNat) (uu.getD (((f.length : Int) - (nn : Int)).toNat) 0 + 1)).map bv ++ tl)) rfl rfl ts5 rfl rfl rfl rfl rfl (by simp; omega) (.inr hg) (by rw [Nat.zero_add, Nat.mul_one]; exact set_inc (by omega)) ?_
                        refine SL.nil ?_
                        refine SE.blkn ?_
                        refine SC.of_SE ?_
                        refine SC.norm [(6, bo false), (7, sl g 0 f.length c3), (8, bo true), (25, iw ((f.length : Int) - (nn : Int)))] [rNic 68 d F A, rNic 58 r G A, rBlk b1 [iw k, iw n, iw v, Value.slice a f.length c, bo y] 32, rBlk g ((uu.set (((f.length : Int) - (nn : Int)).toNat) (uu.getD (((f.length : Int) - (nn : Int)).toNat) 0 + 1)).map bv ++ tl) 5] ⟨rfl, rfl, rfl, rfl, trivial⟩ rfl ?_
                        refine SC.region ?_
                        refine SL.ru rfl rfl (lt_b rfl) (ru_move rfl rfl) ?_
                        refine SL.ru rfl rfl (lt_b rfl) (ru_add (r := (IntKind.i64.wrap (((f.length : Int) - (nn : Int)) + 1))) rfl rfl rfl rfl) ?_
                        refine SL.ru rfl rfl (lt_b rfl) (ru_assign rfl rfl) ?_
                        refine SL.nil ?_
                        refine SE.again (nn - 1) _ (by omega) ⟨by omega, by rw [List.length_set]; exact hq⟩ ⟨rfl, rfl, rfl, (congrArg (fun x => some (iw x)) (show IntKind.i64.wrap (((f.length : Int) - (nn : Int)) + 1) = (f.length : Int) - (((nn - 1 : Nat) : Int) : Int) by rw [IntKind.wrap_i64]; omega)), trivial⟩ rfl

end Go.Proofs.Ytloejpkefoagfaa
