/-
  A call of the program's device.
-/
import Derived.Test.YtloejpkefoagfaaNicLaw
namespace Go.Proofs.Ytloejpkefoagfaa
open Go.RowKit
set_option maxRecDepth 100000
set_option maxHeartbeats 4000000
theorem plays_any {w : World} {d : Nat} {F : Nat → Prop} {A : NicA} (hk : NicOk A) (h : NicAt 68 w d F A) {k n v : Int} {ov : Value} {f : List UInt8} {y : Bool} (hb : BytesAt w ov f) (hs : sliceIn ov (fun b => ¬ b = d)) :
    Calls Try.prog 16 #[pt d 0, .agg #[iw k, iw n, iw v, ov, bo y]] w fun e w' => e = .returned (.tuple #[]) ∧ (∃ F', NicAt 68 w' d F' (playF A k n v f y)) ∧ Only (fun b => b = d) w w' := by
  obtain ⟨a, c, rfl⟩ := hb.form
  refine calls_sc (l0 := [rNic 68 d F A]) (args := [pt d 0, .agg #[iw k, iw n, iw v, .slice a f.length c, bo y]]) (fun b => b = d) Try.func16 rfl 58 Try.ntmps16 (le_b rfl) ⟨⟨fun r hr => by simp at hr; subst hr; exact h, List.pairwise_singleton _ _⟩, Only.refl _ _⟩ ?_
  show SC _ _ _ _ [(0, pt d 0), (1, .agg #[iw k, iw n, iw v, .slice a f.length c, bo y])] [rNic 68 d F A]
  refine SC.seq ?_
  refine SC.region ?_
  refine SL.box (c := [iw k, iw n, iw v, Value.slice a f.length c, bo y]) rfl rfl (lt_b rfl) rfl rfl rfl fun b1 hb1 => ?_
  refine SL.nil ?_
  refine SC.of_SE ?_
  refine SC.norm [(0, pt d 0), (3, pt b1 0)] [rNic 68 d F A, rBlk b1 [iw k, iw n, iw v, Value.slice a f.length c, bo y] 32] ⟨rfl, rfl, trivial⟩ rfl ?_
  refine SC.seq ?_
  refine SC.region ?_
  refine SL.ru rfl rfl (lt_b rfl) (ru_fieldAddr (o2 := 0) fd32_0 rfl rfl rfl) ?_
  refine SL.ru rfl rfl (lt_b rfl) (ru_load (i := 1) ts3 rfl rfl rfl rfl) ?_
  refine SL.nil ?_
  refine SC.of_SE ?_
  refine SC.norm [(0, pt d 0), (3, pt b1 0), (5, iw k)] [rNic 68 d F A, rBlk b1 [iw k, iw n, iw v, Value.slice a f.length c, bo y] 32] ⟨rfl, rfl, rfl, trivial⟩ rfl ?_
  refine SC.block ?_
  refine SC.seq ?_
  refine SC.region ?_
  refine SL.ru rfl rfl (lt_b rfl) (ru_eq (b := ((k : Int) == 0)) rfl rfl rfl rfl) ?_
  refine SL.ru rfl rfl (lt_b rfl) (ru_assign rfl rfl) ?_
  refine SL.nil ?_
  refine SC.of_SE ?_
  refine SC.norm [(0, pt d 0), (3, pt b1 0), (5, iw k), (6, bo ((k : Int) == 0))] [rNic 68 d F A, rBlk b1 [iw k, iw n, iw v, Value.slice a f.length c, bo y] 32] ⟨rfl, rfl, rfl, rfl, trivial⟩ rfl ?_
  refine SC.both ((k : Int) == 0) rfl (fun h2 => ?_) (fun h2 => ?_)
  · skip
    refine SC.region ?_
    refine SL.ru rfl rfl (lt_b rfl) (ru_move rfl rfl) ?_
    refine SL.ru rfl rfl (lt_b rfl) (ru_fieldAddr (o2 := 1) fd32_1 rfl rfl rfl) ?_
    refine SL.ru rfl rfl (lt_b rfl) (ru_load (i := 1) ts3 rfl rfl rfl rfl) ?_
    refine SL.call (ζ := Nat → Prop) (fun F3 => Value.tuple #[iw ((readF A n).1.1), iw ((readF A n).1.2)]) (fun F3 => [rNic 68 d F3 ((readF A n).2), rBlk b1 [iw k, iw n, iw v, Value.slice a f.length c, bo y] 32]) (fun F3 => True) rfl rfl co18 rfl rfl rfl (lt_b rfl) (fun w hI => (p_read hk (nic_at hI (i := 0) rfl) n).mono fun e w2 ⟨h1, h2⟩ => by obtain ⟨F2, h3⟩ := hI.nicTo (i := 0) rfl (.inl rfl) h2; exact ⟨F2, h1, h3, trivial⟩) ?_
    intro F3 _
    refine SL.nil ?_
    refine SE.blkn ?_
    refine SE.res (.inr rfl) (res0 Try.results16) fun w1 hI => ⟨rfl, ?_⟩
    have e : playF A k n v f y = (readF A n).2 := by
      try simp at h2
      unfold playF
      (repeat' split) <;> first | rfl | (exfalso; omega)
    rw [e]
    exact ⟨⟨_, hI.1.get (i := 0) rfl⟩, hI.2⟩
  · skip
    refine SC.seq ?_
    refine SC.region ?_
    refine SL.ru rfl rfl (lt_b rfl) (ru_eq (b := ((k : Int) == 1)) rfl rfl rfl rfl) ?_
    refine SL.ru rfl rfl (lt_b rfl) (ru_assign rfl rfl) ?_
    refine SL.nil ?_
    refine SC.of_SE ?_
    refine SC.norm [(0, pt d 0), (3, pt b1 0), (5, iw k), (12, bo ((k : Int) == 1))] [rNic 68 d F A, rBlk b1 [iw k, iw n, iw v, Value.slice a f.length c, bo y] 32] ⟨rfl, rfl, rfl, rfl, trivial⟩ rfl ?_
    refine SC.both ((k : Int) == 1) rfl (fun h4 => ?_) (fun h4 => ?_)
    · skip
      refine SC.region ?_
      refine SL.ru rfl rfl (lt_b rfl) (ru_move rfl rfl) ?_
      refine SL.ru rfl rfl (lt_b rfl) (ru_fieldAddr (o2 := 1) fd32_1 rfl rfl rfl) ?_
      refine SL.ru rfl rfl (lt_b rfl) (ru_load (i := 1) ts3 rfl rfl rfl rfl) ?_
      refine SL.ru rfl rfl (lt_b rfl) (ru_fieldAddr (o2 := 2) fd32_2 rfl rfl rfl) ?_
      refine SL.ru rfl rfl (lt_b rfl) (ru_load (i := 1) ts3 rfl rfl rfl rfl) ?_
      refine SL.call (ζ := Nat → Prop) (fun F5 => iw ((writeF A n v).1)) (fun F5 => [rNic 68 d F5 ((writeF A n v).2), rBlk b1 [iw k, iw n, iw v, Value.slice a f.length c, bo y] 32]) (fun F5 => True) rfl rfl co9 rfl rfl rfl (lt_b rfl) (fun w hI => (p_write hk (nic_at hI (i := 0) rfl) n v).mono fun e w2 ⟨h1, h2⟩ => by obtain ⟨F2, h3⟩ := hI.nicTo (i := 0) rfl (.inl rfl) (NicTo.of h2); exact ⟨F2, h1, h3, trivial⟩) ?_
      intro F5 _
      refine SL.nil ?_
      refine SE.blkn ?_
      refine SE.res (.inr rfl) (res0 Try.results16) fun w1 hI => ⟨rfl, ?_⟩
      have e : playF A k n v f y = (writeF A n v).2 := by
        try simp at h2 h4
        unfold playF
        (repeat' split) <;> first | rfl | (exfalso; omega)
      rw [e]
      exact ⟨⟨_, hI.1.get (i := 0) rfl⟩, hI.2⟩
    · skip
      refine SC.seq ?_
      refine SC.region ?_
      refine SL.ru rfl rfl (lt_b rfl) (ru_eq (b := ((k : Int) == 2)) rfl rfl rfl rfl) ?_
      refine SL.ru rfl rfl (lt_b rfl) (ru_assign rfl rfl) ?_
      refine SL.nil ?_
      refine SC.of_SE ?_
      refine SC.norm [(0, pt d 0), (3, pt b1 0), (5, iw k), (20, bo ((k : Int) == 2))] [rNic 68 d F A, rBlk b1 [iw k, iw n, iw v, Value.slice a f.length c, bo y] 32] ⟨rfl, rfl, rfl, rfl, trivial⟩ rfl ?_
      refine SC.both ((k : Int) == 2) rfl (fun h6 => ?_) (fun h6 => ?_)
      · skip
        refine SC.region ?_
        refine SL.ru rfl rfl (lt_b rfl) (ru_move rfl rfl) ?_
        refine SL.ru rfl rfl (lt_b rfl) (ru_fieldAddr (o2 := 1) fd32_1 rfl rfl rfl) ?_
        refine SL.ru rfl rfl (lt_b rfl) (ru_load (i := 1) ts3 rfl rfl rfl rfl) ?_
        refine SL.ru rfl rfl (lt_b rfl) (ru_fieldAddr (o2 := 3) fd32_3 rfl rfl rfl) ?_
        refine SL.ru rfl rfl (lt_b rfl) (ru_load (i := 1) ts30 rfl rfl rfl rfl) ?_
        refine SL.call (ζ := Nat → Prop) (fun F7 => iw ((setTxF A n f).1)) (fun F7 => [rNic 68 d F7 ((setTxF A n f).2), rBlk b1 [iw k, iw n, iw v, Value.slice a f.length c, bo y] 32]) (fun F7 => True) rfl rfl co10 rfl rfl rfl (lt_b rfl) (fun w hI => (p_settx hk (nic_at hI (i := 0) rfl) (hb.only hI.2 hs) hs n).mono fun e w2 ⟨h1, h2⟩ => by obtain ⟨F2, h3⟩ := hI.nicTo (i := 0) rfl (.inl rfl) h2; exact ⟨F2, h1, h3, trivial⟩) ?_
        intro F7 _
        refine SL.nil ?_
        refine SE.blkn ?_
        refine SE.res (.inr rfl) (res0 Try.results16) fun w1 hI => ⟨rfl, ?_⟩
        have e : playF A k n v f y = (setTxF A n f).2 := by
          try simp at h2 h4 h6
          unfold playF
          (repeat' split) <;> first | rfl | (exfalso; omega)
        rw [e]
        exact ⟨⟨_, hI.1.get (i := 0) rfl⟩, hI.2⟩
      · skip
        refine SC.seq ?_
        refine SC.region ?_
        refine SL.ru rfl rfl (lt_b rfl) (ru_eq (b := ((k : Int) == 3)) rfl rfl rfl rfl) ?_
        refine SL.ru rfl rfl (lt_b rfl) (ru_assign rfl rfl) ?_
        refine SL.nil ?_
        refine SC.of_SE ?_
        refine SC.norm [(0, pt d 0), (3, pt b1 0), (5, iw k), (28, bo ((k : Int) == 3))] [rNic 68 d F A, rBlk b1 [iw k, iw n, iw v, Value.slice a f.length c, bo y] 32] ⟨rfl, rfl, rfl, rfl, trivial⟩ rfl ?_
        refine SC.both ((k : Int) == 3) rfl (fun h8 => ?_) (fun h8 => ?_)
        · skip
          refine SC.region ?_
          refine SL.ru rfl rfl (lt_b rfl) (ru_move rfl rfl) ?_
          refine SL.ru rfl rfl (lt_b rfl) (ru_fieldAddr (o2 := 1) fd32_1 rfl rfl rfl) ?_
          refine SL.ru rfl rfl (lt_b rfl) (ru_load (i := 1) ts3 rfl rfl rfl rfl) ?_
          refine SL.ru rfl rfl (lt_b rfl) (ru_fieldAddr (o2 := 2) fd32_2 rfl rfl rfl) ?_
          refine SL.ru rfl rfl (lt_b rfl) (ru_load (i := 1) ts3 rfl rfl rfl rfl) ?_
          refine SL.call (ζ := Nat → Prop) (fun F9 => iw ((setRxF A n v).1)) (fun F9 => [rNic 68 d F9 ((setRxF A n v).2), rBlk b1 [iw k, iw n, iw v, Value.slice a f.length c, bo y] 32]) (fun F9 => True) rfl rfl co13 rfl rfl rfl (lt_b rfl) (fun w hI => (p_setrx hk (nic_at hI (i := 0) rfl) n v).mono fun e w2 ⟨h1, h2⟩ => by obtain ⟨F2, h3⟩ := hI.nicTo (i := 0) rfl (.inl rfl) h2; exact ⟨F2, h1, h3, trivial⟩) ?_
          intro F9 _
          refine SL.nil ?_
          refine SE.blkn ?_
          refine SE.res (.inr rfl) (res0 Try.results16) fun w1 hI => ⟨rfl, ?_⟩
          have e : playF A k n v f y = (setRxF A n v).2 := by
            try simp at h2 h4 h6 h8
            unfold playF
            (repeat' split) <;> first | rfl | (exfalso; omega)
          rw [e]
          exact ⟨⟨_, hI.1.get (i := 0) rfl⟩, hI.2⟩
        · skip
          refine SC.seq ?_
          refine SC.region ?_
          refine SL.ru rfl rfl (lt_b rfl) (ru_eq (b := ((k : Int) == 5)) rfl rfl rfl rfl) ?_
          refine SL.ru rfl rfl (lt_b rfl) (ru_assign rfl rfl) ?_
          refine SL.nil ?_
          refine SC.of_SE ?_
          refine SC.norm [(0, pt d 0), (3, pt b1 0), (5, iw k), (36, bo ((k : Int) == 5))] [rNic 68 d F A, rBlk b1 [iw k, iw n, iw v, Value.slice a f.length c, bo y] 32] ⟨rfl, rfl, rfl, rfl, trivial⟩ rfl ?_
          refine SC.both ((k : Int) == 5) rfl (fun h10 => ?_) (fun h10 => ?_)
          · skip
            refine SC.region ?_
            refine SL.ru rfl rfl (lt_b rfl) (ru_move rfl rfl) ?_
            refine SL.call (ζ := Option Addr × Nat) (fun z => Value.tuple #[Value.agg #[Value.slice z.1 ((takeR A).1.1.1.length) z.2, bo false, iw ((takeR A).1.1.2)], iw ((takeR A).1.2)]) (fun z => [rNic 68 d F ((takeR A).2), rBlk b1 [iw k, iw n, iw v, Value.slice a f.length c, bo y] 32, rMine (.slice z.1 ((takeR A).1.1.1).length z.2) ((takeR A).1.1.1) 5]) (fun z => ∀ b, (Value.slice z.1 (takeR A).1.1.1.length z.2).ownBlock = some b → w.heap.size ≤ b) rfl rfl co11 rfl rfl rfl (lt_b rfl) (fun w hI => (p_take hk (nic_at hI (i := 0) rfl)).mono fun e w2 ⟨v, h1, h2, h3, h4⟩ => by obtain ⟨qa, qc, rfl, k1, k2⟩ := hI.took (i := 0) rfl (.inl rfl) (take_len hk) h2 h3 h4; exact ⟨(qa, qc), h1, k1, k2⟩) ?_
            rintro ⟨a11, c12⟩ hq13
            refine SL.nil ?_
            refine SE.blkn ?_
            refine SE.res (.inr rfl) (res0 Try.results16) fun w1 hI => ⟨rfl, ?_⟩
            have e : playF A k n v f y = (takeR A).2 := by
              try simp at h2 h4 h6 h8 h10
              unfold playF
              (repeat' split) <;> first | rfl | (exfalso; omega)
            rw [e]
            exact ⟨⟨_, hI.1.get (i := 0) rfl⟩, hI.2⟩
          · skip
            refine SC.seq ?_
            refine SC.region ?_
            refine SL.ru rfl rfl (lt_b rfl) (ru_eq (b := ((k : Int) == 6)) rfl rfl rfl rfl) ?_
            refine SL.ru rfl rfl (lt_b rfl) (ru_assign rfl rfl) ?_
            refine SL.nil ?_
            refine SC.of_SE ?_
            refine SC.norm [(0, pt d 0), (3, pt b1 0), (5, iw k), (40, bo ((k : Int) == 6))] [rNic 68 d F A, rBlk b1 [iw k, iw n, iw v, Value.slice a f.length c, bo y] 32] ⟨rfl, rfl, rfl, rfl, trivial⟩ rfl ?_
            refine SC.both ((k : Int) == 6) rfl (fun h14 => ?_) (fun h14 => ?_)
            · skip
              refine SC.region ?_
              refine SL.ru rfl rfl (lt_b rfl) (ru_move rfl rfl) ?_
              refine SL.ru rfl rfl (lt_b rfl) (ru_fieldAddr (o2 := 3) fd32_3 rfl rfl rfl) ?_
              refine SL.ru rfl rfl (lt_b rfl) (ru_load (i := 1) ts30 rfl rfl rfl rfl) ?_
              refine SL.ru rfl rfl (lt_b rfl) (ru_fieldAddr (o2 := 4) fd32_4 rfl rfl rfl) ?_
              refine SL.ru rfl rfl (lt_b rfl) (ru_load (i := 1) ts4 rfl rfl rfl rfl) ?_
              refine SL.call (ζ := Nat → Prop) (fun F15 => iw ((giveF A f y).1)) (fun F15 => [rNic 68 d F15 ((giveF A f y).2), rBlk b1 [iw k, iw n, iw v, Value.slice a f.length c, bo y] 32]) (fun F15 => True) rfl rfl co14 rfl rfl rfl (lt_b rfl) (fun w hI => (p_give hk (nic_at hI (i := 0) rfl) (hb.only hI.2 hs) hs y).mono fun e w2 ⟨h1, h2⟩ => by obtain ⟨F2, h3⟩ := hI.nicTo (i := 0) rfl (.inl rfl) h2; exact ⟨F2, h1, h3, trivial⟩) ?_
              intro F15 _
              refine SL.nil ?_
              refine SE.blkn ?_
              refine SE.res (.inr rfl) (res0 Try.results16) fun w1 hI => ⟨rfl, ?_⟩
              have e : playF A k n v f y = (giveF A f y).2 := by
                try simp at h2 h4 h6 h8 h10 h14
                unfold playF
                (repeat' split) <;> first | rfl | (exfalso; omega)
              rw [e]
              exact ⟨⟨_, hI.1.get (i := 0) rfl⟩, hI.2⟩
            · skip
              refine SC.seq ?_
              refine SC.region ?_
              refine SL.ru rfl rfl (lt_b rfl) (ru_eq (b := ((k : Int) == 7)) rfl rfl rfl rfl) ?_
              refine SL.ru rfl rfl (lt_b rfl) (ru_assign rfl rfl) ?_
              refine SL.nil ?_
              refine SC.of_SE ?_
              refine SC.norm [(0, pt d 0), (3, pt b1 0), (5, iw k), (48, bo ((k : Int) == 7))] [rNic 68 d F A, rBlk b1 [iw k, iw n, iw v, Value.slice a f.length c, bo y] 32] ⟨rfl, rfl, rfl, rfl, trivial⟩ rfl ?_
              refine SC.both ((k : Int) == 7) rfl (fun h16 => ?_) (fun h16 => ?_)
              · skip
                refine SC.region ?_
                refine SL.ru rfl rfl (lt_b rfl) (ru_move rfl rfl) ?_
                refine SL.ru rfl rfl (lt_b rfl) (ru_fieldAddr (o2 := 4) fd32_4 rfl rfl rfl) ?_
                refine SL.ru rfl rfl (lt_b rfl) (ru_load (i := 1) ts4 rfl rfl rfl rfl) ?_
                refine SL.call (ζ := Nat → Prop) (fun F17 => Value.tuple #[]) (fun F17 => [rNic 68 d F17 (linkF A y), rBlk b1 [iw k, iw n, iw v, Value.slice a f.length c, bo y] 32]) (fun F17 => True) rfl rfl co17 rfl rfl rfl (lt_b rfl) (fun w hI => (p_link hk (nic_at hI (i := 0) rfl) y).mono fun e w2 ⟨h1, h2⟩ => by obtain ⟨F2, h3⟩ := hI.nicTo (i := 0) rfl (.inl rfl) h2; exact ⟨F2, h1, h3, trivial⟩) ?_
                intro F17 _
                refine SL.nil ?_
                refine SE.blkn ?_
                refine SE.res (.inr rfl) (res0 Try.results16) fun w1 hI => ⟨rfl, ?_⟩
                have e : playF A k n v f y = linkF A y := by
                  try simp at h2 h4 h6 h8 h10 h14 h16
                  unfold playF
                  (repeat' split) <;> first | rfl | (exfalso; omega)
                rw [e]
                exact ⟨⟨_, hI.1.get (i := 0) rfl⟩, hI.2⟩
              · skip
                refine SC.seq ?_
                refine SC.region ?_
                refine SL.ru rfl rfl (lt_b rfl) (ru_eq (b := ((k : Int) == 8)) rfl rfl rfl rfl) ?_
                refine SL.ru rfl rfl (lt_b rfl) (ru_assign rfl rfl) ?_
                refine SL.nil ?_
                refine SC.of_SE ?_
                refine SC.norm [(0, pt d 0), (54, bo ((k : Int) == 8))] [rNic 68 d F A, rBlk b1 [iw k, iw n, iw v, Value.slice a f.length c, bo y] 32] ⟨rfl, rfl, trivial⟩ rfl ?_
                refine SC.both ((k : Int) == 8) rfl (fun h18 => ?_) (fun h18 => ?_)
                · skip
                  refine SC.region ?_
                  refine SL.ru rfl rfl (lt_b rfl) (ru_move rfl rfl) ?_
                  refine SL.call (ζ := Nat → Prop) (fun F19 => Value.tuple #[]) (fun F19 => [rNic 68 d F19 (tickF A), rBlk b1 [iw k, iw n, iw v, Value.slice a f.length c, bo y] 32]) (fun F19 => True) rfl rfl co12 rfl rfl rfl (lt_b rfl) (fun w hI => (p_tick hk (nic_at hI (i := 0) rfl)).mono fun e w2 ⟨h1, h2⟩ => by obtain ⟨F2, h3⟩ := hI.nicTo (i := 0) rfl (.inl rfl) h2; exact ⟨F2, h1, h3, trivial⟩) ?_
                  intro F19 _
                  refine SL.nil ?_
                  refine SE.blkn ?_
                  refine SE.res (.inr rfl) (res0 Try.results16) fun w1 hI => ⟨rfl, ?_⟩
                  have e : playF A k n v f y = tickF A := by
                    try simp at h2 h4 h6 h8 h10 h14 h16 h18
                    unfold playF
                    (repeat' split) <;> first | rfl | (exfalso; omega)
                  rw [e]
                  exact ⟨⟨_, hI.1.get (i := 0) rfl⟩, hI.2⟩
                · skip
                  refine SC.skip ?_
                  refine SE.blkn ?_
                  refine SE.res (.inr rfl) (res0 Try.results16) fun w1 hI => ⟨rfl, ?_⟩
                  have e : playF A k n v f y = A := by
                    try simp at h2 h4 h6 h8 h10 h14 h16 h18
                    unfold playF
                    (repeat' split) <;> first | rfl | (exfalso; omega)
                  rw [e]
                  exact ⟨⟨_, hI.1.get (i := 0) rfl⟩, hI.2⟩

end Go.Proofs.Ytloejpkefoagfaa
