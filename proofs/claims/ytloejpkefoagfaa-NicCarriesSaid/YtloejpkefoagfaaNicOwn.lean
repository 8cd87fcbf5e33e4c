/-
  Bytes that are handed out: are they those that are wanted? (They are written full.)
-/
import Derived.Test.YtloejpkefoagfaaNicApp
namespace Go.Proofs.Ytloejpkefoagfaa
open Go.RowKit
set_option maxRecDepth 100000
set_option maxHeartbeats 4000000
theorem own_leaf {f h : List UInt8} (hh : h.length ≤ 140737488351232) : (decide (f = h) && (((f.length + 1 : Nat) : Int) == IntKind.i64.wrap ((h.length : Int) + 1))) = decide (f = h) := by
  by_cases e : f = h
  · subst e
    rw [IntKind.wrap_i64]
    simp
    omega
  · simp [e]

theorem own_nil' {w : World} {y : Value} {h : List UInt8} (hy : BytesAt w y h) : Calls Try.prog 32 #[.slice none 0 0, y] w fun e w' => e = .returned (bo (decide (([] : List UInt8) = h))) ∧ Only (fun _ => False) w w' := by
  have hh := hy.len
  obtain ⟨a, c, rfl⟩ := hy.form
  refine calls_sc (l0 := []) (args := [.slice none 0 0, .slice a h.length c]) (fun _ => False) Try.func32 rfl 38 Try.ntmps32 (le_b rfl) ⟨⟨by simp, List.Pairwise.nil⟩, Only.refl _ _⟩ ?_
  show SC _ _ _ _ [(0, .slice none 0 0), (1, .slice a h.length c)] []
  refine SC.seq ?_
  refine SC.region ?_
  refine SL.ru rfl rfl (lt_b rfl) (ru_assign rfl rfl) ?_
  refine SL.nil ?_
  refine SC.of_SE ?_
  refine SC.norm [(0, Value.slice none 0 0), (1, Value.slice a h.length c), (4, bo false)] [] ⟨rfl, rfl, rfl, trivial⟩ rfl ?_
  refine SC.seq ?_
  refine SC.region ?_
  refine SL.ru rfl rfl (lt_b rfl) (ru_move rfl rfl) ?_
  refine SL.ru rfl rfl (lt_b rfl) (ru_str (f := ([] : List UInt8)) Try.underlying30 Try.underlying5 Try.underlying9 rfl rfl (fun w hI => BytesAt.nil _)) ?_
  refine SL.ru rfl rfl (lt_b rfl) (ru_move rfl rfl) ?_
  refine SL.ru rfl rfl (lt_b rfl) (ru_str (f := h) Try.underlying30 Try.underlying5 Try.underlying9 rfl rfl (fun w hI => hy.only hI.2 (fun _ _ _ _ _ _ h => h))) ?_
  refine SL.ru rfl rfl (lt_b rfl) (ru_streq (f := ([] : List UInt8)) (h := h) (b := (decide (([] : List UInt8) = h))) Try.underlying9 rfl rfl rfl rfl) ?_
  refine SL.ru rfl rfl (lt_b rfl) (ru_assign rfl rfl) ?_
  refine SL.nil ?_
  refine SC.of_SE ?_
  refine SC.norm [(0, Value.slice none 0 0), (1, Value.slice a h.length c), (4, bo false), (5, bo (decide (([] : List UInt8) = h)))] [] ⟨rfl, rfl, rfl, rfl, trivial⟩ rfl ?_
  refine SC.seq ?_
  refine SC.seq ?_
  refine SC.region ?_
  refine SL.ru rfl rfl (lt_b rfl) (ru_assign rfl rfl) ?_
  refine SL.nil ?_
  refine SC.of_SE ?_
  refine SC.norm [(0, Value.slice none 0 0), (1, Value.slice a h.length c), (4, bo false), (5, bo (decide (([] : List UInt8) = h))), (6, iw 0)] [] ⟨rfl, rfl, rfl, rfl, rfl, trivial⟩ rfl ?_
  refine SC.block ?_
  refine SC.rounds 1 ?_
  refine SR.norm [(0, Value.slice none 0 0), (1, Value.slice a h.length c), (4, bo false), (5, bo (decide (([] : List UInt8) = h))), (6, iw 0)] [] ⟨rfl, rfl, rfl, rfl, rfl, trivial⟩ rfl ?_
  refine SR.next ?_
  refine SC.seq ?_
  refine SC.seq ?_
  refine SC.region ?_
  refine SL.ru rfl rfl (lt_b rfl) (ru_move rfl rfl) ?_
  refine SL.ru rfl rfl (lt_b rfl) (ru_move rfl rfl) ?_
  refine SL.ru rfl rfl (lt_b rfl) (ru_len Try.underlying30 rfl rfl) ?_
  refine SL.ru rfl rfl (lt_b rfl) (ru_lt (b := false) rfl rfl rfl rfl) ?_
  refine SL.nil ?_
  refine SC.of_SE ?_
  refine SC.norm [(0, Value.slice none 0 0), (1, Value.slice a h.length c), (4, bo false), (5, bo (decide (([] : List UInt8) = h))), (6, iw 0), (15, bo false)] [] ⟨rfl, rfl, rfl, rfl, rfl, rfl, trivial⟩ rfl ?_
  refine SC.no rfl ?_
  refine SC.exit ?_
  refine SE.passe ?_
  refine SE.passe ?_
  refine SE.blke ?_
  refine SC.of_SE ?_
  refine SC.norm [(0, Value.slice none 0 0), (1, Value.slice a h.length c), (4, bo false), (5, bo (decide (([] : List UInt8) = h)))] [] ⟨rfl, rfl, rfl, rfl, trivial⟩ rfl ?_
  refine SC.seq ?_
  refine SC.region ?_
  refine SL.ru rfl rfl (lt_b rfl) (ru_move rfl rfl) ?_
  refine SL.buildSlice (size := 1) (vals := [(0, Value.int .u8 7)]) (z := [Value.int .u8 0]) (cs := [Value.int .u8 7]) rfl rfl (lt_b rfl) rfl Try.underlying30 (by kernel_rfl) rfl rfl (by kernel_rfl) fun b1 hb1 => ?_
  refine SL.append0 (f := [7]) rfl rfl (lt_b rfl) rfl Try.underlying30 (by kernel_rfl) rfl rfl (fun w hI => Blk.bytes (l := [7]) (hI.1.get (i := 0) rfl) (by decide)) fun a2 c3 _ => ?_
  refine SL.ru rfl rfl (lt_b rfl) (ru_assign rfl rfl) ?_
  refine SL.nil ?_
  refine SC.of_SE ?_
  refine SC.norm [(0, Value.slice a2 1 c3), (1, Value.slice a h.length c), (4, bo false), (5, bo (decide (([] : List UInt8) = h)))] [rBlk b1 [Value.int .u8 7] 5, rMine (.slice a2 1 c3) [7] 5] ⟨rfl, rfl, rfl, rfl, trivial⟩ rfl ?_
  refine SC.seq ?_
  refine SC.region ?_
  refine SL.ru rfl rfl (lt_b rfl) (ru_move rfl rfl) ?_
  refine SL.ru rfl rfl (lt_b rfl) (ru_move rfl rfl) ?_
  refine SL.join 7 [(0, Value.slice a2 1 c3), (1, Value.slice a h.length c), (4, bo false), (5, bo (decide (([] : List UInt8) = h))), (29, bo (decide (([] : List UInt8) = h))), (30, bo (decide (([] : List UInt8) = h))), (37, bo ((decide (([] : List UInt8) = h)) && (((1 : Int) : Int) == (IntKind.i64.wrap ((h.length : Int) + 1)))))] [rBlk b1 [Value.int .u8 7] 5, rMine (.slice a2 1 c3) [7] 5] ?_ ?_
  rotate_left
  · intro K hK
    rcases tf (decide (([] : List UInt8) = h)) with h4 | h4
    · skip
      refine SL.norm [(0, Value.slice a2 1 c3), (1, Value.slice a h.length c), (4, bo false), (5, bo true), (29, bo true), (30, bo true)] [rBlk b1 [Value.int .u8 7] 5, rMine (.slice a2 1 c3) [7] 5] ⟨rfl, rfl, rfl, (congrArg (fun x => some (Value.bool x)) h4), (congrArg (fun x => some (Value.bool x)) h4), (congrArg (fun x => some (Value.bool x)) h4), trivial⟩ rfl ?_
      refine SL.rug rfl rfl rfl rfl (lt_b rfl) (ru_move rfl rfl) ?_
      refine SL.rug rfl rfl rfl rfl (lt_b rfl) (ru_len Try.underlying30 rfl rfl) ?_
      refine SL.rug rfl rfl rfl rfl (lt_b rfl) (ru_move rfl rfl) ?_
      refine SL.rug rfl rfl rfl rfl (lt_b rfl) (ru_len Try.underlying30 rfl rfl) ?_
      refine SL.rug rfl rfl rfl rfl (lt_b rfl) (ru_add (r := (IntKind.i64.wrap ((h.length : Int) + 1))) rfl rfl rfl rfl) ?_
      refine SL.rug rfl rfl rfl rfl (lt_b rfl) (ru_eq (b := (((1 : Int) : Int) == (IntKind.i64.wrap ((h.length : Int) + 1)))) rfl rfl rfl rfl) ?_
      refine SL.ru rfl rfl (lt_b rfl) (ru_pick (u := bo (((1 : Int) : Int) == (IntKind.i64.wrap ((h.length : Int) + 1)))) (v := bo false) rfl rfl rfl rfl) ?_
      exact SL.joined hK ⟨rfl, rfl, rfl, (congrArg (fun x => some (Value.bool x)) h4.symm), (congrArg (fun x => some (Value.bool x)) h4.symm), (congrArg (fun x => some (Value.bool x)) h4.symm), (congrArg (fun x => some (Value.bool (x && (((1 : Int) : Int) == (IntKind.i64.wrap ((h.length : Int) + 1)))))) h4.symm), trivial⟩ rfl
    · skip
      refine SL.norm [(0, Value.slice a2 1 c3), (1, Value.slice a h.length c), (4, bo false), (5, bo false), (29, bo false), (30, bo false)] [rBlk b1 [Value.int .u8 7] 5, rMine (.slice a2 1 c3) [7] 5] ⟨rfl, rfl, rfl, (congrArg (fun x => some (Value.bool x)) h4), (congrArg (fun x => some (Value.bool x)) h4), (congrArg (fun x => some (Value.bool x)) h4), trivial⟩ rfl ?_
      refine SL.off (b := false) rfl rfl rfl rfl rfl (lt_b rfl) ?_
      refine SL.off (b := false) rfl rfl rfl rfl rfl (lt_b rfl) ?_
      refine SL.off (b := false) rfl rfl rfl rfl rfl (lt_b rfl) ?_
      refine SL.off (b := false) rfl rfl rfl rfl rfl (lt_b rfl) ?_
      refine SL.off (b := false) rfl rfl rfl rfl rfl (lt_b rfl) ?_
      refine SL.off (b := false) rfl rfl rfl rfl rfl (lt_b rfl) ?_
      refine SL.ru rfl rfl (lt_b rfl) (ru_pick (u := undef) (v := bo false) rfl rfl rfl rfl) ?_
      exact SL.joined hK ⟨rfl, rfl, rfl, (congrArg (fun x => some (Value.bool x)) h4.symm), (congrArg (fun x => some (Value.bool x)) h4.symm), (congrArg (fun x => some (Value.bool x)) h4.symm), (congrArg (fun x => some (Value.bool (x && (((1 : Int) : Int) == (IntKind.i64.wrap ((h.length : Int) + 1)))))) h4.symm), trivial⟩ rfl
  skip
  refine SL.ru rfl rfl (lt_b rfl) (ru_assign rfl rfl) ?_
  refine SL.nil ?_
  refine SC.of_SE ?_
  refine SC.norm [(4, bo ((decide (([] : List UInt8) = h)) && (((1 : Int) : Int) == (IntKind.i64.wrap ((h.length : Int) + 1)))))] [rBlk b1 [Value.int .u8 7] 5, rMine (.slice a2 1 c3) [7] 5] ⟨rfl, trivial⟩ rfl ?_
  refine SC.ret ?_
  refine SE.res (.inl rfl) (res1 Try.results32 rfl) fun w1 hI => ⟨ret_bo (Eq.symm ?_), hI.2⟩
  exact own_leaf hh

theorem own_blk {w : World} {g cap : Nat} {f : List UInt8} {tl : List Value} {y : Value} {h : List UInt8} (hB : Blk w g (f.map bv ++ tl) 5) (hc1 : f.length + tl.length = cap) (hc2 : cap ≤ maxLen) (hfl : f.length ≤ 140737488351232) (hy : BytesAt w y h) (hd : sliceIn y (fun b => ¬ b = g)) :
    Calls Try.prog 32 #[sl g 0 f.length cap, y] w fun e w' => e = .returned (bo (decide (f = h))) ∧ Only (fun b => b = g) w w' := by
  have hh := hy.len
  obtain ⟨a, c, rfl⟩ := hy.form
  refine calls_sc (l0 := _) (args := [sl g 0 f.length cap, .slice a h.length c]) (fun b => b = g) Try.func32 rfl 38 Try.ntmps32 (le_b rfl) (Inv.one hB) ?_
  show SC _ _ _ _ [(0, sl g 0 f.length cap), (1, .slice a h.length c)] [rBlk g (f.map bv ++ tl) 5]
  refine SC.seq ?_
  refine SC.region ?_
  refine SL.ru rfl rfl (lt_b rfl) (ru_assign rfl rfl) ?_
  refine SL.nil ?_
  refine SC.of_SE ?_
  refine SC.norm [(0, sl g 0 f.length cap), (1, Value.slice a h.length c), (4, bo false)] [rBlk g (f.map bv ++ tl) 5] ⟨rfl, rfl, rfl, trivial⟩ rfl ?_
  refine SC.seq ?_
  refine SC.region ?_
  refine SL.ru rfl rfl (lt_b rfl) (ru_move rfl rfl) ?_
  refine SL.ru rfl rfl (lt_b rfl) (ru_str (f := f) Try.underlying30 Try.underlying5 Try.underlying9 rfl rfl (fun w hI => ((OwnBytes.of_blk (hI.1.get (i := 0) rfl) hc2 hc1).bytes hfl))) ?_
  refine SL.ru rfl rfl (lt_b rfl) (ru_move rfl rfl) ?_
  refine SL.ru rfl rfl (lt_b rfl) (ru_str (f := h) Try.underlying30 Try.underlying5 Try.underlying9 rfl rfl (fun w hI => hy.only hI.2 hd)) ?_
  refine SL.ru rfl rfl (lt_b rfl) (ru_streq (f := f) (h := h) (b := (decide (f = h))) Try.underlying9 rfl rfl rfl rfl) ?_
  refine SL.ru rfl rfl (lt_b rfl) (ru_assign rfl rfl) ?_
  refine SL.nil ?_
  refine SC.of_SE ?_
  refine SC.norm [(0, sl g 0 f.length cap), (1, Value.slice a h.length c), (4, bo false), (5, bo (decide (f = h)))] [rBlk g (f.map bv ++ tl) 5] ⟨rfl, rfl, rfl, rfl, trivial⟩ rfl ?_
  refine SC.seq ?_
  refine SC.seq ?_
  refine SC.region ?_
  refine SL.ru rfl rfl (lt_b rfl) (ru_assign rfl rfl) ?_
  refine SL.nil ?_
  refine SC.of_SE ?_
  refine SC.norm [(0, sl g 0 f.length cap), (1, Value.slice a h.length c), (4, bo false), (5, bo (decide (f = h))), (6, iw 0)] [rBlk g (f.map bv ++ tl) 5] ⟨rfl, rfl, rfl, rfl, rfl, trivial⟩ rfl ?_
  refine SC.block ?_
  refine SC.loop (γ := List UInt8) (fun nn uu => [(0, sl g 0 f.length cap), (1, Value.slice a h.length c), (4, bo false), (5, bo (decide (f = h))), (6, iw ((f.length : Int) - (nn : Int)))]) (fun nn uu => [rBlk g (uu.map bv ++ tl) 5]) (fun nn uu => nn ≤ f.length ∧ uu.length = f.length) f.length f ⟨Nat.le_refl _, rfl⟩ ⟨rfl, rfl, rfl, rfl, (congrArg (fun x => some (iw x)) (show (0 : Int) = (f.length : Int) - ((f.length : Nat) : Int) by omega)), trivial⟩ rfl ?_
  rintro nn uu ⟨hn, hq⟩
  rcases Nat.eq_zero_or_pos nn with h0 | h0
  · skip
    refine SC.seq ?_
    refine SC.seq ?_
    refine SC.region ?_
    refine SL.ru rfl rfl (lt_b rfl) (ru_move rfl rfl) ?_
    refine SL.ru rfl rfl (lt_b rfl) (ru_move rfl rfl) ?_
    refine SL.ru rfl rfl (lt_b rfl) (ru_len Try.underlying30 rfl rfl) ?_
    refine SL.ru rfl rfl (lt_b rfl) (ru_lt (b := (decide ((((f.length : Int) - (nn : Int)) : Int) < (f.length : Int)))) rfl rfl rfl rfl) ?_
    refine SL.nil ?_
    refine SC.of_SE ?_
    refine SC.norm [(0, sl g 0 f.length cap), (1, Value.slice a h.length c), (4, bo false), (5, bo (decide (f = h))), (6, iw ((f.length : Int) - (nn : Int))), (15, bo (decide ((((f.length : Int) - (nn : Int)) : Int) < (f.length : Int))))] [rBlk g (uu.map bv ++ tl) 5] ⟨rfl, rfl, rfl, rfl, rfl, rfl, trivial⟩ rfl ?_
    refine SC.no (show some (Value.bool (decide ((((f.length : Int) - (nn : Int)) : Int) < (f.length : Int)))) = some (Value.bool false) from congrArg (fun x => some (Value.bool x)) (decide_eq_false (by omega))) ?_
    refine SC.exit ?_
    refine SE.passe ?_
    refine SE.passe ?_
    refine SE.blke ?_
    refine SC.of_SE ?_
    refine SC.norm [(0, sl g 0 f.length cap), (1, Value.slice a h.length c), (4, bo false), (5, bo (decide (f = h)))] [rBlk g (uu.map bv ++ tl) 5] ⟨rfl, rfl, rfl, rfl, trivial⟩ rfl ?_
    refine SC.seq ?_
    refine SC.region ?_
    refine SL.ru rfl rfl (lt_b rfl) (ru_move rfl rfl) ?_
    refine SL.buildSlice (size := 1) (vals := [(0, Value.int .u8 7)]) (z := [Value.int .u8 0]) (cs := [Value.int .u8 7]) rfl rfl (lt_b rfl) rfl Try.underlying30 (by kernel_rfl) rfl rfl (by kernel_rfl) fun b1 hb1 => ?_
    refine SL.append1 (i := 0) (f := uu) (h := [7]) (n := f.length) hq rfl rfl (lt_b rfl) rfl Try.underlying30 (by kernel_rfl) rfl rfl rfl (by omega) hc2 (fun w hI => Blk.bytes (l := [7]) (hI.1.get (i := 1) rfl) (by decide)) (by simp; omega) (.inl rfl) fun a2 c3 => ?_
    refine SL.ru rfl rfl (lt_b rfl) (ru_assign rfl rfl) ?_
    refine SL.nil ?_
    refine SC.of_SE ?_
    refine SC.norm [(0, Value.slice a2 (f.length + 1) c3), (1, Value.slice a h.length c), (4, bo false), (5, bo (decide (f = h)))] [rAny g, rBlk b1 [Value.int .u8 7] 5] ⟨rfl, rfl, rfl, rfl, trivial⟩ rfl ?_
    refine SC.seq ?_
    refine SC.region ?_
    refine SL.ru rfl rfl (lt_b rfl) (ru_move rfl rfl) ?_
    refine SL.ru rfl rfl (lt_b rfl) (ru_move rfl rfl) ?_
    refine SL.join 7 [(0, Value.slice a2 (f.length + 1) c3), (1, Value.slice a h.length c), (4, bo false), (5, bo (decide (f = h))), (29, bo (decide (f = h))), (30, bo (decide (f = h))), (37, bo ((decide (f = h)) && (((f.length + 1 : Int) : Int) == (IntKind.i64.wrap ((h.length : Int) + 1)))))] [rAny g, rBlk b1 [Value.int .u8 7] 5] ?_ ?_
    rotate_left
    · intro K hK
      rcases tf (decide (f = h)) with h4 | h4
      · skip
        refine SL.norm [(0, Value.slice a2 (f.length + 1) c3), (1, Value.slice a h.length c), (4, bo false), (5, bo true), (29, bo true), (30, bo true)] [rAny g, rBlk b1 [Value.int .u8 7] 5] ⟨rfl, rfl, rfl, (congrArg (fun x => some (Value.bool x)) h4), (congrArg (fun x => some (Value.bool x)) h4), (congrArg (fun x => some (Value.bool x)) h4), trivial⟩ rfl ?_
        refine SL.rug rfl rfl rfl rfl (lt_b rfl) (ru_move rfl rfl) ?_
        refine SL.rug rfl rfl rfl rfl (lt_b rfl) (ru_len Try.underlying30 rfl rfl) ?_
        refine SL.rug rfl rfl rfl rfl (lt_b rfl) (ru_move rfl rfl) ?_
        refine SL.rug rfl rfl rfl rfl (lt_b rfl) (ru_len Try.underlying30 rfl rfl) ?_
        refine SL.rug rfl rfl rfl rfl (lt_b rfl) (ru_add (r := (IntKind.i64.wrap ((h.length : Int) + 1))) rfl rfl rfl rfl) ?_
        refine SL.rug rfl rfl rfl rfl (lt_b rfl) (ru_eq (b := (((f.length + 1 : Int) : Int) == (IntKind.i64.wrap ((h.length : Int) + 1)))) rfl rfl rfl rfl) ?_
        refine SL.ru rfl rfl (lt_b rfl) (ru_pick (u := bo (((f.length + 1 : Int) : Int) == (IntKind.i64.wrap ((h.length : Int) + 1)))) (v := bo false) rfl rfl rfl rfl) ?_
        exact SL.joined hK ⟨rfl, rfl, rfl, (congrArg (fun x => some (Value.bool x)) h4.symm), (congrArg (fun x => some (Value.bool x)) h4.symm), (congrArg (fun x => some (Value.bool x)) h4.symm), (congrArg (fun x => some (Value.bool (x && (((f.length + 1 : Int) : Int) == (IntKind.i64.wrap ((h.length : Int) + 1)))))) h4.symm), trivial⟩ rfl
      · skip
        refine SL.norm [(0, Value.slice a2 (f.length + 1) c3), (1, Value.slice a h.length c), (4, bo false), (5, bo false), (29, bo false), (30, bo false)] [rAny g, rBlk b1 [Value.int .u8 7] 5] ⟨rfl, rfl, rfl, (congrArg (fun x => some (Value.bool x)) h4), (congrArg (fun x => some (Value.bool x)) h4), (congrArg (fun x => some (Value.bool x)) h4), trivial⟩ rfl ?_
        refine SL.off (b := false) rfl rfl rfl rfl rfl (lt_b rfl) ?_
        refine SL.off (b := false) rfl rfl rfl rfl rfl (lt_b rfl) ?_
        refine SL.off (b := false) rfl rfl rfl rfl rfl (lt_b rfl) ?_
        refine SL.off (b := false) rfl rfl rfl rfl rfl (lt_b rfl) ?_
        refine SL.off (b := false) rfl rfl rfl rfl rfl (lt_b rfl) ?_
        refine SL.off (b := false) rfl rfl rfl rfl rfl (lt_b rfl) ?_
        refine SL.ru rfl rfl (lt_b rfl) (ru_pick (u := undef) (v := bo false) rfl rfl rfl rfl) ?_
        exact SL.joined hK ⟨rfl, rfl, rfl, (congrArg (fun x => some (Value.bool x)) h4.symm), (congrArg (fun x => some (Value.bool x)) h4.symm), (congrArg (fun x => some (Value.bool x)) h4.symm), (congrArg (fun x => some (Value.bool (x && (((f.length + 1 : Int) : Int) == (IntKind.i64.wrap ((h.length : Int) + 1)))))) h4.symm), trivial⟩ rfl
    skip
    refine SL.ru rfl rfl (lt_b rfl) (ru_assign rfl rfl) ?_
    refine SL.nil ?_
    refine SC.of_SE ?_
    refine SC.norm [(4, bo ((decide (f = h)) && (((f.length + 1 : Int) : Int) == (IntKind.i64.wrap ((h.length : Int) + 1)))))] [rAny g, rBlk b1 [Value.int .u8 7] 5] ⟨rfl, trivial⟩ rfl ?_
    refine SC.ret ?_
    refine SE.res (.inl rfl) (res1 Try.results32 rfl) fun w1 hI => ⟨ret_bo (Eq.symm ?_), hI.2⟩
    exact own_leaf hh
  · skip
    refine SC.seq ?_
    refine SC.seq ?_
    refine SC.region ?_
    refine SL.ru rfl rfl (lt_b rfl) (ru_move rfl rfl) ?_
    refine SL.ru rfl rfl (lt_b rfl) (ru_move rfl rfl) ?_
    refine SL.ru rfl rfl (lt_b rfl) (ru_len Try.underlying30 rfl rfl) ?_
    refine SL.ru rfl rfl (lt_b rfl) (ru_lt (b := (decide ((((f.length : Int) - (nn : Int)) : Int) < (f.length : Int)))) rfl rfl rfl rfl) ?_
    refine SL.nil ?_
    refine SC.of_SE ?_
    refine SC.norm [(0, sl g 0 f.length cap), (1, Value.slice a h.length c), (4, bo false), (5, bo (decide (f = h))), (6, iw ((f.length : Int) - (nn : Int))), (15, bo (decide ((((f.length : Int) - (nn : Int)) : Int) < (f.length : Int))))] [rBlk g (uu.map bv ++ tl) 5] ⟨rfl, rfl, rfl, rfl, rfl, rfl, trivial⟩ rfl ?_
    refine SC.yes (show some (Value.bool (decide ((((f.length : Int) - (nn : Int)) : Int) < (f.length : Int)))) = some (Value.bool true) from congrArg (fun x => some (Value.bool x)) (decide_eq_true (by omega))) ?_
    refine SC.skip ?_
    refine SC.of_SE ?_
    refine SC.norm [(0, sl g 0 f.length cap), (1, Value.slice a h.length c), (4, bo false), (5, bo (decide (f = h))), (6, iw ((f.length : Int) - (nn : Int)))] [rBlk g (uu.map bv ++ tl) 5] ⟨rfl, rfl, rfl, rfl, rfl, trivial⟩ rfl ?_
    refine SC.seq ?_
    refine SC.block ?_
    refine SC.region ?_
    refine SL.ru rfl rfl (lt_b rfl) (ru_move rfl rfl) ?_
    refine SL.ru rfl rfl (lt_b rfl) (ru_move rfl rfl) ?_
    refine SL.ru rfl rfl (lt_b rfl) (ru_move rfl rfl) ?_
    refine SL.ru rfl rfl (lt_b rfl) (ru_move rfl rfl) ?_
    refine SL.ru rfl rfl (lt_b rfl) (ru_indexS (o2 := (0 + (((f.length : Int) - (nn : Int)).toNat) * 1)) si30 rfl rfl rfl (by omega) (by omega) rfl) ?_
    refine SL.ru rfl rfl (lt_b rfl) (ru_load (i := 0) (v := Value.int .u8 ((uu.getD (((f.length : Int) - (nn : Int)).toNat) 0).toNat : Int)) ts5 rfl rfl rfl (by rw [Nat.zero_add, Nat.mul_one]; exact get_at (by omega))) ?_
    refine SL.ru rfl rfl (lt_b rfl) (ru_add (r := (IntKind.u8.wrap (((uu.getD (((f.length : Int) - (nn : Int)).toNat) 0).toNat : Int) + 1))) rfl rfl rfl rfl) ?_
    refine SL.ru rfl rfl (lt_b rfl) (ru_indexS (o2 := (0 + (((f.length : Int) - (nn : Int)).toNat) * 1)) si30 rfl rfl rfl (by omega) (by omega) rfl) ?_
    refine SL.store (i := 0) (c' := ((uu.set (((f.length : Int) - (nn : Int)).toNat) (uu.getD (((f.length : Int) - (nn : Int)).toNat) 0 + 1)).map bv ++ tl)) rfl rfl ts5 rfl rfl rfl rfl rfl (by simp; omega) (.inl rfl) (by rw [Nat.zero_add, Nat.mul_one]; exact set_inc (by omega)) ?_
    refine SL.nil ?_
    refine SE.blkn ?_
    refine SC.of_SE ?_
    refine SC.norm [(0, sl g 0 f.length cap), (1, Value.slice a h.length c), (4, bo false), (5, bo (decide (f = h))), (6, iw ((f.length : Int) - (nn : Int)))] [rBlk g ((uu.set (((f.length : Int) - (nn : Int)).toNat) (uu.getD (((f.length : Int) - (nn : Int)).toNat) 0 + 1)).map bv ++ tl) 5] ⟨rfl, rfl, rfl, rfl, rfl, trivial⟩ rfl ?_
    refine SC.region ?_
    refine SL.ru rfl rfl (lt_b rfl) (ru_move rfl rfl) ?_
    refine SL.ru rfl rfl (lt_b rfl) (ru_add (r := (IntKind.i64.wrap (((f.length : Int) - (nn : Int)) + 1))) rfl rfl rfl rfl) ?_
    refine SL.ru rfl rfl (lt_b rfl) (ru_assign rfl rfl) ?_
    refine SL.nil ?_
    refine SE.again (nn - 1) _ (by omega) ⟨by omega, by rw [List.length_set]; exact hq⟩ ⟨rfl, rfl, rfl, rfl, (congrArg (fun x => some (iw x)) (show IntKind.i64.wrap (((f.length : Int) - (nn : Int)) + 1) = (f.length : Int) - (((nn - 1 : Nat) : Int) : Int) by rw [IntKind.wrap_i64]; omega)), trivial⟩ rfl

theorem own_any {w : World} {x y : Value} {f h : List UInt8} (hx : OwnBytes w 0 5 x f) (hfl : f.length ≤ 140737488351232) (hy : BytesAt w y h) (hd : sliceIn y (fun b => ¬ x.ownBlock = some b)) :
    Calls Try.prog 32 #[x, y] w fun e w' => e = .returned (bo (decide (f = h))) ∧ Only (fun b => x.ownBlock = some b) w w' := by
  rcases hx.blk with ⟨rfl, rfl⟩ | ⟨g, cap, tl, rfl, h1, h2, h3⟩
  · exact (own_nil' hy).mono fun e w' ⟨h1, h2⟩ => ⟨h1, h2.mono (fun b hb => hb.elim)⟩
  · refine (own_blk h3 h1 h2 hfl hy (fun b o n c e hn hb => hd b o n c e hn (by rw [hb]; rfl))).mono fun e w' ⟨k1, k2⟩ => ⟨k1, k2.mono (fun b hb => .inl (by rw [hb]; rfl))⟩

end Go.Proofs.Ytloejpkefoagfaa
