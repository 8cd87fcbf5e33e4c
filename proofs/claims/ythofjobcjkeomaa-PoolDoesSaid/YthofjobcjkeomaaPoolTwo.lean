/-
  Both pools as one thing that is known; laid for the walk of 'does'.
-/
import Derived.Test.YthofjobcjkeomaaPoolDoes
import Derived.Test.YthofjobcjkeomaaSyApp
namespace Go.Proofs.Ythofjobcjkeomaa
open Go.RowKit

theorem BytesAt.agree' {w w' : World} {v : Value} {l : List UInt8} (h : BytesAt w v l) (hw : ∀ b, sliceIn v (fun x => ¬ x = b) ∨ w'.heap[b]? = w.heap[b]?) : BytesAt w' v l := by
  rcases h with h | ⟨b, o, cap, hv, h1, h2, h3⟩
  · exact .inl h
  · refine .inr ⟨b, o, cap, hv, h1, h2, fun j hj => ?_⟩
    rcases hw b with hb | hb
    · exact absurd rfl (hb b o _ cap hv (by omega))
    · have := h3 j hj
      rw [World.cell?_of_block (w := w) (a := ⟨b, o + j, none⟩) hb]; exact this
theorem RefAt.agree {w w' : World} {r rb : Nat} {F : Nat → Prop} {L : List Bf} (h : RefAt w r rb (fun b => F b ∨ w.heap.size ≤ b) L) (hw : ∀ b, b = r ∨ b = rb ∨ F b → w'.heap[b]? = w.heap[b]?) : RefAt w' r rb (fun b => F b ∨ w'.heap.size ≤ b) L := by
  obtain ⟨hr, e0, e1, e2, e3, e4, e5, c, hc, hl, hb⟩ := h
  have hr' : Blk w' r [.slice (some ⟨rb, 0, none⟩) L.length L.length] 64 := by unfold Blk; rw [hw r (.inl rfl)]; exact hr
  have hc' : Blk w' rb c 36 := by unfold Blk; rw [hw rb (.inr (.inl rfl))]; exact hc
  have keep : ∀ (x : Option Addr) (n q : Nat) (f : List UInt8), BytesAt w (.slice x n q) f → sliceIn (.slice x n q) (fun b => F b ∨ w.heap.size ≤ b) → BytesAt w' (.slice x n q) f ∧ sliceIn (.slice x n q) (fun b => F b ∨ w'.heap.size ≤ b) := by
    intro x n q f h1 h2
    have hF : sliceIn (.slice x n q) F := fun b o n c e hn => by
      rcases h2 b o n c e hn with h | h
      · exact h
      · have := h1.lt b o n c e hn; simp only at this; omega
    refine ⟨?_, fun b o n c e hn => .inl (hF b o n c e hn)⟩
    rcases h1 with h | ⟨b, o, cap, hv, g1, g2, g3⟩
    · exact .inl h
    · refine .inr ⟨b, o, cap, hv, g1, g2, fun j hj => ?_⟩
      rw [World.cell?_of_block (w := w) (a := ⟨b, o + j, none⟩) (hw b (.inr (.inr (hF b o _ cap hv (by omega)))))]; exact g3 j hj
  refine ⟨hr', e0, ?_, ?_, e3, e4, fun b hb => .inr hb, c, hc', hl, fun k b hk => ?_⟩
  · rintro (h | h)
    · exact e1 (.inl h)
    · have := hr'.lt; omega
  · rintro (h | h)
    · exact e2 (.inl h)
    · have := hc'.lt; omega
  · obtain ⟨h0, ⟨x, n, m, h1, h2, h3⟩, ⟨y, n', m', h4, h5, h6⟩⟩ := hb k b hk
    exact ⟨h0, ⟨x, n, m, h1, keep _ _ _ _ h2 h3⟩, ⟨y, n', m', h4, keep _ _ _ _ h5 h6⟩⟩
theorem RefAt.rebase {w : World} {r rb : Nat} {base base' : Nat → Prop} {L : List Bf} (h : RefAt w r rb base L) (h1 : ∀ b, base b → b < w.heap.size → base' b) (h2 : ¬ base' r) (h3 : ¬ base' rb) (h4 : ∀ b, w.heap.size ≤ b → base' b) : RefAt w r rb base' L := by
  obtain ⟨hr, e0, e1, e2, e3, e4, e5, c, hc, hl, hb⟩ := h
  refine ⟨hr, e0, h2, h3, e3, e4, h4, c, hc, hl, fun k b hk => ?_⟩
  obtain ⟨h0, ⟨x, n, m, g1, g2, g3⟩, ⟨y, n', m', g4, g5, g6⟩⟩ := hb k b hk
  exact ⟨h0, ⟨x, n, m, g1, g2, fun b o n c e hn => h1 b (g3 b o n c e hn) (g2.lt b o n c e hn)⟩, ⟨y, n', m', g4, g5, fun b o n c e hn => h1 b (g6 b o n c e hn) (g5.lt b o n c e hn)⟩⟩
theorem PoolAt.agree {w w' : World} {p ab : Nat} {L : List Bf} (h : PoolAt w p ab L) (hw : ∀ b, b = p ∨ b = ab → w'.heap[b]? = w.heap[b]?) : PoolAt w' p ab L := by
  obtain ⟨hp, hne, a1, a2, c, hc, hr⟩ := h
  exact ⟨by unfold Blk; rw [hw p (.inl rfl)]; exact hp, hne, a1, a2, c, by unfold Blk; rw [hw ab (.inr rfl)]; exact hc, hr⟩
def Apart (p ab r rb : Nat) (F : Nat → Prop) : Prop := p ≠ r ∧ p ≠ rb ∧ ab ≠ r ∧ ab ≠ rb ∧ ¬ F p ∧ ¬ F ab
/-- Both pools: the program's says L, the reference's L2. -/
def rTwo (p ab r rb : Nat) (F : Nat → Prop) (L L2 : List Bf) : Res where
  ok w := PoolAt w p ab L ∧ RefAt w r rb (fun b => F b ∨ w.heap.size ≤ b) L2 ∧ (∀ b, F b → b < w.heap.size) ∧ Apart p ab r rb F
  fp b := (b = p ∨ b = ab) ∨ b = r ∨ b = rb ∨ F b
  lt w h b hb := by
    obtain ⟨h1, h2, h3, h4⟩ := h
    obtain ⟨hr, e0, e1, e2, e3, e4, e5, c, hc, hl, _⟩ := h2
    rcases hb with (rfl | rfl) | rfl | rfl | hb
    · exact h1.lt.1
    · exact h1.lt.2
    · exact hr.lt
    · exact hc.lt
    · exact h3 b hb
  st w w' h hw := by
    obtain ⟨h1, h2, h3, h4⟩ := h
    refine ⟨h1.agree (fun b hb => hw b (.inl hb)), h2.agree (fun b hb => hw b (.inr hb)), fun b hb => ?_, h4⟩
    have h5 := h3 b hb
    have h6 := hw b (.inr (.inr (.inr hb)))
    rw [Array.getElem?_eq_getElem h5] at h6
    exact (Array.getElem?_eq_some_iff.1 h6).1
section
variable {P : Program} {X : Cx} {ops : Array Oper} {Q : Exit → Act → World → Prop} {rest : List Oper} {o : Oper} {m : List (Nat × Value)} {l : List Res} {v : Value} {K : Act → Prop} {k : Nat} {p ab r rb : Nat} {F : Nat → Prop} {L L' L2 : List Bf}
theorem Inv.twoP {w w' : World} {i : Nat} (h : Inv X w l) (hi : l[i]? = some (rTwo p ab r rb F L L2)) (hS : ∀ b, b = p ∨ b = ab → X.S b ∨ X.w0.heap.size ≤ b) (k : PoolAt w' p ab L') (hO : Only (fun b => b = p ∨ b = ab) w w') : Inv X w' (l.set i (rTwo p ab r rb F L' L2)) := by
  obtain ⟨h1, h2, h3, h4⟩ : (rTwo p ab r rb F L L2).ok w := h.1.get hi
  obtain ⟨a1, a2, a3, a4, a5, a6⟩ := h4
  have hlt := (rTwo p ab r rb F L L2).lt w ⟨h1, h2, h3, a1, a2, a3, a4, a5, a6⟩
  refine ⟨h.1.upd hi (fun b hb hlt => hO.block b hlt (fun e => hb (.inl e))) ⟨k, h2.agree (fun b hb => hO.block b (hlt b (.inr hb)) (fun e => ?_)), fun b hb => Nat.lt_of_lt_of_le (h3 b hb) hO.size, a1, a2, a3, a4, a5, a6⟩ (fun b hb => .inl hb), h.2.trans' hO hS⟩
  rcases e with rfl | rfl <;> rcases hb with rfl | rfl | hb
  · exact a1 rfl
  · exact a2 rfl
  · exact a5 hb
  · exact a3 rfl
  · exact a4 rfl
  · exact a6 hb
theorem Inv.twoQ {w w' : World} {i : Nat} (h : Inv X w l) (hi : l[i]? = some (rTwo p ab r rb F L L2)) (hS : X.S rb ∨ X.w0.heap.size ≤ rb) (k : RefAt w' r rb (fun b => F b ∨ w.heap.size ≤ b) L') (hO : Only (fun b => b = rb) w w') : ∃ F', Inv X w' (l.set i (rTwo p ab r rb F' L L')) := by
  obtain ⟨h1, h2, h3, h4⟩ : (rTwo p ab r rb F L L2).ok w := h.1.get hi
  obtain ⟨a1, a2, a3, a4, a5, a6⟩ := h4
  have hlt := (rTwo p ab r rb F L L2).lt w ⟨h1, h2, h3, a1, a2, a3, a4, a5, a6⟩
  have hsz := hO.size
  have hr := hlt r (.inr (.inl rfl))
  have hrb := hlt rb (.inr (.inr (.inl rfl)))
  have hp := hlt p (.inl (.inl rfl))
  have hab := hlt ab (.inl (.inr rfl))
  obtain ⟨_, _, e1, e2, _⟩ := h2
  refine ⟨fun b => F b ∨ (w.heap.size ≤ b ∧ b < w'.heap.size), h.1.upd hi (fun b hb hlt => hO.block b hlt (fun e => hb (.inr (.inr (.inl e))))) ⟨h1.agree (fun b hb => hO.block b (hlt b (.inl hb)) (fun e => ?_)), k.rebase (fun b hb hl => ?_) ?_ ?_ (fun b hb => .inr hb), fun b hb => ?_, a1, a2, a3, a4, ?_, ?_⟩ (fun b hb => ?_), h.2.trans' hO (fun b hb => by subst hb; exact hS)⟩
  · rcases hb with rfl | rfl
    · exact a2 e
    · exact a4 e
  · rcases hb with hb | hb
    · exact .inl (.inl hb)
    · exact .inl (.inr ⟨hb, hl⟩)
  · rintro ((h | h) | h)
    · exact e1 (.inl h)
    · omega
    · omega
  · rintro ((h | h) | h)
    · exact e2 (.inl h)
    · omega
    · omega
  · rcases hb with hb | hb
    · exact Nat.lt_of_lt_of_le (h3 b hb) hsz
    · exact hb.2
  · rintro (h | h)
    · exact a5 h
    · omega
  · rintro (h | h)
    · exact a6 h
    · omega
  · rcases hb with hb | rfl | rfl | hb | hb
    · exact .inl (.inl hb)
    · exact .inl (.inr (.inl rfl))
    · exact .inl (.inr (.inr (.inl rfl)))
    · exact .inl (.inr (.inr (.inr hb)))
    · exact .inr hb.1
theorem Inv.apart {w : World} {i j : Nat} {r r' : Res} (h : Inv X w l) (hi : l[i]? = some r) (hj : l[j]? = some r') (hij : i ≠ j) (b : Nat) (h1 : r.fp b) (h2 : r'.fp b) : False := by
  have hp := List.pairwise_iff_getElem.1 h.1.2
  have hil := (List.getElem?_eq_some_iff.1 hi).1
  have hjl := (List.getElem?_eq_some_iff.1 hj).1
  have ei := (List.getElem?_eq_some_iff.1 hi).2
  have ej := (List.getElem?_eq_some_iff.1 hj).2
  rcases Nat.lt_or_gt_of_ne hij with hlt | hlt
  · have := hp i j hil hjl hlt; rw [ei, ej] at this; exact this b h1 h2
  · have := hp j i hjl hil hlt; rw [ei, ej] at this; exact this b h2 h1
theorem mine_in {v : Value} {S : Nat → Prop} (h : ∀ b, v.ownBlock = some b → S b) : sliceIn v S := fun b o n c e _ => h b (by rw [e]; rfl)
theorem Inv.tail {w : World} {r : Res} (h : Inv X w (r :: l)) : Inv X w l := ⟨⟨fun s hs => h.1.1 s (List.mem_cons_of_mem _ hs), (List.pairwise_cons.1 h.1.2).2⟩, h.2⟩
/-- Of which the one and the other may be turned. -/
def CQ (X : Cx) (i j p ab r rb : Nat) (L L' : List Bf) (l : List Res) : (Nat → Bool) → World → Prop := fun D w => ∃ F, Inv X w (rTwo p ab r rb F (if D i then L' else L) (if D j then L' else L) :: l)
theorem CQ.base {i j : Nat} : ∀ D w, CQ X i j p ab r rb L L' l D w → Inv X w l := fun D w ⟨F, h⟩ => h.tail
theorem CQ.pr {i j : Nat} {f : FuncId} {vs : Array Value} (hij : j ≠ i) (hS : ∀ b, b = p ∨ b = ab → X.S b ∨ X.w0.heap.size ≤ b)
    (h : ∀ (w : World) (F : Nat → Prop) (B : List Bf), Inv X w (rTwo p ab r rb F L B :: l) → Calls P f vs w fun e w' => e = .returned v ∧ PoolAt w' p ab L' ∧ Only (fun b => b = p ∨ b = ab) w w') :
    ∀ D w, CQ X i j p ab r rb L L' l D w → D i = false → Calls P f vs w fun e w' => e = .returned v ∧ CQ X i j p ab r rb L L' l (fun k => if k = i then true else D k) w' := fun D w ⟨F, hI⟩ hD => by
  rw [hD] at hI
  refine (h w F _ hI).mono fun e w' ⟨h1, h2, h3⟩ => ⟨h1, F, ?_⟩
  simp only [if_true, if_neg hij]
  exact hI.twoP (i := 0) rfl hS h2 h3
theorem CQ.rf {i j : Nat} {f : FuncId} {vs : Array Value} (hij : i ≠ j) (hS : X.S rb ∨ X.w0.heap.size ≤ rb)
    (h : ∀ (w : World) (F : Nat → Prop) (B : List Bf), Inv X w (rTwo p ab r rb F B L :: l) → Calls P f vs w fun e w' => e = .returned v ∧ RefAt w' r rb (fun b => F b ∨ w.heap.size ≤ b) L' ∧ Only (fun b => b = rb) w w') :
    ∀ D w, CQ X i j p ab r rb L L' l D w → D j = false → Calls P f vs w fun e w' => e = .returned v ∧ CQ X i j p ab r rb L L' l (fun k => if k = j then true else D k) w' := fun D w ⟨F, hI⟩ hD => by
  rw [hD] at hI
  refine (h w F _ hI).mono fun e w' ⟨h1, h2, h3⟩ => ⟨h1, ?_⟩
  obtain ⟨F', h4⟩ := hI.twoQ (i := 0) rfl hS h2 h3
  refine ⟨F', ?_⟩
  simp only [if_true, if_neg hij]
  exact h4
theorem SC.region_cls {id : Nat} {L : List Oper} (sp : List Nat) (C : (Nat → Bool) → World → Prop) (hm : P.follows .mixedOrders = true) (hB : Region.lexB .any L.toArray = true) (hb : backB L.toArray = true)
    (hg : (sp.all fun i => ((L[i]?).map (fun o => o.guard.isNone)).getD false) = true) (h0 : ∀ w, Inv X w l → C (fun _ => false) w)
    (h : SS P X L.toArray sp C (fun a' => ∀ D w', (∀ i ∈ sp, D i = true) → C D w' → Q .normal a' w') 0 L m) : SC P X (.region id L.toArray true) Q m l :=
  fun a w hf hi => wp_region_spread sp C hm hB hb hg (h0 _ hi.draw1) (h a hf)
theorem SS.nilQ {i j k : Nat} {sp : List Nat} {C : (Nat → Bool) → World → Prop} (h : ∀ F, SE X Q .normal m (rTwo p ab r rb F L' L' :: l)) : SS P X ops sp C (fun a' => ∀ D w', (∀ q ∈ [i, j], D q = true) → CQ X i j p ab r rb L L' l D w' → Q .normal a' w') k [] m := fun a hf => by
  unfold wpSpread
  intro D w' hD ⟨F, hI⟩
  rw [hD i (by simp), hD j (by simp)] at hI
  exact h F a w' hf hI
theorem two_p {w : World} (h : Inv X w (rTwo p ab r rb F L L2 :: l)) : PoolAt w p ab L := (show (rTwo p ab r rb F L L2).ok w from h.1.get (i := 0) rfl).1
theorem two_q {w : World} (h : Inv X w (rTwo p ab r rb F L L2 :: l)) : RefAt w r rb (fun b => F b ∨ w.heap.size ≤ b) L2 := (show (rTwo p ab r rb F L L2).ok w from h.1.get (i := 0) rfl).2.1
end
theorem get_pair {p ab r rb : Nat} {L : List Bf} :
    ∃ x y L', Next L L' ∧ (∀ w, PoolAt w p ab L → Calls Try.prog 9 #[pt p 0] w fun e w' => e = .returned (.tuple #[iw x, iw y]) ∧ PoolAt w' p ab L' ∧ Only (fun b => b = p ∨ b = ab) w w') ∧
      (∀ w base, RefAt w r rb base L → Calls Try.prog 26 #[pt r 0] w fun e w' => e = .returned (.tuple #[iw x, iw y]) ∧ RefAt w' r rb base L' ∧ Only (fun b => b = rb) w w') := by
  rcases get_cases L with hf | ⟨k, b, hk, hr, hf⟩
  · exact ⟨0, 8, L, Next.rfl' L, fun w h => (get_none h hf).mono (by rintro e w' ⟨rfl, rfl⟩; exact ⟨rfl, h, Only.refl _ _⟩), fun w _ h => (rget_none h hf).mono (by rintro e w' ⟨rfl, rfl⟩; exact ⟨rfl, h, Only.refl _ _⟩)⟩
  · exact ⟨(k : Int), 0, _, Next.set hk (Nat.le_add_left 1 _), fun w h => get_in h hk hr hf, fun w _ h => rget_in h hk hr hf⟩
theorem pool_data {w : World} {p ab : Nat} {L : List Bf} (h : PoolAt w p ab L) : ∀ b ∈ L, b.data.length ≤ 288 := by
  intro b hb
  obtain ⟨_, _, _, _, c, _, _, hr⟩ := h
  obtain ⟨k, hk, rfl⟩ := List.getElem_of_mem hb
  obtain ⟨mem, fr, _, _, _, hx⟩ := hr k _ (List.getElem?_eq_getElem hk)
  have := hx
  omega
end Go.Proofs.Ythofjobcjkeomaa
