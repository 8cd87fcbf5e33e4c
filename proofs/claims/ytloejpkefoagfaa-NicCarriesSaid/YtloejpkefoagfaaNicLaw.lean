/-
  The calls of both devices, laid for the walks of the laws.
-/
import Derived.Test.YtloejpkefoagfaaNicOwn
import Derived.Test.YtloejpkefoagfaaNicMoreP
import Derived.Test.YtloejpkefoagfaaNicMoreQ
import Derived.Test.YtloejpkefoagfaaNicCallP
import Derived.Test.YtloejpkefoagfaaNicCallQ
import Derived.Test.YtloejpkefoagfaaNicWriteP
import Derived.Test.YtloejpkefoagfaaNicWriteQ
namespace Go.Proofs.Ytloejpkefoagfaa
open Go.RowKit

theorem takeR_ok {A : NicA} (h : NicOk A) : NicOk (takeR A).2 := by
  unfold takeR
  split
  · exact h
  · split
    · exact h
    · exact take_ok h
/-- What a call makes of a device. -/
def playF (A : NicA) (k n v : Int) (f : List UInt8) (y : Bool) : NicA :=
  if k = 0 then (readF A n).2 else if k = 1 then (writeF A n v).2 else if k = 2 then (setTxF A n f).2 else if k = 3 then (setRxF A n v).2
  else if k = 5 then (takeR A).2 else if k = 6 then (giveF A f y).2 else if k = 7 then linkF A y else if k = 8 then tickF A else A
theorem play_ok {A : NicA} (h : NicOk A) (k n v : Int) (f : List UInt8) (y : Bool) : NicOk (playF A k n v f y) := by
  unfold playF
  repeat' split
  all_goals first | exact h | exact read_ok h _ | exact write_ok h _ _ | exact setTx_ok h _ _ | exact setRx_ok h _ _ | exact takeR_ok h | exact give_ok h _ _ | exact link_ok h _ | exact tick_ok h
theorem NicTo.of {T : TypeId} {w w' : World} {d : Nat} {F : Nat → Prop} {A : NicA} (h : NicAt T w' d F A ∧ Only (fun b => b = d) w w') : NicTo T w d F A w' := ⟨F, h.1, fun b hb => .inl hb, h.2⟩
section
variable {P : Program} {X : Cx} {ops : Array Oper} {Q : Exit → Act → World → Prop} {rest : List Oper} {o : Oper} {m : List (Nat × Value)} {l : List Res} {v : Value} {K : Act → Prop} {k : Nat}
theorem Inv.apart {w : World} {i j : Nat} {r r' : Res} (h : Inv X w l) (hi : l[i]? = some r) (hj : l[j]? = some r') (hij : i ≠ j) (b : Nat) (h1 : r.fp b) (h2 : r'.fp b) : False := by
  have hp := List.pairwise_iff_getElem.1 h.1.2
  have hil := (List.getElem?_eq_some_iff.1 hi).1
  have hjl := (List.getElem?_eq_some_iff.1 hj).1
  have ei := (List.getElem?_eq_some_iff.1 hi).2
  have ej := (List.getElem?_eq_some_iff.1 hj).2
  rcases Nat.lt_or_gt_of_ne hij with hlt | hlt
  · have := hp i j hil hjl hlt; rw [ei, ej] at this; exact this b h1 h2
  · have := hp j i hjl hil hlt; rw [ei, ej] at this; exact this b h2 h1
theorem Inv.nicTo {T : TypeId} {w w' : World} {i d : Nat} {F : Nat → Prop} {A A' : NicA} (h : Inv X w l) (hi : l[i]? = some (rNic T d F A)) (hS : X.S d ∨ X.w0.heap.size ≤ d) (k : NicTo T w d F A' w') : ∃ F', Inv X w' (l.set i (rNic T d F' A')) := by
  obtain ⟨F', h1, h2, h3⟩ := k
  refine ⟨F', h.1.upd hi (fun b hb hlt => h3.block b hlt (fun e => hb (.inl e))) h1 (fun b hb => ?_), h.2.trans' h3 (fun b hb => by subst hb; exact hS)⟩
  rcases hb with hb | hb
  · exact .inl (.inl hb)
  · rcases h2 b hb with h | h
    · exact .inl (.inr h)
    · exact .inr h
theorem Inv.play1 {T : TypeId} {w w' : World} {d : Nat} {F F' : Nat → Prop} {A A' : NicA} (h : Inv X w [rNic T d F A]) (k : NicAt T w' d F' A') (hO : Only (fun b => b = d) w w') (hS : X.S d ∨ X.w0.heap.size ≤ d) : Inv X w' [rNic T d F' A'] :=
  ⟨⟨fun r hr => by simp at hr; subst hr; exact k, List.pairwise_singleton _ _⟩, h.2.trans' hO (fun b hb => by subst hb; exact hS)⟩
theorem nic_at {T : TypeId} {w : World} {i d : Nat} {F : Nat → Prop} {A : NicA} (h : Inv X w l) (hi : l[i]? = some (rNic T d F A)) : NicAt T w d F A := h.1.get hi
theorem Inv.tail {w : World} {r : Res} (h : Inv X w (r :: l)) : Inv X w l := ⟨⟨fun s hs => h.1.1 s (List.mem_cons_of_mem _ hs), (List.pairwise_cons.1 h.1.2).2⟩, h.2⟩
theorem Out.own {U : TypeId} {w w' : World} {v : Value} {f : List UInt8} (h : Out U w w' v f) (hl : f.length ≤ 140737488351232) : OwnBytes w' 0 U v f ∧ ∀ b, v.ownBlock = some b → w.heap.size ≤ b := by
  rcases h with ⟨rfl, rfl⟩ | ⟨g, h1, rfl, h2⟩
  · exact ⟨ownb_nil w' U, fun b hb => by simp [Value.ownBlock] at hb⟩
  · exact ⟨ownb_new h2 hl, fun b hb => by simp [Value.ownBlock] at hb; omega⟩
theorem take_len {A : NicA} (h : NicOk A) : (takeR A).1.1.1.length ≤ 140737488351232 := by
  unfold takeR
  split
  · simp
  · split
    · simp
    · have := h.tl (A.r 4).toNat; simp only; omega
theorem rx_len {A : NicA} (h : NicOk A) (i : Int) : (rxR A i).1.1.length ≤ 140737488351232 := by
  unfold rxR
  split
  · simp
  · split
    · simp
    · have := h.cl i.toNat; simp only; omega
theorem Sep.snoc {w : World} {r : Res} (h : Sep w l) (hr : r.ok w) (hd : ∀ s ∈ l, ∀ b, s.fp b → r.fp b → False) : Sep w (l ++ [r]) := by
  refine ⟨fun s hs => ?_, ?_⟩
  · rcases List.mem_append.1 hs with h1 | h1
    · exact h.1 s h1
    · simp at h1; subst h1; exact hr
  · rw [List.pairwise_append]
    refine ⟨h.2, List.pairwise_singleton _ _, fun s hs q hq b h1 h2 => ?_⟩
    simp at hq; subst hq
    exact hd s hs b h1 h2
theorem Inv.took {T U : TypeId} {w w' : World} {i d : Nat} {F : Nat → Prop} {A A' : NicA} {v : Value} {f : List UInt8} (h : Inv X w l) (hi : l[i]? = some (rNic T d F A)) (hS : X.S d ∨ X.w0.heap.size ≤ d) (hl : f.length ≤ 140737488351232)
    (h2 : NicAt T w' d F A') (h3 : Only (fun b => b = d) w w') (h4 : Out U w w' v f) : ∃ qa qc, v = .slice qa f.length qc ∧ Inv X w' (l.set i (rNic T d F A') ++ [rMine (.slice qa f.length qc) f U]) ∧ ∀ b, (Value.slice qa f.length qc).ownBlock = some b → X.w0.heap.size ≤ b := by
  obtain ⟨k1, k2⟩ := h4.own hl
  obtain ⟨qa, qc, rfl, _⟩ := k1.form
  have hu : Sep w' (l.set i (rNic T d F A')) := h.1.upd hi (fun b hb hlt => h3.block b hlt (fun e => hb (.inl e))) h2 (fun b hb => .inl hb)
  refine ⟨qa, qc, rfl, ⟨hu.snoc k1 (fun s hs b hb hm => ?_), h.2.trans' h3 (fun b hb => by subst hb; exact hS)⟩, fun b hb => Nat.le_trans h.2.size (k2 b hb)⟩
  have hlt : b < w.heap.size := by
    rcases List.mem_or_eq_of_mem_set hs with h5 | h5
    · exact s.lt w (h.1.1 s h5) b hb
    · subst h5; exact (rNic T d F A).lt w (h.1.get hi) b hb
  have := k2 b hm
  omega
theorem Inv.rxed {U : TypeId} {w w' : World} {v : Value} {f : List UInt8} (h : Inv X w l) (hl : f.length ≤ 140737488351232) (h3 : Only (fun _ => False) w w') (h4 : Out U w w' v f) :
    ∃ qa qc, v = .slice qa f.length qc ∧ Inv X w' (l ++ [rMine (.slice qa f.length qc) f U]) ∧ ∀ b, (Value.slice qa f.length qc).ownBlock = some b → X.w0.heap.size ≤ b := by
  obtain ⟨k1, k2⟩ := h4.own hl
  obtain ⟨qa, qc, rfl, _⟩ := k1.form
  exact ⟨qa, qc, rfl, h.add h3 k1 k2, fun b hb => Nat.le_trans h.2.size (k2 b hb)⟩
/-- Memory that was there at the start, and has not been turned. -/
theorem ru_loada_old {t : TypeId} {z : List Value} {x : Operand} {b o' : Nat} {vs : List Value} (hS : ∀ b, ¬ X.S b) (ht : TyAg P t z) (ho : o.op = .load t x) (hx : evM m x = some (.pointer (some ⟨b, o', none⟩))) (hv : vs.length = z.length)
    (hc : ∀ j u, vs[j]? = some u → X.w0.cell? ⟨b, o' + j, none⟩ = some u) : Ru P X o m l (.agg vs.toArray) := fun a w hf hI => by
  obtain ⟨⟨d, hd, hdb⟩, hsz, _⟩ := ht
  obtain ⟨inf, hinf, hz⟩ := map_some hsz
  simp only [Prod.mk.injEq] at hz
  have hcell : ∀ j (hj : j < vs.length), w.cell? ⟨b, o' + j, none⟩ = some vs[j] := fun j hj => by
    have h1 := hc j vs[j] (List.getElem?_eq_getElem hj)
    rw [← h1]
    exact hI.2.cell (a := ⟨b, o' + j, none⟩) (block_lt_of_cell h1) (hS b)
  unfold execOp; rw [ho]
  simp only [hf.ev hx, Instr.loadAt, Instr.sureAddr, Sem.run_bind, Sem.run_pure, Result.andThen_ok]
  have := run_loadVar_at (P := P) w b o' t vs d (fun j hj => by rw [hcell j hj, List.getElem?_eq_getElem hj]) hd (by cases d <;> simp_all [isAggD]) (by rw [hinf]; simp [hz.1, hv])
  rw [this]; rfl
theorem fz_bytes {w : World} {g : Nat} {l : List UInt8} {T : TypeId} (h : Fz w g (l.map bv) T) (hl : l.length ≤ 1000) : BytesAt w (sl g 0 l.length l.length) l := by
  refine .inr ⟨g, 0, l.length, rfl, Nat.le_refl _, by omega, fun j hj => ?_⟩
  rw [h.cell, Nat.zero_add, List.getElem?_map, List.getElem?_eq_getElem hj]; rfl
theorem p_read_k {w : World} {d : Nat} {F : Nat → Prop} {A : NicA} (hk : NicOk A) (h : NicAt 68 w d F A) (k : Nat) {reg : Int} (e : reg = (k : Int)) (h8 : k < 8) (h6 : k ≠ 6) :
    Calls Try.prog 18 #[pt d 0, iw reg] w fun e w' => e = .returned (.tuple #[iw (A.r k), iw 0]) ∧ NicTo 68 w d F A w' := by
  subst e
  have e1 : readF A (k : Int) = ((A.r k, 0), A) := by
    unfold readF
    rw [if_neg (by omega), if_neg (by omega), Int.toNat_natCast]
  have := p_read hk h (k : Int)
  rw [e1] at this
  exact this
theorem p_read_6 {w : World} {d : Nat} {F : Nat → Prop} {A : NicA} (hk : NicOk A) (h : NicAt 68 w d F A) :
    Calls Try.prog 18 #[pt d 0, iw 6] w fun e w' => e = .returned (.tuple #[iw (A.r 6), iw 0]) ∧ NicTo 68 w d F { A with r := up A.r 6 0 } w' := p_read hk h 6
theorem read6_ok {A : NicA} (h : NicOk A) : NicOk { A with r := up A.r 6 0 } := read_ok h 6
theorem p_write_2 {w : World} {d : Nat} {F : Nat → Prop} {A : NicA} (hk : NicOk A) (h : NicAt 68 w d F A) :
    Calls Try.prog 9 #[pt d 0, iw 0, iw 2] w fun e w' => e = .returned (iw 0) ∧ NicTo 68 w d F (resetA A) w' := (p_write hk h 0 2).mono fun e w' ⟨h1, h2⟩ => ⟨h1, NicTo.of h2⟩
theorem p_write_0 {w : World} {d : Nat} {F : Nat → Prop} {A : NicA} (hk : NicOk A) (h : NicAt 68 w d F A) :
    Calls Try.prog 9 #[pt d 0, iw 0, iw 0] w fun e w' => e = .returned (iw 0) ∧ NicTo 68 w d F { A with r := up A.r 0 0 } w' := (p_write hk h 0 0).mono fun e w' ⟨h1, h2⟩ => ⟨h1, NicTo.of h2⟩
theorem reset_ok {A : NicA} (h : NicOk A) : NicOk (resetA A) := write_ok h 0 2
theorem write0_ok {A : NicA} (h : NicOk A) : NicOk { A with r := up A.r 0 0 } := write_ok h 0 0
theorem off_link {A : NicA} : offB (linkF A false) = true := by
  by_cases e : A.r 1 = 0
  · have k : linkF A false = A := by unfold linkF; simp [e]
    rw [k]; unfold offB; simp [e]
  · have k : (linkF A false).r 1 = 0 := by unfold linkF; simp [e, up]
    unfold offB; simp [k]
theorem off_write {A : NicA} : offB { A with r := up A.r 0 0 } = true := by unfold offB; simp [up]
theorem p_take_off {w : World} {d : Nat} {F : Nat → Prop} {A : NicA} (hk : NicOk A) (h : NicAt 68 w d F A) (ho : offB A = true) : Calls Try.prog 11 #[pt d 0] w fun e w' =>
    ∃ v, e = .returned (.tuple #[.agg #[v, bo false, iw 0], iw 20]) ∧ NicAt 68 w' d F A ∧ Only (fun b => b = d) w w' ∧ Out 5 w w' v [] := by
  have e : takeR A = ((([], 0), 20), A) := by unfold takeR; rw [if_pos ho]
  have := p_take hk h
  rw [e] at this
  exact this
theorem p_give_off {w : World} {d : Nat} {F : Nat → Prop} {A : NicA} (hk : NicOk A) (h : NicAt 68 w d F A) (ho : offB A = true) {v : Value} {f : List UInt8} (hb : BytesAt w v f) (hs : sliceIn v (fun b => ¬ b = d)) (bad : Bool) :
    Calls Try.prog 14 #[pt d 0, v, bo bad] w fun e w' => e = .returned (iw 20) ∧ NicTo 68 w d F A w' := by
  have e : giveF A f bad = (20, A) := by unfold giveF; rw [if_pos ho]
  have := p_give hk h hb hs bad
  rw [e] at this
  exact this
theorem NicAt.new {T : TypeId} {w : World} {g : Nat} (h : Blk w g (nc newA nilv nilv) T) : NicAt T w g (fun _ => False) newA :=
  ⟨nilv, nilv, h, id, fun b hb => hb.elim, fun i _ => ⟨BytesAt.nil _, nil_in⟩, fun i _ => ⟨BytesAt.nil _, nil_in⟩⟩
theorem Inv.newNic {T : TypeId} {w w' : World} {g : Nat} (h : Inv X w l) (h1 : w.heap.size ≤ g) (h2 : Blk w' g (nc newA nilv nilv) T) (h3 : Only (fun _ => False) w w') : Inv X w' (l ++ [rNic T g (fun _ => False) newA]) :=
  h.add h3 (NicAt.new h2) (fun b hb => by rcases hb with rfl | hb; exact h1; exact hb.elim)
theorem ru_nic_r {T t : TypeId} {i d q : Nat} {F : Nat → Prop} {A : NicA} {z : Value} {x : Operand} (hq : q < 8) (ht : TySc P t z) (ho : o.op = .load t x) (hx : evM m x = some (pt d q)) (hi : l[i]? = some (rNic T d F A)) : Ru P X o m l (iw (A.r q)) := fun a w hf hI => by
  obtain ⟨tv, cv, hb, _⟩ : NicAt T w d F A := hI.1.get hi
  exact ru_load (X := ⟨X.n, w, fun _ => False⟩) (l := [rBlk d (nc A tv cv) T]) (i := 0) ht ho hx rfl (nc_r hq) a w hf (Inv.one hb)
theorem ru_nic_clk {T t : TypeId} {i d : Nat} {F : Nat → Prop} {A : NicA} {z : Value} {x : Operand} (ht : TySc P t z) (ho : o.op = .load t x) (hx : evM m x = some (pt d 104)) (hi : l[i]? = some (rNic T d F A)) : Ru P X o m l (iw A.clk) := fun a w hf hI => by
  obtain ⟨tv, cv, hb, _⟩ : NicAt T w d F A := hI.1.get hi
  exact ru_load (X := ⟨X.n, w, fun _ => False⟩) (l := [rBlk d (nc A tv cv) T]) (i := 0) ht ho hx rfl nc_clk a w hf (Inv.one hb)
theorem SL.nic_clk {T t : TypeId} {i d : Nat} {F : Nat → Prop} {A : NicA} {z : Value} {x y : Operand} {n : Int} (hg : o.guard = none) (hd : o.dst = none) (ht : TySc P t z) (ho : o.op = .store t x y) (hx : evM m x = some (pt d 104)) (hy : evM m y = some (iw n)) (hi : l[i]? = some (rNic T d F A)) (hS : X.S d ∨ X.w0.heap.size ≤ d)
    (k : SL P X ops Q rest m (l.set i (rNic T d F { A with clk := n }))) : SL P X ops Q (o :: rest) m l := fun a w hf hI => by
  obtain ⟨tv, cv, hb, hF, hfr⟩ : NicAt T w d F A := hI.1.get hi
  refine SL.store (X := ⟨X.n, w, fun b => b = d⟩) (l := [rBlk d (nc A tv cv) T]) (i := 0) (c' := nc { A with clk := n } tv cv) hg hd ht ho hx hy rfl rfl (by rw [nc_len]; omega) (.inl rfl) (set_clk n) (fun a' w' hf' hI' => ?_) a w hf (Inv.one hb)
  have hO := hI'.2
  refine k a' w' hf' ⟨hI.1.upd hi (fun b hn hlt => hO.block b hlt (fun e => hn (.inl e))) ⟨tv, cv, hI'.1.get (i := 0) rfl, hF, (rFrs F tv cv A.tb A.cb).st w w' hfr (fun b hb => hO.block b (hfr.1 b hb) (fun e => hF (e ▸ hb)))⟩ (fun b hb => .inl hb), hI.2.trans' hO (fun b hb => by cases hb; exact hS)⟩

/-- The reference's device, of which bytes are lent. -/
def rNicL (T : TypeId) (d : Nat) (F : Nat → Prop) (A : NicA) (v : Value) (f : List UInt8) : Res where
  ok w := NicAt T w d F A ∧ Lent F w v f
  fp b := b = d ∨ F b
  lt w h b hb := (rNic T d F A).lt w h.1 b hb
  st w w' h hw := ⟨(rNic T d F A).st w w' h.1 hw, h.2.1.agree h.2.2 (fun b hb => hw b (.inr hb)), h.2.2⟩
theorem Inv.lent {T : TypeId} {w w' : World} {i d : Nat} {F : Nat → Prop} {A A' : NicA} {v : Value} {f : List UInt8} (h : Inv X w l) (hi : l[i]? = some (rNic T d F A)) (hS : X.S d ∨ X.w0.heap.size ≤ d)
    (h2 : NicAt T w' d F A') (h3 : Only (fun b => b = d) w w') (h4 : Lent F w' v f) : ∃ qa qc, v = .slice qa f.length qc ∧ Inv X w' (l.set i (rNicL T d F A' (.slice qa f.length qc) f)) := by
  obtain ⟨qa, qc, rfl⟩ := h4.1.form
  exact ⟨qa, qc, rfl, h.1.upd hi (fun b hb hlt => h3.block b hlt (fun e => hb (.inl e))) ⟨h2, h4⟩ (fun b hb => .inl hb), h.2.trans' h3 (fun b hb => by subst hb; exact hS)⟩
theorem NicAt.only {T : TypeId} {w w' : World} {d : Nat} {F : Nat → Prop} {A : NicA} (h : NicAt T w d F A) (h3 : Only (fun _ => False) w w') : NicAt T w' d F A := (rNic T d F A).st w w' h (fun b hb => h3.block b ((rNic T d F A).lt w h b hb) id)
theorem Inv.pair {w : World} {r r' : Res} (h : Inv X w (r :: r' :: l)) : Sep w [r, r'] := by
  refine ⟨fun s hs => h.1.1 s ?_, ?_⟩
  · simp at hs; rcases hs with rfl | rfl <;> simp
  · have := h.1.2
    simp only [List.pairwise_cons] at this
    refine List.Pairwise.cons (fun s hs => ?_) (List.pairwise_singleton _ _)
    simp at hs; subst hs
    exact this.1 _ (by simp)
/-- Bytes are looked at and spoilt. -/
theorem Inv.owned {T U : TypeId} {w w' : World} {i j d : Nat} {F : Nat → Prop} {A : NicA} {x y : Value} {f h' : List UInt8} (h : Inv X w l) (hi : l[i]? = some (rMine x f U)) (hj : l[j]? = some (rNicL T d F A y h')) (hij : i ≠ j) (hS : ∀ b, x.ownBlock = some b → X.w0.heap.size ≤ b)
    (h3 : Only (fun b => x.ownBlock = some b) w w') : Inv X w' ((l.set i rNone).set j (rNic T d F A)) := by
  have h1 : Inv X w' (l.set i rNone) := h.upd hi h3 (fun b hb => .inr (hS b hb)) trivial (fun b hb => hb.elim)
  exact h1.weak (r := rNicL T d F A y h') (by rw [List.getElem?_set_ne hij]; exact hj) (fun k => k.1) (fun b hb => hb)
/-- Both devices, of which the one and the other may be turned. -/
def CP (X : Cx) (i j d r : Nat) (A A' : NicA) (l : List Res) : (Nat → Bool) → World → Prop := fun D w => ∃ F G, Inv X w (rNic 68 d F (if D i then A' else A) :: rNic 58 r G (if D j then A' else A) :: l)
theorem CP.base {i j d r : Nat} {A A' : NicA} : ∀ D w, CP X i j d r A A' l D w → Inv X w l := fun D w ⟨F, G, h⟩ => h.tail.tail
theorem CP.p {i j d r : Nat} {A A' : NicA} {f : FuncId} {vs : Array Value} (hij : j ≠ i) (hS : X.S d ∨ X.w0.heap.size ≤ d)
    (h : ∀ (w : World) (F G : Nat → Prop) (B : NicA), Inv X w (rNic 68 d F A :: rNic 58 r G B :: l) → Calls P f vs w fun e w' => e = .returned v ∧ NicTo 68 w d F A' w') :
    ∀ D w, CP X i j d r A A' l D w → D i = false → Calls P f vs w fun e w' => e = .returned v ∧ CP X i j d r A A' l (fun k => if k = i then true else D k) w' := fun D w ⟨F, G, hI⟩ hD => by
  rw [hD] at hI
  refine (h w F G _ hI).mono fun e w' ⟨h1, h2⟩ => ⟨h1, ?_⟩
  obtain ⟨F', h3⟩ := hI.nicTo (i := 0) rfl hS h2
  refine ⟨F', G, ?_⟩
  simp only [if_true, if_neg hij]
  exact h3
theorem CP.q {i j d r : Nat} {A A' : NicA} {f : FuncId} {vs : Array Value} (hij : i ≠ j) (hS : X.S r ∨ X.w0.heap.size ≤ r)
    (h : ∀ (w : World) (F G : Nat → Prop) (B : NicA), Inv X w (rNic 68 d F B :: rNic 58 r G A :: l) → Calls P f vs w fun e w' => e = .returned v ∧ NicTo 58 w r G A' w') :
    ∀ D w, CP X i j d r A A' l D w → D j = false → Calls P f vs w fun e w' => e = .returned v ∧ CP X i j d r A A' l (fun k => if k = j then true else D k) w' := fun D w ⟨F, G, hI⟩ hD => by
  rw [hD] at hI
  refine (h w F G _ hI).mono fun e w' ⟨h1, h2⟩ => ⟨h1, ?_⟩
  obtain ⟨G', h3⟩ := hI.nicTo (i := 1) rfl hS h2
  refine ⟨F, G', ?_⟩
  simp only [if_true, if_neg hij]
  exact h3
theorem SC.region_cls {id : Nat} {L : List Oper} (sp : List Nat) (C : (Nat → Bool) → World → Prop) (hm : P.follows .mixedOrders = true) (hB : Region.lexB .any L.toArray = true) (hb : backB L.toArray = true)
    (hg : (sp.all fun i => ((L[i]?).map (fun o => o.guard.isNone)).getD false) = true) (h0 : ∀ w, Inv X w l → C (fun _ => false) w)
    (h : SS P X L.toArray sp C (fun a' => ∀ D w', (∀ i ∈ sp, D i = true) → C D w' → Q .normal a' w') 0 L m) : SC P X (.region id L.toArray true) Q m l :=
  fun a w hf hi => wp_region_spread sp C hm hB hb hg (h0 _ hi.draw1) (h a hf)
theorem SS.nilP {i j d r k : Nat} {A A' : NicA} {sp : List Nat} {C : (Nat → Bool) → World → Prop} (h : ∀ F G, SE X Q .normal m (rNic 68 d F A' :: rNic 58 r G A' :: l)) : SS P X ops sp C (fun a' => ∀ D w', (∀ q ∈ [i, j], D q = true) → CP X i j d r A A' l D w' → Q .normal a' w') k [] m := fun a hf => by
  unfold wpSpread
  intro D w' hD ⟨F, G, hI⟩
  rw [hD i (by simp), hD j (by simp)] at hI
  exact h F G a w' hf hI
end
/-- A call, as it lies in an argument. -/
structure OpR where
  k : Int
  n : Int
  v : Int
  ov : Value
  f : List UInt8
  y : Bool
def OpAt (w : World) (b o : Nat) (r : OpR) : Prop := (∀ j u, [iw r.k, iw r.n, iw r.v, r.ov, bo r.y][j]? = some u → w.cell? ⟨b, o + j, none⟩ = some u) ∧ BytesAt w r.ov r.f ∧ sliceIn r.ov (fun b => b < w.heap.size)
def OpsAt (w : World) (v : Value) (l : List OpR) : Prop := ∃ a c, v = .slice a l.length c ∧ l.length * 56 ≤ 140737488351232 ∧ ∀ i (hi : i < l.length), ∃ b o, a = some ⟨b, o, none⟩ ∧ OpAt w b (o + i * 5) l[i]
end Go.Proofs.Ytloejpkefoagfaa
