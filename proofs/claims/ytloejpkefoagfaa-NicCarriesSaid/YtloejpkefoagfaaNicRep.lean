/-
  How a device lies in memory (the program's and the reference's alike). No program is named here.
-/
import Derived.Test.YtloejpkefoagfaaSySp
namespace Go.Proofs.Ytloejpkefoagfaa
open Go.RowKit

/-- A device, as the document has it. -/
structure NicA where
  r : Nat → Int
  tb : Nat → List UInt8
  tp : Nat → Int
  room : Nat → Int
  has : Nat → Bool
  cb : Nat → List UInt8
  bad : Nat → Bool
  clk : Int

def up {α : Type} (f : Nat → α) (k : Nat) (v : α) : Nat → α := fun j => if j = k then v else f j
theorem up_same {α : Type} (f : Nat → α) (k : Nat) (v : α) : up f k v k = v := if_pos rfl
theorem up_ne {α : Type} (f : Nat → α) {k j : Nat} (v : α) (h : j ≠ k) : up f k v j = f j := if_neg h

def cellAt (A : NicA) (tv cv : Nat → Value) (k : Nat) : Value :=
  if k < 8 then iw (A.r k) else if k < 40 then (if k % 2 = 0 then tv ((k - 8) / 2) else iw (A.tp ((k - 8) / 2)))
  else if k < 104 then (if k % 4 = 0 then iw (A.room ((k - 40) / 4)) else if k % 4 = 1 then bo (A.has ((k - 40) / 4)) else if k % 4 = 2 then cv ((k - 40) / 4) else bo (A.bad ((k - 40) / 4))) else iw A.clk
def nc (A : NicA) (tv cv : Nat → Value) : List Value := (List.range 105).map (cellAt A tv cv)

section
variable {A A' : NicA} {tv cv tv' cv' : Nat → Value}
theorem nc_len : (nc A tv cv).length = 105 := by simp [nc]
theorem nc_get {k : Nat} (h : k < 105) : (nc A tv cv)[k]? = some (cellAt A tv cv k) := by simp [nc, h]
theorem nc_r {k : Nat} (h : k < 8) : (nc A tv cv)[k]? = some (iw (A.r k)) := by rw [nc_get (by omega)]; simp [cellAt, h]
theorem nc_r' {k : Nat} (h : k < 8) : (nc A tv cv)[0 + k * 1]? = some (iw (A.r k)) := by rw [show 0 + k * 1 = k by omega]; exact nc_r h
theorem nc_tv {i : Nat} (h : i < 16) : (nc A tv cv)[8 + i * 2]? = some (tv i) := by
  rw [nc_get (by omega)]; unfold cellAt
  rw [if_neg (by omega), if_pos (by omega), if_pos (by omega)]; congr 2; omega
theorem nc_tp {i : Nat} (h : i < 16) : (nc A tv cv)[8 + i * 2 + 1]? = some (iw (A.tp i)) := by
  rw [nc_get (by omega)]; unfold cellAt
  rw [if_neg (by omega), if_pos (by omega), if_neg (by omega)]; congr 3; omega
theorem nc_room {i : Nat} (h : i < 16) : (nc A tv cv)[40 + i * 4]? = some (iw (A.room i)) := by
  rw [nc_get (by omega)]; unfold cellAt
  rw [if_neg (by omega), if_neg (by omega), if_pos (by omega), if_pos (by omega)]; congr 3; omega
theorem nc_has {i : Nat} (h : i < 16) : (nc A tv cv)[40 + i * 4 + 1]? = some (bo (A.has i)) := by
  rw [nc_get (by omega)]; unfold cellAt
  rw [if_neg (by omega), if_neg (by omega), if_pos (by omega), if_neg (by omega), if_pos (by omega)]; congr 3; omega
theorem nc_cv {i : Nat} (h : i < 16) : (nc A tv cv)[40 + i * 4 + 2]? = some (cv i) := by
  rw [nc_get (by omega)]; unfold cellAt
  rw [if_neg (by omega), if_neg (by omega), if_pos (by omega), if_neg (by omega), if_neg (by omega), if_pos (by omega)]; congr 2; omega
theorem nc_bad {i : Nat} (h : i < 16) : (nc A tv cv)[40 + i * 4 + 3]? = some (bo (A.bad i)) := by
  rw [nc_get (by omega)]; unfold cellAt
  rw [if_neg (by omega), if_neg (by omega), if_pos (by omega), if_neg (by omega), if_neg (by omega), if_neg (by omega)]; congr 3; omega
theorem nc_clk : (nc A tv cv)[104]? = some (iw A.clk) := by rw [nc_get (by omega)]; simp [cellAt]
theorem nc_set {k : Nat} {v : Value} (hk : k < 105) (hv : cellAt A' tv' cv' k = v) (ho : ∀ j, j < 105 → j ≠ k → cellAt A' tv' cv' j = cellAt A tv cv j) : (nc A tv cv).set k v = nc A' tv' cv' := by
  apply List.ext_getElem?
  intro j
  by_cases e : k = j
  · subst e; rw [List.getElem?_set_self (by rw [nc_len]; exact hk), nc_get hk, hv]
  · rw [List.getElem?_set_ne e]
    by_cases hj : j < 105
    · rw [nc_get hj, nc_get hj, ho j hj (Ne.symm e)]
    · rw [List.getElem?_eq_none (by rw [nc_len]; omega), List.getElem?_eq_none (by rw [nc_len]; omega)]
theorem set_r {k : Nat} (h : k < 8) (x : Int) : (nc A tv cv).set k (iw x) = nc { A with r := up A.r k x } tv cv := by
  refine nc_set (by omega) ?_ (fun j hj hne => ?_)
  · simp [cellAt, h, up]
  · unfold cellAt up
    split
    · simp [hne]
    · rfl
theorem set_r' {k : Nat} (h : k < 8) (x : Int) : (nc A tv cv).set (0 + k * 1) (iw x) = nc { A with r := up A.r k x } tv cv := by rw [show 0 + k * 1 = k by omega]; exact set_r h x
theorem set_tv {i : Nat} (h : i < 16) (v : Value) : (nc A tv cv).set (8 + i * 2) v = nc A (up tv i v) cv := by
  refine nc_set (by omega) ?_ (fun j hj hne => ?_)
  · unfold cellAt
    rw [if_neg (by omega), if_pos (by omega), if_pos (by omega)]
    rw [show (8 + i * 2 - 8) / 2 = i by omega, up_same]
  · unfold cellAt
    split
    · rfl
    · split
      · split
        · rw [up_ne]; omega
        · rfl
      · rfl
theorem set_tp {i : Nat} (h : i < 16) (x : Int) : (nc A tv cv).set (8 + i * 2 + 1) (iw x) = nc { A with tp := up A.tp i x } tv cv := by
  refine nc_set (by omega) ?_ (fun j hj hne => ?_)
  · unfold cellAt
    rw [if_neg (by omega), if_pos (by omega), if_neg (by omega)]
    show iw (up A.tp i x _) = _
    rw [show (8 + i * 2 + 1 - 8) / 2 = i by omega, up_same]
  · unfold cellAt
    split
    · rfl
    · split
      · split
        · rfl
        · show iw (up A.tp i x _) = _
          rw [up_ne]; omega
      · rfl
theorem set_clk (x : Int) : (nc A tv cv).set 104 (iw x) = nc { A with clk := x } tv cv := by
  refine nc_set (by omega) (by simp [cellAt]) (fun j hj hne => ?_)
  unfold cellAt
  split
  · rfl
  · split
    · rfl
    · split
      · rfl
      · omega
theorem set_rx {i : Nat} (h : i < 16) (a : Int) (b d : Bool) (v : Value) :
    (nc A tv cv).take (40 + i * 4) ++ [iw a, bo b, v, bo d] ++ (nc A tv cv).drop (40 + i * 4 + 4) = nc { A with room := up A.room i a, has := up A.has i b, bad := up A.bad i d } tv (up cv i v) := by
  have out : ∀ j, (j < 40 + i * 4 ∨ 40 + i * 4 + 4 ≤ j) → cellAt { A with room := up A.room i a, has := up A.has i b, bad := up A.bad i d } tv (up cv i v) j = cellAt A tv cv j := by
    intro j hj
    by_cases a1 : j < 8
    · simp [cellAt, a1]
    · by_cases a2 : j < 40
      · simp [cellAt, a1, a2]
      · by_cases a3 : j < 104
        · have hne : ¬ (j - 40) / 4 = i := by omega
          simp [cellAt, a1, a2, a3, up, hne]
        · simp [cellAt, a1, a2, a3]
  apply List.ext_getElem?
  intro j
  have hl : ((nc A tv cv).take (40 + i * 4)).length = 40 + i * 4 := by rw [List.length_take, nc_len]; omega
  by_cases h1 : j < 40 + i * 4
  · rw [List.append_assoc, List.getElem?_append_left (by omega), List.getElem?_take, if_pos h1, nc_get (by omega), nc_get (by omega), out j (.inl h1)]
  · by_cases h2 : j < 40 + i * 4 + 4
    · rw [List.append_assoc, List.getElem?_append_right (by omega), hl, List.getElem?_append_left (by simp; omega), nc_get (by omega)]
      obtain ⟨q, hq⟩ : ∃ q, q = j - (40 + i * 4) := ⟨_, rfl⟩
      have hj : j = 40 + i * 4 + q := by omega
      rw [← hq]
      have hq4 : q < 4 := by omega
      unfold cellAt
      rw [if_neg (by omega), if_neg (by omega), if_pos (by omega)]
      have hd : (j - 40) / 4 = i := by omega
      rw [hd]
      match q, hq4, hj with
      | 0, _, hj => rw [if_pos (by omega)]; show _ = some (iw (up A.room i a i)); rw [up_same]; rfl
      | 1, _, hj => rw [if_neg (by omega), if_pos (by omega)]; show _ = some (bo (up A.has i b i)); rw [up_same]; rfl
      | 2, _, hj => rw [if_neg (by omega), if_neg (by omega), if_pos (by omega), up_same]; rfl
      | 3, _, hj => rw [if_neg (by omega), if_neg (by omega), if_neg (by omega)]; show _ = some (bo (up A.bad i d i)); rw [up_same]; rfl
    · have hl2 : ((nc A tv cv).take (40 + i * 4) ++ [iw a, bo b, v, bo d]).length = 40 + i * 4 + 4 := by rw [List.length_append, hl]; rfl
      rw [List.getElem?_append_right (by omega), hl2, List.getElem?_drop, show 40 + i * 4 + 4 + (j - (40 + i * 4 + 4)) = j by omega]
      by_cases hj : j < 105
      · rw [nc_get hj, nc_get hj, out j (.inr (by omega))]
      · rw [List.getElem?_eq_none (by rw [nc_len]; omega), List.getElem?_eq_none (by rw [nc_len]; omega)]
end

def nilv : Nat → Value := fun _ => .slice none 0 0
theorem nc_one {A : NicA} {tv cv : Nat → Value} (h1 : ∀ i, (tv i).oneCell' = true) (h2 : ∀ i, (cv i).oneCell' = true) : (nc A tv cv).all (·.oneCell') = true := by
  rw [List.all_eq_true]
  intro x hx
  obtain ⟨k, _, rfl⟩ := List.mem_map.1 hx
  unfold cellAt
  split
  · rfl
  · split
    · split
      · exact h1 _
      · rfl
    · split
      · split
        · rfl
        · split
          · rfl
          · split
            · exact h2 _
            · rfl
      · rfl
theorem nc_whole {A A' : NicA} {tv cv tv' cv' : Nat → Value} : (nc A tv cv).take 0 ++ nc A' tv' cv' ++ (nc A tv cv).drop (0 + (nc A' tv' cv').length) = nc A' tv' cv' := by
  rw [List.take_zero, List.nil_append, nc_len, List.drop_eq_nil_of_le (by rw [nc_len]; omega), List.append_nil]
theorem nc_all {A : NicA} {tv cv : Nat → Value} : ((nc A tv cv).drop 0).take 105 = nc A tv cv := by
  rw [List.drop_zero, List.take_of_length_le (by rw [nc_len]; omega)]
theorem up_id {α : Type} {f : Nat → α} {k : Nat} : up f k (f k) = f := by
  funext j; unfold up; split
  · rename_i e; rw [e]
  · rfl
theorem Inv.one {n : Nat} {w : World} {S : Nat → Prop} {b : Nat} {c : List Value} {T : TypeId} (h : Blk w b c T) : Inv ⟨n, w, S⟩ w [rBlk b c T] := by
  refine ⟨⟨fun r hr => ?_, List.Pairwise.cons (by simp) List.Pairwise.nil⟩, Only.refl _ _⟩
  simp only [List.mem_cons, List.not_mem_nil, or_false] at hr
  subst hr
  exact h
/-- The frames' bytes, in blocks of F. -/
def FrsAt (w : World) (F : Nat → Prop) (tv cv : Nat → Value) (tb cb : Nat → List UInt8) : Prop :=
  (∀ b, F b → b < w.heap.size) ∧ (∀ i, i < 16 → BytesAt w (tv i) (tb i) ∧ sliceIn (tv i) F) ∧ (∀ i, i < 16 → BytesAt w (cv i) (cb i) ∧ sliceIn (cv i) F)
theorem BytesAt.agree {w w' : World} {v : Value} {l : List UInt8} {F : Nat → Prop} (h : BytesAt w v l) (hs : sliceIn v F) (hw : ∀ b, F b → w'.heap[b]? = w.heap[b]?) : BytesAt w' v l := by
  rcases h with h | ⟨b, o, cap, hv, h1, h2, h3⟩
  · exact .inl h
  · refine .inr ⟨b, o, cap, hv, h1, h2, fun j hj => ?_⟩
    have hF := hs b o _ cap hv (by omega)
    have := h3 j hj
    rw [World.cell?_of_block (w := w) (hw b hF)]; exact this
def rFrs (F : Nat → Prop) (tv cv : Nat → Value) (tb cb : Nat → List UInt8) : Res where
  ok w := FrsAt w F tv cv tb cb
  fp := F
  lt w h b hb := h.1 b hb
  st w w' h hw := by
    refine ⟨fun b hb => ?_, fun i hi => ⟨(h.2.1 i hi).1.agree (h.2.1 i hi).2 hw, (h.2.1 i hi).2⟩, fun i hi => ⟨(h.2.2 i hi).1.agree (h.2.2 i hi).2 hw, (h.2.2 i hi).2⟩⟩
    have h1 := h.1 b hb
    have h2 := hw b hb
    rw [Array.getElem?_eq_getElem h1] at h2
    exact (Array.getElem?_eq_some_iff.1 h2).1

/-- The device at d (its type T), its frames in blocks of F. -/
def NicAt (T : TypeId) (w : World) (d : Nat) (F : Nat → Prop) (A : NicA) : Prop := ∃ tv cv, Blk w d (nc A tv cv) T ∧ ¬ F d ∧ FrsAt w F tv cv A.tb A.cb
theorem NicAt.lt {T : TypeId} {w : World} {d : Nat} {F : Nat → Prop} {A : NicA} (h : NicAt T w d F A) : d < w.heap.size := by obtain ⟨tv, cv, hb, _⟩ := h; exact hb.lt
def rNic (T : TypeId) (d : Nat) (F : Nat → Prop) (A : NicA) : Res where
  ok w := NicAt T w d F A
  fp b := b = d ∨ F b
  lt w h b hb := by
    obtain ⟨tv, cv, h1, h2, h3⟩ := h
    rcases hb with rfl | hb
    · exact h1.lt
    · exact h3.1 b hb
  st w w' h hw := by
    obtain ⟨tv, cv, h1, h2, h3⟩ := h
    refine ⟨tv, cv, ?_, h2, (rFrs F tv cv A.tb A.cb).st w w' h3 (fun b hb => hw b (.inr hb))⟩
    unfold Blk; rw [hw d (.inl rfl)]; exact h1
/-- What a call may have done to a device. -/
def NicTo (T : TypeId) (w : World) (d : Nat) (F : Nat → Prop) (A' : NicA) (w' : World) : Prop := ∃ F', NicAt T w' d F' A' ∧ (∀ b, F' b → F b ∨ w.heap.size ≤ b) ∧ Only (fun b => b = d) w w'
/-- The start of a walk on a device. -/
theorem NicAt.inv {T : TypeId} {w : World} {d : Nat} {F : Nat → Prop} {A : NicA} (n : Nat) (S : Nat → Prop) (h : NicAt T w d F A) : ∃ tv cv, Inv ⟨n, w, S⟩ w [rBlk d (nc A tv cv) T, rFrs F tv cv A.tb A.cb] := by
  obtain ⟨tv, cv, h1, h2, h3⟩ := h
  refine ⟨tv, cv, ⟨fun r hr => ?_, ?_⟩, Only.refl _ _⟩
  · simp only [List.mem_cons, List.not_mem_nil, or_false] at hr
    rcases hr with rfl | rfl
    · exact h1
    · exact h3
  · refine List.Pairwise.cons ?_ (List.Pairwise.cons (by simp) List.Pairwise.nil)
    intro r hr b hb hc
    simp only [List.mem_cons, List.not_mem_nil, or_false] at hr
    subst hr
    cases hb
    exact h2 hc
theorem NicAt.of {X : Cx} {T : TypeId} {w : World} {d : Nat} {F : Nat → Prop} {A : NicA} {tv cv : Nat → Value} {l : List Res} (h : Inv X w (rBlk d (nc A tv cv) T :: rFrs F tv cv A.tb A.cb :: l)) : NicAt T w d F A := by
  have hp := h.1.2
  rw [List.pairwise_cons] at hp
  exact ⟨tv, cv, h.1.1 (rBlk d (nc A tv cv) T) (by simp), fun hF => hp.1 (rFrs F tv cv A.tb A.cb) (by simp) d rfl hF, h.1.1 (rFrs F tv cv A.tb A.cb) (by simp)⟩
/-- Its end, whatever else is known. -/
theorem NicAt.fin' {T : TypeId} {w w' : World} {d n : Nat} {S : Nat → Prop} {F : Nat → Prop} {A : NicA} {tv cv : Nat → Value} {l : List Res} (h : Inv ⟨n, w, S⟩ w' (rBlk d (nc A tv cv) T :: rFrs F tv cv A.tb A.cb :: l)) : NicAt T w' d F A ∧ Only S w w' := ⟨NicAt.of h, h.2⟩
theorem frs_tx {X : Cx} {T : TypeId} {w : World} {d : Nat} {F : Nat → Prop} {A : NicA} {tv cv : Nat → Value} {c : List Value} {l : List Res} (h : Inv X w (rBlk d c T :: rFrs F tv cv A.tb A.cb :: l)) {i : Nat} (hi : i < 16) : BytesAt w (tv i) (A.tb i) :=
  ((h.1.1 (rFrs F tv cv A.tb A.cb) (by simp)).2.1 i hi).1
theorem frs_rx {X : Cx} {T : TypeId} {w : World} {d : Nat} {F : Nat → Prop} {A : NicA} {tv cv : Nat → Value} {c : List Value} {l : List Res} (h : Inv X w (rBlk d c T :: rFrs F tv cv A.tb A.cb :: l)) {i : Nat} (hi : i < 16) : BytesAt w (cv i) (A.cb i) :=
  ((h.1.1 (rFrs F tv cv A.tb A.cb) (by simp)).2.2 i hi).1
/-- Its end, where no frame is new. -/
theorem NicAt.fin {T : TypeId} {w w' : World} {d n : Nat} {F : Nat → Prop} {A : NicA} {tv cv : Nat → Value} {l : List Res} (h : Inv ⟨n, w, fun b => b = d⟩ w' (rBlk d (nc A tv cv) T :: rFrs F tv cv A.tb A.cb :: l)) : NicTo T w d F A w' := by
  refine ⟨F, ⟨tv, cv, h.1.1 (rBlk d (nc A tv cv) T) (by simp), fun hF => ?_, h.1.1 (rFrs F tv cv A.tb A.cb) (by simp)⟩, fun b hb => .inl hb, h.2⟩
  have := h.1.2
  rw [List.pairwise_cons] at this
  exact this.1 (rFrs F tv cv A.tb A.cb) (by simp) d rfl hF
theorem Blk.bytes {w : World} {g : Nat} {l : List UInt8} {T : TypeId} (h : Blk w g (l.map bv) T) (hl : l.length ≤ 140737488351232) : BytesAt w (.slice (some ⟨g, 0, none⟩) l.length l.length) l := by
  refine .inr ⟨g, 0, l.length, rfl, Nat.le_refl _, hl, fun j hj => ?_⟩
  rw [h.cell, Nat.zero_add, List.getElem?_map, List.getElem?_eq_getElem hj]; rfl
/-- Its end, where one frame that came is no more. -/
theorem NicAt.fin_no {T : TypeId} {w w' : World} {d n i : Nat} {F : Nat → Prop} {A : NicA} {tv cv : Nat → Value} {l : List Res}
    (h : Inv ⟨n, w, fun b => b = d⟩ w' (rBlk d (nc A tv (up cv i (.slice none 0 0))) T :: rFrs F tv cv A.tb A.cb :: l)) : NicTo T w d F { A with cb := up A.cb i [] } w' := by
  have hd := h.1.2
  rw [List.pairwise_cons] at hd
  have h1 : Blk w' d (nc A tv (up cv i (.slice none 0 0))) T := h.1.1 (rBlk d (nc A tv (up cv i (.slice none 0 0))) T) (by simp)
  have h2 : FrsAt w' F tv cv A.tb A.cb := h.1.1 (rFrs F tv cv A.tb A.cb) (by simp)
  refine ⟨F, ⟨tv, up cv i (.slice none 0 0), h1, fun hF => hd.1 (rFrs F tv cv A.tb A.cb) (by simp) d rfl hF, h2.1, h2.2.1, fun j hj => ?_⟩, fun b hb => .inl hb, h.2⟩
  by_cases e : j = i
  · subst e
    show BytesAt w' (up cv j _ j) (up A.cb j [] j) ∧ sliceIn (up cv j _ j) _
    rw [up_same, up_same]
    exact ⟨BytesAt.nil _, fun b o n c e _ => by simp at e⟩
  · show BytesAt w' (up cv i _ j) (up A.cb i [] j) ∧ sliceIn (up cv i _ j) _
    rw [up_ne _ _ e, up_ne _ _ e]
    exact h2.2.2 j hj
/-- Its end, where it was reset. -/
theorem NicAt.fin_reset {T : TypeId} {w w' : World} {d n : Nat} {F : Nat → Prop} {A A' : NicA} {tv cv : Nat → Value} {l : List Res} (h1 : A'.tb = fun _ => []) (h2 : A'.cb = fun _ => []) (h : Inv ⟨n, w, fun b => b = d⟩ w' (rBlk d (nc A' nilv nilv) T :: rFrs F tv cv A.tb A.cb :: l)) : NicAt T w' d F A' ∧ Only (fun b => b = d) w w' := by
  refine ⟨⟨nilv, nilv, h.1.1 (rBlk d (nc A' nilv nilv) T) (by simp), fun hF => ?_, ?_⟩, h.2⟩
  · have := h.1.2
    rw [List.pairwise_cons] at this
    exact this.1 (rFrs F tv cv A.tb A.cb) (by simp) d rfl hF
  · have k : FrsAt w' F tv cv A.tb A.cb := h.1.1 (rFrs F tv cv A.tb A.cb) (by simp)
    rw [h1, h2]
    exact ⟨k.1, fun i _ => ⟨BytesAt.nil _, fun b o n c e _ => by simp [nilv] at e⟩, fun i _ => ⟨BytesAt.nil _, fun b o n c e _ => by simp [nilv] at e⟩⟩
/-- Its end, where one frame to be sent is new. -/
theorem NicAt.fin_tx {T U : TypeId} {w w' : World} {d n g i : Nat} {F : Nat → Prop} {A : NicA} {tv cv : Nat → Value} {f : List UInt8} (hf : f.length ≤ 140737488351232) (hg : w.heap.size ≤ g)
    (h : Inv ⟨n, w, fun b => b = d⟩ w' [rBlk d (nc A (up tv i (sl g 0 f.length f.length)) cv) T, rFrs F tv cv A.tb A.cb, rBlk g (f.map bv) U]) : NicTo T w d F { A with tb := up A.tb i f } w' := by
  have hd := h.1.2
  simp only [List.pairwise_cons] at hd
  have h1 : Blk w' d (nc A (up tv i (sl g 0 f.length f.length)) cv) T := h.1.1 (rBlk d (nc A (up tv i (sl g 0 f.length f.length)) cv) T) (by simp)
  have h2 : FrsAt w' F tv cv A.tb A.cb := h.1.1 (rFrs F tv cv A.tb A.cb) (by simp)
  have h3 : Blk w' g (f.map bv) U := h.1.1 (rBlk g (f.map bv) U) (by simp)
  refine ⟨fun b => F b ∨ b = g, ⟨up tv i (sl g 0 f.length f.length), cv, h1, ?_, ?_, ?_, ?_⟩, fun b hb => hb.imp id (fun e => by subst e; exact hg), h.2⟩
  · rintro (hF | e)
    · exact hd.1 (rFrs F tv cv A.tb A.cb) (by simp) d rfl hF
    · exact hd.1 (rBlk g (f.map bv) U) (by simp) d rfl e
  · rintro b (hF | e)
    · exact h2.1 b hF
    · subst e; exact h3.lt
  · intro j hj
    by_cases e : j = i
    · subst e
      show BytesAt w' (up tv j _ j) (up A.tb j f j) ∧ sliceIn (up tv j _ j) _
      rw [up_same, up_same]
      refine ⟨h3.bytes hf, fun b o n c hv hn => ?_⟩
      simp at hv; exact .inr hv.1.1.symm
    · show BytesAt w' (up tv i _ j) (up A.tb i f j) ∧ sliceIn (up tv i _ j) _
      rw [up_ne _ _ e, up_ne _ _ e]
      exact ⟨(h2.2.1 j hj).1, fun b o n c hv hn => .inl ((h2.2.1 j hj).2 b o n c hv hn)⟩
  · intro j hj
    exact ⟨(h2.2.2 j hj).1, fun b o n c hv hn => .inl ((h2.2.2 j hj).2 b o n c hv hn)⟩
/-- Its end, where one frame that came is new. -/
theorem NicAt.fin_rx {T U : TypeId} {w w' : World} {d n g i : Nat} {F : Nat → Prop} {A : NicA} {tv cv : Nat → Value} {f : List UInt8} (hf : f.length ≤ 140737488351232) (hg : w.heap.size ≤ g)
    (h : Inv ⟨n, w, fun b => b = d⟩ w' [rBlk d (nc A tv (up cv i (sl g 0 f.length f.length))) T, rFrs F tv cv A.tb A.cb, rBlk g (f.map bv) U]) : NicTo T w d F { A with cb := up A.cb i f } w' := by
  have hd := h.1.2
  simp only [List.pairwise_cons] at hd
  have h1 : Blk w' d (nc A tv (up cv i (sl g 0 f.length f.length))) T := h.1.1 (rBlk d (nc A tv (up cv i (sl g 0 f.length f.length))) T) (by simp)
  have h2 : FrsAt w' F tv cv A.tb A.cb := h.1.1 (rFrs F tv cv A.tb A.cb) (by simp)
  have h3 : Blk w' g (f.map bv) U := h.1.1 (rBlk g (f.map bv) U) (by simp)
  refine ⟨fun b => F b ∨ b = g, ⟨tv, up cv i (sl g 0 f.length f.length), h1, ?_, ?_, ?_, ?_⟩, fun b hb => hb.imp id (fun e => by subst e; exact hg), h.2⟩
  · rintro (hF | e)
    · exact hd.1 (rFrs F tv cv A.tb A.cb) (by simp) d rfl hF
    · exact hd.1 (rBlk g (f.map bv) U) (by simp) d rfl e
  · rintro b (hF | e)
    · exact h2.1 b hF
    · subst e; exact h3.lt
  · intro j hj
    exact ⟨(h2.2.1 j hj).1, fun b o n c hv hn => .inl ((h2.2.1 j hj).2 b o n c hv hn)⟩
  · intro j hj
    by_cases e : j = i
    · subst e
      show BytesAt w' (up cv j _ j) (up A.cb j f j) ∧ sliceIn (up cv j _ j) _
      rw [up_same, up_same]
      refine ⟨h3.bytes hf, fun b o n c hv hn => ?_⟩
      simp at hv; exact .inr hv.1.1.symm
    · show BytesAt w' (up cv i _ j) (up A.cb i f j) ∧ sliceIn (up cv i _ j) _
      rw [up_ne _ _ e, up_ne _ _ e]
      exact ⟨(h2.2.2 j hj).1, fun b o n c hv hn => .inl ((h2.2.2 j hj).2 b o n c hv hn)⟩
end Go.Proofs.Ytloejpkefoagfaa
