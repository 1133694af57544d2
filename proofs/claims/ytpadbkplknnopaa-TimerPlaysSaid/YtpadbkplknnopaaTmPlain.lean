/-
  Timers plainly: how they stand, what is set, cleared, due.
-/
import Derived.Test.YtpadbkplknnopaaTmInsert
import Derived.Test.YtpadbkplknnopaaTmClear
namespace Go.Proofs.Ytpadbkplknnopaa
open Go.RowKit
set_option linter.unusedSimpArgs false

theorem bl_irrefl : ∀ a : List UInt8, Op.bytesLess a a = false
  | [] => rfl
  | a :: x => by simp [Op.bytesLess, bl_irrefl x, UInt8.lt_irrefl]
theorem bl_trans : ∀ {a b c : List UInt8}, Op.bytesLess a b = true → Op.bytesLess b c = true → Op.bytesLess a c = true
  | _, [], _, h, _ => by simp [Op.bytesLess] at h
  | _, _ :: _, [], _, h => by simp [Op.bytesLess] at h
  | [], _ :: _, _ :: _, _, _ => by simp [Op.bytesLess]
  | a :: x, b :: y, c :: z, h, k => by
    simp only [Op.bytesLess, Bool.or_eq_true, Bool.and_eq_true, decide_eq_true_eq, beq_iff_eq] at h k ⊢
    rcases h with h | ⟨rfl, h⟩
    · rcases k with k | ⟨rfl, k⟩
      · exact .inl (UInt8.lt_trans h k)
      · exact .inl h
    · rcases k with k | ⟨rfl, k⟩
      · exact .inl k
      · exact .inr ⟨rfl, bl_trans h k⟩
theorem bl_total : ∀ {a b : List UInt8}, a ≠ b → Op.bytesLess a b = false → Op.bytesLess b a = true
  | [], [], h, _ => absurd rfl h
  | [], _ :: _, _, k => by simp [Op.bytesLess] at k
  | _ :: _, [], _, _ => by simp [Op.bytesLess]
  | a :: x, b :: y, h, k => by
    simp only [Op.bytesLess, Bool.or_eq_false_iff, Bool.and_eq_false_iff, decide_eq_false_iff_not, beq_eq_false_iff_ne, Bool.or_eq_true, Bool.and_eq_true, decide_eq_true_eq, beq_iff_eq] at k ⊢
    by_cases e : a = b
    · subst e
      refine .inr ⟨rfl, bl_total (fun e => h (by rw [e])) ?_⟩
      rcases k.2 with k2 | k2
      · exact absurd rfl k2
      · exact k2
    · exact .inl (UInt8.lt_of_le_of_ne (UInt8.not_lt.1 k.1) (Ne.symm e))
theorem cmp_neg : ∀ a b : List UInt8, Lib.compareBytes a b < 0 ↔ Op.bytesLess a b = true
  | [], [] => by simp [Lib.compareBytes, Op.bytesLess]
  | [], _ :: _ => by simp [Lib.compareBytes, Op.bytesLess]
  | _ :: _, [] => by simp [Lib.compareBytes, Op.bytesLess]
  | a :: x, b :: y => by
    have ih := cmp_neg x y
    unfold Lib.compareBytes Op.bytesLess
    by_cases h1 : a < b
    · simp [h1]
    · by_cases h2 : b < a
      · have h3 : a ≠ b := fun e => by subst e; exact absurd h2 (UInt8.lt_irrefl a)
        simp [h1, h2, h3]
      · have h3 : a = b := by
          have := UInt8.not_lt.1 h1
          have := UInt8.not_lt.1 h2
          exact UInt8.le_antisymm ‹_› ‹_›
        subst h3
        simp only [h1, if_false, ih, decide_false, Bool.false_or, beq_self_eq_true, Bool.true_and]

/-- One stands ahead of another one. -/
def ltT (a b : TM) : Bool := decide (a.at_ < b.at_) || (a.at_ == b.at_ && Op.bytesLess a.name.toList b.name.toList)
theorem order_neg (a b : TM) : orderT a b < 0 ↔ ltT a b = true := by
  unfold orderT ltT
  rw [← ByteArray.toList_eq, ← ByteArray.toList_eq]
  by_cases h1 : a.at_ < b.at_
  · simp [h1]
  · by_cases h2 : b.at_ < a.at_
    · have h3 : a.at_ ≠ b.at_ := by omega
      simp [h1, h2, h3]
    · have h3 : a.at_ = b.at_ := by omega
      simp only [h3, Int.lt_irrefl, if_false, cmp_neg, decide_false, Bool.false_or, beq_self_eq_true, Bool.true_and]
theorem lt_irrefl (a : TM) : ltT a a = false := by simp [ltT, bl_irrefl]
theorem lt_trans {a b c : TM} (h : ltT a b = true) (k : ltT b c = true) : ltT a c = true := by
  simp only [ltT, Bool.or_eq_true, Bool.and_eq_true, decide_eq_true_eq, beq_iff_eq] at h k ⊢
  rcases h with h | ⟨h1, h⟩ <;> rcases k with k | ⟨k1, k⟩
  · exact .inl (by omega)
  · exact .inl (by omega)
  · exact .inl (by omega)
  · exact .inr ⟨by omega, bl_trans h k⟩
theorem lt_asymm {a b : TM} (h : ltT a b = true) : ltT b a = false := by
  cases hb : ltT b a with
  | false => rfl
  | true => rw [← lt_trans h hb, lt_irrefl]
theorem lt_total {a b : TM} (h : a.name ≠ b.name) (k : ltT a b = false) : ltT b a = true := by
  simp only [ltT, Bool.or_eq_false_iff, Bool.and_eq_false_iff, decide_eq_false_iff_not, beq_eq_false_iff_ne, Bool.or_eq_true, Bool.and_eq_true, decide_eq_true_eq, beq_iff_eq] at k ⊢
  by_cases e : a.at_ = b.at_
  · refine .inr ⟨e.symm, bl_total (fun e2 => h (bytes_eq (beq_iff_eq.2 e2))) ?_⟩
    rcases k.2 with k2 | k2
    · exact absurd e k2
    · exact k2
  · exact .inl (by omega)
theorem lt_at {a b : TM} (h : ltT a b = true) : a.at_ ≤ b.at_ := by
  simp only [ltT, Bool.or_eq_true, Bool.and_eq_true, decide_eq_true_eq, beq_iff_eq] at h
  omega

/-- Timers as they are to be. -/
structure RightT (l : List TM) : Prop where
  sorted : l.Pairwise (fun a b => ltT a b = true)
  names : l.Pairwise (fun a b => a.name ≠ b.name)
theorem right_nil : RightT [] := ⟨.nil, .nil⟩
theorem RightT.filter {l : List TM} (h : RightT l) (p : TM → Bool) : RightT (l.filter p) := ⟨h.sorted.filter p, h.names.filter p⟩
theorem split_by {l : List TM} (h : l.Pairwise (fun a b => ltT a b = true)) (p : TM → Bool) (hp : ∀ a b, ltT a b = true → p b = true → p a = true) : l = l.filter p ++ l.filter (fun y => !p y) := by
  induction l with
  | nil => rfl
  | cons a l ih =>
    have h2 := List.pairwise_cons.1 h
    have ih := ih h2.2
    cases ha : p a with
    | true =>
      rw [List.filter_cons_of_pos ha, List.filter_cons_of_neg (by simp [ha]), List.cons_append, ← ih]
    | false =>
      have h0 : l.filter p = [] := List.filter_eq_nil_iff.2 (fun b hb hpb => by rw [hp a b (h2.1 b hb) hpb] at ha; cases ha)
      rw [List.filter_cons_of_neg (by simp [ha]), List.filter_cons_of_pos (by simp [ha]), h0, List.nil_append]
      rw [h0, List.nil_append] at ih
      rw [← ih]

def clearR (n : ByteArray) (l : List TM) : List TM := l.filter (fun y => decide (y.name ≠ n))
def insR (x : TM) (l : List TM) : List TM := l.filter (ltT · x) ++ x :: l.filter (fun y => !ltT y x)
def setR (n : ByteArray) (t : Int) (l : List TM) : List TM := insR ⟨n, t⟩ (clearR n l)
def posT (x : TM) (l : List TM) : Nat := (l.filter (ltT · x)).length
theorem posT_le (x : TM) (l : List TM) : posT x l ≤ l.length := List.length_filter_le _ _
theorem split_lt {l : List TM} (h : RightT l) (x : TM) : l = l.filter (ltT · x) ++ l.filter (fun y => !ltT y x) := split_by h.sorted _ (fun _ _ h1 h2 => lt_trans h1 h2)
theorem insT_pos {l : List TM} (h : RightT l) (x : TM) : insT (posT x l) x l = insR x l := by
  have e := split_lt h x
  unfold insT insR
  have e1 : l.take (posT x l) = l.filter (ltT · x) := by
    unfold posT
    generalize l.filter (ltT · x) = d at *
    generalize l.filter (fun y => !ltT y x) = r at *
    subst e
    exact List.take_left' rfl
  have e2 : l.drop (posT x l) = l.filter (fun y => !ltT y x) := by
    unfold posT
    generalize l.filter (ltT · x) = d at *
    generalize l.filter (fun y => !ltT y x) = r at *
    subst e
    exact List.drop_left' rfl
  rw [e1, e2]
theorem pos_lo {l : List TM} (h : RightT l) (x : TM) (j : Nat) (hj : j < l.length) (hlt : j < posT x l) : orderT l[j] x < 0 := by
  rw [order_neg]
  have e := split_lt h x
  have e1 : l[j]? = (l.filter (ltT · x))[j]? := by
    conv => lhs; rw [e]
    exact List.getElem?_append_left hlt
  have hm : l[j] ∈ l.filter (ltT · x) := by
    rw [List.getElem?_eq_getElem hj] at e1
    exact List.mem_of_getElem? e1.symm
  exact (List.mem_filter.1 hm).2
theorem pos_hi {l : List TM} (h : RightT l) (x : TM) (j : Nat) (hj : j < l.length) (hge : posT x l ≤ j) : 0 ≤ orderT l[j] x := by
  have e := split_lt h x
  have e1 : l[j]? = (l.filter (fun y => !ltT y x))[j - posT x l]? := by
    conv => lhs; rw [e]
    exact List.getElem?_append_right hge
  have hm : l[j] ∈ l.filter (fun y => !ltT y x) := by
    rw [List.getElem?_eq_getElem hj] at e1
    exact List.mem_of_getElem? e1.symm
  have h2 := (List.mem_filter.1 hm).2
  have h3 : ¬ orderT l[j] x < 0 := fun h4 => by
    rw [order_neg] at h4
    rw [h4] at h2
    cases h2
  omega
theorem clear_eq {l : List TM} (h : RightT l) (n : ByteArray) : clearT n l = clearR n l := by
  rcases placeT_spec n l with ⟨h1, h2⟩ | ⟨k, h1, h2, h3, h4⟩
  · rw [clearT, h1, if_neg (by omega), clearR, List.filter_eq_self.2]
    intro y hy
    obtain ⟨i, hi, rfl⟩ := List.getElem_of_mem hy
    simpa using h2 i hi
  · rw [clearT, h2, if_pos (by omega), Int.toNat_natCast, clearR, List.eraseIdx_eq_take_drop_succ]
    have hn := h3 h1
    have hp := List.pairwise_iff_getElem.1 h.names
    have e : l = l.take k ++ l[k] :: l.drop (k + 1) := by rw [List.getElem_cons_drop, List.take_append_drop]
    have e1 : (l.take k).filter (fun y => decide (y.name ≠ n)) = l.take k := by
      rw [List.filter_eq_self]
      intro y hy
      obtain ⟨i, hi, rfl⟩ := List.getElem_of_mem hy
      rw [List.length_take] at hi
      rw [List.getElem_take]
      simpa using h4 i (by omega) (by omega)
    have e2 : (l.drop (k + 1)).filter (fun y => decide (y.name ≠ n)) = l.drop (k + 1) := by
      rw [List.filter_eq_self]
      intro y hy
      obtain ⟨i, hi, rfl⟩ := List.getElem_of_mem hy
      rw [List.length_drop] at hi
      rw [List.getElem_drop]
      have := hp k (k + 1 + i) h1 (by omega) (by omega)
      rw [hn] at this
      simpa using fun e => this e.symm
    conv => rhs; rw [e]
    rw [List.filter_append, e1, List.filter_cons_of_neg (by simp [hn]), e2]
theorem right_ins {l : List TM} (h : RightT l) (x : TM) (hx : ∀ y ∈ l, y.name ≠ x.name) : RightT (insR x l) := by
  have hs := split_lt h x
  refine ⟨?_, ?_⟩
  · refine List.pairwise_append.2 ⟨h.sorted.filter _, List.pairwise_cons.2 ⟨fun y hy => ?_, h.sorted.filter _⟩, fun a ha b hb => ?_⟩
    · have h1 := List.mem_filter.1 hy
      exact lt_total (hx y h1.1) (by simpa using h1.2)
    · have h1 := List.mem_filter.1 ha
      rcases List.mem_cons.1 hb with rfl | hb
      · exact h1.2
      · have h2 := List.mem_filter.1 hb
        exact lt_trans h1.2 (lt_total (hx b h2.1) (by simpa using h2.2))
  · refine List.pairwise_append.2 ⟨h.names.filter _, List.pairwise_cons.2 ⟨fun y hy => ?_, h.names.filter _⟩, fun a ha b hb => ?_⟩
    · exact fun e => hx y (List.mem_filter.1 hy).1 e.symm
    · rcases List.mem_cons.1 hb with rfl | hb
      · exact hx a (List.mem_filter.1 ha).1
      · have h1 := List.mem_filter.1 ha
        have h2 := List.mem_filter.1 hb
        intro e
        have hab : ltT a b = true := lt_trans h1.2 (lt_total (hx b h2.1) (by simpa using h2.2))
        have hne : a ≠ b := fun e2 => by rw [e2, lt_irrefl] at hab; cases hab
        obtain ⟨i, hi, ei⟩ := List.getElem_of_mem h1.1
        obtain ⟨j, hj, ej⟩ := List.getElem_of_mem h2.1
        have hp := List.pairwise_iff_getElem.1 h.names
        rcases Nat.lt_trichotomy i j with h5 | h5 | h5
        · exact hp i j hi hj h5 (by rw [ei, ej, e])
        · subst h5
          exact hne (by rw [← ei, ← ej])
        · exact hp j i hj hi h5 (by rw [ei, ej, e])
theorem clear_right {l : List TM} (h : RightT l) (n : ByteArray) : RightT (clearR n l) := h.filter _
theorem set_right {l : List TM} (h : RightT l) (n : ByteArray) (t : Int) : RightT (setR n t l) :=
  right_ins (clear_right h n) _ (fun y hy => by simpa using (List.mem_filter.1 hy).2)
theorem ins_len (x : TM) (l : List TM) : (insR x l).length = l.length + 1 := by
  have h : (l.filter (ltT · x)).length + (l.filter (fun y => !ltT y x)).length = l.length := by
    induction l with
    | nil => rfl
    | cons a l ih =>
      cases ha : ltT a x <;> simp [List.filter_cons, ha] <;> omega
  unfold insR
  rw [List.length_append, List.length_cons]
  omega
theorem ins_mem {x y : TM} {l : List TM} : y ∈ insR x l ↔ y = x ∨ y ∈ l := by
  unfold insR
  simp only [List.mem_append, List.mem_cons, List.mem_filter, Bool.not_eq_true']
  cases ltT y x <;> simp [or_comm]
theorem clear_mem {n : ByteArray} {y : TM} {l : List TM} : y ∈ clearR n l ↔ y ∈ l ∧ y.name ≠ n := by
  simp [clearR]
theorem set_mem {n : ByteArray} {t : Int} {y : TM} {l : List TM} : y ∈ setR n t l ↔ y = ⟨n, t⟩ ∨ (y ∈ l ∧ y.name ≠ n) := by
  rw [setR, ins_mem, clear_mem]
theorem clear_len_le (n : ByteArray) (l : List TM) : (clearR n l).length ≤ l.length := List.length_filter_le _ _
theorem set_len_le (n : ByteArray) (t : Int) (l : List TM) : (setR n t l).length ≤ l.length + 1 := by
  rw [setR, ins_len]
  have := clear_len_le n l
  omega
/-- Is a name set? -/
def hasT (n : ByteArray) (l : List TM) : Bool := l.any (fun y => decide (y.name = n))
theorem has_place (n : ByteArray) (l : List TM) : placeT n l < 0 ↔ hasT n l = false := by
  rcases placeT_spec n l with ⟨h1, h2⟩ | ⟨k, h1, h2, h3, h4⟩
  · rw [h1]
    refine ⟨fun _ => ?_, fun _ => by omega⟩
    rw [hasT, List.any_eq_false]
    intro y hy
    obtain ⟨i, hi, rfl⟩ := List.getElem_of_mem hy
    simpa using h2 i hi
  · rw [h2]
    refine ⟨fun h => by omega, fun h => ?_⟩
    rw [hasT, List.any_eq_false] at h
    have := h l[k] (List.getElem_mem h1)
    simp [h3 h1] at this
theorem clear_len {n : ByteArray} {l : List TM} (h : hasT n l = true) : (clearR n l).length < l.length := by
  obtain ⟨y, hy, h2⟩ := List.any_eq_true.1 h
  have h3 : l.length = (l.filter (fun y => decide (y.name ≠ n))).length + (l.filter (fun y => !decide (y.name ≠ n))).length := by
    clear h hy h2
    induction l with
    | nil => rfl
    | cons a l ih => by_cases ha : a.name = n <;> simp [List.filter_cons, ha] at ih ⊢ <;> omega
  have h4 : 0 < (l.filter (fun y => !decide (y.name ≠ n))).length := List.length_pos_iff_exists_mem.2 ⟨y, List.mem_filter.2 ⟨hy, by simpa using h2⟩⟩
  unfold clearR
  omega

/-- Two that stand in order, of the same ones, are one. -/
theorem sorted_eq : ∀ {a b : List TM}, a.Pairwise (fun a b => ltT a b = true) → b.Pairwise (fun a b => ltT a b = true) → (∀ y, y ∈ a ↔ y ∈ b) → a = b
  | [], [], _, _, _ => rfl
  | [], y :: b, _, _, h => by have := (h y).2 (by simp); simp at this
  | x :: a, [], _, _, h => by have := (h x).1 (by simp); simp at this
  | x :: a, y :: b, ha, hb, h => by
    have ha2 := List.pairwise_cons.1 ha
    have hb2 := List.pairwise_cons.1 hb
    have e : x = y := by
      rcases List.mem_cons.1 ((h x).1 (by simp)) with e | h1
      · exact e
      · rcases List.mem_cons.1 ((h y).2 (by simp)) with e | h2
        · exact e.symm
        · have h3 := hb2.1 x h1
          have h4 := ha2.1 y h2
          rw [lt_asymm h3] at h4
          cases h4
    subst e
    rw [sorted_eq ha2.2 hb2.2 (fun z => ?_)]
    constructor
    · intro hz
      rcases List.mem_cons.1 ((h z).1 (List.mem_cons_of_mem _ hz)) with e | h1
      · subst e
        have := ha2.1 z hz
        rw [lt_irrefl] at this
        cases this
      · exact h1
    · intro hz
      rcases List.mem_cons.1 ((h z).2 (List.mem_cons_of_mem _ hz)) with e | h1
      · subst e
        have := hb2.1 z hz
        rw [lt_irrefl] at this
        cases this
      · exact h1

/-- What is due, and what is left. -/
def dueR (now : Int) (l : List TM) : List TM := l.filter (fun y => decide (y.at_ ≤ now))
def restR (now : Int) (l : List TM) : List TM := l.filter (fun y => !decide (y.at_ ≤ now))
theorem due_split {l : List TM} (h : RightT l) (now : Int) : l = dueR now l ++ restR now l :=
  split_by h.sorted _ (fun a b h1 h2 => by have := lt_at h1; simp only [decide_eq_true_eq] at h2 ⊢; omega)
theorem due_lo {l : List TM} (h : RightT l) (now : Int) (j : Nat) (hj : j < l.length) (hlt : j < (dueR now l).length) : l[j].at_ ≤ now := by
  have e1 : l[j]? = (dueR now l)[j]? := by
    conv => lhs; rw [due_split h now]
    exact List.getElem?_append_left hlt
  have hm : l[j] ∈ dueR now l := by
    rw [List.getElem?_eq_getElem hj] at e1
    exact List.mem_of_getElem? e1.symm
  simpa using (List.mem_filter.1 hm).2
theorem due_hi {l : List TM} (h : RightT l) (now : Int) (j : Nat) (hj : j < l.length) (hge : (dueR now l).length ≤ j) : now < l[j].at_ := by
  have e1 : l[j]? = (restR now l)[j - (dueR now l).length]? := by
    conv => lhs; rw [due_split h now]
    exact List.getElem?_append_right hge
  have hm : l[j] ∈ restR now l := by
    rw [List.getElem?_eq_getElem hj] at e1
    exact List.mem_of_getElem? e1.symm
  simpa using (List.mem_filter.1 hm).2
theorem due_take {l : List TM} (h : RightT l) (now : Int) : l.take (dueR now l).length = dueR now l := by
  conv => lhs; rw [due_split h now]
  rw [List.take_append_of_le_length (by rw [← due_split h now]; exact Nat.le_refl _), ← due_split h now]
  rw [List.take_of_length_le (Nat.le_refl _)]
theorem due_drop {l : List TM} (h : RightT l) (now : Int) : l.drop (dueR now l).length = restR now l := by
  have e := due_split h now
  generalize dueR now l = d at *
  generalize restR now l = r at *
  subst e
  exact List.drop_left' rfl
theorem due_right {l : List TM} (h : RightT l) (now : Int) : RightT (restR now l) := h.filter _
end Go.Proofs.Ytpadbkplknnopaa
