/-
  The plain law of bucketlinelaw12.TimerOnce: what was set is there once, at its time.
-/
import Derived.Test.YtpadbkplknnopaaTmOps
namespace Go.Proofs.Ytpadbkplknnopaa
set_option linter.unusedSimpArgs false
set_option linter.unusedVariables false
open Go.RowKit

def cntT (n : ByteArray) (l : List ByteArray) : Nat := (l.filter (fun y => y.toList == n.toList)).length
theorem cnt_take {n : ByteArray} {l : List ByteArray} {k : Nat} (hk : k < l.length) : cntT n (l.take (k + 1)) = if l[k].toList == n.toList then cntT n (l.take k) + 1 else cntT n (l.take k) := by
  unfold cntT
  rw [List.take_add_one, List.getElem?_eq_getElem hk, Option.toList_some, List.filter_append, List.length_append]
  by_cases h : (l[k].toList == n.toList) = true
  · rw [if_pos h, List.filter_cons, if_pos h]
    rfl
  · rw [if_neg h, List.filter_cons, if_neg h]
    rfl
theorem name_iff {a n : ByteArray} : (a.toList == n.toList) = decide (a = n) := by
  by_cases h : a = n
  · subst h
    simp
  · have h2 : ¬ a.toList = n.toList := fun e => h (bytes_eq (beq_iff_eq.2 e))
    rw [decide_eq_false h]
    exact beq_eq_false_iff_ne.2 h2
theorem only_one {n : ByteArray} {t : Int} {l : List TM} (h : RightT l) : (setR n t l).filter (fun y => decide (y.name = n)) = [⟨n, t⟩] := by
  have hr := set_right h n t
  have hall : ∀ y ∈ (setR n t l).filter (fun y => decide (y.name = n)), y = ⟨n, t⟩ := by
    intro y hy
    obtain ⟨h1, h2⟩ := List.mem_filter.1 hy
    rcases set_mem.1 h1 with h3 | ⟨_, h4⟩
    · exact h3
    · exact absurd (of_decide_eq_true h2) h4
  have hin : (⟨n, t⟩ : TM) ∈ (setR n t l).filter (fun y => decide (y.name = n)) := List.mem_filter.2 ⟨set_mem.2 (.inl rfl), by simp⟩
  have hp := hr.names.filter (fun y => decide (y.name = n))
  generalize (setR n t l).filter (fun y => decide (y.name = n)) = F at *
  match F with
  | [] => simp at hin
  | [x] => rw [hall x (by simp)]
  | x :: y :: F =>
    have h1 := hall x (by simp)
    have h2 := hall y (by simp)
    subst h1
    subst h2
    simp at hp
theorem once_many {n : ByteArray} {t now : Int} {l : List TM} (h : RightT l) : cntT n ((dueR now (setR n t l)).map (·.name)) = if t ≤ now then 1 else 0 := by
  have e := only_one (n := n) (t := t) h
  have h1 : cntT n ((dueR now (setR n t l)).map (·.name)) = (((setR n t l).filter (fun y => decide (y.name = n))).filter (fun y => decide (y.at_ ≤ now))).length := by
    unfold cntT dueR
    rw [List.filter_map, List.length_map, List.filter_filter, List.filter_filter]
    congr 1
    apply List.filter_congr
    intro y _
    simp only [Function.comp, name_iff]
    rw [Bool.and_comm]
  rw [h1, e]
  by_cases ht : t ≤ now
  · rw [if_pos ht, List.filter_cons_of_pos (by simpa using ht)]
    rfl
  · rw [if_neg ht, List.filter_cons_of_neg (by simpa using ht)]
    rfl
theorem has_iff {n : ByteArray} {l : List TM} : hasT n l = true ↔ ∃ y ∈ l, y.name = n := by
  unfold hasT
  simp
theorem once_there {n : ByteArray} {t now : Int} {l : List TM} : hasT n (restR now (setR n t l)) = decide (now < t) := by
  by_cases ht : now < t
  · rw [decide_eq_true ht]
    refine has_iff.2 ⟨⟨n, t⟩, List.mem_filter.2 ⟨set_mem.2 (.inl rfl), by simpa using ht⟩, rfl⟩
  · rw [decide_eq_false ht]
    cases hh : hasT n (restR now (setR n t l)) with
    | false => rfl
    | true =>
      obtain ⟨y, hy, hn⟩ := has_iff.1 hh
      obtain ⟨h1, h2⟩ := List.mem_filter.1 hy
      rcases set_mem.1 h1 with rfl | ⟨_, h4⟩
      · simp at h2
        omega
      · exact absurd hn h4
theorem once_gone {n : ByteArray} {l : List TM} : hasT n (clearR n l) = false := by
  cases hh : hasT n (clearR n l) with
  | false => rfl
  | true =>
    obtain ⟨y, hy, hn⟩ := has_iff.1 hh
    exact absurd hn (clear_mem.1 hy).2
theorem once_again {now : Int} {l : List TM} : dueR now (restR now l) = [] := by
  unfold dueR restR
  rw [List.filter_filter]
  apply List.filter_eq_nil_iff.2
  intro y _
  simp
theorem once_len {now : Int} {l : List TM} (h : RightT l) : (restR now l).length + (dueR now l).length = l.length := by
  conv => rhs; rw [due_split h now]
  rw [List.length_append]
  omega
theorem once_next {now : Int} {l : List TM} (hne : (restR now l).length ≠ 0) : now < nextT (restR now l) := by
  have hall : ∀ y ∈ restR now l, now < y.at_ := by
    intro y hy
    have := (List.mem_filter.1 hy).2
    simp at this
    omega
  generalize restR now l = r at *
  match r with
  | [] => simp at hne
  | x :: r => exact hall x (by simp)

theorem at_ok {b : Nat} {v : Value} {l : List TM} (n : ByteArray) (hl : l.length ≤ 64) {w : World} (h : OwnT w b v l) :
    Calls Try.prog 19 #[.agg #[v], .string n] w fun r w' => ∃ x, r = .returned (.tuple #[.int .i64 x, .bool (hasT n l)]) ∧ Below w.heap.size w w' := by
  by_cases hp : 0 ≤ placeT n l
  · have hh : hasT n l = true := by
      cases hh : hasT n l with
      | true => rfl
      | false => have := (has_place n l).2 hh; omega
    rw [hh]
    exact (at_any w.heap.size _ l n _ true (by rw [if_pos hp]) w (h.tq (by omega)).tms (Nat.le_refl _)).mono (fun r w' h => ⟨_, h.1, h.2⟩)
  · have hh : hasT n l = false := (has_place n l).1 (by omega)
    rw [hh]
    exact (at_any w.heap.size _ l n _ false (by rw [if_neg hp]) w (h.tq (by omega)).tms (Nat.le_refl _)).mono (fun r w' h => ⟨_, h.1, h.2⟩)
end Go.Proofs.Ytpadbkplknnopaa
