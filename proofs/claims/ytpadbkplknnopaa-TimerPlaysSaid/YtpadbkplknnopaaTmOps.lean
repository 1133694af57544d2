/-
  What the calls of timer do, by the plain laws.
-/
import Derived.Test.YtpadbkplknnopaaTmDue
namespace Go.Proofs.Ytpadbkplknnopaa
open Go.RowKit

/-- Timers of which the address is plain. -/
def IsTq (B : Nat) (w : World) (v : Value) (l : List TM) : Prop := ∃ lv, v = .agg #[lv] ∧ IsTimers B w lv l ∧ ((lv = .slice none 0 0 ∧ l = []) ∨ ∃ b off cap, lv = .slice (some ⟨b, off, none⟩) l.length cap)
theorem IsTq.tms {B : Nat} {w : World} {v : Value} {l : List TM} (h : IsTq B w v l) : IsTms B w v l := by
  obtain ⟨lv, rfl, h1, _⟩ := h
  exact ⟨lv, rfl, h1⟩
theorem IsTq.keep {B B' : Nat} {w w' : World} {v : Value} {l : List TM} (h : IsTq B w v l) (hb : Below B' w w') (hB : B ≤ B') : IsTq B w' v l := by
  obtain ⟨lv, rfl, h1, h2⟩ := h
  exact ⟨lv, rfl, h1.keep hb hB, h2⟩
theorem IsTq.up {B B' : Nat} {w : World} {v : Value} {l : List TM} (h : IsTq B w v l) (hB : B ≤ B') : IsTq B' w v l := by
  obtain ⟨lv, rfl, h1, h2⟩ := h
  exact ⟨lv, rfl, h1.up hB, h2⟩
theorem tq_nil (B : Nat) (w : World) : IsTq B w (.agg #[.slice none 0 0]) [] := ⟨_, rfl, timers_nil _ _, .inl ⟨rfl, rfl⟩⟩
theorem IsTq.form {B : Nat} {w : World} {v : Value} {l : List TM} (h : IsTq B w v l) : ∃ a cap, v = .agg #[.slice a l.length cap] := by
  obtain ⟨lv, rfl, h1, _⟩ := h
  obtain ⟨a, cap, rfl⟩ := h1.form
  exact ⟨a, cap, rfl⟩
theorem OwnT.tq {w : World} {b : Nat} {v : Value} {l : List TM} (h : OwnT w b v l) (hz : l.length ≤ 1000) : IsTq w.heap.size w (.agg #[v]) l := by
  refine ⟨v, rfl, h.timers hz, ?_⟩
  rcases h.2 with ⟨rfl, h0⟩ | ⟨g, cap, cur, rfl, _⟩
  · exact .inl ⟨rfl, List.eq_nil_of_length_eq_zero h0⟩
  · exact .inr ⟨g, 0, cap, rfl⟩
/-- What Set makes of it: nothing, where it is full. -/
def fullT (n : ByteArray) (l : List TM) : Bool := decide (64 ≤ l.length) && !hasT n l
def setOf (n : ByteArray) (t : Int) (l : List TM) : List TM := if fullT n l then [] else setR n t l
def setErr (n : ByteArray) (l : List TM) : Int := if fullT n l then 4 else 0
theorem set_len64 {n : ByteArray} {t : Int} {l : List TM} (hl : l.length ≤ 64) (hf : fullT n l = false) : (setR n t l).length ≤ 64 := by
  rw [setR, ins_len]
  by_cases h : hasT n l = true
  · have := clear_len h
    omega
  · have h2 := clear_len_le n l
    simp only [fullT, Bool.and_eq_false_iff, decide_eq_false_iff_not, Bool.not_eq_false'] at hf
    rcases hf with hf | hf
    · omega
    · exact absurd hf h
theorem setOf_right {n : ByteArray} {t : Int} {l : List TM} (h : RightT l) : RightT (setOf n t l) := by
  unfold setOf
  split
  · exact right_nil
  · exact set_right h n t
theorem setOf_len {n : ByteArray} {t : Int} {l : List TM} (hl : l.length ≤ 64) : (setOf n t l).length ≤ 64 := by
  unfold setOf
  split
  · simp
  · exact set_len64 hl (by simpa using ‹¬ fullT n l = true›)

theorem ownt_nil (w : World) (b : Nat) : OwnT w b (.slice none 0 0) [] := ⟨rfl, .inl ⟨rfl, rfl⟩⟩
theorem set_any {b : Nat} {v : Value} {l : List TM} (n : ByteArray) (t : Int) (hr : RightT l) (hl : l.length ≤ 64) {w : World} (h : OwnT w b v l) :
    Calls Try.prog 9 #[.agg #[v], .string n, .int .i64 t] w fun r w' => ∃ a cap, r = .returned (.tuple #[.agg #[.slice a (setOf n t l).length cap], .int .i64 (setErr n l)]) ∧ OwnT w' w.heap.size (.slice a (setOf n t l).length cap) (setOf n t l) ∧ Below w.heap.size w w' := by
  by_cases hf : fullT n l = true
  · have h1 := hf
    simp only [fullT, Bool.and_eq_true, decide_eq_true_eq, Bool.not_eq_true'] at h1
    have e1 : setOf n t l = [] := by rw [setOf, if_pos hf]
    have e2 : setErr n l = 4 := by rw [setErr, if_pos hf]
    refine (set_full w.heap.size _ l n t (by omega) ((has_place n l).2 h1.2) w (h.tq (by omega)).tms (Nat.le_refl _)).mono ?_
    rintro r w' ⟨rfl, hb⟩
    rw [e1, e2]
    exact ⟨none, 0, rfl, ownt_nil _ _, hb⟩
  · have e1 : setOf n t l = insT (posT ⟨n, t⟩ (clearT n l)) ⟨n, t⟩ (clearT n l) := by
      rw [setOf, if_neg hf, clear_eq hr, insT_pos (clear_right hr n), setR]
    have e2 : setErr n l = 0 := by rw [setErr, if_neg hf]
    have hgo : l.length < 64 ∨ 0 ≤ placeT n l := by
      have h1 : fullT n l = false := by simpa using hf
      simp only [fullT, Bool.and_eq_false_iff, decide_eq_false_iff_not, Bool.not_eq_false'] at h1
      rcases h1 with h1 | h1
      · exact .inl (by omega)
      · refine .inr ?_
        have h2 : ¬ placeT n l < 0 := fun h3 => by rw [(has_place n l).1 h3] at h1; cases h1
        omega
    have hcr : RightT (clearT n l) := by rw [clear_eq hr]; exact clear_right hr n
    refine (set_goes w.heap.size _ l n t (by omega) (posT ⟨n, t⟩ (clearT n l)) hgo (posT_le _ _) (fun j hj hlt => pos_lo hcr _ j hj hlt) (fun j hj hge => pos_hi hcr _ j hj hge) w (h.tq (by omega)).tms (Nat.le_refl _)).mono ?_
    rintro r w' ⟨v', rfl, ho, hb⟩
    rw [← e1] at ho
    obtain ⟨a, cap, rfl⟩ := ho.form
    rw [e2]
    exact ⟨a, cap, rfl, ho, hb⟩

theorem clear_ok {b : Nat} {v : Value} {l : List TM} (n : ByteArray) (hr : RightT l) (hl : l.length ≤ 64) {w : World} (h : OwnT w b v l) :
    Calls Try.prog 16 #[.agg #[v], .string n] w fun r w' => ∃ a cap, r = .returned (.agg #[.slice a (clearR n l).length cap]) ∧ OwnT w' w.heap.size (.slice a (clearR n l).length cap) (clearR n l) ∧ Below w.heap.size w w' := by
  refine (clear_any w.heap.size _ l n (by omega) w (h.tq (by omega)).tms (Nat.le_refl _)).mono ?_
  rintro r w' ⟨v', rfl, ho, hb⟩
  rw [clear_eq hr] at ho
  obtain ⟨a, cap, rfl⟩ := ho.form
  exact ⟨a, cap, rfl, ho, hb⟩

theorem due_ok {b : Nat} {v : Value} {l : List TM} (now : Int) (hr : RightT l) (hl : l.length ≤ 64) {w : World} (h : OwnT w b v l) :
    Calls Try.prog 13 #[.agg #[v], .int .i64 now] w fun r w' => ∃ a cap na nc, r = .returned (.tuple #[.agg #[.slice a (restR now l).length cap], .slice na (dueR now l).length nc]) ∧ OwnT w' w.heap.size (.slice a (restR now l).length cap) (restR now l) ∧
      OwnS w' w.heap.size (.slice na (dueR now l).length nc) ((dueR now l).map (·.name)) ∧ Below w.heap.size w w' := by
  obtain ⟨lv, he, h1, h2⟩ := h.tq (by omega)
  simp only [Value.agg.injEq, Array.mk.injEq, List.cons.injEq, and_true] at he
  subst he
  rcases h2 with ⟨rfl, rfl⟩ | ⟨b, off, cap, rfl⟩
  · refine (due_none now w).mono ?_
    rintro r w' ⟨v', nv, rfl, ho, hn, hb⟩
    obtain ⟨a, cap, rfl⟩ := ho.form
    obtain ⟨na, nc, rfl⟩ := hn.form
    exact ⟨a, cap, na, nc, rfl, ho, hn, hb⟩
  · refine (due_some w.heap.size cap b off l now (dueR now l).length (List.length_filter_le _ _) (fun j hj hlt => due_lo hr now j hj hlt) (fun hk => due_hi hr now _ hk (Nat.le_refl _)) (by omega) w h1 (Nat.le_refl _)).mono ?_
    rintro r w' ⟨v', nv, rfl, ho, hn, hb⟩
    rw [due_drop hr] at ho
    rw [due_take hr] at hn
    obtain ⟨a, cap, rfl⟩ := ho.form
    obtain ⟨na, nc, rfl⟩ := hn.form
    rw [List.length_map] at hn ⊢
    exact ⟨a, cap, na, nc, rfl, ho, hn, hb⟩
theorem next_ok {b : Nat} {v : Value} {l : List TM} (hl : l.length ≤ 64) {w : World} (h : OwnT w b v l) :
    Calls Try.prog 22 #[.agg #[v]] w fun r w' => r = .returned (.int .i64 (nextT l)) ∧ Below w.heap.size w w' :=
  next_any w.heap.size _ l _ rfl w (h.tq (by omega)).tms (Nat.le_refl _)
end Go.Proofs.Ytpadbkplknnopaa
