/-
  Views, plainly: neighbours, back and forth, and views that follow one another.
-/
import Derived.Test.YtapgjjfndbfnpaaDoorCvPlain2
import Derived.Test.YtapgjjfndbfnpaaDoorCvRight
namespace Go.Proofs.YtapgjjfndbfnpaaDoor.Vw

theorem behind_at {V : VW} (h : RightV V) {i : Nat} (hi : i < V.chain.length) : behindV V V.chain[i] = V.chain.getD (i + 1) 0 := by
  rw [behindV, placeV_at h hi, if_pos (by omega), atI, if_neg (by omega)]
  congr 1

theorem ahead_at {V : VW} (h : RightV V) {i : Nat} (hi : i + 1 < V.chain.length) : aheadV V V.chain[i + 1] = V.chain[i] := by
  rw [aheadV, placeV_at h hi, if_pos (by omega), atI, if_neg (by omega)]
  have : ((((i + 1 : Nat) : Int) - 1).toNat) = i := by omega
  rw [this, getD_lt (by omega)]

theorem ahead_head {V : VW} (h : RightV V) : aheadV V (headV V) = 0 := by
  have n1 := h.n1
  have hh : headV V = V.chain[0] := by rw [headV, if_pos (rightB_of h), getD_lt (by omega)]
  rw [hh, aheadV, placeV_at h (by omega), if_neg (by omega)]

theorem not_mem_zero {V : VW} (h : RightV V) : (0 : Int) ∉ V.chain := by
  intro hm
  have := h.list.cr 0 hm
  omega

theorem ahead_zero {V : VW} (h : RightV V) : aheadV V 0 = 0 := by
  rw [aheadV, placeV_no (not_mem_zero h), if_neg (by omega)]
theorem behind_zero {V : VW} (h : RightV V) : behindV V 0 = 0 := by
  rw [behindV, placeV_no (not_mem_zero h), if_neg (by omega)]

theorem head_getD {V : VW} (h : RightV V) : headV V = V.chain.getD 0 0 := by rw [headV, if_pos (rightB_of h)]

/-- A row's places: what is there, or 0 just at the end. -/
theorem chain_zero {V : VW} (h : RightV V) (i : Nat) : V.chain.getD i 0 = 0 ↔ V.chain.length ≤ i := by
  constructor
  · intro e
    rcases Nat.lt_or_ge i V.chain.length with hi | hi
    · rw [getD_lt hi] at e
      have := h.list.cr _ (List.getElem_mem hi)
      omega
    · exact hi
  · intro hi
    simp [hi]

theorem tail_at {V : VW} (h : RightV V) {i : Nat} (hi : i < V.chain.length) (hl : V.chain.getD (i + 1) 0 = 0) : tailV V = V.chain[i] := by
  have := (chain_zero h _).1 hl
  rw [tailV, if_pos (rightB_of h), show V.chain.length - 1 = i by omega, getD_lt hi]

/-- One round of the way through the neighbours. -/
theorem neigh_round {V : VW} (h : RightV V) (m : Nat) (hm : m < V.chain.length) (n : Int) (hn : n = V.chain.getD m 0) :
    ∃ k, behindV V n = k ∧ k = V.chain.getD (m + 1) 0 ∧ (k ≠ 0 → aheadV V k = n) ∧ (k = 0 → tailV V = n) := by
  refine ⟨_, rfl, ?_, ?_, ?_⟩
  · rw [hn, getD_lt hm, behind_at h hm]
  · have e : behindV V n = V.chain.getD (m + 1) 0 := by rw [hn, getD_lt hm, behind_at h hm]
    rw [e]
    intro hk
    have h2 : m + 1 < V.chain.length := by
      rcases Nat.lt_or_ge (m + 1) V.chain.length with h2 | h2
      · exact h2
      · exact absurd ((chain_zero h _).2 h2) hk
    rw [getD_lt h2, ahead_at h h2, hn, getD_lt hm]
  · have e : behindV V n = V.chain.getD (m + 1) 0 := by rw [hn, getD_lt hm, behind_at h hm]
    rw [e]
    intro hk
    rw [tail_at h hm hk, hn, getD_lt hm]

/-! back and forth -/
theorem back_plain {V : VW} {x : Int} (hp : 0 ≤ placeV V x) (hn : 2 ≤ V.chain.length) (he : V.epoch ≤ 274877906942) :
    ∃ i : Nat, ∃ hi : i < V.chain.length, placeV V x = i ∧ V.chain[i] = x ∧ ∃ A Bv : VW, withoutV V x = (A, 0) ∧ withV A x 7 = (Bv, 0) ∧ Bv.epoch = V.epoch + 2 ∧ tailV Bv = x ∧ bootV Bv x = 7 ∧
      Bv.chain = V.chain.eraseIdx i ++ [x] ∧ Bv.since = V.since.eraseIdx i ++ [V.epoch + 2] ∧ Bv.boot = V.boot.eraseIdx i ++ [7] ∧ Bv.chain.length = V.chain.length ∧ SmallV A ∧ SmallV Bv := by
  obtain ⟨hr, i, hi, h1, h2⟩ := placeV_lt hp
  have L := hr.list
  have n2 := L.n2
  have s := L.s
  have b := L.b
  have e1 := L.e1
  have hA := erase_right hr hi (by omega) (by omega)
  have hc := L.cr x (h2 ▸ List.getElem_mem hi)
  have hno : x ∉ V.chain.eraseIdx i := by
    have hnd := L.nd
    intro hm
    rw [List.eraseIdx_eq_take_drop_succ] at hm
    rw [List.nodup_iff_pairwise_ne, List.pairwise_iff_getElem] at hnd
    rcases List.mem_append.1 hm with hm | hm
    · obtain ⟨j, hj, e⟩ := List.mem_take_iff_getElem.1 hm
      exact hnd j i (by omega) hi (by omega) (e.trans h2.symm)
    · obtain ⟨j, hj, e⟩ := List.mem_drop_iff_getElem.1 hm
      exact hnd i (i + 1 + j) hi (by omega) (by omega) (h2.trans e.symm)
  have hl : (V.chain.eraseIdx i).length = V.chain.length - 1 := by rw [List.length_eraseIdx, if_pos hi]
  have hls : (V.since.eraseIdx i).length = V.since.length - 1 := by rw [List.length_eraseIdx, if_pos (by omega)]
  have hlb : (V.boot.eraseIdx i).length = V.boot.length - 1 := by rw [List.length_eraseIdx, if_pos (by omega)]
  have hB := snoc_right (x := x) (b := 7) hA hno hc.1 hc.2 (by omega) (by omega) (by simp only; omega) (by simp only; omega)
  refine ⟨i, hi, h1, h2, _, _, withoutV_ok hr h1 (by omega) (by omega), withV_ok hA hno hc.1 hc.2 (by omega) (by omega) (by simp only; omega) (by simp only; omega), ?_, tail_snoc hB rfl, boot_snoc hB rfl rfl, rfl, ?_, rfl, ?_, ?_, ?_⟩
  · simp only; omega
  · simp only; congr 2; omega
  · simp only [List.length_append, List.length_singleton]; omega
  · refine ⟨?_, ?_, ?_⟩ <;> simp only <;> omega
  · refine ⟨?_, ?_, ?_⟩ <;> simp only [List.length_append, List.length_singleton] <;> omega

/-- The rows but for one place: what stands at which place. -/
theorem erase_get (l : List Int) (i j : Nat) (y : Int) (hj : j < l.length) (hi : i < l.length) (hne : j ≠ i) :
    (l.eraseIdx i ++ [y]).getD (if j < i then j else j - 1) 0 = l[j] := by
  have hl : (l.eraseIdx i).length = l.length - 1 := by rw [List.length_eraseIdx, if_pos hi]
  split
  · rename_i h
    rw [List.getD_eq_getElem?_getD, List.getElem?_append_left (by omega), List.getElem?_eraseIdx, if_pos h]
    simp [hj]
  · rename_i h
    rw [List.getD_eq_getElem?_getD, List.getElem?_append_left (by omega), List.getElem?_eraseIdx, if_neg (by omega), show j - 1 + 1 = j by omega]
    simp [hj]
/-- What the walk looks at between two views that follow one another. -/
structure StepV (V W : VW) (x : Int) (Q : Nat → Int) : Prop where
  r : RightV W
  e : W.epoch = V.epoch + 1
  q0 : -1 ≤ Q 0
  at_ : ∀ k, (h : k < V.chain.length) → (placeV W V.chain[k] < 0 ∧ V.chain[k] = x ∧ Q k ≤ Q (k + 1)) ∨
    (0 ≤ placeV W V.chain[k] ∧ Q k < placeV W V.chain[k] ∧ placeV W V.chain[k] ≤ Q (k + 1) ∧ sinceV W V.chain[k] = V.since.getD k 0 ∧ bootV W V.chain[k] = V.boot.getD k 0)

theorem since_at {V : VW} (h : RightV V) {i : Nat} (hi : i < V.chain.length) {x : Int} (e : V.chain[i] = x) : sinceV V x = V.since.getD i 0 := by
  rw [← e, sinceV, placeV_at h hi, if_pos (by omega), atI, if_neg (by omega), Int.toNat_natCast]
theorem boot_at {V : VW} (h : RightV V) {i : Nat} (hi : i < V.chain.length) {x : Int} (e : V.chain[i] = x) : bootV V x = V.boot.getD i 0 := by
  rw [← e, bootV, placeV_at h hi, if_pos (by omega), atI, if_neg (by omega), Int.toNat_natCast]
theorem place_at {V : VW} (h : RightV V) {i : Nat} (hi : i < V.chain.length) {x : Int} (e : V.chain[i] = x) : placeV V x = i := by
  rw [← e, placeV_at h hi]

theorem with_step {V : VW} {x b : Int} (h : RightV V) (h0 : (withV V x b).2 = 0) :
    ∃ W, withV V x b = (W, 0) ∧ StepV V W x (fun k => (k : Int) - 1) ∧ tailV W = x ∧ sinceV W x = W.epoch ∧ bootV W x = b ∧ W.chain = V.chain ++ [x] ∧ SmallV W := by
  by_cases c1 : rightB V = false ∨ x < 1 ∨ 100 < x ∨ b < 0 ∨ 274877906944 < b
  · rw [withV, if_pos c1] at h0; cases h0
  by_cases c2 : 0 ≤ placeV V x
  · rw [withV, if_neg c1, if_pos c2] at h0; cases h0
  by_cases c3 : V.chain.length = 6 ∨ V.epoch = 274877906944
  · rw [withV, if_neg c1, if_neg c2, if_pos c3] at h0; cases h0
  have L := h.list
  have hs := L.s
  have hb := L.b
  have n2 := L.n2
  have hx : x ∉ V.chain := by
    rcases placeV_spec V x with ⟨_, h2⟩ | ⟨_, i, hi, h1, _⟩
    · exact h2 h
    · omega
  have hW := snoc_right (b := b) h hx (by omega) (by omega) (by omega) (by omega) (by omega) (by omega)
  refine ⟨_, by rw [withV, if_neg c1, if_neg c2, if_neg c3], ⟨hW, rfl, by simp, fun k hk => .inr ?_⟩, tail_snoc hW rfl, since_snoc hW rfl rfl, boot_snoc hW rfl rfl, rfl, ?_⟩
  · have hk' : k < (V.chain ++ [x]).length := by rw [List.length_append]; omega
    have e : (V.chain ++ [x])[k] = V.chain[k] := List.getElem_append_left hk
    rw [place_at hW hk' e, since_at hW hk' e, boot_at hW hk' e]
    refine ⟨by omega, by omega, by omega, ?_, ?_⟩
    · simp only
      rw [List.getD_eq_getElem?_getD, List.getElem?_append_left (by omega), ← List.getD_eq_getElem?_getD]
    · simp only
      rw [List.getD_eq_getElem?_getD, List.getElem?_append_left (by omega), ← List.getD_eq_getElem?_getD]
  · refine ⟨?_, ?_, ?_⟩ <;> simp only [List.length_append, List.length_singleton] <;> omega

theorem nodup_erase {l : List Int} {i : Nat} (hnd : l.Nodup) (hi : i < l.length) : l[i] ∉ l.eraseIdx i := by
  intro hm
  rw [List.eraseIdx_eq_take_drop_succ] at hm
  rw [List.nodup_iff_pairwise_ne, List.pairwise_iff_getElem] at hnd
  rcases List.mem_append.1 hm with hm | hm
  · obtain ⟨j, hj, e⟩ := List.mem_take_iff_getElem.1 hm
    exact hnd j i (by omega) hi (by omega) e
  · obtain ⟨j, hj, e⟩ := List.mem_drop_iff_getElem.1 hm
    exact hnd i (i + 1 + j) hi (by omega) (by omega) e.symm

theorem erase_getD (l : List Int) (i j : Nat) (hne : j ≠ i) :
    (l.eraseIdx i).getD (if j < i then j else j - 1) 0 = l.getD j 0 := by
  split
  · rename_i h
    rw [List.getD_eq_getElem?_getD, List.getElem?_eraseIdx, if_pos h, List.getD_eq_getElem?_getD]
  · rename_i h
    rw [List.getD_eq_getElem?_getD, List.getElem?_eraseIdx, if_neg (by omega), show j - 1 + 1 = j by omega, List.getD_eq_getElem?_getD]

theorem without_step {V : VW} {x : Int} (h : RightV V) (h0 : (withoutV V x).2 = 0) :
    ∃ W Q, withoutV V x = (W, 0) ∧ StepV V W x Q ∧ placeV W x = -1 ∧ x ∈ V.chain ∧ SmallV W ∧ 0 ≤ placeV V x := by
  have hr := rightB_of h
  have c1 : ¬ (rightB V = false) := by rw [hr]; decide
  by_cases c2 : placeV V x < 0
  · rw [withoutV, if_neg c1, if_pos c2] at h0; cases h0
  by_cases c3 : V.chain.length = 1
  · rw [withoutV, if_neg c1, if_neg c2, if_pos c3] at h0; cases h0
  by_cases c4 : V.epoch = 274877906944
  · rw [withoutV, if_neg c1, if_neg c2, if_neg c3, if_pos c4] at h0; cases h0
  obtain ⟨_, i, hi, h1, h2⟩ := placeV_lt (V := V) (x := x) (by omega)
  have L := h.list
  have hs := L.s
  have hb := L.b
  have n2 := L.n2
  have hW := erase_right h hi c3 c4
  have hl : (V.chain.eraseIdx i).length = V.chain.length - 1 := by rw [List.length_eraseIdx, if_pos hi]
  refine ⟨_, fun k => if k ≤ i then (k : Int) - 1 else (k : Int) - 2, withoutV_ok h h1 c3 c4, ⟨hW, rfl, by simp, fun k hk => ?_⟩, ?_, h2 ▸ List.getElem_mem hi, ?_, by omega⟩
  · by_cases e : k = i
    · subst e
      left
      refine ⟨?_, h2, by split <;> split <;> omega⟩
      rw [placeV_no (by exact nodup_erase L.nd hi)]
      omega
    · right
      have hk' : (if k < i then k else k - 1) < (V.chain.eraseIdx i).length := by split <;> omega
      have e1 : (V.chain.eraseIdx i)[if k < i then k else k - 1] = V.chain[k] := by
        have := erase_getD V.chain i k e
        rw [getD_lt hk', getD_lt hk] at this
        exact this
      rw [place_at hW hk' e1, since_at hW hk' e1, boot_at hW hk' e1]
      refine ⟨by omega, ?_, ?_, erase_getD V.since i k e, erase_getD V.boot i k e⟩
      · split <;> split <;> omega
      · split <;> split <;> omega
  · rw [← h2]
    exact placeV_no (nodup_erase L.nd hi)
  · have := List.length_eraseIdx_le V.since i
    have := List.length_eraseIdx_le V.boot i
    refine ⟨?_, ?_, ?_⟩ <;> simp only <;> omega
end Go.Proofs.YtapgjjfndbfnpaaDoor.Vw
