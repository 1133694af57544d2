/-
  What was put is taken, what is taken was put: plainly, of batches.
-/
import Derived.Test.YtflojipkgaocnaaGreatDoorEvBack
namespace Go.Proofs.YtflojipkgaocnaaGreatDoor
open Go.RowKit

theorem decode_four (s : ByteArray) (p : Nat) : (Utf8.decode s p).2 ≤ 4 := by
  unfold Utf8.decode
  simp only
  repeat' split
  all_goals simp
theorem nameGo_size : ∀ (k : Nat) (s : ByteArray) (p : Nat) (any : Bool), nameGo s k p any = true → s.size ≤ p + 4 * k
  | 0, s, p, any, h => by
    rw [nameGo] at h
    by_cases hp : p < s.size
    · rw [if_pos hp] at h; cases h
    · omega
  | k + 1, s, p, any, h => by
    rw [nameGo] at h
    by_cases hp : p < s.size
    · rw [if_pos hp] at h
      by_cases hn : namedR (Utf8.decode s p).1 = false ∨ wrongR (Utf8.decode s p) = true
      · rw [if_pos hn] at h; cases h
      · rw [if_neg hn] at h
        have h1 := nameGo_size k s _ true h
        have h2 := decode_four s p
        omega
    · omega
theorem nameB_size {s : ByteArray} (h : nameB s = true) : s.size ≤ 128 := by
  have := nameGo_size 32 s 0 false h
  omega
theorem rightE_size {e : EV} (h : rightE e = true) : e.kind.size ≤ 200 ∧ e.data.size ≤ 200 := by
  unfold rightE at h
  simp only [Bool.and_eq_true, decide_eq_true_eq] at h
  exact ⟨Nat.le_trans (nameB_size h.2) (by omega), h.1⟩
theorem fits_sizes {b : BW} (h : fitsB b = 0) : b.stream.size ≤ 128 ∧ ∀ v ∈ b.events, v.kind.size ≤ 200 ∧ v.data.size ≤ 200 := by
  obtain ⟨h1, h2, h3⟩ := fits0' h
  refine ⟨nameB_size (wrong_not h1).1, fun v hv => rightE_size ?_⟩
  have := List.any_eq_false.1 h3 v hv
  simpa using this
theorem fits_light {b : BW} (h : fitsB b = 0) : LightB b := by
  obtain ⟨h1, h2⟩ := fits_sizes h
  exact ⟨by omega, by have := (fits0' h).2.1; omega, fun v hv => ⟨by have := (h2 v hv).1; omega, by have := (h2 v hv).2; omega⟩⟩

theorem bodyL_append (l m : List EV) : bodyL (l ++ m) = bodyL l ++ bodyL m := by simp [bodyL]

theorem raw_put {b : BW} (h : fitsB b = 0) (m : List UInt8) : rawB ((putB b).data.toList ++ m) = (b, m, 0) := by
  obtain ⟨h1, h2, _⟩ := fits0' h
  obtain ⟨_, a1, a2, a3, a4, a5⟩ := wrong_not h1
  obtain ⟨s1, s2⟩ := fits_sizes h
  have k1 : rdName ((putB b).data.toList ++ m) 0 = (b.stream.data.toList, putN (zig (clampS b.expect)) ++ (putN (clampN b.session) ++ (putN (clampN b.seq) ++ (putN (clampN b.events.length) ++ (bodyL b.events ++ m)))), 0) := by
    rw [putB_list h, headB_list]
    simp only [List.append_assoc]
    exact rdName_put (by rw [size_listE]; omega)
  have k2 := rdSign_put (m := putN (clampN b.session) ++ (putN (clampN b.seq) ++ (putN (clampN b.events.length) ++ (bodyL b.events ++ m)))) a1 a2
  have k3 := rdNum_put (m := putN (clampN b.seq) ++ (putN (clampN b.events.length) ++ (bodyL b.events ++ m))) (clampN_le b.session)
  have k4 := rdNum_put (m := putN (clampN b.events.length) ++ (bodyL b.events ++ m)) (clampN_le b.seq)
  have k5 := rdNum_put (m := bodyL b.events ++ m) (clampN_le b.events.length)
  have k6 := rdEvents_put (m := m) s2
  have e5 : clampN (b.events.length : Int) = b.events.length := clampN_len (by unfold maxNum; omega)
  simp only [rawB, k1, k2, k3, k4, k5]
  rw [e5, if_neg (by omega), k6]
  simp only
  rw [clampN_in a3.1 a3.2, clampN_in a4.1 a4.2]
  rfl
theorem raw_short {b : BW} (h : fitsB b = 0) : (rawB (putB b).data.toList.dropLast).2.2 = 3 := by
  obtain ⟨h1, h2, _⟩ := fits0' h
  obtain ⟨_, a1, a2, a3, a4, a5⟩ := wrong_not h1
  obtain ⟨s1, s2⟩ := fits_sizes h
  have hne : b.events ≠ [] := by intro e; rw [e] at a5; simp at a5
  have k1 : rdName (putB b).data.toList.dropLast 0 = (b.stream.data.toList, putN (zig (clampS b.expect)) ++ (putN (clampN b.session) ++ (putN (clampN b.seq) ++ (putN (clampN b.events.length) ++ (bodyL b.events).dropLast))), 0) := by
    rw [putB_list h, List.dropLast_append_of_ne_nil (bodyL_ne hne), headB_list]
    simp only [List.append_assoc]
    exact rdName_put (by rw [size_listE]; omega)
  have k2 := rdSign_put (m := putN (clampN b.session) ++ (putN (clampN b.seq) ++ (putN (clampN b.events.length) ++ (bodyL b.events).dropLast))) a1 a2
  have k3 := rdNum_put (m := putN (clampN b.seq) ++ (putN (clampN b.events.length) ++ (bodyL b.events).dropLast)) (clampN_le b.session)
  have k4 := rdNum_put (m := putN (clampN b.events.length) ++ (bodyL b.events).dropLast) (clampN_le b.seq)
  have k5 := rdNum_put (m := (bodyL b.events).dropLast) (clampN_le b.events.length)
  have k6 := rdEvents_short hne s2
  have e5 : clampN (b.events.length : Int) = b.events.length := clampN_len (by unfold maxNum; omega)
  simp only [rawB, k1, k2, k3, k4, k5]
  rw [e5, if_neg (by omega), k6]
theorem takeB_put {b : BW} (h : fitsB b = 0) (m : List UInt8) : takeB ((putB b).data.toList ++ m) = (b, m, 0) := by
  unfold takeB
  rw [raw_put h m]
  simp only
  rw [h]
  simp
theorem takeB_short {b : BW} (h : fitsB b = 0) : (takeB (putB b).data.toList.dropLast).2.2 = 3 := by
  unfold takeB
  rw [raw_short h]
  unfold rdNote
  simp

/-- What is read, where nothing is wrong. -/
theorem raw_ok {l : List UInt8} (h : (rawB l).2.2 = 0) : l = (headB (rawB l).1).data.toList ++ bodyL (rawB l).1.events ++ (rawB l).2.1 := by
  obtain ⟨⟨t1, l1, e1⟩, h1⟩ : ∃ x, rdName l 0 = x := ⟨_, rfl⟩
  obtain ⟨⟨x, l2, e2⟩, h2⟩ : ∃ x, rdSign l1 e1 = x := ⟨_, rfl⟩
  obtain ⟨⟨y, l3, e3⟩, h3⟩ : ∃ x, rdNum l2 e2 = x := ⟨_, rfl⟩
  obtain ⟨⟨z, l4, e4⟩, h4⟩ : ∃ x, rdNum l3 e3 = x := ⟨_, rfl⟩
  obtain ⟨⟨many, l5, e5⟩, h5⟩ : ∃ x, rdNum l4 e4 = x := ⟨_, rfl⟩
  obtain ⟨e6, h6⟩ : ∃ e6, (if 8 < many then rdNote e5 4 else e5) = e6 := ⟨_, rfl⟩
  obtain ⟨⟨evs, l7, e7⟩, h7⟩ : ∃ x, rdEvents many l5 e6 = x := ⟨_, rfl⟩
  have hraw : rawB l = (⟨bstr t1, x, y, z, evs⟩, l7, e7) := by
    simp only [rawB, h1, h2, h3, h4, h5, h6, h7]
  rw [hraw] at h ⊢
  simp only at h ⊢
  have o7 := rdEvents_ok (k := many) (l := l5) (e := e6) (by rw [h7]; exact h)
  rw [h7] at o7
  simp only at o7
  obtain ⟨r6, r7, r8, _⟩ := o7
  have hm : ¬ 8 < many := by
    intro hm
    rw [if_pos hm] at h6
    unfold rdNote at h6
    split at h6 <;> omega
  rw [if_neg hm] at h6
  have o5 := rdNum_ok (l := l4) (e := e4) (by rw [h5]; exact h6.trans r6)
  rw [h5] at o5
  have o4 := rdNum_ok (l := l3) (e := e3) (by rw [h4]; exact o5.1)
  rw [h4] at o4
  have o3 := rdNum_ok (l := l2) (e := e2) (by rw [h3]; exact o4.1)
  rw [h3] at o3
  have o2 := rdSign_ok (l := l1) (e := e1) (by rw [h2]; exact o3.1)
  rw [h2] at o2
  have o1 := rdName_ok (l := l) (e := 0) (by rw [h1]; exact o2.1)
  rw [h1] at o1
  simp only at o1 o2 o3 o4 o5
  rw [headB_list]
  simp only [List.append_assoc]
  rw [bstr_list, clampN_of o3.2.2, clampN_of o4.2.2, r7, clampN_of o5.2.2, ← r8, ← o5.2.1, ← o4.2.1, ← o3.2.1, ← o2.2]
  exact o1.2.1
theorem takeB_ok {l : List UInt8} {b : BW} {r : List UInt8} (h : takeB l = (b, r, 0)) : fitsB b = 0 ∧ l = (putB b).data.toList ++ r := by
  unfold takeB at h
  by_cases hf : fitsB (rawB l).1 = 0
  · rw [if_pos hf] at h
    by_cases h0 : (rawB l).2.2 = 0
    · rw [if_neg (by simpa using h0)] at h
      simp only [Prod.mk.injEq, and_true] at h
      obtain ⟨rfl, rfl⟩ := h
      refine ⟨hf, ?_⟩
      rw [putB_list hf]
      exact raw_ok h0
    · rw [if_pos h0] at h
      simp only [Prod.mk.injEq] at h
      exact absurd h.2.2 h0
  · rw [if_neg hf] at h
    have hne : rdNote (rawB l).2.2 2 ≠ 0 := by unfold rdNote; split <;> omega
    rw [if_pos hne] at h
    simp only [Prod.mk.injEq] at h
    exact absurd h.2.2 hne

theorem takeE_put {v : EV} (h : rightE v = true) (m : List UInt8) : takeE ((putE v).data.toList ++ m) = (v, m, 0) := by
  obtain ⟨h1, h2⟩ := rightE_size h
  have hp : putE v = bytesE v := by rw [putE, if_pos h]
  unfold takeE
  rw [hp, rdEvent_put h1 h2]
  simp only
  rw [h]
  simp
theorem takeE_short {v : EV} (h : rightE v = true) : (takeE (putE v).data.toList.dropLast).2.2 = 3 := by
  obtain ⟨h1, h2⟩ := rightE_size h
  have hp : putE v = bytesE v := by rw [putE, if_pos h]
  unfold takeE
  rw [hp, rdEvent_short h1 h2]
  unfold rdNote
  simp
theorem takeE_ok {l : List UInt8} {v : EV} {r : List UInt8} (h : takeE l = (v, r, 0)) : rightE v = true ∧ l = (putE v).data.toList ++ r := by
  unfold takeE at h
  by_cases hf : rightE (rdEvent l 0).1 = true
  · rw [if_pos hf] at h
    by_cases h0 : (rdEvent l 0).2.2 = 0
    · rw [if_neg (by simpa using h0)] at h
      simp only [Prod.mk.injEq, and_true] at h
      obtain ⟨rfl, rfl⟩ := h
      refine ⟨hf, ?_⟩
      rw [putE, if_pos hf]
      exact (rdEvent_ok h0).2.1
    · rw [if_pos h0] at h
      simp only [Prod.mk.injEq] at h
      exact absurd h.2.2 h0
  · rw [if_neg hf] at h
    have hne : rdNote (rdEvent l 0).2.2 2 ≠ 0 := by unfold rdNote; split <;> omega
    rw [if_pos hne] at h
    simp only [Prod.mk.injEq] at h
    exact absurd h.2.2 hne
theorem takeE_bad {l : List UInt8} {v : EV} {r : List UInt8} {e : Nat} (h : takeE l = (v, r, e)) (he : e ≠ 0) : v = ⟨⟨#[]⟩, ⟨#[]⟩⟩ ∧ r = [] := by
  unfold takeE at h
  generalize (if rightE (rdEvent l 0).1 = true then (rdEvent l 0).2.2 else rdNote (rdEvent l 0).2.2 2) = E at h
  by_cases h0 : E = 0
  · rw [if_neg (by simpa using h0)] at h
    simp only [Prod.mk.injEq] at h
    exact absurd h.2.2.symm he
  · rw [if_pos h0] at h
    simp only [Prod.mk.injEq] at h
    exact ⟨h.1.symm, h.2.1.symm⟩
end Go.Proofs.YtflojipkgaocnaaGreatDoor
