/-
  What was put is taken; what is taken was put; with a byte less it ends too early: plainly, of events and batches.
-/
import Derived.Test.YtflojipkgaocnaaGreatDoorEvTakeB
import Derived.Test.YtflojipkgaocnaaGreatDoorEvInj
namespace Go.Proofs.YtflojipkgaocnaaGreatDoor
open Go.RowKit

theorem takeT_put {l m : List UInt8} (h : l.length ≤ 200) : takeT (putT l ++ m) 200 = (l, m, 0) := by
  have hm : l.length ≤ maxNum := by unfold maxNum; omega
  have h1 : takeN (putT l ++ m) = (l.length, l ++ m, 0) := by
    unfold putT
    rw [clampN_len hm, List.append_assoc]
    exact takeN_put hm _
  unfold takeT
  rw [h1, if_neg (by simp), if_neg (by simp only; omega), if_neg (by simp only [List.length_append]; omega)]
  simp
theorem takeT_short {l : List UInt8} (h : l.length ≤ 200) : (takeT (putT l).dropLast 200).2.2 = 3 := by
  have hm : l.length ≤ maxNum := by unfold maxNum; omega
  by_cases h0 : l = []
  · subst h0
    unfold putT
    rw [clampN_len hm]
    simp only [List.length_nil, List.append_nil]
    rw [putN_small (by omega)]
    rfl
  · have h1 : takeN (putT l).dropLast = (l.length, l.dropLast, 0) := by
      unfold putT
      rw [clampN_len hm, List.dropLast_append_of_ne_nil h0]
      exact takeN_put hm _
    have hp : 0 < l.length := List.length_pos_iff.2 h0
    unfold takeT
    rw [h1, if_neg (by simp), if_neg (by simp only; omega), if_pos (by simp only [List.length_dropLast]; omega)]
theorem takeT_back {l t r : List UInt8} (h : takeT l 200 = (t, r, 0)) : l = putT t ++ r ∧ t.length ≤ 200 := by
  unfold takeT at h
  by_cases h1 : (takeN l).2.2 = 0
  · rw [if_neg (by simpa using h1)] at h
    by_cases h2 : (200 : Int) < ((takeN l).1 : Int)
    · rw [if_pos h2] at h; simp at h
    · rw [if_neg h2] at h
      by_cases h3 : (takeN l).2.1.length < (takeN l).1
      · rw [if_pos h3] at h; simp at h
      · rw [if_neg h3] at h
        simp only [Prod.mk.injEq, and_true] at h
        obtain ⟨rfl, rfl⟩ := h
        obtain ⟨e1, e2⟩ := takeN_back (show takeN l = ((takeN l).1, (takeN l).2.1, 0) by rw [← h1])
        have hl : ((takeN l).2.1.take (takeN l).1).length = (takeN l).1 := by rw [List.length_take]; omega
        refine ⟨?_, by omega⟩
        unfold putT
        rw [hl, clampN_len e2, List.append_assoc, List.take_append_drop]
        exact e1
  · rw [if_pos h1] at h
    simp only [Prod.mk.injEq] at h
    exact absurd h.2.2 h1

theorem rdName_put {l m : List UInt8} (h : l.length ≤ 200) : rdName (putT l ++ m) 0 = (l, m, 0) := by rw [rdName, if_neg (by simp), takeT_put h]
theorem rdNum_put {n : Nat} {m : List UInt8} (h : n ≤ maxNum) : rdNum (putN n ++ m) 0 = (n, m, 0) := by rw [rdNum, if_neg (by simp), takeN_put h]
theorem rdSign_put {x : Int} {m : List UInt8} (h1 : -1 ≤ x) (h2 : x ≤ 274877906944) : rdSign (putN (zig (clampS x)) ++ m) 0 = (x, m, 0) := by
  rw [rdSign, if_neg (by simp), takeN_put (zig_le (clampS_bd x))]
  simp only
  rw [zag_zig, clampS_in h1 h2]
theorem rdName_ok {l : List UInt8} {e : Nat} (h : (rdName l e).2.2 = 0) : e = 0 ∧ l = putT (rdName l e).1 ++ (rdName l e).2.1 ∧ (rdName l e).1.length ≤ 200 := by
  unfold rdName at h ⊢
  by_cases h0 : e = 0
  · rw [if_neg (by simpa using h0)] at h ⊢
    exact ⟨h0, takeT_back (show takeT l 200 = ((takeT l 200).1, (takeT l 200).2.1, 0) by rw [← h])⟩
  · rw [if_pos h0] at h
    exact absurd h h0
theorem rdNum_ok {l : List UInt8} {e : Nat} (h : (rdNum l e).2.2 = 0) : e = 0 ∧ l = putN (rdNum l e).1 ++ (rdNum l e).2.1 ∧ (rdNum l e).1 ≤ maxNum := by
  unfold rdNum at h ⊢
  by_cases h0 : e = 0
  · rw [if_neg (by simpa using h0)] at h ⊢
    exact ⟨h0, takeN_back (show takeN l = ((takeN l).1, (takeN l).2.1, 0) by rw [← h])⟩
  · rw [if_pos h0] at h
    exact absurd h h0
theorem zig_zag (n : Nat) : zig (zag n) = n := by
  unfold zag zig
  split
  · rw [if_pos (by omega)]; omega
  · rw [if_neg (by omega)]; omega
theorem zag_bd {n : Nat} (h : n ≤ maxNum) : clampS (zag n) = zag n := by
  unfold maxNum at h
  unfold clampS clampI zag
  split <;> omega
theorem rdSign_ok {l : List UInt8} {e : Nat} (h : (rdSign l e).2.2 = 0) : e = 0 ∧ l = putN (zig (clampS (rdSign l e).1)) ++ (rdSign l e).2.1 := by
  unfold rdSign at h ⊢
  by_cases h0 : e = 0
  · rw [if_neg (by simpa using h0)] at h ⊢
    obtain ⟨e1, e2⟩ := takeN_back (show takeN l = ((takeN l).1, (takeN l).2.1, 0) by rw [← h])
    refine ⟨h0, ?_⟩
    simp only
    rw [zag_bd e2, zig_zag]
    exact e1
  · rw [if_pos h0] at h
    exact absurd h h0
theorem rdEvent_ok {l : List UInt8} {e : Nat} (h : (rdEvent l e).2.2 = 0) : e = 0 ∧ l = (bytesE (rdEvent l e).1).data.toList ++ (rdEvent l e).2.1 ∧ (rdEvent l e).1.kind.size ≤ 200 ∧ (rdEvent l e).1.data.size ≤ 200 := by
  unfold rdEvent at h ⊢
  simp only at h ⊢
  obtain ⟨h1, h2, h3⟩ := rdName_ok h
  obtain ⟨h4, h5, h6⟩ := rdName_ok h1
  refine ⟨h4, ?_, by rw [bstr_size]; exact h6, by rw [bstr_size]; exact h3⟩
  rw [bytesE_list, bstr_list, bstr_list, List.append_assoc]
  rw [← h2]
  exact h5
theorem rdEvent_put {v : EV} {m : List UInt8} (h1 : v.kind.size ≤ 200) (h2 : v.data.size ≤ 200) : rdEvent ((bytesE v).data.toList ++ m) 0 = (v, m, 0) := by
  have e1 : rdName ((bytesE v).data.toList ++ m) 0 = (v.kind.data.toList, putT v.data.data.toList ++ m, 0) := by
    rw [bytesE_list, List.append_assoc]
    exact rdName_put (by rw [size_listE]; exact h1)
  have e2 : rdName (putT v.data.data.toList ++ m) 0 = (v.data.data.toList, m, 0) := rdName_put (by rw [size_listE]; exact h2)
  unfold rdEvent
  rw [e1]
  simp only
  rw [e2]
  rfl
theorem putT_ne (l : List UInt8) : putT l ≠ [] := by
  intro e
  have h := putN_pos (clampN l.length)
  unfold putT at e
  have := (List.append_eq_nil_iff.1 e).1
  rw [this] at h
  simp at h
theorem bytesE_ne (v : EV) : (bytesE v).data.toList ≠ [] := by
  rw [bytesE_list]
  intro e
  exact putT_ne _ (List.append_eq_nil_iff.1 e).1
theorem rdEvent_short {v : EV} (h1 : v.kind.size ≤ 200) (h2 : v.data.size ≤ 200) : (rdEvent (bytesE v).data.toList.dropLast 0).2.2 = 3 := by
  have e1 : rdName (bytesE v).data.toList.dropLast 0 = (v.kind.data.toList, (putT v.data.data.toList).dropLast, 0) := by
    rw [bytesE_list, List.dropLast_append_of_ne_nil (putT_ne _)]
    exact rdName_put (by rw [size_listE]; exact h1)
  unfold rdEvent
  rw [e1]
  simp only
  rw [rdName, if_neg (by simp)]
  exact takeT_short (by rw [size_listE]; exact h2)

theorem bodyL_cons (v : EV) (l : List EV) : bodyL (v :: l) = (bytesE v).data.toList ++ bodyL l := by simp [bodyL]
theorem rdEvents_ok : ∀ {k : Nat} {l : List UInt8} {e : Nat}, (rdEvents k l e).2.2 = 0 → e = 0 ∧ (rdEvents k l e).1.length = k ∧ l = bodyL (rdEvents k l e).1 ++ (rdEvents k l e).2.1 ∧ ∀ v ∈ (rdEvents k l e).1, v.kind.size ≤ 200 ∧ v.data.size ≤ 200
  | 0, l, e, h => ⟨h, rfl, rfl, fun v hv => by simp [rdEvents] at hv⟩
  | k + 1, l, e, h => by
    rw [rdEvents] at h ⊢
    by_cases h0 : e = 0
    · rw [if_neg (by simpa using h0)] at h ⊢
      simp only at h ⊢
      obtain ⟨h1, h2, h3, h4⟩ := rdEvents_ok h
      obtain ⟨_, h6, h7, h8⟩ := rdEvent_ok h1
      refine ⟨h0, by rw [List.length_cons, h2], ?_, fun v hv => ?_⟩
      · rw [bodyL_cons, List.append_assoc, ← h3]
        exact h6
      · rcases List.mem_cons.1 hv with rfl | hv
        · exact ⟨h7, h8⟩
        · exact h4 v hv
    · rw [if_pos h0] at h
      exact absurd h h0
theorem rdEvents_put : ∀ {l : List EV} {m : List UInt8}, (∀ v ∈ l, v.kind.size ≤ 200 ∧ v.data.size ≤ 200) → rdEvents l.length (bodyL l ++ m) 0 = (l, m, 0)
  | [], m, _ => rfl
  | v :: l, m, h => by
    have h1 := h v (List.mem_cons_self ..)
    rw [List.length_cons, rdEvents, if_neg (by simp), bodyL_cons, List.append_assoc, rdEvent_put h1.1 h1.2]
    simp only
    rw [rdEvents_put (fun x hx => h x (List.mem_cons_of_mem _ hx))]
theorem bodyL_ne {l : List EV} (h : l ≠ []) : bodyL l ≠ [] := by
  cases l with
  | nil => exact absurd rfl h
  | cons v l =>
    rw [bodyL_cons]
    intro e
    exact bytesE_ne v (List.append_eq_nil_iff.1 e).1
theorem rdEvents_short : ∀ {l : List EV}, l ≠ [] → (∀ v ∈ l, v.kind.size ≤ 200 ∧ v.data.size ≤ 200) → (rdEvents l.length (bodyL l).dropLast 0).2.2 = 3
  | [], h, _ => absurd rfl h
  | [v], _, h => by
    have h1 := h v (List.mem_cons_self ..)
    have h2 := rdEvent_short h1.1 h1.2
    rw [show (bodyL [v]).dropLast = (bytesE v).data.toList.dropLast by rw [bodyL_cons]; simp [bodyL]]
    rw [show [v].length = 0 + 1 from rfl, rdEvents, if_neg (by simp)]
    simp only [rdEvents]
    exact h2
  | v :: u :: l, _, h => by
    have h1 := h v (List.mem_cons_self ..)
    rw [bodyL_cons, List.dropLast_append_of_ne_nil (bodyL_ne (by simp)), List.length_cons, rdEvents, if_neg (by simp), rdEvent_put h1.1 h1.2]
    simp only
    exact rdEvents_short (by simp) (fun x hx => h x (List.mem_cons_of_mem _ hx))
end Go.Proofs.YtflojipkgaocnaaGreatDoor
