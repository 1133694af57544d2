/-
  Of batches that fit, the bytes say which it is.
-/
import Derived.Test.YtflojipkgaocnaaGreatDoorEvPut
namespace Go.Proofs.YtflojipkgaocnaaGreatDoor
open Go.RowKit

theorem putN_app {a b : Nat} {m n : List UInt8} (ha : a ≤ maxNum) (hb : b ≤ maxNum) (h : putN a ++ m = putN b ++ n) : a = b ∧ m = n := by
  have h1 := takeN_put ha m
  have h2 := takeN_put hb n
  rw [h, h2] at h1
  simp only [Prod.mk.injEq, and_true] at h1
  exact ⟨h1.1.symm, h1.2.symm⟩
theorem clampN_len {n : Nat} (h : n ≤ maxNum) : clampN (n : Int) = n := clampN_of h
theorem putT_app {s t m n : List UInt8} (hs : s.length ≤ maxNum) (ht : t.length ≤ maxNum) (h : putT s ++ m = putT t ++ n) : s = t ∧ m = n := by
  unfold putT at h
  rw [clampN_len hs, clampN_len ht, List.append_assoc, List.append_assoc] at h
  obtain ⟨h1, h2⟩ := putN_app hs ht h
  have h3 := List.append_inj h2 h1
  exact h3
theorem zig_inj {a b : Int} (h : zig a = zig b) : a = b := by rw [← zag_zig a, ← zag_zig b, h]
theorem ext_listE {a b : ByteArray} (h : a.data.toList = b.data.toList) : a = b := ByteArray.ext (Array.toList_inj.1 h)
theorem size_listE (a : ByteArray) : a.data.toList.length = a.size := by simp
theorem list_addE (a b : ByteArray) : (a ++ b).data.toList = a.data.toList ++ b.data.toList := by simp

theorem bytesE_list (e : EV) : (bytesE e).data.toList = putT e.kind.data.toList ++ putT e.data.data.toList := by
  unfold bytesE
  rw [list_addE]
  rfl
theorem bytesE_app {x y : EV} {m n : List UInt8} (hx : LightE x) (hy : LightE y) (h : (bytesE x).data.toList ++ m = (bytesE y).data.toList ++ n) : x = y ∧ m = n := by
  have x1 := hx.k
  have x2 := hx.d
  have y1 := hy.k
  have y2 := hy.d
  rw [bytesE_list, bytesE_list, List.append_assoc, List.append_assoc] at h
  obtain ⟨h1, h2⟩ := putT_app (by rw [size_listE]; unfold maxNum; omega) (by rw [size_listE]; unfold maxNum; omega) h
  obtain ⟨h3, h4⟩ := putT_app (by rw [size_listE]; unfold maxNum; omega) (by rw [size_listE]; unfold maxNum; omega) h2
  refine ⟨?_, h4⟩
  cases x
  cases y
  simp only [EV.mk.injEq]
  exact ⟨ext_listE h1, ext_listE h3⟩
theorem bodyL_inj : ∀ {l m : List EV}, (∀ x ∈ l, LightE x) → (∀ x ∈ m, LightE x) → l.length = m.length → bodyL l = bodyL m → l = m
  | [], [], _, _, _, _ => rfl
  | x :: l, y :: m, hl, hm, hlen, h => by
    unfold bodyL at h
    rw [List.flatMap_cons, List.flatMap_cons] at h
    obtain ⟨h1, h2⟩ := bytesE_app (hl x (List.mem_cons_self ..)) (hm y (List.mem_cons_self ..)) h
    rw [h1, bodyL_inj (fun z hz => hl z (List.mem_cons_of_mem _ hz)) (fun z hz => hm z (List.mem_cons_of_mem _ hz)) (by simpa using hlen) h2]

theorem headB_list (b : BW) : (headB b).data.toList = putT b.stream.data.toList ++ (putN (zig (clampS b.expect)) ++ (putN (clampN b.session) ++ (putN (clampN b.seq) ++ putN (clampN b.events.length)))) := by
  unfold headB
  simp only [list_addE, List.append_assoc]
  rfl
theorem fits0' {b : BW} (h : fitsB b = 0) : ¬ wrongB b ∧ b.events.length ≤ 8 ∧ b.events.any (fun e => !rightE e) = false := by
  unfold fitsB at h
  by_cases h1 : wrongB b
  · rw [if_pos h1] at h; cases h
  · rw [if_neg h1] at h
    by_cases h2 : 8 < b.events.length
    · rw [if_pos h2] at h; cases h
    · rw [if_neg h2] at h
      cases h3 : b.events.any (fun e => !rightE e) with
      | true => rw [h3, if_pos rfl] at h; cases h
      | false => exact ⟨h1, by omega, rfl⟩
theorem wrong_not {b : BW} (h : ¬ wrongB b) : nameB b.stream = true ∧ -1 ≤ b.expect ∧ b.expect ≤ 274877906944 ∧ (1 ≤ b.session ∧ b.session ≤ 274877906944) ∧ (1 ≤ b.seq ∧ b.seq ≤ 274877906944) ∧ 0 < b.events.length := by
  unfold wrongB at h
  simp only [not_or] at h
  obtain ⟨h1, h2, h3, h4, h5, h6⟩ := h
  have k4 : numB b.session = true := by simpa using h4
  have k5 : numB b.seq = true := by simpa using h5
  simp only [numB, Bool.and_eq_true, decide_eq_true_eq] at k4 k5
  exact ⟨by simpa using h1, by omega, by omega, k4, k5, by omega⟩
theorem clampS_in {n : Int} (h1 : -1 ≤ n) (h2 : n ≤ 274877906944) : clampS n = n := by unfold clampS clampI; omega
theorem clampN_in {n : Int} (h1 : 1 ≤ n) (h2 : n ≤ 274877906944) : (clampN n : Int) = n := by unfold clampN clampI; omega

theorem putB_list {b : BW} (h : fitsB b = 0) : (putB b).data.toList = (headB b).data.toList ++ bodyL b.events := by
  rw [putB, if_pos h]
  rfl
theorem putB_inj {a b : BW} (ha : LightB a) (hb : LightB b) (fa : fitsB a = 0) (fb : fitsB b = 0) (h : putB a = putB b) : a = b := by
  obtain ⟨wa, na, _⟩ := fits0' fa
  obtain ⟨wb, nb, _⟩ := fits0' fb
  obtain ⟨_, a1, a2, a3, a4, _⟩ := wrong_not wa
  obtain ⟨_, b1, b2, b3, b4, _⟩ := wrong_not wb
  have sa := ha.s
  have sb := hb.s
  have h0 : (putB a).data.toList = (putB b).data.toList := by rw [h]
  rw [putB_list fa, putB_list fb, headB_list, headB_list] at h0
  simp only [List.append_assoc] at h0
  obtain ⟨h1, h2⟩ := putT_app (by rw [size_listE]; unfold maxNum; omega) (by rw [size_listE]; unfold maxNum; omega) h0
  obtain ⟨h3, h4⟩ := putN_app (zig_le (clampS_bd _)) (zig_le (clampS_bd _)) h2
  obtain ⟨h5, h6⟩ := putN_app (clampN_le _) (clampN_le _) h4
  obtain ⟨h7, h8⟩ := putN_app (clampN_le _) (clampN_le _) h6
  obtain ⟨h9, h10⟩ := putN_app (clampN_le _) (clampN_le _) h8
  have e3 := zig_inj h3
  rw [clampS_in a1 a2, clampS_in b1 b2] at e3
  have e5 : a.session = b.session := by rw [← clampN_in a3.1 a3.2, ← clampN_in b3.1 b3.2, h5]
  have e7 : a.seq = b.seq := by rw [← clampN_in a4.1 a4.2, ← clampN_in b4.1 b4.2, h7]
  rw [clampN_len (by unfold maxNum; omega), clampN_len (by unfold maxNum; omega)] at h9
  have e10 := bodyL_inj ha.e hb.e h9 h10
  have e1 := ext_listE h1
  cases a
  cases b
  simp only at e1 e3 e5 e7 e10
  simp only [BW.mk.injEq]
  exact ⟨e1, e3, e5, e7, e10⟩
end Go.Proofs.YtflojipkgaocnaaGreatDoor
