/-
  The walks over package frame and its reference: Put and Take.
-/
import Derived.Test.YtebliglfofjafaaFrFix
import Derived.Test.YtebliglfofjafaaCrcWalk
namespace Go.Proofs.Ytebliglfofjafaa
open Go.RowKit

theorem updL (c : Nat) (s : ByteArray) (x : Nat) (h : crcU c s.data.toList = x) (hc : c < 4294967296) (hs : s.size ≤ maxLen) (w : World) :
    Calls Try.prog 21 #[.int .u32 c, .string s] w fun e w' => e = .returned (.int .u32 x) ∧ Below w.heap.size w w' := by
  subst h
  exact update_any c s w hc hs
theorem sumL (s : ByteArray) (x : Nat) (h : crcU 0 s.data.toList = x) (hs : s.size ≤ maxLen) (w : World) :
    Calls Try.prog 22 #[.string s] w fun e w' => e = .returned (.int .u32 x) ∧ Below w.heap.size w w' := by
  subst h
  exact sum_any s w hs
theorem refSumL (s : ByteArray) (x : Nat) (h : crcU 0 s.data.toList = x) (hs : s.size ≤ maxLen) (w : World) :
    Calls Try.prog 24 #[.string s] w fun e w' => e = .returned (.int .u32 x) ∧ w = w' := by
  subst h
  exact refSum_any s w hs
theorem fixedL (n : Nat) (r : ByteArray) (h : bstr (fix4 n) = r) (hn : n < 4294967296) (w : World) :
    Calls Try.prog 20 #[.int .u32 n] w fun e w' => e = .returned (.string r) ∧ Below w.heap.size w w' := by
  subst h
  exact fixed_any n w hn
theorem refFixedL (n : Nat) (r : ByteArray) (h : bstr (fix4 n) = r) (hn : n < 4294967296) (w : World) :
    Calls Try.prog 23 #[.int .u32 n] w fun e w' => e = .returned (.string r) ∧ Below w.heap.size w w' := by
  subst h
  exact refFixed_any n w hn

theorem ext_list {a b : ByteArray} (h : a.data.toList = b.data.toList) : a = b := ByteArray.ext (Array.toList_inj.1 h)
theorem list_addF (a b : ByteArray) : (a ++ b).data.toList = a.data.toList ++ b.data.toList := by simp
theorem nil_of {r : ByteArray} (h : [] = r.data.toList) : r = ⟨#[]⟩ := ext_list h.symm

set_option maxRecDepth 100000 in
set_option maxHeartbeats 800000 in
theorem frPut_str (p : ByteArray) (r : ByteArray) (e : Nat) (h : putFr p.data.toList = (r.data.toList, e)) (hs : p.size ≤ maxLen) (w : World) :
    Calls Try.prog 11 #[.string p] w fun en w' => en = .returned (.tuple #[.string r, .int .i64 e]) ∧ Below w.heap.size w w' := by
  unfold maxLen at hs
  have hsl : p.data.toList.length = p.size := by simp
  unfold putFr at h
  by_cases h0 : p.size = 0
  · rw [if_pos (by omega)] at h
    obtain ⟨h1, rfl⟩ : [] = r.data.toList ∧ 2 = e := by simpa using h
    obtain rfl := nil_of h1
    have hp : p = ⟨#[]⟩ := nil_of (by rw [List.eq_nil_of_length_eq_zero (show p.data.toList.length = 0 by omega)])
    subst hp
    clear h h1 h0 hsl
    go_enter Try.func11, Try.ntmps11
    go_wp2_with fail
    go_ret2
    exact ⟨rfl, Below.refl _ _⟩
  · rw [if_neg (by omega)] at h
    have hne : p.toList.isEmpty = false := by
      rw [ByteArray.toList_eq, List.isEmpty_eq_false_iff]
      intro e0
      rw [e0] at hsl
      exact h0 hsl.symm
    by_cases h8 : 8000 < p.size
    · rw [if_pos (by omega)] at h
      obtain ⟨h1, rfl⟩ : [] = r.data.toList ∧ 4 = e := by simpa using h
      obtain rfl := nil_of h1
      clear h h1 hsl
      go_enter Try.func11, Try.ntmps11
      go_wp2_with fail
      go_ret2
      exact ⟨rfl, Below.refl _ _⟩
    · rw [if_neg (by omega)] at h
      obtain ⟨h1, rfl⟩ : frame p.data.toList = r.data.toList ∧ 0 = e := by simpa using h
      unfold frame at h1
      rw [hsl] at h1
      obtain ⟨A, hA⟩ : ∃ A, bstr (fix4 p.size) = A := ⟨_, rfl⟩
      have hAz : A.size = 4 := by rw [← hA]; exact bstr_size _
      have hAl : A.data.toList = fix4 p.size := by rw [← hA]; rfl
      have c1 := fixedL p.size A hA (by omega)
      have c2 := sumL A (crcU 0 (fix4 p.size)) (by rw [hAl]) (by unfold maxLen; omega)
      have lX := crcU_lt 0 (fix4 p.size)
      have e3 : crcU (crcU 0 (fix4 p.size)) p.data.toList = crcU 0 (fix4 p.size ++ p.data.toList) := by rw [crcU_append]
      generalize crcU 0 (fix4 p.size) = X at c2 lX e3
      have c3 := updL X p (crcU 0 (fix4 p.size ++ p.data.toList)) e3 lX (by unfold maxLen; omega)
      have lY := crcU_lt 0 (fix4 p.size ++ p.data.toList)
      generalize crcU 0 (fix4 p.size ++ p.data.toList) = Y at c3 lY h1 e3
      obtain ⟨B, hB⟩ : ∃ B, bstr (fix4 Y) = B := ⟨_, rfl⟩
      have hBz : B.size = 4 := by rw [← hB]; exact bstr_size _
      have hBl : B.data.toList = fix4 Y := by rw [← hB]; rfl
      have c4 := fixedL Y B hB lY
      have a1 : ∀ W : World, (Op.stringOp .add A B).run Try.prog W = .ok (.string (A ++ B)) W := fun W => run_string_add_sum (P := Try.prog) (w := W) _ _ (by omega)
      have a2 : ∀ W : World, (Op.stringOp .add (A ++ B) p).run Try.prog W = .ok (.string r) W := fun W => by
        rw [show r = (A ++ B) ++ p from ext_list (by rw [list_addF, list_addF, hAl, hBl, ← h1])]
        exact run_string_add_sum (P := Try.prog) (w := W) _ _ (by rw [ByteArray.size_append]; omega)
      have C1 := Lib.hid c1
      have C2 := Lib.hid c2
      have C3 := Lib.hid c3
      have C4 := Lib.hid c4
      clear c1 c2 c3 c4 h h1 hA hAz hAl hB hBz hBl hsl e3
      go_enter Try.func11, Try.ntmps11
      go_wp2_with fail
      refine (C1.out _).mono ?_
      rintro e w1 ⟨rfl, h1⟩
      go_wp2_with fail
      refine (C2.out _).mono ?_
      rintro e w2 ⟨rfl, h2⟩
      go_wp2_with fail
      refine (C3.out _).mono ?_
      rintro e w3 ⟨rfl, h3⟩
      go_wp2_with fail
      refine (C4.out _).mono ?_
      rintro e w4 ⟨rfl, h4⟩
      go_wp2_with fail
      go_ret2
      exact ⟨rfl, bstep (bstep (bstep h1 h2) h3) h4⟩

set_option maxRecDepth 100000 in
set_option maxHeartbeats 800000 in
theorem refFrPut_str (p : ByteArray) (r : ByteArray) (e : Nat) (h : putFr p.data.toList = (r.data.toList, e)) (hs : p.size ≤ maxLen) (w : World) :
    Calls Try.prog 12 #[.string p] w fun en w' => en = .returned (.tuple #[.string r, .int .i64 e]) ∧ Below w.heap.size w w' := by
  unfold maxLen at hs
  have hsl : p.data.toList.length = p.size := by simp
  unfold putFr at h
  by_cases h0 : p.size = 0
  · rw [if_pos (by omega)] at h
    obtain ⟨h1, rfl⟩ : [] = r.data.toList ∧ 2 = e := by simpa using h
    obtain rfl := nil_of h1
    have g0 : ((p.size : Int) == 0) = true := by rw [beq_iff_eq]; omega
    clear h h1 h0 hsl
    go_enter Try.func12, Try.ntmps12
    go_wp2_with fail
    go_ret2
    exact ⟨rfl, Below.refl _ _⟩
  · rw [if_neg (by omega)] at h
    have g0 : ((p.size : Int) == 0) = false := by rw [beq_eq_false_iff_ne]; omega
    by_cases h8 : 8000 < p.size
    · rw [if_pos (by omega)] at h
      obtain ⟨h1, rfl⟩ : [] = r.data.toList ∧ 4 = e := by simpa using h
      obtain rfl := nil_of h1
      clear h h1 hsl h0
      go_enter Try.func12, Try.ntmps12
      go_wp2_with fail
      go_ret2
      exact ⟨rfl, Below.refl _ _⟩
    · rw [if_neg (by omega)] at h
      obtain ⟨h1, rfl⟩ : frame p.data.toList = r.data.toList ∧ 0 = e := by simpa using h
      unfold frame at h1
      rw [hsl] at h1
      obtain ⟨A, hA⟩ : ∃ A, bstr (fix4 p.size) = A := ⟨_, rfl⟩
      have hAz : A.size = 4 := by rw [← hA]; exact bstr_size _
      have hAl : A.data.toList = fix4 p.size := by rw [← hA]; rfl
      have c1 := refFixedL p.size A hA (by omega)
      have c3 := refSumL (A ++ p) (crcU 0 (fix4 p.size ++ p.data.toList)) (by rw [list_addF, hAl]) (by rw [ByteArray.size_append]; unfold maxLen; omega)
      have lY := crcU_lt 0 (fix4 p.size ++ p.data.toList)
      generalize crcU 0 (fix4 p.size ++ p.data.toList) = Y at c3 lY h1
      obtain ⟨B, hB⟩ : ∃ B, bstr (fix4 Y) = B := ⟨_, rfl⟩
      have hBz : B.size = 4 := by rw [← hB]; exact bstr_size _
      have hBl : B.data.toList = fix4 Y := by rw [← hB]; rfl
      have c4 := refFixedL Y B hB lY
      have a0 : ∀ W : World, (Op.stringOp .add A p).run Try.prog W = .ok (.string (A ++ p)) W := fun W => run_string_add_sum (P := Try.prog) (w := W) _ _ (by omega)
      have a1 : ∀ W : World, (Op.stringOp .add A B).run Try.prog W = .ok (.string (A ++ B)) W := fun W => run_string_add_sum (P := Try.prog) (w := W) _ _ (by omega)
      have a2 : ∀ W : World, (Op.stringOp .add (A ++ B) p).run Try.prog W = .ok (.string r) W := fun W => by
        rw [show r = (A ++ B) ++ p from ext_list (by rw [list_addF, list_addF, hAl, hBl, ← h1])]
        exact run_string_add_sum (P := Try.prog) (w := W) _ _ (by rw [ByteArray.size_append]; omega)
      have C1 := Lib.hid c1
      have C3 := Lib.hid c3
      have C4 := Lib.hid c4
      clear c1 c3 c4 h h1 hA hAz hAl hB hBz hBl hsl h0
      go_enter Try.func12, Try.ntmps12
      go_wp2_with fail
      refine (C1.out _).mono ?_
      rintro e w1 ⟨rfl, h1⟩
      go_wp2_with fail
      refine (C3.out _).mono ?_
      rintro e w3 ⟨rfl, rfl⟩
      go_wp2_with fail
      refine (C4.out _).mono ?_
      rintro e w4 ⟨rfl, h4⟩
      go_wp2_with fail
      go_ret2
      exact ⟨rfl, bstep h1 h4⟩

set_option maxRecDepth 100000 in
set_option maxHeartbeats 1600000 in
theorem frTake_str (s : ByteArray) (p r : ByteArray) (e : Nat) (h : takeFr s.data.toList = (p.data.toList, r.data.toList, e)) (hs : s.size ≤ maxLen) (w : World) :
    Calls Try.prog 15 #[.string s] w fun en w' => en = .returned (.tuple #[.string p, .string r, .int .i64 e]) ∧ Below w.heap.size w w' := by
  have hs' := hs
  unfold maxLen at hs'
  have hsl : s.data.toList.length = s.size := by simp
  unfold takeFr at h
  by_cases h8 : s.size < 8
  · rw [if_pos (by omega)] at h
    obtain ⟨h1, h2, rfl⟩ : [] = p.data.toList ∧ [] = r.data.toList ∧ 3 = e := by simpa using h
    obtain rfl := nil_of h1
    obtain rfl := nil_of h2
    clear h h1 h2 hsl
    go_enter Try.func15, Try.ntmps15
    go_wp2_with fail
    go_ret3
    exact ⟨rfl, Below.refl _ _⟩
  rw [if_neg (by omega)] at h
  obtain ⟨R1, hR1⟩ : ∃ R1 : ByteArray, R1.data.toList = s.data.toList.drop 4 := ⟨bstr _, rfl⟩
  obtain ⟨R2, hR2⟩ : ∃ R2 : ByteArray, R2.data.toList = s.data.toList.drop 8 := ⟨bstr _, rfl⟩
  have hz1 : R1.size = s.size - 4 := by have := congrArg List.length hR1; simpa using this
  have hz2 : R2.size = s.size - 8 := by have := congrArg List.length hR2; simpa using this
  have hR2l : R2.data.toList.length = R2.size := by simp
  have ln := valB_lt4 s.data.toList
  have c1 := takeFixed_str s (valB (s.data.toList.take 4)) R1 0 (by unfold takeF; rw [if_neg (by omega), hR1]) hs
  have c2 := takeFixed_str R1 (valB ((s.data.toList.drop 4).take 4)) R2 0 (by unfold takeF; rw [hR1, if_neg (by rw [List.length_drop]; omega), hR2, List.drop_drop]) (by unfold maxLen; omega)
  have lc := valB_lt4 (s.data.toList.drop 4)
  rw [← hR2] at h
  generalize valB (s.data.toList.take 4) = n at h c1 ln
  generalize valB ((s.data.toList.drop 4).take 4) = c at h c2 lc
  have C1 := Lib.hid c1
  have C2 := Lib.hid c2
  have Hz1 := Lib.hid hz1
  have Hz2 := Lib.hid hz2
  have HR2l := Lib.hid hR2l
  clear c1 c2 hR1 hR2 hz1 hR2l
  by_cases hn0 : n = 0
  · rw [if_pos hn0] at h
    obtain ⟨h1, h2, rfl⟩ : [] = p.data.toList ∧ [] = r.data.toList ∧ 2 = e := by simpa using h
    obtain rfl := nil_of h1
    obtain rfl := nil_of h2
    subst hn0
    clear h h1 h2 hsl hz2
    go_enter Try.func15, Try.ntmps15
    go_wp2_with fail
    refine (C1.out _).mono ?_
    rintro e w1 ⟨rfl, h1⟩
    go_wp2_with fail
    refine (C2.out _).mono ?_
    rintro e w2 ⟨rfl, h2⟩
    go_wp2_with fail
    go_ret3
    exact ⟨rfl, bstep h1 h2⟩
  rw [if_neg hn0] at h
  have g0 : ((n : Int) == 0) = false := by simp; omega
  by_cases h80 : 8000 < n
  · rw [if_pos h80] at h
    obtain ⟨h1, h2, rfl⟩ : [] = p.data.toList ∧ [] = r.data.toList ∧ 4 = e := by simpa using h
    obtain rfl := nil_of h1
    obtain rfl := nil_of h2
    clear h h1 h2 hsl hz2
    go_enter Try.func15, Try.ntmps15
    go_wp2_with fail
    refine (C1.out _).mono ?_
    rintro e w1 ⟨rfl, h1⟩
    go_wp2_with fail
    refine (C2.out _).mono ?_
    rintro e w2 ⟨rfl, h2⟩
    go_wp2_with fail
    go_ret3
    exact ⟨rfl, bstep h1 h2⟩
  rw [if_neg h80, HR2l.out] at h
  by_cases hsh : R2.size < n
  · rw [if_pos hsh] at h
    obtain ⟨h1, h2, rfl⟩ : [] = p.data.toList ∧ [] = r.data.toList ∧ 3 = e := by simpa using h
    obtain rfl := nil_of h1
    obtain rfl := nil_of h2
    have g1 : (R2.size : Int) < (n : Int) := by omega
    clear h h1 h2 hsl hz2
    go_enter Try.func15, Try.ntmps15
    go_wp2_with fail
    refine (C1.out _).mono ?_
    rintro e w1 ⟨rfl, h1⟩
    go_wp2_with fail
    refine (C2.out _).mono ?_
    rintro e w2 ⟨rfl, h2⟩
    go_wp2_with fail
    go_ret3
    exact ⟨rfl, bstep h1 h2⟩
  rw [if_neg hsh] at h
  have g1 : (n : Int) ≤ (R2.size : Int) := by omega
  have g2 : (0 : Int) ≤ (n : Int) := by omega
  have g3 : (4 : Int) ≤ (s.size : Int) := by omega
  have x1 : (s.extract 0 4).data.toList = s.data.toList.take 4 := by simp
  have x2 : (R2.extract 0 n).data.toList = R2.data.toList.take n := by simp
  have x3 : (R2.extract n R2.size).data.toList = R2.data.toList.drop n := by rw [drop_extract]; rfl
  have z1 : (s.extract 0 4).size = 4 := by rw [ByteArray.size_extract]; omega
  have z2 : (R2.extract 0 n).size = n := by rw [ByteArray.size_extract]; omega
  have c3 := sumL (s.extract 0 4) (crcU 0 (s.data.toList.take 4)) (by rw [x1]) (by unfold maxLen; omega)
  have lX := crcU_lt 0 (s.data.toList.take 4)
  have c4 := updL (crcU 0 (s.data.toList.take 4)) (R2.extract 0 n) (crcU 0 (s.data.toList.take 4 ++ R2.data.toList.take n)) (by rw [x2, ← crcU_append]) lX (by unfold maxLen; omega)
  have C3 := Lib.hid c3
  have CY := Lib.hid c4
  clear c3 c4
  by_cases h5 : crcU 0 (s.data.toList.take 4 ++ R2.data.toList.take n) ≠ c
  · rw [if_pos h5] at h
    obtain ⟨h1, h2, rfl⟩ : [] = p.data.toList ∧ [] = r.data.toList ∧ 5 = e := by simpa using h
    obtain rfl := nil_of h1
    obtain rfl := nil_of h2
    generalize crcU 0 (s.data.toList.take 4 ++ R2.data.toList.take n) = Y at h5 CY
    have g5 : ((Y : Int) != (c : Int)) = true := by rw [bne_iff_ne]; omega
    clear h h1 h2 hsl hz2 x1 x2 x3 z1 z2 h5
    go_enter Try.func15, Try.ntmps15
    go_wp2_with fail
    refine (C1.out _).mono ?_
    rintro e w1 ⟨rfl, h1⟩
    go_wp2_with fail
    refine (C2.out _).mono ?_
    rintro e w2 ⟨rfl, h2⟩
    go_wp2_with fail
    go_quiet (fail)
    go_wp2_with fail
    refine (C3.out _).mono ?_
    rintro e w3 ⟨rfl, h3⟩
    go_wp2_with fail
    refine (CY.out _).mono ?_
    rintro e w4 ⟨rfl, h4⟩
    go_wp2_with fail
    go_ret3
    exact ⟨rfl, bstep (bstep (below_drewN (bstep h1 h2) _) h3) h4⟩
  · rw [if_neg h5] at h
    obtain ⟨h1, h2, rfl⟩ : R2.data.toList.take n = p.data.toList ∧ R2.data.toList.drop n = r.data.toList ∧ 0 = e := by simpa using h
    obtain rfl : R2.extract 0 n = p := ext_list (by rw [x2, h1])
    obtain rfl : R2.extract n R2.size = r := ext_list (by rw [x3, h2])
    have h5' : crcU 0 (s.data.toList.take 4 ++ R2.data.toList.take n) = c := by simpa using h5
    rw [h5'] at CY
    clear h h1 h2 hsl hz2 x1 x2 x3 z1 z2 h5 h5'
    go_enter Try.func15, Try.ntmps15
    go_wp2_with fail
    refine (C1.out _).mono ?_
    rintro e w1 ⟨rfl, h1⟩
    go_wp2_with fail
    refine (C2.out _).mono ?_
    rintro e w2 ⟨rfl, h2⟩
    go_wp2_with fail
    go_quiet (fail)
    go_wp2_with fail
    refine (C3.out _).mono ?_
    rintro e w3 ⟨rfl, h3⟩
    go_wp2_with fail
    refine (CY.out _).mono ?_
    rintro e w4 ⟨rfl, h4⟩
    go_wp2_with fail
    go_ret3
    exact ⟨rfl, bstep (bstep (below_drewN (bstep h1 h2) _) h3) h4⟩

set_option maxRecDepth 100000 in
set_option maxHeartbeats 1600000 in
theorem refFrTake_str (s : ByteArray) (p r : ByteArray) (e : Nat) (h : takeFr s.data.toList = (p.data.toList, r.data.toList, e)) (hs : s.size ≤ maxLen) (w : World) :
    Calls Try.prog 16 #[.string s] w fun en w' => en = .returned (.tuple #[.string p, .string r, .int .i64 e]) ∧ Below w.heap.size w w' := by
  have hs' := hs
  unfold maxLen at hs'
  have hsl : s.data.toList.length = s.size := by simp
  unfold takeFr at h
  by_cases h8 : s.size < 8
  · rw [if_pos (by omega)] at h
    obtain ⟨h1, h2, rfl⟩ : [] = p.data.toList ∧ [] = r.data.toList ∧ 3 = e := by simpa using h
    obtain rfl := nil_of h1
    obtain rfl := nil_of h2
    clear h h1 h2 hsl
    go_enter Try.func16, Try.ntmps16
    go_wp2_with fail
    go_ret3
    exact ⟨rfl, Below.refl _ _⟩
  rw [if_neg (by omega)] at h
  obtain ⟨R1, hR1⟩ : ∃ R1 : ByteArray, R1.data.toList = s.data.toList.drop 4 := ⟨bstr _, rfl⟩
  obtain ⟨R2, hR2⟩ : ∃ R2 : ByteArray, R2.data.toList = s.data.toList.drop 8 := ⟨bstr _, rfl⟩
  have hz1 : R1.size = s.size - 4 := by have := congrArg List.length hR1; simpa using this
  have hz2 : R2.size = s.size - 8 := by have := congrArg List.length hR2; simpa using this
  have hR2l : R2.data.toList.length = R2.size := by simp
  have ln := valB_lt4 s.data.toList
  have c1 := refTakeFixed_str s (valB (s.data.toList.take 4)) R1 0 (by unfold takeF; rw [if_neg (by omega), hR1]) hs
  have c2 := refTakeFixed_str R1 (valB ((s.data.toList.drop 4).take 4)) R2 0 (by unfold takeF; rw [hR1, if_neg (by rw [List.length_drop]; omega), hR2, List.drop_drop]) (by unfold maxLen; omega)
  have lc := valB_lt4 (s.data.toList.drop 4)
  rw [← hR2] at h
  generalize valB (s.data.toList.take 4) = n at h c1 ln
  generalize valB ((s.data.toList.drop 4).take 4) = c at h c2 lc
  have C1 := Lib.hid c1
  have C2 := Lib.hid c2
  have Hz1 := Lib.hid hz1
  have Hz2 := Lib.hid hz2
  have HR2l := Lib.hid hR2l
  clear c1 c2 hR1 hR2 hz1 hR2l
  by_cases hn0 : n = 0
  · rw [if_pos hn0] at h
    obtain ⟨h1, h2, rfl⟩ : [] = p.data.toList ∧ [] = r.data.toList ∧ 2 = e := by simpa using h
    obtain rfl := nil_of h1
    obtain rfl := nil_of h2
    subst hn0
    clear h h1 h2 hsl hz2
    go_enter Try.func16, Try.ntmps16
    go_wp2_with fail
    refine (C1.out _).mono ?_
    rintro e w1 ⟨rfl, h1⟩
    go_wp2_with fail
    refine (C2.out _).mono ?_
    rintro e w2 ⟨rfl, h2⟩
    go_wp2_with fail
    go_ret3
    exact ⟨rfl, bstep h1 h2⟩
  rw [if_neg hn0] at h
  have g0 : ((n : Int) == 0) = false := by simp; omega
  by_cases h80 : 8000 < n
  · rw [if_pos h80] at h
    obtain ⟨h1, h2, rfl⟩ : [] = p.data.toList ∧ [] = r.data.toList ∧ 4 = e := by simpa using h
    obtain rfl := nil_of h1
    obtain rfl := nil_of h2
    clear h h1 h2 hsl hz2
    go_enter Try.func16, Try.ntmps16
    go_wp2_with fail
    refine (C1.out _).mono ?_
    rintro e w1 ⟨rfl, h1⟩
    go_wp2_with fail
    refine (C2.out _).mono ?_
    rintro e w2 ⟨rfl, h2⟩
    go_wp2_with fail
    go_ret3
    exact ⟨rfl, bstep h1 h2⟩
  rw [if_neg h80, HR2l.out] at h
  by_cases hsh : R2.size < n
  · rw [if_pos hsh] at h
    obtain ⟨h1, h2, rfl⟩ : [] = p.data.toList ∧ [] = r.data.toList ∧ 3 = e := by simpa using h
    obtain rfl := nil_of h1
    obtain rfl := nil_of h2
    have g1 : (R2.size : Int) < (n : Int) := by omega
    clear h h1 h2 hsl hz2
    go_enter Try.func16, Try.ntmps16
    go_wp2_with fail
    refine (C1.out _).mono ?_
    rintro e w1 ⟨rfl, h1⟩
    go_wp2_with fail
    refine (C2.out _).mono ?_
    rintro e w2 ⟨rfl, h2⟩
    go_wp2_with fail
    go_ret3
    exact ⟨rfl, bstep h1 h2⟩
  rw [if_neg hsh] at h
  have g1 : (n : Int) ≤ (R2.size : Int) := by omega
  have g2 : (0 : Int) ≤ (n : Int) := by omega
  have g3 : (4 : Int) ≤ (s.size : Int) := by omega
  have x1 : (s.extract 0 4).data.toList = s.data.toList.take 4 := by simp
  have x2 : (R2.extract 0 n).data.toList = R2.data.toList.take n := by simp
  have x3 : (R2.extract n R2.size).data.toList = R2.data.toList.drop n := by rw [drop_extract]; rfl
  have z1 : (s.extract 0 4).size = 4 := by rw [ByteArray.size_extract]; omega
  have z2 : (R2.extract 0 n).size = n := by rw [ByteArray.size_extract]; omega
  have hadd : ∀ W : World, (Op.stringOp .add (s.extract 0 4) (R2.extract 0 n)).run Try.prog W = .ok (.string (s.extract 0 4 ++ R2.extract 0 n)) W := fun W => run_string_add_sum (P := Try.prog) (w := W) _ _ (by omega)
  have c4 := refSumL (s.extract 0 4 ++ R2.extract 0 n) (crcU 0 (s.data.toList.take 4 ++ R2.data.toList.take n)) (by rw [list_addF, x1, x2]) (by rw [ByteArray.size_append]; unfold maxLen; omega)
  have CY := Lib.hid c4
  clear c4
  by_cases h5 : crcU 0 (s.data.toList.take 4 ++ R2.data.toList.take n) ≠ c
  · rw [if_pos h5] at h
    obtain ⟨h1, h2, rfl⟩ : [] = p.data.toList ∧ [] = r.data.toList ∧ 5 = e := by simpa using h
    obtain rfl := nil_of h1
    obtain rfl := nil_of h2
    generalize crcU 0 (s.data.toList.take 4 ++ R2.data.toList.take n) = Y at h5 CY
    have g5 : ((Y : Int) != (c : Int)) = true := by rw [bne_iff_ne]; omega
    clear h h1 h2 hsl hz2 x1 x2 x3 z1 z2 h5
    go_enter Try.func16, Try.ntmps16
    go_wp2_with fail
    refine (C1.out _).mono ?_
    rintro e w1 ⟨rfl, h1⟩
    go_wp2_with fail
    refine (C2.out _).mono ?_
    rintro e w2 ⟨rfl, h2⟩
    go_wp2_with fail
    refine (CY.out _).mono ?_
    rintro e w4 ⟨rfl, rfl⟩
    go_wp2_with fail
    go_ret3
    exact ⟨rfl, bstep h1 h2⟩
  · rw [if_neg h5] at h
    obtain ⟨h1, h2, rfl⟩ : R2.data.toList.take n = p.data.toList ∧ R2.data.toList.drop n = r.data.toList ∧ 0 = e := by simpa using h
    obtain rfl : R2.extract 0 n = p := ext_list (by rw [x2, h1])
    obtain rfl : R2.extract n R2.size = r := ext_list (by rw [x3, h2])
    have h5' : crcU 0 (s.data.toList.take 4 ++ R2.data.toList.take n) = c := by simpa using h5
    rw [h5'] at CY
    clear h h1 h2 hsl hz2 x1 x2 x3 z1 z2 h5 h5'
    go_enter Try.func16, Try.ntmps16
    go_wp2_with fail
    refine (C1.out _).mono ?_
    rintro e w1 ⟨rfl, h1⟩
    go_wp2_with fail
    refine (C2.out _).mono ?_
    rintro e w2 ⟨rfl, h2⟩
    go_wp2_with fail
    refine (CY.out _).mono ?_
    rintro e w4 ⟨rfl, rfl⟩
    go_wp2_with fail
    go_quiet (fail)
    go_wp2_with fail
    go_ret3
    exact ⟨rfl, below_drewN (bstep h1 h2) _⟩
end Go.Proofs.Ytebliglfofjafaa
