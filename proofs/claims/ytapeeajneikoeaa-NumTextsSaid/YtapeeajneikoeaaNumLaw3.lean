/-
  The walk of the statement NumOrder: a number that needs more bytes is larger; unlike numbers have unlike bytes.
-/
import Derived.Test.YtapeeajneikoeaaNumShown
import Derived.Deep.RegionHeld3
namespace Go.Proofs.Ytapeeajneikoeaa
open Go.RowKit

theorem bytes_ne {a b : ByteArray} (h : a ≠ b) : (a.toList == b.toList) = false := by
  rw [beq_eq_false_iff_ne]
  intro e
  rw [ByteArray.toList_eq, ByteArray.toList_eq] at e
  exact h (ByteArray.ext (Array.toList_inj.1 e))
theorem bytes_beq {a b : ByteArray} : (a.toList == b.toList) = decide (a = b) := by
  by_cases h : a = b
  · subst h; simp
  · rw [bytes_ne h]; simp [h]

theorem bstr_inj {a b : List UInt8} (h : bstr a = bstr b) : a = b := by
  have := congrArg (fun x : ByteArray => x.data.toList) h
  exact this

theorem zig_inj {a b : Int} (h : zig a = zig b) : a = b := by rw [← zag_zig a, h, zag_zig]

theorem putInt_lit (n : Int) (r : ByteArray) (h : bstr (putN (zig (clampS n))) = r) (w : World) :
    Calls Try.prog 22 #[.int .i64 n] w fun e w' => e = .returned (.string r) ∧ Below w.heap.size w w' := by
  subst h
  exact putInt_any n w

set_option maxRecDepth 100000 in
set_option maxHeartbeats 1600000 in
theorem walkNumOrder (a : Int) (_wa : (Lit.int .i64 a).wf = true) (b : Int) (_wb : (Lit.int .i64 b).wf = true) (w : World) :
    Calls Try.prog 9 #[.int .i64 a, .int .i64 b] w fun e w' => e = .returned (.bool true) ∧ Below w.heap.size w w' := by
  have c1 := put_lit a _ rfl
  have c2 := put_lit b _ rfl
  have c3 := putInt_lit a _ rfl
  have c4 := putInt_lit b _ rfl
  have la := putN_len6 (clampN_le a)
  have lb := putN_len6 (clampN_le b)
  have pa := putN_pos (clampN a)
  have pb := putN_pos (clampN b)
  have ca := clampN_le a
  have cb := clampN_le b
  have sa : (bstr (putN (clampN a))).size = (putN (clampN a)).length := bstr_size _
  have sb : (bstr (putN (clampN b))).size = (putN (clampN b)).length := bstr_size _
  have exy : ((bstr (putN (clampN a))).toList == (bstr (putN (clampN b))).toList) = decide (clampN a = clampN b) := by
    rw [bytes_beq]
    congr 1
    rw [eq_iff_iff]
    exact ⟨fun h => putN_inj ca cb (bstr_inj h), fun h => by rw [h]⟩
  have euv : ((bstr (putN (zig (clampS a)))).toList == (bstr (putN (zig (clampS b)))).toList) = decide (clampS a = clampS b) := by
    rw [bytes_beq]
    congr 1
    rw [eq_iff_iff]
    exact ⟨fun h => zig_inj (putN_inj (zig_le (clampS_bd a)) (zig_le (clampS_bd b)) (bstr_inj h)), fun h => by rw [h]⟩
  have epq : ((clampN a : Int) == (clampN b : Int)) = decide (clampN a = clampN b) := by
    by_cases h : clampN a = clampN b
    · rw [h]; simp
    · have h' : ¬ (clampN a : Int) = (clampN b : Int) := by omega
      simp [h, h']
  have emn : (clampS a == clampS b) = decide (clampS a = clampS b) := by
    by_cases h : clampS a = clampS b
    · rw [h]; simp
    · simp [h]
  have pre : (bstr (putN (clampN a))).size < (bstr (putN (clampN b))).size → (((bstr (putN (clampN b))).extract 0 (bstr (putN (clampN a))).size).toList == (bstr (putN (clampN a))).toList) = false := by
    intro h
    apply bytes_ne
    rw [bstr_take, sa]
    intro e
    rw [sa, sb] at h
    exact putN_no_prefix ca cb h (bstr_inj e)
  have more : (bstr (putN (clampN b))).size < (bstr (putN (clampN a))).size → (clampN b : Int) < (clampN a : Int) := by
    intro h
    rcases Nat.lt_or_ge (clampN b) (clampN a) with h1 | h1
    · omega
    · have := putN_mono _ _ h1; omega
  have m1 : (if (1099511627776 : Int) < a then 1099511627776 else a) = min a 1099511627776 := by split <;> omega
  have m2 : (if (1099511627776 : Int) < b then 1099511627776 else b) = min b 1099511627776 := by split <;> omega
  have m3 : (if (0 : Int) < min a 1099511627776 then min a 1099511627776 else 0) = (clampN a : Int) := by unfold clampN clampI; split <;> omega
  have m4 : (if (0 : Int) < min b 1099511627776 then min b 1099511627776 else 0) = (clampN b : Int) := by unfold clampN clampI; split <;> omega
  have n1 : (if (549755813888 : Int) < a then 549755813888 else a) = min a 549755813888 := by split <;> omega
  have n2 : (if (549755813888 : Int) < b then 549755813888 else b) = min b 549755813888 := by split <;> omega
  have n3 : (if (-549755813888 : Int) < min a 549755813888 then min a 549755813888 else -549755813888) = clampS a := by unfold clampS clampI; split <;> omega
  have n4 : (if (-549755813888 : Int) < min b 549755813888 then min b 549755813888 else -549755813888) = clampS b := by unfold clampS clampI; split <;> omega
  have C1 := Lib.hid c1
  have C2 := Lib.hid c2
  have C3 := Lib.hid c3
  have C4 := Lib.hid c4
  clear c1 c2 c3 c4
  generalize min a 1099511627776 = a1 at m1 m3
  generalize min b 1099511627776 = b1 at m2 m4
  generalize min a 549755813888 = a2 at n1 n3
  generalize min b 549755813888 = b2 at n2 n4
  generalize bstr (putN (clampN a)) = X at *
  generalize bstr (putN (clampN b)) = Y at *
  generalize bstr (putN (zig (clampS a))) = U at *
  generalize bstr (putN (zig (clampS b))) = V at *
  generalize decide (clampN a = clampN b) = B1 at *
  generalize decide (clampS a = clampS b) = B2 at *
  generalize clampS a = M at *
  generalize clampS b = N at *
  have x6 : (X.size : Int) ≤ 6 := by omega
  have x1 : (1 : Int) ≤ (X.size : Int) := by omega
  generalize clampN a = P at *
  generalize clampN b = Q at *
  clear sa sb la lb pa pb
  rcases Nat.lt_trichotomy X.size Y.size with h | h | h
  rotate_left
  · have f2 : (X.size : Int) ≤ (Y.size : Int) := by omega
    have f4 : (Y.size : Int) ≤ (X.size : Int) := by omega
    clear pre more h
    go_enter Try.func9, Try.ntmps9
    go_wp2_with fail
    refine (numShown _).mono ?_
    rintro e w1 ⟨rfl, h1⟩
    go_wp2_with fail
    refine (C1.out _).mono ?_
    rintro e w2 ⟨rfl, h2⟩
    go_wp2_with fail
    refine (C2.out _).mono ?_
    rintro e w3 ⟨rfl, h3⟩
    go_wp2_with fail
    refine (C3.out _).mono ?_
    rintro e w4 ⟨rfl, h4⟩
    go_wp2_with fail
    refine (C4.out _).mono ?_
    rintro e w5 ⟨rfl, h5⟩
    go_wp2_with fail
    all_goals go_ret
    all_goals refine ⟨ret_bool ?_, bstep (bstep (bstep (bstep h1 h2) h3) h4) h5⟩
    all_goals simp
    all_goals omega
  · have f2 : (Y.size : Int) < (X.size : Int) := by omega
    have f5 := more h
    clear pre more h
    go_enter Try.func9, Try.ntmps9
    go_wp2_with fail
    refine (numShown _).mono ?_
    rintro e w1 ⟨rfl, h1⟩
    go_wp2_with fail
    refine (C1.out _).mono ?_
    rintro e w2 ⟨rfl, h2⟩
    go_wp2_with fail
    refine (C2.out _).mono ?_
    rintro e w3 ⟨rfl, h3⟩
    go_wp2_with fail
    refine (C3.out _).mono ?_
    rintro e w4 ⟨rfl, h4⟩
    go_wp2_with fail
    refine (C4.out _).mono ?_
    rintro e w5 ⟨rfl, h5⟩
    go_wp2_with fail
    all_goals go_ret
    all_goals refine ⟨ret_bool ?_, bstep (bstep (bstep (bstep h1 h2) h3) h4) h5⟩
    all_goals simp
    all_goals omega
  · have f1 := pre h
    have f2 : (X.size : Int) ≤ (Y.size : Int) := by omega
    have f3 : (0 : Int) ≤ (X.size : Int) := by omega
    have f4 : (X.size : Int) < (Y.size : Int) := by omega
    clear pre more h
    go_enter Try.func9, Try.ntmps9
    go_wp2_with fail
    refine (numShown _).mono ?_
    rintro e w1 ⟨rfl, h1⟩
    go_wp2_with fail
    refine (C1.out _).mono ?_
    rintro e w2 ⟨rfl, h2⟩
    go_wp2_with fail
    refine (C2.out _).mono ?_
    rintro e w3 ⟨rfl, h3⟩
    go_wp2_with fail
    refine (C3.out _).mono ?_
    rintro e w4 ⟨rfl, h4⟩
    go_wp2_with fail
    refine (C4.out _).mono ?_
    rintro e w5 ⟨rfl, h5⟩
    go_wp2_with fail
    all_goals go_ret
    all_goals refine ⟨ret_bool ?_, bstep (bstep (bstep (bstep h1 h2) h3) h4) h5⟩
    all_goals simp
    all_goals omega
end Go.Proofs.Ytapeeajneikoeaa
