/-
  The walks over package num: taking signed numbers, texts and four bytes.
-/
import Derived.Test.YtflojipkgaocnaaGreatDoorEvTake
namespace Go.Proofs.YtflojipkgaocnaaGreatDoor
open Go.RowKit

theorem takeN_le (l : List UInt8) : (takeN l).1 ≤ maxNum := by
  by_cases h : (takeN l).2.2 = 0
  · have e : takeN l = ((takeN l).1, (takeN l).2.1, 0) := by rw [← h]
    exact (takeN_back e).2
  · rw [(takeN_wrong h).1]; unfold maxNum; omega

theorem takeN_rest_le (l : List UInt8) : (takeN l).2.1.length ≤ l.length := by
  by_cases h : (takeN l).2.2 = 0
  · have e : takeN l = ((takeN l).1, (takeN l).2.1, 0) := by rw [← h]
    have := (takeN_back e).1
    conv => rhs; rw [this]
    simp
  · rw [(takeN_wrong h).2]; simp

theorem take_lit (s : ByteArray) (n : Nat) (rest : List UInt8) (e : Nat) (h : takeN s.data.toList = (n, rest, e)) (hs : s.size ≤ maxLen) (w : World) :
    Calls Tryz.prog 75 #[.string s] w fun en w' => en = .returned (.tuple #[.int .i64 n, .string (bstr rest), .int .i64 e]) ∧ Below w.heap.size w w' := by
  have := take_any s w hs
  rw [h] at this
  exact this

theorem zag_bits_even {n : Nat} (h : n ≤ maxNum) (hp : n % 2 = 0) : bits .and .i64 (n : Int) 1 = 0 ∧ bits .xor .i64 ((n : Int) / 2) 0 = zag n := by
  unfold maxNum at h
  constructor
  · have := i64_and_nat n 1 (by omega) (by omega)
    rw [Nat.and_one_is_mod, hp] at this
    exact this
  · have := i64_xor_zero (n / 2) (by omega)
    rw [show ((n / 2 : Nat) : Int) = (n : Int) / 2 by omega] at this
    rw [this]; unfold zag; rw [if_pos hp]

theorem zag_bits_odd {n : Nat} (h : n ≤ maxNum) (hp : ¬ n % 2 = 0) : bits .and .i64 (n : Int) 1 = 1 ∧ bits .xor .i64 ((n : Int) / 2) (-1) = zag n := by
  unfold maxNum at h
  constructor
  · have := i64_and_nat n 1 (by omega) (by omega)
    rw [Nat.and_one_is_mod, show n % 2 = 1 by omega] at this
    exact this
  · rw [i64_xor_neg _ (by omega) (by omega)]; unfold zag; rw [if_neg hp]

set_option maxRecDepth 100000 in
set_option maxHeartbeats 400000 in
theorem takeInt_lit (s : ByteArray) (n : Nat) (rest : List UInt8) (e : Nat) (h : takeN s.data.toList = (n, rest, e)) (hs : s.size ≤ maxLen) (w : World) :
    Calls Tryz.prog 92 #[.string s] w fun en w' => en = .returned (.tuple #[.int .i64 (zag n), .string (bstr rest), .int .i64 e]) ∧ Below w.heap.size w w' := by
  have hn : n ≤ maxNum := by have := takeN_le s.data.toList; rw [h] at this; exact this
  have h1 := Lib.hid (take_lit s n rest e h hs)
  clear h
  by_cases hp : n % 2 = 0
  · obtain ⟨e1, e2⟩ := zag_bits_even hn hp
    unfold maxNum at hn
    have Hp := Lib.hid hp
    clear hp
    go_enter Tryz.func92, Tryz.ntmps92
    go_wp2_with fail
    refine (h1.out _).mono ?_
    rintro en w1 ⟨rfl, hb⟩
    go_wp2_with fail
    go_ret3
    exact ⟨rfl, hb⟩
  · obtain ⟨e1, e2⟩ := zag_bits_odd hn hp
    unfold maxNum at hn
    have Hp := Lib.hid hp
    clear hp
    go_enter Tryz.func92, Tryz.ntmps92
    go_wp2_with fail
    refine (h1.out _).mono ?_
    rintro en w1 ⟨rfl, hb⟩
    go_wp2_with fail
    go_ret3
    exact ⟨rfl, hb⟩

/-- TakeText. -/
def takeT (l : List UInt8) (most : Int) : List UInt8 × List UInt8 × Nat :=
  if (takeN l).2.2 ≠ 0 then ([], [], (takeN l).2.2)
  else if most < (takeN l).1 then ([], [], 4)
  else if (takeN l).2.1.length < (takeN l).1 then ([], [], 3)
  else ((takeN l).2.1.take (takeN l).1, (takeN l).2.1.drop (takeN l).1, 0)

theorem bstr_take (l : List UInt8) (n : Nat) : (bstr l).extract 0 n = bstr (l.take n) := by
  apply ByteArray.ext
  apply Array.toList_inj.1
  rw [bstr_list]
  simp only [ByteArray.data_extract, Array.toList_extract, List.extract_eq_take_drop, bstr_list]
  simp

theorem bstr_drop (l : List UInt8) (n : Nat) : (bstr l).extract n (bstr l).size = bstr (l.drop n) := drop_extract (bstr l) n

set_option maxRecDepth 100000 in
set_option maxHeartbeats 400000 in
theorem takeText_lit (s : ByteArray) (most : Int) (t rest : List UInt8) (e : Nat) (h : takeT s.data.toList most = (t, rest, e)) (hs : s.size ≤ maxLen) (w : World) :
    Calls Tryz.prog 79 #[.string s, .int .i64 most] w fun en w' => en = .returned (.tuple #[.string (bstr t), .string (bstr rest), .int .i64 e]) ∧ Below w.heap.size w w' := by
  obtain ⟨n, r, er, hr⟩ : ∃ n r er, takeN s.data.toList = (n, r, er) := ⟨_, _, _, rfl⟩
  have hn : n ≤ maxNum := by have := takeN_le s.data.toList; rw [hr] at this; exact this
  have hrl : r.length ≤ s.size := by have := takeN_rest_le s.data.toList; rw [hr] at this; simpa using this
  unfold takeT at h
  have h1 := Lib.hid (take_lit s n r er hr hs)
  rw [hr] at h
  clear hr
  unfold maxNum at hn
  have hm := hs
  unfold maxLen at hm
  by_cases he : er = 0
  · subst he
    rw [if_neg (by simp)] at h
    by_cases h4 : most < (n : Int)
    · rw [if_pos h4] at h
      obtain ⟨rfl, rfl, rfl⟩ : [] = t ∧ [] = rest ∧ 4 = e := by simpa using h
      clear h
      go_enter Tryz.func79, Tryz.ntmps79
      go_wp2_with fail
      refine (h1.out _).mono ?_
      rintro en w1 ⟨rfl, hb⟩
      go_wp2_with fail
      go_ret3
      exact ⟨rfl, hb⟩
    · rw [if_neg h4] at h
      by_cases h3 : r.length < n
      · rw [if_pos h3] at h
        obtain ⟨rfl, rfl, rfl⟩ : [] = t ∧ [] = rest ∧ 3 = e := by simpa using h
        clear h
        have hsz := bstr_size r
        have g : ((bstr r).size : Int) < (n : Int) := by omega
        clear hsz
        go_enter Tryz.func79, Tryz.ntmps79
        go_wp2_with fail
        refine (h1.out _).mono ?_
        rintro en w1 ⟨rfl, hb⟩
        go_wp2_with fail
        go_ret3
        exact ⟨rfl, hb⟩
      · rw [if_neg h3] at h
        obtain ⟨rfl, rfl, rfl⟩ : r.take n = t ∧ r.drop n = rest ∧ 0 = e := by simpa using h
        clear h
        have hsz := bstr_size r
        have g : ¬ ((bstr r).size : Int) < (n : Int) := by omega
        have g1 : (n : Int) ≤ ((bstr r).size : Int) := by omega
        have g0 : (0 : Int) ≤ (n : Int) := by omega
        clear hsz
        go_enter Tryz.func79, Tryz.ntmps79
        go_wp2_with fail
        refine (h1.out _).mono ?_
        rintro en w1 ⟨rfl, hb⟩
        go_wp2_with fail
        go_quiet (fail)
        go_wp2_with fail
        go_ret3
        refine ⟨?_, below_drewN hb _⟩
        rw [← bstr_take, ← bstr_drop]
        rfl
  · rw [if_pos he] at h
    obtain ⟨rfl, rfl, rfl⟩ : [] = t ∧ [] = rest ∧ er = e := by simpa using h
    clear h
    have ge : ((er : Int) != 0) = true := by simp; omega
    go_enter Tryz.func79, Tryz.ntmps79
    go_wp2_with fail
    refine (h1.out _).mono ?_
    rintro en w1 ⟨rfl, hb⟩
    go_wp2_with fail
    go_ret3
    exact ⟨rfl, hb⟩
end Go.Proofs.YtflojipkgaocnaaGreatDoor
