/-
  Chapter 4's examples hold; Scan's contract, ready for use.
-/
import Derived.Test.YtebliglfofjafaaFrIter
namespace Go.Proofs.Ytebliglfofjafaa
open Go.RowKit

theorem scan_any (s : ByteArray) (w : World) (hs : s.size ≤ 1000000000) :
    Calls Try.prog 17 #[.string s] w (ScanIs s w) := callsIn_wide.1 (scan_in 3 (Nat.le_refl _) s w hs)

/-- Scan's answer, told by a list of texts. -/
def ScanTo (ss : List ByteArray) (n : Nat) (w : World) (e : Ending) (w' : World) : Prop :=
  ∃ v, e = .returned (.tuple #[v, .int .i64 (n : Int)]) ∧ IsStrs w' v ss ∧ Below w.heap.size w w'

theorem scanTo_of {s : ByteArray} {w : World} (hs : s.size ≤ 1000000000) (ss : List ByteArray) (n : Nat) (h1 : (scanFr s.data.toList).1 = lists ss) (h2 : rowLen (lists ss) = n) {e : Ending} {w' : World} (h : ScanIs s w e w') : ScanTo ss n w e w' := by
  obtain ⟨v, h3, h4, h5⟩ := h
  have hb := scanFr_back s.data.toList
  have hl := scanFr_len s.data.toList
  have hge := rowLen_ge (scanFr s.data.toList).1
  have hsz : s.data.toList.length = s.size := by simp
  have hstr := own_strs h4 (fun p hp => by have := (hb.2 p hp).2; unfold maxLen; omega) (by unfold maxLen; omega)
  rw [h1] at hstr h3
  rw [h2] at h3
  refine ⟨v, h3, ?_, h5⟩
  have : (lists ss).map bstr = ss := by
    simp only [lists, List.map_map]
    conv => rhs; rw [← List.map_id ss]
    exact List.map_congr_left (fun s _ => bstr_of s)
  rwa [this] at hstr

theorem scan_lit (s : ByteArray) (ss : List ByteArray) (n : Nat) (h1 : (scanFr s.data.toList).1 = lists ss) (h2 : rowLen (lists ss) = n) (hs : s.size ≤ 1000000000) (w : World) :
    Calls Try.prog 17 #[.string s] w (ScanTo ss n w) := (scan_any s w hs).mono fun _ _ h => scanTo_of hs ss n h1 h2 h

theorem refScan_lit (s : ByteArray) (ss : List ByteArray) (n : Nat) (h1 : (scanFr s.data.toList).1 = lists ss) (h2 : rowLen (lists ss) = n) (hs : s.size ≤ 1000000000) (w : World) :
    Calls Try.prog 18 #[.string s] w (ScanTo ss n w) := (refScan_any s w hs).mono fun _ _ h => scanTo_of hs ss n h1 h2 h

theorem row_lit (v : Value) (ss : List ByteArray) (r : ByteArray) (e : Nat) (h : rowFr (lists ss) = (r.data.toList, e)) (hmany : ss.length ≤ 1000) (w : World) (hv : IsStrs w v ss) :
    Calls Try.prog 13 #[v] w fun en w' => en = .returned (.tuple #[.string r, .int .i64 (e : Int)]) ∧ Below w.heap.size w w' := by
  refine (row_any v ss w hv hmany).mono ?_
  rintro en w' ⟨rfl, hb⟩
  rw [h]
  exact ⟨rfl, hb⟩

theorem refRow_lit (v : Value) (ss : List ByteArray) (r : ByteArray) (e : Nat) (h : rowFr (lists ss) = (r.data.toList, e)) (hmany : ss.length ≤ 1000) (w : World) (hv : IsStrs w v ss) :
    Calls Try.prog 14 #[v] w fun en w' => en = .returned (.tuple #[.string r, .int .i64 (e : Int)]) ∧ Below w.heap.size w w' := by
  refine (refRow_any v ss w hv hmany).mono ?_
  rintro en w' ⟨rfl, hb⟩
  rw [h]
  exact ⟨rfl, hb⟩

theorem same_lit (v1 v2 : Value) (xs ys : List ByteArray) (b : Bool) (hb : b = decide (xs = ys)) (w : World) (h1 : IsStrs w v1 xs) (h2 : IsStrs w v2 ys) :
    Calls Try.prog 19 #[v1, v2] w fun e w' => e = .returned (.bool b) ∧ Below w.heap.size w w' := by
  refine (same_any v1 v2 xs ys w h1 h2).mono ?_
  rintro e w' ⟨b', rfl, hiff, n, rfl⟩
  refine ⟨?_, below_drewN (Below.refl _ _) n⟩
  rw [hb]
  congr 2
  by_cases hx : xs = ys
  · rw [hiff.2 hx]; simp [hx]
  · have : b' ≠ true := fun h => hx (hiff.1 h)
    simp [hx]; simpa using this

theorem small_lit (v : Value) (ss : List ByteArray) (b : Bool) (hb : b = true ↔ SmallP ss) (w : World) (h1 : IsStrs w v ss) :
    Calls Try.prog 10 #[v] w fun e w' => e = .returned (.bool b) ∧ w' = w := by
  refine (small_any v ss w h1).mono ?_
  rintro e w' ⟨b', rfl, hiff, rfl⟩
  refine ⟨?_, rfl⟩
  congr 2
  have : b' = true ↔ b = true := hiff.trans hb.symm
  cases b <;> cases b' <;> simp_all

/-- A slice of strings that was just laid. -/
theorem strs_new (w : World) (ss : List ByteArray) (cs : Array Value) (hcs : cs.toList = ss.map (fun s => Value.string s)) (hsz : ∀ s ∈ ss, s.size ≤ maxLen) (hm : ss.length ≤ maxLen) (t : TypeId) (n : Nat) (hn : n = ss.length) (cap : Nat) :
    IsStrs (w.alloc (.cells cs t)) (.slice (some ⟨w.heap.size, 0, none⟩) n cap) ss := by
  subst hn
  refine ⟨_, cap, rfl, hsz, hm, fun _ => ⟨w.heap.size, 0, rfl, by simp, fun i hi => ?_⟩⟩
  have hlen : cs.size = ss.length := by have := congrArg List.length hcs; simpa using this
  have h1 : cs[i]? = some (.string ss[i]) := by
    rw [← Array.getElem?_toList, hcs]; simp [hi]
  rw [Nat.zero_add, World.cell?_alloc_new]
  exact h1

theorem balloc {a w : World} (h : Below a.heap.size a w) (b : Obj) : Below a.heap.size a (w.alloc b) := h.alloc h.size b

theorem ex_row : rowFr [[97], [98]] = (frame [97] ++ frame [98], 0) := by
  rw [rowFr_all _ (by intro p hp; simp at hp; rcases hp with rfl | rfl <;> exact ⟨by decide, by decide⟩)]
  simp [rowBytes]

theorem ex_scan : scanFr ((frame [97] ++ frame [98]).take 17) = ([[97]], (frame [98]).take 8) := by
  have h1 : (frame [97] ++ frame [98]).take 17 = rowBytes [[97]] ++ (frame [98]).take 8 := by
    rw [List.take_append, List.take_of_length_le (by rw [frame_len]; decide), frame_len]; simp [rowBytes]
  have h2 := scanFr_stop (s := (frame [98]).take 8) (by rw [takeFr_short ⟨by decide, by decide⟩ (by rw [frame_len]; decide)]; decide)
  rw [h1, scanFr_row _ _ (by intro p hp; simp at hp; subst hp; exact ⟨by decide, by decide⟩), h2]
  rfl

set_option maxRecDepth 100000 in
set_option maxHeartbeats 800000 in
theorem frShown (w : World) :
    Calls Try.prog 9 #[] w fun e w' => e = .returned (.bool true) ∧ Below w.heap.size w w' := by
  obtain ⟨q, hq⟩ : ∃ q : ByteArray, q.data.toList = frame [97, 98, 99] := ⟨bstr _, rfl⟩
  have hql : q.size = 11 := by have := congrArg List.length hq; rw [frame_len] at this; simpa using this
  obtain ⟨t, ht⟩ : ∃ t : ByteArray, t.data.toList = frame [97] ++ frame [98] := ⟨bstr _, rfl⟩
  have htl : t.size = 18 := by have := congrArg List.length ht; rw [List.length_append, frame_len, frame_len] at this; simpa using this
  have hsl : (scanFr (t.extract 0 17).data.toList).1 = lists [⟨#[97]⟩] := by
    have : (t.extract 0 17).data.toList = (frame [97] ++ frame [98]).take 17 := by rw [← ht]; simp
    rw [this, ex_scan]; rfl
  have c1 := Lib.hid (frPut_str ⟨#[97, 98, 99]⟩ q 0 (by rw [hq]; exact putFr_fits ⟨by decide, by decide⟩) (by decide))
  have c2 := Lib.hid (frPut_str ⟨#[]⟩ ⟨#[]⟩ 2 (by decide) (by decide))
  have c3 := Lib.hid (fun v => row_lit v [⟨#[97]⟩, ⟨#[98]⟩] t 0 (by rw [ht]; exact ex_row) (by decide))
  have c4 := Lib.hid (scan_lit (t.extract 0 17) [⟨#[97]⟩] 9 hsl (by decide) (Nat.le_trans (show (t.extract 0 17).size ≤ 17 by rw [ByteArray.size_extract]; omega) (by decide)))
  have Hql := Lib.hid hql
  have gq : ((q.size : Int) != 11) = false := by rw [hql]; rfl
  have gt : ((t.size : Int) != 18) = false := by rw [htl]; rfl
  have gt2 : (17 : Int) ≤ (t.size : Int) := by omega
  clear hq hql ht htl hsl
  go_enter Try.func9, Try.ntmps9
  go_wp2_with fail
  refine (c1.out _).mono ?_
  rintro e w1 ⟨rfl, h1⟩
  go_wp2_with fail
  refine (c2.out _).mono ?_
  rintro e w2 ⟨rfl, h2⟩
  go_wp2_with fail
  refine (c3.out _ _ (strs_new _ _ _ (by rfl) (by decide) (by decide) _ _ rfl _)).mono ?_
  rintro e w3 ⟨rfl, h3⟩
  go_wp2_with fail
  refine (c4.out _).mono ?_
  rintro e w4 ⟨v, rfl, hv, h4⟩
  go_wp2_with fail
  refine (same_lit _ _ [⟨#[97]⟩] [⟨#[97]⟩] true (by decide) _ (hv.below ((Below.refl _ _).alloc (Nat.le_refl _) _)) (strs_new _ _ _ (by rfl) (by decide) (by decide) _ _ rfl _)).mono ?_
  rintro e w5 ⟨rfl, h5⟩
  go_wp2_with fail
  go_ret
  exact ⟨rfl, bstep (balloc (bstep (bstep (balloc (bstep h1 h2) _) h3) h4) _) h5⟩
end Go.Proofs.Ytebliglfofjafaa
