/-
  The walks of timer.place, At, Next and order.
-/
import Derived.Test.YtpadbkplknnopaaTmData
namespace Go.Proofs.Ytpadbkplknnopaa
open Go.RowKit

theorem placeT_spec (n : ByteArray) : ∀ l : List TM, (placeT n l = -1 ∧ ∀ i (h : i < l.length), l[i].name ≠ n) ∨ ∃ k, k < l.length ∧ placeT n l = (k : Int) ∧ (∀ h : k < l.length, l[k].name = n) ∧ ∀ i (h : i < l.length), i < k → l[i].name ≠ n
  | [] => .inl ⟨rfl, fun i h => absurd h (by simp)⟩
  | t :: l => by
    by_cases ht : t.name.toList = n.toList
    · have he : t.name = n := bytes_eq (beq_iff_eq.2 ht)
      refine .inr ⟨0, by simp, by rw [placeT, if_pos ht]; rfl, fun _ => he, fun i _ h => absurd h (by omega)⟩
    · have hne : t.name ≠ n := fun e => ht (by rw [e])
      rcases placeT_spec n l with ⟨h1, h2⟩ | ⟨k, h1, h2, h3, h4⟩
      · refine .inl ⟨by rw [placeT, if_neg ht, if_pos (by omega)], fun i h => ?_⟩
        cases i with
        | zero => exact hne
        | succ i => exact h2 i (by simpa using h)
      · refine .inr ⟨k + 1, by simpa using h1, by rw [placeT, if_neg ht, if_neg (by omega), h2]; rfl, fun h => h3 (by simpa using h), fun i h hi => ?_⟩
        cases i with
        | zero => exact hne
        | succ i => exact h4 i (by simpa using h) (by omega)
theorem placeT_at {n : ByteArray} {l : List TM} {k : Nat} (hk : k < l.length) (h : l[k].name = n) (hno : ∀ i (h : i < l.length), i < k → l[i].name ≠ n) : placeT n l = (k : Int) := by
  rcases placeT_spec n l with ⟨_, h2⟩ | ⟨m, h1, h2, h3, h4⟩
  · exact absurd h (h2 k hk)
  · rw [h2]
    rcases Nat.lt_trichotomy m k with h5 | h5 | h5
    · exact absurd (h3 h1) (hno m h1 h5)
    · rw [h5]
    · exact absurd h (h4 k hk h5)
theorem placeT_no {n : ByteArray} {l : List TM} (h : ∀ i (h : i < l.length), l[i].name ≠ n) : placeT n l = -1 := by
  rcases placeT_spec n l with ⟨h1, _⟩ | ⟨m, h1, h2, h3, h4⟩
  · exact h1
  · exact absurd (h3 h1) (h m h1)

set_option maxHeartbeats 800000 in
theorem isName_any (y : TM) (n : ByteArray) (nb : Nat) (q : Bool) (hq : (y.name.toList == n.toList) = q) (w : World) (hn : w.cell? ⟨nb, 0, none⟩ = some (.string n)) :
    Calls Try.prog 32 #[.agg #[.string y.name, .int .i64 y.at_], .pointer (some ⟨nb, 0, none⟩)] w fun r w' => r = .returned (.bool q) ∧ Below w.heap.size w w' := by
  have hnb := World.block_lt_of_cell? w _ hn
  simp only at hnb
  have hne : nb ≠ w.heap.size := by omega
  have HQ := Lib.hid hq
  clear hq
  go_enter Try.func32, Try.ntmps32
  go_wp2_with fail
  go_ret
  exact ⟨ret_bool HQ.out, (Below.refl _ _).alloc (Nat.le_refl _) _⟩

set_option maxHeartbeats 800000 in
theorem indexT_any (B : Nat) (v : Value) (l : List TM) (n : ByteArray) (nb : Nat) (p : Int) (hp : placeT n l = p) (w : World) (h : IsTimers B w v l) (hB : B ≤ w.heap.size) (hn : w.cell? ⟨nb, 0, none⟩ = some (.string n)) :
    Calls Try.prog 31 #[v, .func (.func 32) #[] #[.pointer (some ⟨nb, 0, none⟩)]] w fun r w' => r = .returned (.int .i64 p) ∧ Below w.heap.size w w' := by
  have H := Lib.hid h
  have HN := Lib.hid hn
  have HP := Lib.hid hp
  have hnb := World.block_lt_of_cell? w _ hn
  obtain ⟨a, cap, rfl⟩ := h.form
  have hmax : l.length ≤ 9223372036854775807 := by obtain ⟨_, _, he, h1, h2, _⟩ := H.out; unfold maxLen at h2; omega
  clear h hn hp
  go_enter Try.func31, Try.ntmps31
  go_wp2_with fail
  go_loopw [4, 5, 8] (fun _ _ t8 wr => ∃ k : Nat, k ≤ l.length ∧ t8 = .int .i64 k ∧ (∀ i, (hi : i < l.length) → i < k → l[i].name ≠ n) ∧ Below w.heap.size w wr) (fun _ _ t8 _ => l.length - (intOf t8).toNat)
  case atStart => exact ⟨0, Nat.zero_le _, rfl, fun i _ h => absurd h (by omega), Below.refl _ _⟩
  case round =>
    obtain ⟨k, hk, rfl, hno, hbl⟩ := hrel
    have Hno := Lib.hid hno
    clear hno
    by_cases hlt : k < l.length
    · obtain ⟨b, off, cap', he, hblk, _, hc1, hc2⟩ := (H.out.keep hbl hB).get k hlt
      obtain ⟨rfl, -, rfl⟩ : a = some ⟨b, off, none⟩ ∧ l.length = l.length ∧ cap = cap' := by injection he with e1 e2 e3; exact ⟨e1, e2, e3⟩
      clear he
      obtain ⟨y, hy⟩ : ∃ y, l[k] = y := ⟨_, rfl⟩
      rw [hy] at hc1 hc2
      have i1 : (0 : Int) ≤ (k : Int) := by omega
      have i2 : (k : Int) < (l.length : Int) := by omega
      have Hy := Lib.hid hy
      have hcn : wr.cell? ⟨nb, 0, none⟩ = some (.string n) := (hbl.cell (p := ⟨nb, 0, none⟩) hnb).trans HN.out
      have hlt3 : nb < wr.heap.size := Nat.lt_of_lt_of_le hnb hbl.size
      have hne3 : nb ≠ wr.heap.size := by omega
      clear hy
      obtain ⟨q, hq⟩ : ∃ q, (y.name.toList == n.toList) = q := ⟨_, rfl⟩
      have C := Lib.hid (isName_any y n nb q hq wr hcn)
      have HQ := Lib.hid hq
      clear hq
      cases q with
      | true =>
        obtain rfl : (k : Int) = p := by
          rw [← HP.out]
          exact (placeT_at hlt (by rw [Hy.out]; exact bytes_eq HQ.out) Hno.out).symm
        go_wp2_with fail
        refine C.out.mono ?_
        rintro r w1 ⟨rfl, hb1⟩
        go_wp2_with fail
        go_ret
        exact ⟨rfl, bstep hbl hb1⟩
      | false =>
        go_wp2_with fail
        refine C.out.mono ?_
        rintro r w1 ⟨rfl, hb1⟩
        go_wp2_with fail
        go_roundw
        case rel =>
          refine ⟨k + 1, by omega, by go_num, fun i hi hik => ?_, bstep hbl hb1⟩
          by_cases e : i = k
          · subst e
            rw [Hy.out]
            intro e2
            have h3 := HQ.out
            rw [e2] at h3
            simp at h3
          · exact Hno.out i hi (by omega)
        case measure => simp [intOf]; omega
    · have g : ¬ ((k : Int) < (l.length : Int)) := by omega
      obtain rfl : -1 = p := by
        rw [← HP.out]
        exact (placeT_no (fun i hi => Hno.out i hi (by omega))).symm
      go_wp2_with fail
      go_ret
      exact ⟨rfl, hbl⟩

set_option maxHeartbeats 800000 in
theorem place_any (B : Nat) (v : Value) (l : List TM) (n : ByteArray) (p : Int) (hp : placeT n l = p) (w : World) (h : IsTms B w v l) (hB : B ≤ w.heap.size) :
    Calls Try.prog 24 #[v, .string n] w fun r w' => r = .returned (.int .i64 p) ∧ Below w.heap.size w w' := by
  obtain ⟨lv, rfl, hl⟩ := h
  obtain ⟨a, cap, rfl⟩ := hl.form
  have hb0 : Below w.heap.size w ((w.alloc (.cells #[.slice a l.length cap] 26)).alloc (.cells #[.string n] 9)) := ((Below.refl _ _).alloc (Nat.le_refl _) _).alloc (by rw [World.size_alloc]; omega) _
  have C := Lib.hid (indexT_any B _ l n (w.heap.size + 1) p hp _ (hl.keep hb0 hB) (Nat.le_trans hB hb0.size) (by simp))
  have HB0 := Lib.hid hb0
  clear hp hl hb0
  go_enter Try.func24, Try.ntmps24
  go_wp2_with fail
  refine C.out.mono ?_
  rintro r w1 ⟨rfl, hb1⟩
  go_wp2_with fail
  go_ret
  exact ⟨rfl, bstep HB0.out hb1⟩

set_option maxHeartbeats 800000 in
theorem at_any (B : Nat) (v : Value) (l : List TM) (n : ByteArray) (x : Int) (q : Bool) (hx : (if 0 ≤ placeT n l then ((l.getD (placeT n l).toNat ⟨⟨#[]⟩, 0⟩).at_, true) else (0, false)) = (x, q)) (w : World) (h : IsTms B w v l) (hB : B ≤ w.heap.size) :
    Calls Try.prog 19 #[v, .string n] w fun r w' => r = .returned (.tuple #[.int .i64 x, .bool q]) ∧ Below w.heap.size w w' := by
  have HV := Lib.hid h
  obtain ⟨lv, rfl, hl⟩ := h
  obtain ⟨a, cap, rfl⟩ := hl.form
  have HL := Lib.hid hl
  have bx0 := bx_new (w := w) (.cells #[.slice a l.length cap] 26)
  obtain ⟨p, hp⟩ : ∃ p, placeT n l = p := ⟨_, rfl⟩
  have C := Lib.hid (place_any B _ l n p hp _ (HV.out.keep (bx_below bx0) hB) (Nat.le_trans hB (bx_below bx0).size))
  rcases placeT_spec n l with ⟨h1, _⟩ | ⟨k, h1, h2, _, _⟩
  · obtain rfl : -1 = p := by rw [← hp, h1]
    rw [hp, if_neg (by omega)] at hx
    obtain ⟨rfl, rfl⟩ : 0 = x ∧ false = q := by simpa using hx
    clear hx hp h1 hl
    go_enter Try.func19, Try.ntmps19
    go_wp2_with fail
    refine C.out.mono ?_
    rintro r w1 ⟨rfl, hb1⟩
    go_wp2_with fail
    go_ret2
    exact ⟨rfl, bx_below (bx_more bx0 hb1)⟩
  · obtain rfl : (k : Int) = p := by rw [← hp, h2]
    have hg : l.getD (k : Int).toNat ⟨⟨#[]⟩, 0⟩ = l[k] := by
      rw [Int.toNat_natCast, List.getD_eq_getElem?_getD, List.getElem?_eq_getElem h1, Option.getD_some]
    rw [hp, if_pos (by omega), hg] at hx
    obtain ⟨y, hy⟩ : ∃ y, l[k] = y := ⟨_, rfl⟩
    rw [hy] at hx
    obtain ⟨rfl, rfl⟩ : y.at_ = x ∧ true = q := by simpa using hx
    have i1 : (0 : Int) ≤ (k : Int) := by omega
    have i2 : (k : Int) < (l.length : Int) := by omega
    have i3 : ¬ (k : Int) < 0 := by omega
    have Hy := Lib.hid hy
    clear hx hp h2 hl hy hg
    go_enter Try.func19, Try.ntmps19
    go_wp2_with fail
    refine C.out.mono ?_
    rintro r w1 ⟨rfl, hb1⟩
    have bx1 := bx_more bx0 hb1
    have y0 := box1 bx1
    obtain ⟨b, off, cap', he, hblk, _, hc1, hc2⟩ := (HL.out.keep (bx_below bx1) hB).get k h1
    obtain ⟨rfl, -, rfl⟩ : a = some ⟨b, off, none⟩ ∧ l.length = l.length ∧ cap = cap' := by injection he with e1 e2 e3; exact ⟨e1, e2, e3⟩
    clear he
    rw [Hy.out] at hc1 hc2
    go_wp2_with fail
    go_ret2
    exact ⟨rfl, bx_below bx1⟩

set_option maxHeartbeats 800000 in
theorem next_any (B : Nat) (v : Value) (l : List TM) (x : Int) (hx : nextT l = x) (w : World) (h : IsTms B w v l) (hB : B ≤ w.heap.size) :
    Calls Try.prog 22 #[v] w fun r w' => r = .returned (.int .i64 x) ∧ Below w.heap.size w w' := by
  obtain ⟨lv, rfl, hl⟩ := h
  obtain ⟨a, cap, rfl⟩ := hl.form
  have bx0 := bx_new (w := w) (.cells #[.slice a l.length cap] 26)
  have BX0 := Lib.hid bx0
  by_cases h0 : l.length = 0
  · have g0 : ((l.length : Int) == 0) = true := by rw [h0]; rfl
    obtain rfl : -1 = x := by rw [← hx, List.eq_nil_of_length_eq_zero h0]; rfl
    clear hx hl bx0 h0
    go_enter Try.func22, Try.ntmps22
    go_wp2_with fail
    go_ret
    exact ⟨rfl, bx_below BX0.out⟩
  · have g0 : ((l.length : Int) == 0) = false := by rw [beq_eq_false_iff_ne]; omega
    obtain ⟨b, off, cap', he, hblk, _, hc1, hc2⟩ := hl.get 0 (by omega)
    obtain ⟨rfl, -, rfl⟩ : a = some ⟨b, off, none⟩ ∧ l.length = l.length ∧ cap = cap' := by injection he with e1 e2 e3; exact ⟨e1, e2, e3⟩
    clear he
    obtain ⟨y, hy⟩ : ∃ y, l[0] = y := ⟨_, rfl⟩
    rw [hy] at hc1 hc2
    obtain rfl : y.at_ = x := by
      rw [← hx, ← hy]
      cases l with
      | nil => simp at h0
      | cons t l => rfl
    rw [Nat.zero_mul, Nat.add_zero] at hc1 hc2
    have hlt : b < w.heap.size := by omega
    have hne : b ≠ w.heap.size := by omega
    have i1 : (0 : Int) < (l.length : Int) := by omega
    clear hx hl bx0 hy h0
    go_enter Try.func22, Try.ntmps22
    go_wp2_with fail
    go_ret
    exact ⟨rfl, bx_below BX0.out⟩

set_option maxHeartbeats 800000 in
theorem order_any (x y : TM) (n : Int) (hn : orderT x y = n) (w : World) :
    Calls Try.prog 26 #[.agg #[.string x.name, .int .i64 x.at_], .agg #[.string y.name, .int .i64 y.at_]] w fun r w' => r = .returned (.int .i64 n) ∧ Below w.heap.size w w' := by
  have hb0 : Below w.heap.size w ((w.alloc (.cells #[.string x.name, .int .i64 x.at_] 61)).alloc (.cells #[.string y.name, .int .i64 y.at_] 61)) := ((Below.refl _ _).alloc (Nat.le_refl _) _).alloc (by rw [World.size_alloc]; omega) _
  have HB0 := Lib.hid hb0
  have C := Lib.hid (Try.cmp_Compare_int x.at_ y.at_)
  have C2 := Lib.hid (Try.strings_Compare x.name y.name)
  clear hb0
  unfold orderT at hn
  by_cases h1 : x.at_ < y.at_
  · rw [if_pos h1] at hn
    subst hn
    have e : Lib.compareInt x.at_ y.at_ = -1 := by unfold Lib.compareInt; rw [if_pos h1]
    rw [e] at C
    clear e h1
    go_enter Try.func26, Try.ntmps26
    go_wp2_with fail
    refine (C.out _).mono ?_
    rintro r w1 ⟨rfl, rfl⟩
    go_wp2_with fail
    go_ret
    exact ⟨rfl, HB0.out⟩
  · rw [if_neg h1] at hn
    by_cases h2 : y.at_ < x.at_
    · rw [if_pos h2] at hn
      subst hn
      have e : Lib.compareInt x.at_ y.at_ = 1 := by unfold Lib.compareInt; rw [if_neg h1, if_pos h2]
      rw [e] at C
      clear e h1 h2
      go_enter Try.func26, Try.ntmps26
      go_wp2_with fail
      refine (C.out _).mono ?_
      rintro r w1 ⟨rfl, rfl⟩
      go_wp2_with fail
      go_ret
      exact ⟨rfl, HB0.out⟩
    · rw [if_neg h2] at hn
      have e : Lib.compareInt x.at_ y.at_ = 0 := by unfold Lib.compareInt; rw [if_neg h1, if_neg h2]
      rw [e] at C
      rw [hn] at C2
      clear e h1 h2 hn
      go_enter Try.func26, Try.ntmps26
      go_wp2_with fail
      refine (C.out _).mono ?_
      rintro r w1 ⟨rfl, rfl⟩
      go_wp2_with fail
      refine (C2.out _).mono ?_
      rintro r w2 ⟨rfl, rfl⟩
      go_wp2_with fail
      go_ret
      exact ⟨rfl, HB0.out⟩
end Go.Proofs.Ytpadbkplknnopaa
