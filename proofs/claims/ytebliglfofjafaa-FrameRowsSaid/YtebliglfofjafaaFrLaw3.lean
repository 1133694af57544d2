/-
  The walk of the law FrameTorn.
-/
import Derived.Test.YtebliglfofjafaaFrLaw2
namespace Go.Proofs.Ytebliglfofjafaa
open Go.ChangeShapes Go.WideShapes Go.ChangeAt Go.RowKit

/-- A slice's length fits in its capacity; a nil slice has none. -/
def RoomS (v : Value) : Prop := ∃ (a : Option Addr) (n cap : Nat), v = .slice a n cap ∧ n ≤ cap ∧ (a = none → cap = 0)

theorem open_strs_room {H : Type} {enc : TypeId × Value → H} {P : Program} {w : World} {base : Nat} {t e : TypeId} {v : Value} {d : DataW H} {p : List MemPlace}
    (ht : P.underlying t = some (.slice e)) (he : P.underlying e = some .string) (hc : P.cellsOf e = 1) (hv : Value.okWide P w .any base t v)
    (h : DataW.Trod enc P w 0 (fun _ => true) true t v d p) : ∃ ss, IsStrs w v ss ∧ RoomS v := by
  have h0 := open_strs ht he hc hv h
  obtain ⟨ss, hss⟩ := h0
  refine ⟨ss, hss, ?_⟩
  obtain ⟨a0, len, cap, rfl⟩ := okWide_slice ht hv
  obtain ⟨fuel, hf⟩ := h
  rcases open_strings ht he hc hf with ⟨hcs, _⟩ | ⟨x, l, c, ss, hcs, _, hl, hm, hz, _, hcell, hsz⟩
  · simp [Value.cells] at hcs
    obtain ⟨rfl, rfl, rfl⟩ := hcs
    exact ⟨none, 0, 0, rfl, Nat.le_refl _, fun _ => rfl⟩
  · simp [Value.cells] at hcs
    obtain ⟨rfl, rfl, rfl⟩ := hcs
    have hz' : ss.length = cap := by simpa using hz
    exact ⟨some x, len, cap, rfl, by omega, fun h => by cases h⟩

theorem fits_take {l : List (List UInt8)} (h : ∀ p ∈ l, fits p) (k : Nat) : ∀ p ∈ l.take k, fits p := fun p hp => h p (List.mem_of_mem_take hp)

theorem takeFr_few {s : List UInt8} (h : s.length < 8) : (takeFr s).2.2 ≠ 0 := fun h0 => by
  have := (takeFr_rest (show takeFr s = ((takeFr s).1, (takeFr s).2.1, 0) by rw [← h0])).1
  omega

/-- A row that is cut: the payloads whose frames are whole. -/
theorem scan_cut (l : List (List UInt8)) (hl : ∀ p ∈ l, fits p) (c k : Nat) (hk : k ≤ l.length) (h1 : rowLen (l.take k) ≤ c) (h2 : (h : k < l.length) → c < rowLen (l.take k) + (8 + l[k].length)) :
    (scanFr ((rowBytes l).take c)).1 = l.take k := by
  have e : (rowBytes l).take c = rowBytes (l.take k) ++ (rowBytes (l.drop k)).take (c - rowLen (l.take k)) := by
    conv => lhs; rw [← List.take_append_drop k l, rowBytes_append, List.take_append, rowBytes_len, List.take_of_length_le (by rw [rowBytes_len]; exact h1)]
  rw [e, scanFr_row _ _ (fits_take hl k)]
  have hs : (scanFr ((rowBytes (l.drop k)).take (c - rowLen (l.take k)))).1 = [] := by
    by_cases hlt : k < l.length
    · have h3 := h2 hlt
      rw [List.drop_eq_getElem_cons hlt, rowBytes_cons, List.take_append_of_le_length (by rw [frame_len]; omega)]
      rw [scanFr_stop (by rw [takeFr_short (hl _ (List.getElem_mem hlt)) (by rw [frame_len]; omega)]; decide)]
    · rw [List.drop_eq_nil_of_le (by omega), rowBytes_nil, List.take_nil, scanFr_stop (takeFr_few (by simp))]
  rw [hs, List.append_nil]

theorem scan_more (l : List (List UInt8)) (hl : ∀ p ∈ l, fits p) (m : List UInt8) (hm : m.length < 8) : (scanFr (rowBytes l ++ m)).1 = l := by
  rw [scanFr_row _ _ hl, scanFr_stop (takeFr_few hm), List.append_nil]

theorem IsStrs.cut {w : World} {a : Option Addr} {n cap : Nat} {ss : List ByteArray} (h : IsStrs w (.slice a n cap) ss) (k c2 : Nat) (hk : k ≤ ss.length) : IsStrs w (.slice a k c2) (ss.take k) := by
  obtain ⟨rfl, h1, h2, h3⟩ := h.at_
  have hl : (ss.take k).length = k := by rw [List.length_take]; omega
  refine ⟨a, c2, by rw [hl], fun s hs => h1 s (List.mem_of_mem_take hs), by omega, fun hp => ?_⟩
  obtain ⟨b, off, rfl, hlt, hc⟩ := h3 (by omega)
  exact ⟨b, off, rfl, hlt, fun i hi => by rw [hc i (by omega)]; simp⟩

theorem rowLen_take_succ (l : List (List UInt8)) (k : Nat) (h : k < l.length) : rowLen (l.take (k + 1)) = rowLen (l.take k) + (8 + l[k].length) := by
  rw [List.take_succ_eq_append_getElem h, rowLen_snoc]
theorem lists_get (ss : List ByteArray) (k : Nat) (h : k < ss.length) (h' : k < (lists ss).length) : (lists ss)[k].length = ss[k].size := by
  simp [lists]
theorem rowLen_mono (l : List (List UInt8)) (i j : Nat) (h : i ≤ j) : rowLen (l.take i) ≤ rowLen (l.take j) := by
  have e : l.take j = l.take i ++ (l.take j).drop i := by
    conv => lhs; rw [← List.take_append_drop i (l.take j), List.take_take, Nat.min_eq_left h]
  rw [e, rowLen_append]; omega
theorem lists_len (ss : List ByteArray) : (lists ss).length = ss.length := by simp [lists]

theorem IsStrs.at_' {w : World} {v : Value} {ss : List ByteArray} (h : IsStrs w v ss) : ∀ i, (h : i < ss.length) → 0 < ss.length → ∃ (b off : Nat) (cap : Nat), v = .slice (some ⟨b, off, none⟩) ss.length cap ∧ b < w.heap.size ∧ w.cell? ⟨b, off + i, none⟩ = some (.string ss[i]) := by
  intro i hi hp
  obtain ⟨a, cap, rfl, h1, h2, h3⟩ := h
  obtain ⟨b, off, rfl, h4, h5⟩ := h3 hp
  exact ⟨b, off, cap, rfl, h4, h5 i hi⟩

set_option maxRecDepth 100000 in
set_option maxHeartbeats 3200000 in
theorem walkFrameTorn (v : Value) (cut : Int) (_ : (Lit.int .i64 cut).wf = true) (more : ByteArray) (_ : more.size ≤ maxLen) (w : World) (hv : ∃ ss, IsStrs w v ss ∧ RoomS v) :
    Calls Try.prog 5 #[v, .int .i64 cut, .string more] w fun e w' => e = .returned (.bool true) ∧ Below w.heap.size w w' := by
  obtain ⟨ss, hv, hroom⟩ := hv
  have S0 := Lib.hid frShown
  by_cases hsm : SmallP ss
  · have S1 := Lib.hid (fun w' h => small_lit v ss true (by simp [hsm]) w' h)
    have hlen := hsm.1
    by_cases hE : (rowFr (lists ss)).2 = 0
    · have hfit := rowFr_ok hE
      obtain ⟨T, hT⟩ : ∃ T : ByteArray, T.data.toList = rowBytes (lists ss) := ⟨bstr _, rfl⟩
      have hTl : T.size = rowLen (lists ss) := by have := congrArg List.length hT; rw [rowBytes_len] at this; simpa using this
      have hTb := rowLen_bound _ hfit
      rw [lists_len] at hTb
      have S2 := Lib.hid (row_lit v ss T 0 (by rw [hT]; exact rowFr_all _ hfit) (by omega))
      obtain ⟨c, hc1, hcT⟩ : ∃ c : Nat, max (0 : Int) (min cut (T.size : Int)) = (c : Int) ∧ c ≤ T.size := ⟨(max (0 : Int) (min cut (T.size : Int))).toNat, by omega, by omega⟩
      obtain ⟨kk, hkk, hk1, hk2⟩ : ∃ kk : Nat, kk ≤ ss.length ∧ rowLen (lists (ss.take kk)) ≤ c ∧ ((h : kk < ss.length) → c < rowLen (lists (ss.take kk)) + (8 + ss[kk].size)) := by
        have key : ∀ j : Nat, j ≤ ss.length → ∃ kk : Nat, kk ≤ j ∧ rowLen (lists (ss.take kk)) ≤ c ∧ ((h : kk < ss.length) → kk < j → c < rowLen (lists (ss.take kk)) + (8 + ss[kk].size)) := by
          intro j
          induction j with
          | zero => exact fun _ => ⟨0, Nat.le_refl _, by simp [lists, rowLen], fun _ h => absurd h (by omega)⟩
          | succ j ih =>
            intro hj
            obtain ⟨kk, i1, i2, i3⟩ := ih (by omega)
            by_cases e : kk = j
            · subst e
              by_cases hc : rowLen (lists (ss.take kk)) + (8 + ss[kk].size) ≤ c
              · refine ⟨kk + 1, Nat.le_refl _, ?_, fun _ h => absurd h (by omega)⟩
                rw [lists_take, rowLen_take_succ _ _ (by rw [lists_len]; omega), lists_get _ _ hj, ← lists_take]; exact hc
              · exact ⟨kk, by omega, i2, fun _ _ => by omega⟩
            · exact ⟨kk, by omega, i2, fun h _ => i3 h (by omega)⟩
        obtain ⟨kk, i1, i2, i3⟩ := key ss.length (Nat.le_refl _)
        exact ⟨kk, i1, i2, fun h => i3 h h⟩
      have hscan : (scanFr (T.extract 0 c).data.toList).1 = lists (ss.take kk) := by
        have : (T.extract 0 c).data.toList = (rowBytes (lists ss)).take c := by rw [← hT]; simp
        rw [this, lists_take]
        rw [lists_take] at hk1 hk2
        exact scan_cut _ hfit c kk (by rw [lists_len]; exact hkk) hk1 (fun h => by rw [lists_len] at h; rw [lists_get _ _ h]; exact hk2 h)
      obtain ⟨m7, hm7, hm7l⟩ : ∃ m7 : ByteArray, (if 7 < more.size then more.extract 0 7 else more) = m7 ∧ m7.size < 8 := by
        by_cases h : 7 < more.size
        · rw [if_pos h]; exact ⟨_, rfl, by rw [ByteArray.size_extract]; omega⟩
        · rw [if_neg h]; exact ⟨_, rfl, by omega⟩
      have hscan2 : (scanFr (T ++ m7).data.toList).1 = lists ss := by
        rw [list_addF, hT]
        exact scan_more _ hfit _ (by simpa using hm7l)
      obtain ⟨R, hR⟩ : ∃ R : Nat, rowLen (lists (ss.take kk)) = R := ⟨_, rfl⟩
      have c3 := Lib.hid (scan_lit (T.extract 0 c) (ss.take kk) R hscan hR (by rw [ByteArray.size_extract]; omega))
      have c4 := Lib.hid (scan_lit (T ++ m7) ss T.size hscan2 hTl.symm (by rw [ByteArray.size_append]; omega))
      have hadd : ∀ W : World, (Op.stringOp .add T m7).run Try.prog W = .ok (.string (T ++ m7)) W := fun W => run_string_add_sum (P := Try.prog) (w := W) T m7 (by omega)
      clear hscan hscan2
      rw [hR] at hk1 hk2
      have hTm : T.size ≤ 300000 := by omega
      have HR := Lib.hid hR
      have HTl := Lib.hid hTl
      have Hfit := Lib.hid hfit
      have Hk2 := Lib.hid hk2
      have Hsz := Lib.hid hv.at_'
      clear hTb hTl hR hfit hk2 hT hE
      obtain ⟨a, n, cap, rfl, hncap, hnone⟩ := hroom
      obtain ⟨rfl, _, _, _⟩ := hv.at_
      have i0 : (0 : Int) ≤ (c : Int) := by omega
      have i1 : (c : Int) ≤ (T.size : Int) := by omega
      go_enter Try.func5, Try.ntmps5
      go_wp2_with fail
      refine (S0.out _).mono ?_
      rintro e w1 ⟨rfl, h1⟩
      go_wp2_with fail
      refine (S1.out _ (hv.below h1)).mono ?_
      rintro e w2 ⟨rfl, rfl⟩
      go_wp2_with fail
      refine (S2.out _ (hv.below h1)).mono ?_
      rintro e w3 ⟨rfl, h3⟩
      go_wp2_with fail
      refine (c3.out _).mono ?_
      rintro e w4 ⟨v1, rfl, hv1, h4⟩
      have hv4 := ((hv.below h1).below h3).below h4
      have Hv4 := Lib.hid hv4.at_'
      go_wp2_with fail
      go_loop [13, 14] (fun t13 t14 => ∃ k : Nat, k ≤ kk ∧ t14 = .int .i64 k ∧ t13 = .int .i64 ((rowLen (lists (ss.take k)) : Nat) : Int)) (fun _ i => kk - (intOf i).toNat)
      case atStart => exact ⟨0, Nat.zero_le _, rfl, by simp [lists, rowLen]⟩
      case round =>
        obtain ⟨k, hk, rfl, rfl⟩ := hrel
        by_cases hlt : k < kk
        · have hkl : k < ss.length := by omega
          have g1 : (k : Int) < (ss.length : Int) := by omega
          have g2 : (0 : Int) ≤ (k : Int) := by omega
          obtain ⟨b, off, cap', he, hblk, hcell⟩ := Hv4.out k hkl (by omega)
          obtain ⟨rfl, -, rfl⟩ : a = some ⟨b, off, none⟩ ∧ ss.length = ss.length ∧ cap = cap' := by injection he with e1 e2 e3; exact ⟨e1, e2, e3⟩
          clear he
          obtain ⟨s, hse⟩ : ∃ s, ss[k] = s := ⟨_, rfl⟩
          rw [hse] at hcell
          have hstep : rowLen (lists (ss.take (k + 1))) = rowLen (lists (ss.take k)) + (8 + s.size) := by
            rw [lists_take, lists_take, rowLen_take_succ _ _ (by rw [lists_len]; exact hkl), lists_get _ _ hkl, hse]
          have hle : rowLen (lists (ss.take (k + 1))) ≤ c := by
            have h := rowLen_mono (lists ss) (k + 1) kk (by omega)
            rw [← lists_take, ← lists_take, HR.out] at h
            omega
          generalize rowLen (lists (ss.take k)) = X at hstep
          have g3 : (X : Int) + 8 + (s.size : Int) ≤ (c : Int) := by omega
          have Hstep := Lib.hid hstep
          clear hstep hle hse
          go_wp2_with fail
          go_round
          case rel => exact ⟨k + 1, by omega, by go_num, by rw [Hstep.out]; go_num⟩
          case measure => simp [intOf]; omega
        · have hkk2 : k = kk := by omega
          subst hkk2
          rw [HR.out]
          have hvk := hv4.cut k cap hkk
          have hs1 := fun W (b : Below w4.heap.size w4 W) => same_lit v1 (.slice a k cap) (ss.take k) (ss.take k) true (by simp) W (hv1.below b) (hvk.below b)
          have Hs1 := Lib.hid hs1
          have Hv := Lib.hid hv4
          have j1 : (0 : Int) ≤ (k : Int) := by omega
          have j2 : (k : Int) ≤ (cap : Int) := by omega
          clear hs1
          rcases Nat.lt_or_ge k ss.length with hlen2 | hlen2
          · obtain ⟨b, off, cap', he, hblk, hcell⟩ := Hv4.out k hlen2 (by omega)
            obtain ⟨rfl, -, rfl⟩ : a = some ⟨b, off, none⟩ ∧ ss.length = ss.length ∧ cap = cap' := by injection he with e1 e2 e3; exact ⟨e1, e2, e3⟩
            clear he
            have g4 := Hk2.out hlen2
            have g5 := (hsm.2 k hlen2).1
            generalize ss[k] = s at hcell g4 g5
            have g1 : (k : Int) < (ss.length : Int) := by omega
            have g3 : (c : Int) < (R : Int) + 8 + (s.size : Int) := by omega
            go_wp2_with fail
            refine (Hs1.out _ (Below.refl _ _)).mono ?_
            rintro e w5 ⟨rfl, h5⟩
            by_cases h7 : 7 < more.size
            · rw [if_pos h7] at hm7
              have g7 : (7 : Int) < (more.size : Int) := by omega
              have g8 : (7 : Int) ≤ (more.size : Int) := by omega
              go_wp2_with (fail)
              refine (c4.out _).mono ?_
              rintro e w6 ⟨v2, rfl, hv2, h6⟩
              go_wp2_with (fail)
              refine (same_lit _ _ ss ss true (by simp) _ hv2 (((Hv.out.below h5).below h6))).mono ?_
              rintro e w7 ⟨rfl, h7'⟩
              go_wp2_with (fail)
              go_ret
              exact ⟨rfl, bstep (bstep (bstep (bstep (bstep h1 h3) h4) h5) h6) h7'⟩
            · rw [if_neg h7] at hm7
              have g7 : ¬ ((7 : Int) < (more.size : Int)) := by omega
              go_wp2_with (fail)
              refine (c4.out _).mono ?_
              rintro e w6 ⟨v2, rfl, hv2, h6⟩
              go_wp2_with (fail)
              refine (same_lit _ _ ss ss true (by simp) _ hv2 (((Hv.out.below h5).below h6))).mono ?_
              rintro e w7 ⟨rfl, h7'⟩
              go_wp2_with (fail)
              go_ret
              exact ⟨rfl, bstep (bstep (bstep (bstep (bstep h1 h3) h4) h5) h6) h7'⟩
          · have g1 : ¬ ((k : Int) < (ss.length : Int)) := by omega
            go_wp2_with fail
            refine (Hs1.out _ (Below.refl _ _)).mono ?_
            rintro e w5 ⟨rfl, h5⟩
            by_cases h7 : 7 < more.size
            · rw [if_pos h7] at hm7
              have g7 : (7 : Int) < (more.size : Int) := by omega
              have g8 : (7 : Int) ≤ (more.size : Int) := by omega
              go_wp2_with (fail)
              refine (c4.out _).mono ?_
              rintro e w6 ⟨v2, rfl, hv2, h6⟩
              go_wp2_with (fail)
              refine (same_lit _ _ ss ss true (by simp) _ hv2 (((Hv.out.below h5).below h6))).mono ?_
              rintro e w7 ⟨rfl, h7'⟩
              go_wp2_with (fail)
              go_ret
              exact ⟨rfl, bstep (bstep (bstep (bstep (bstep h1 h3) h4) h5) h6) h7'⟩
            · rw [if_neg h7] at hm7
              have g7 : ¬ ((7 : Int) < (more.size : Int)) := by omega
              go_wp2_with (fail)
              refine (c4.out _).mono ?_
              rintro e w6 ⟨v2, rfl, hv2, h6⟩
              go_wp2_with (fail)
              refine (same_lit _ _ ss ss true (by simp) _ hv2 (((Hv.out.below h5).below h6))).mono ?_
              rintro e w7 ⟨rfl, h7'⟩
              go_wp2_with (fail)
              go_ret
              exact ⟨rfl, bstep (bstep (bstep (bstep (bstep h1 h3) h4) h5) h6) h7'⟩
    · have hw := rowFr_wrong hE
      have S2 := Lib.hid (row_lit v ss ⟨#[]⟩ (rowFr (lists ss)).2 (by conv => lhs; rw [show rowFr (lists ss) = ((rowFr (lists ss)).1, (rowFr (lists ss)).2) from rfl, hw]) (by omega))
      clear hw hsm
      generalize (rowFr (lists ss)).2 = er at hE S2
      have ge : ((er : Int) != 0) = true := by rw [bne_iff_ne]; omega
      clear hE
      go_enter Try.func5, Try.ntmps5
      go_wp2_with fail
      refine (S0.out _).mono ?_
      rintro e w1 ⟨rfl, h1⟩
      go_wp2_with fail
      refine (S1.out _ (hv.below h1)).mono ?_
      rintro e w2 ⟨rfl, rfl⟩
      go_wp2_with fail
      refine (S2.out _ (hv.below h1)).mono ?_
      rintro e w3 ⟨rfl, h3⟩
      go_wp2_with fail
      go_ret
      exact ⟨rfl, bstep h1 h3⟩
  · have S1 := Lib.hid (fun w' h => small_lit v ss false (by simp [hsm]) w' h)
    go_enter Try.func5, Try.ntmps5
    go_wp2_with fail
    refine (S0.out _).mono ?_
    rintro e w1 ⟨rfl, h1⟩
    go_wp2_with fail
    refine (S1.out _ (hv.below h1)).mono ?_
    rintro e w2 ⟨rfl, rfl⟩
    go_wp2_with fail
    go_ret
    exact ⟨rfl, h1⟩
end Go.Proofs.Ytebliglfofjafaa
