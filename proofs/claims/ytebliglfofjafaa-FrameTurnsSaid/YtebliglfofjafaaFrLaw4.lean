/-
  The walk of the law FrameTurns.
-/
import Derived.Test.YtebliglfofjafaaFrLaw2
import Derived.Test.YtebliglfofjafaaBurst
namespace Go.Proofs.Ytebliglfofjafaa
open Go.RowKit

def headOf (p : List UInt8) : List UInt8 := fix4 p.length ++ fix4 (crcU 0 (fix4 p.length ++ p))
theorem headOf_len (p : List UInt8) : (headOf p).length = 8 := rfl
theorem frame_head (p : List UInt8) : frame p = headOf p ++ p := rfl

/-- A payload that was turned, under the old head: not its sum. -/
theorem turned (p M : List UInt8) (hf : fits p) (hl : M.length = p.length) (a E : Nat) (hn : numL M = numL p ^^^ 2 ^ a * E) (ha : a ≤ 8 * p.length) (hE : E < 2 ^ 32) (hne : M ≠ p) :
    takeFr (headOf p ++ M) = ([], [], 5) := by
  obtain ⟨h0, h8⟩ := hf
  have hc : crcU 0 (fix4 p.length ++ p) < 4294967296 := crcU_lt 0 _
  have e1 : (headOf p ++ M).take 4 = fix4 p.length := by
    unfold headOf
    rw [List.append_assoc, List.take_append_of_le_length (by rw [fix4_len]; omega), List.take_of_length_le (by rw [fix4_len]; omega)]
  have e2 : (headOf p ++ M).drop 4 = fix4 (crcU 0 (fix4 p.length ++ p)) ++ M := by
    unfold headOf
    rw [List.append_assoc, List.drop_append_of_le_length (by rw [fix4_len]; omega), List.drop_of_length_le (by rw [fix4_len]; omega), List.nil_append]
  have e3 : (headOf p ++ M).drop 8 = M := by
    rw [show 8 = 4 + 4 from rfl, ← List.drop_drop, e2, List.drop_append_of_le_length (by rw [fix4_len]; omega), List.drop_of_length_le (by rw [fix4_len]; omega), List.nil_append]
  have e4 : ((headOf p ++ M).drop 4).take 4 = fix4 (crcU 0 (fix4 p.length ++ p)) := by
    rw [e2, List.take_append_of_le_length (by rw [fix4_len]; omega), List.take_of_length_le (by rw [fix4_len]; omega)]
  have hb := burst (crcU 0 (fix4 p.length)) p M a E (crcU_lt 0 _) hl hn ha hE
  unfold takeFr
  rw [e1, e3, e4, valB_fix4 _ (by omega), valB_fix4 _ hc, if_neg (by rw [List.length_append, headOf_len]; omega), if_neg (by omega), if_neg (by omega), if_neg (by omega),
    List.take_of_length_le (by omega), if_pos]
  intro e
  rw [crcU_append, crcU_append] at e
  exact hne (hb.2 e.symm)

set_option maxRecDepth 100000 in
set_option maxHeartbeats 3200000 in
theorem walkFrameTurns (p : ByteArray) (hp : p.size ≤ maxLen) (a1 : Int) (w1 : (Lit.int .i64 a1).wf = true) (a2 : Int) (w2 : (Lit.int .u32 a2).wf = true) (w : World) :
    Calls Try.prog 6 #[.string p, .int .i64 a1, .int .u32 a2] w fun e w' => e = .returned (.bool true) ∧ Below w.heap.size w w' := by
  obtain ⟨bt, hbt, rfl⟩ := u32_bounds w2
  have hat := i64_bounds w1
  have S0 := Lib.hid frShown
  by_cases hf : fits p.data.toList ∧ p.size ≤ 2000
  · obtain ⟨hf, hp2⟩ := hf
    obtain ⟨q, hq⟩ : ∃ q : ByteArray, q.data.toList = frame p.data.toList := ⟨bstr _, rfl⟩
    have hpl : p.data.toList.length = p.size := by simp
    have hql : q.size = 8 + p.size := by have := congrArg List.length hq; rw [frame_len, hpl] at this; simpa using this
    have S1 := Lib.hid (frPut_str p q 0 (by rw [putFr_fits hf, hq]) hp)
    by_cases h : 0 < bt ∧ 64 ≤ a1 ∧ a1 < 8 * q.size
    · obtain ⟨h2, h3, h4⟩ := h
      obtain ⟨a, rfl⟩ : ∃ a : Nat, a1 = ((a + 64 : Nat) : Int) := ⟨(a1 - 64).toNat, by omega⟩
      have hb64 : ((a + 64 : Nat) : Int) = (a : Int) + 64 := by omega
      rw [hb64] at h3 h4 hat ⊢
      have g1 : ¬ (2000 < (p.size : Int)) := by omega
      have g2 : ((bt : Int) == 0) = false := by simp; omega
      have g3 : ¬ ((a : Int) + 64 < 64) := by omega
      have g4 : ¬ (8 * (q.size : Int) ≤ (a : Int) + 64) := by omega
      have Hq := Lib.hid hq
      have Hql := Lib.hid hql
      have Hpl := Lib.hid hpl
      have Hf := Lib.hid hf
      have hqb : q.size ≤ 2008 := by omega
      have hap : a < 8 * p.size := by omega
      clear hq hql hpl hf w1 w2 hb64
      go_enter Try.func6, Try.ntmps6
      go_wp2_with fail
      refine (S0.out _).mono ?_
      rintro e w1 ⟨rfl, h5⟩
      go_wp2_with fail
      refine (S1.out _).mono ?_
      rintro e w2 ⟨rfl, h6⟩
      obtain ⟨cap, C, hC, hconv⟩ := conv_bytes (P := Try.prog) w2 9 38 5 q Try.underlying9 Try.underlying38 Try.underlying5
      have HC := Lib.hid hC; clear hC
      have hT : TextAt (w2.alloc (.cells C 5 (C.size, C.size + 1))) w2.heap.size C.size (headOf p.data.toList ++ p.data.toList) := by
        rw [← frame_head, ← Hq.out]
        refine ⟨C, rfl, ?_, heap_alloc_new _ _, fun j hj => HC.out j (by simpa using hj)⟩
        rcases Nat.eq_zero_or_pos q.size with h0 | h0
        · simpa using (show q.size ≤ C.size by omega)
        · have := (Array.getElem?_eq_some_iff.1 (HC.out (q.size - 1) (by omega))).1
          simpa using (show q.size ≤ C.size by omega)
      have hB0 := bstep h5 h6
      go_wp2_with fail
      go_loopw [11, 12] (fun t11 t12 wr => ∃ (i : Nat) (M : List UInt8), i ≤ 32 ∧ a + 64 + i ≤ 8 * q.size ∧ t11 = .int .i64 i ∧ M.length = p.size ∧ numL M = numL p.data.toList ^^^ 2 ^ a * (bt % 2 ^ i) ∧ TextAt wr w2.heap.size C.size (headOf p.data.toList ++ M) ∧ Below w.heap.size w wr) (fun t _ _ => 32 - (intOf t).toNat)
      case atStart =>
        refine ⟨0, p.data.toList, by omega, by omega, rfl, Hpl.out, by simp [Nat.mod_one], hT, ?_⟩
        exact (hB0.alloc hB0.size _).drew
      case round =>
        clear hconv hT
        obtain ⟨i, M, hi32, hai, rfl, hM, hnum, hT, hb⟩ := hrel
        have Hnum := Lib.hid hnum
        clear hnum
        by_cases hlt : i < 32 ∧ a + 64 + i < 8 * q.size
        · obtain ⟨hl1, hl2⟩ := hlt
          have hqle := Hql.out
          obtain ⟨q8, hq8⟩ : ∃ q8, (a + i) / 8 = q8 := ⟨_, rfl⟩
          obtain ⟨Q, hQ⟩ : ∃ Q, q8 + 8 = Q := ⟨_, rfl⟩
          obtain ⟨r, hr⟩ : ∃ r, (a + i) % 8 = r := ⟨_, rfl⟩
          have hqM : q8 < M.length := by omega
          have hqL : Q < (headOf p.data.toList ++ M).length := by rw [List.length_append, headOf_len]; omega
          have hget : (headOf p.data.toList ++ M)[Q] = M[q8] := by
            rw [List.getElem_append_right (by rw [headOf_len]; omega)]
            congr 1
            rw [headOf_len]; omega
          have hset : ∀ b, (headOf p.data.toList ++ M).set Q b = headOf p.data.toList ++ M.set q8 b := fun b => by
            rw [List.set_append_right _ _ (by rw [headOf_len]; omega), headOf_len, show Q - 8 = q8 by omega]
          obtain ⟨C', hC1, hC2, hC3, hC4⟩ := hT
          have hcell : wr.cell? ⟨w2.heap.size, Q, none⟩ = some (.int .u8 (M[q8].toNat : Int)) := by
            rw [cell_of_row wr _ Q C' _ _ hC3, ← hget]; exact hC4 Q hqL
          have hfro : wr.frozen? ⟨w2.heap.size, Q, none⟩ = false := by
            have : ¬ C.size ≤ Q := by omega
            simp [World.frozen?, hC3, this]
          have hqi : IntKind.i64.wrap (((a : Int) + 64 + (i : Int)).tdiv 8) = (Q : Int) := by
            rw [Int.tdiv_eq_ediv_of_nonneg (by omega), IntKind.wrap_i64]; omega
          have hri : ((a : Int) + 64 + (i : Int)).tmod 8 = (r : Int) := by
            rw [Int.tmod_eq_emod_of_nonneg (by omega)]; omega
          have j4 : (0 : Int) ≤ (r : Int) := by omega
          have j1 : (0 : Int) ≤ (Q : Int) := by omega
          have j2 : (Q : Int) < (q.size : Int) := by omega
          have j3 : (r : Int) < 8 := by omega
          have HT := Lib.hid hC3
          have HT4 := Lib.hid hC4
          have Hq8 := Lib.hid hq8
          have HQ := Lib.hid hQ
          have Hr := Lib.hid hr
          have Hset := Lib.hid hset
          clear hC3 hC4 hq8 hr hset hget hQ hqle
          go_wp2_with fail
          · go_region
            go_wp2_with fail
            go_roundw
            case rel =>
              refine ⟨i + 1, M.set q8 (M[q8] ^^^ UInt8.ofNat (2 ^ r)), by omega, by omega, by go_num, by simpa using hM, ?_, ?_, ?_⟩
              · exact burst_step_on _ M a bt i q8 r hqM (by omega) (by have := Hq8.out; have := Hr.out; omega) (bit_on hbt (by assumption)) Hnum.out
              · have hT' : TextAt wr w2.heap.size C.size (headOf p.data.toList ++ M) := ⟨C', hC1, hC2, HT.out, HT4.out⟩
                rw [u8_flip M[q8] r (by omega), ← Hset.out]
                exact hT'.set Q _
              · exact (hb.setCell (p := ⟨w2.heap.size, Q, none⟩) hB0.size _).drew
            case measure => simp [intOf]; omega
          · go_roundw
            case rel =>
              refine ⟨i + 1, M, by omega, by omega, by go_num, hM, ?_, ⟨C', hC1, hC2, HT.out, HT4.out⟩, hb⟩
              rw [mod_bit_off (bit_off hbt (by assumption))]
              exact Hnum.out
            case measure => simp [intOf]; omega
        · obtain ⟨L, hL⟩ : ∃ L, headOf p.data.toList ++ M = L := ⟨_, rfl⟩
          rw [hL] at hT
          have hLl : L.length = q.size := by rw [← hL, List.length_append, headOf_len, hM, Hql.out]
          have hcv0 := fun W (h : Below wr.heap.size wr W) => (hT.below h).str (P := Try.prog) 38 9 cap q.size hLl Try.underlying38 Try.underlying5 Try.underlying9
          by_cases hsame : M = p.data.toList
          · have hLq : bstr L = q := ext_list (by rw [bstr_list, ← hL, hsame, Hq.out, frame_head])
            rw [hLq] at hcv0
            have Hcv := Lib.hid hcv0
            have hcv := hcv0 wr (Below.refl _ _)
            have c1 := Lib.hid (frTake_str q p ⟨#[]⟩ 0 (by rw [Hq.out]; have h := takeFr_frame Hf.out []; rw [List.append_nil] at h; rw [h]) (by unfold maxLen; omega))
            clear hL hLq hsame hLl hcv0
            go_wp2_with fail
            all_goals
              refine (c1.out _).mono ?_
              rintro e w3 ⟨rfl, h3⟩
              have hcv' := Hcv.out w3 h3
              go_wp2_with fail
              go_ret
              exact ⟨rfl, bstep hb h3⟩
          · have htk := turned p.data.toList M Hf.out (by rw [hM, Hpl.out]) a (bt % 2 ^ i) Hnum.out (by rw [Hpl.out]; omega) (Nat.lt_of_le_of_lt (Nat.mod_le _ _) hbt) hsame
            rw [hL] at htk
            have hLne : L ≠ q.data.toList := fun e => hsame (by
              rw [← hL, Hq.out, frame_head] at e
              exact List.append_cancel_left e)
            have f2 : ((bstr L).toList == q.toList) = false := by rw [beq_eq_false_iff_ne]; intro e; exact hLne (bytes_eq e)
            have Hcv := Lib.hid hcv0
            have hcv := hcv0 wr (Below.refl _ _)
            have hsz : (bstr L).size ≤ 3000 := by rw [bstr_size, hLl]; omega
            have c1 := Lib.hid (frTake_str (bstr L) ⟨#[]⟩ ⟨#[]⟩ 5 (by rw [bstr_list, htk]) (by unfold maxLen; omega))
            have c2 := Lib.hid (scan_lit (bstr L) [] 0 (by rw [bstr_list, scanFr_stop (by rw [htk]; decide)]; rfl) rfl (by omega))
            clear hL hsame hLl hcv0 htk hLne
            go_wp2_with fail
            all_goals
              refine (c1.out _).mono ?_
              rintro e w3 ⟨rfl, h3⟩
              have hcv' := Hcv.out w3 h3
              go_wp2_with fail
              refine (c2.out _).mono ?_
              rintro e w4 ⟨v1, rfl, hv1, h4⟩
              obtain ⟨a1, cap1, rfl⟩ := hv1.nil_form
              go_wp2_with fail
              go_ret
              exact ⟨rfl, bstep (bstep hb h3) h4⟩
    · go_enter Try.func6, Try.ntmps6
      go_wp2_with fail
      refine (S0.out _).mono ?_
      rintro e w1 ⟨rfl, h5⟩
      go_wp2_with fail
      refine (S1.out _).mono ?_
      rintro e w2 ⟨rfl, h6⟩
      go_wp2_with fail
      all_goals (go_ret; exact ⟨rfl, bstep h5 h6⟩)
  · obtain ⟨q, hq⟩ : ∃ q : ByteArray, putFr p.data.toList = (q.data.toList, (putFr p.data.toList).2) := ⟨bstr (putFr p.data.toList).1, rfl⟩
    have S1 := Lib.hid (frPut_str p q _ hq hp)
    by_cases hp2 : 2000 < p.size
    · clear hq hf
      generalize (putFr p.data.toList).2 = er at S1
      go_enter Try.func6, Try.ntmps6
      go_wp2_with fail
      refine (S0.out _).mono ?_
      rintro e w1 ⟨rfl, h5⟩
      go_wp2_with fail
      refine (S1.out _).mono ?_
      rintro e w2 ⟨rfl, h6⟩
      go_wp2_with fail
      all_goals (go_ret; exact ⟨rfl, bstep h5 h6⟩)
    · have hbad := (putFr_bad (p := p.data.toList) (fun h => hf ⟨h, by omega⟩)).2
      clear hq hf
      generalize (putFr p.data.toList).2 = er at S1 hbad
      have ge : ((er : Int) != 0) = true := by rw [bne_iff_ne]; omega
      clear hbad
      go_enter Try.func6, Try.ntmps6
      go_wp2_with fail
      refine (S0.out _).mono ?_
      rintro e w1 ⟨rfl, h5⟩
      go_wp2_with fail
      refine (S1.out _).mono ?_
      rintro e w2 ⟨rfl, h6⟩
      go_wp2_with fail
      all_goals (go_ret; exact ⟨rfl, bstep h5 h6⟩)
end Go.Proofs.Ytebliglfofjafaa
