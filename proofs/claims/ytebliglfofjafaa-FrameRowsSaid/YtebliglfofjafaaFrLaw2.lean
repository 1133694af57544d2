/-
  The walk of the law FrameOne.
-/
import Derived.Test.YtebliglfofjafaaFrLaw1
namespace Go.Proofs.Ytebliglfofjafaa
open Go.RowKit

theorem IsStrs.nil_form {w : World} {v : Value} (h : IsStrs w v []) : ∃ a cap, v = .slice a 0 cap := by
  obtain ⟨a, cap, rfl, _⟩ := h
  exact ⟨a, cap, rfl⟩
theorem IsStrs.form {w : World} {v : Value} {ss : List ByteArray} (h : IsStrs w v ss) : ∃ a cap, v = .slice a ss.length cap := by
  obtain ⟨a, cap, rfl, _⟩ := h
  exact ⟨a, cap, rfl⟩

set_option maxRecDepth 100000 in
set_option maxHeartbeats 1600000 in
theorem walkFrameOne (s : ByteArray) (hs : s.size ≤ maxLen) (w : World) :
    Calls Try.prog 8 #[.string s] w fun e w' => e = .returned (.bool true) ∧ Below w.heap.size w w' := by
  have S0 := Lib.hid frShown
  by_cases hlong : 9000 < s.size
  · go_enter Try.func8, Try.ntmps8
    go_wp2_with fail
    refine (S0.out _).mono ?_
    rintro e w1 ⟨rfl, h1⟩
    go_wp2_with fail
    go_ret
    exact ⟨rfl, h1⟩
  · by_cases hE : (takeFr s.data.toList).2.2 = 0
    · obtain ⟨p, hp⟩ : ∃ p : ByteArray, p.data.toList = (takeFr s.data.toList).1 := ⟨bstr _, rfl⟩
      obtain ⟨r, hr⟩ : ∃ r : ByteArray, r.data.toList = (takeFr s.data.toList).2.1 := ⟨bstr _, rfl⟩
      have ht : takeFr s.data.toList = (p.data.toList, r.data.toList, 0) := by rw [hp, hr, ← hE]
      obtain ⟨hb, hf⟩ := takeFr_back ht
      obtain ⟨q, hq⟩ : ∃ q : ByteArray, q.data.toList = frame p.data.toList := ⟨bstr _, rfl⟩
      obtain ⟨ss, hss⟩ : ∃ ss, (scanFr r.data.toList).1 = lists ss := ⟨_, (lists_bstr _).symm⟩
      obtain ⟨n, hn⟩ : ∃ n, rowLen (lists ss) = n := ⟨_, rfl⟩
      have hsq : q ++ r = s := ext_list (by rw [list_addF, hq, ← hb])
      have hsz : s.size = q.size + r.size := by rw [← hsq, ByteArray.size_append]
      have hql : q.size = 8 + p.data.toList.length := by have := congrArg List.length hq; rw [frame_len] at this; simpa using this
      have hql' : p.data.toList.length = p.size := by simp
      have hscan : (scanFr s.data.toList).1 = lists (p :: ss) := by rw [scanFr_step ht]; simp [lists, hss]
      have hcnt : (lists (p :: ss)).length ≤ s.data.toList.length := by
        have h1 := scanFr_len s.data.toList
        have h2 := rowLen_ge (scanFr s.data.toList).1
        rw [hscan] at h1 h2
        omega
      have hcnt2 : ss.length + 1 ≤ s.size := by simpa [lists] using hcnt
      have hnm : n + r.size ≤ n + 9000 := by omega
      have hnr : n ≤ r.size := by
        have h1 := scanFr_len r.data.toList
        rw [hss, hn] at h1
        have : r.data.toList.length = r.size := by simp
        omega
      have c1 := Lib.hid (frTake_str s p r 0 ht hs)
      have c2 := Lib.hid (frPut_str p q 0 (by rw [hq]; exact putFr_fits hf) (by unfold maxLen; omega))
      have c3 := Lib.hid (scan_lit s (p :: ss) (q.size + n) hscan (by simp only [lists, List.map_cons, rowLen]; rw [← hn, hql]; rfl) (by omega))
      have c4 := Lib.hid (scan_lit r ss n hss hn (by omega))
      have Hsq := Lib.hid hsq
      have hadd : ∀ W : World, (Op.stringOp .add q r).run Try.prog W = .ok (.string s) W := fun W => by rw [← hsq]; exact run_string_add_sum (P := Try.prog) (w := W) q r (by omega)
      clear ht hb hf hq hss hn hsq hp hr hE hql hql' hscan hcnt hnm
      go_enter Try.func8, Try.ntmps8
      go_wp2_with fail
      refine (S0.out _).mono ?_
      rintro e w1 ⟨rfl, h1⟩
      go_wp2_with fail
      refine (c1.out _).mono ?_
      rintro e w2 ⟨rfl, h2⟩
      go_wp2_with fail
      refine (c2.out _).mono ?_
      rintro e w3 ⟨rfl, h3⟩
      go_wp2_with fail
      refine (c3.out _).mono ?_
      rintro e w4 ⟨v1, rfl, hv1, h4⟩
      go_wp2_with fail
      refine (c4.out _).mono ?_
      rintro e w5 ⟨v2, rfl, hv2, h5⟩
      obtain ⟨a2, cap2, rfl⟩ := hv2.form
      have hv1' := hv1.below h5
      obtain ⟨a1, cap1, rfl⟩ := hv1.form
      obtain ⟨_, _, _, hc⟩ := hv1'.at_
      obtain ⟨b, off, rfl, hblk, hc⟩ := hc (by simp)
      have hc1 := hc 0 (by simp)
      simp only [List.getElem_cons_zero, Nat.add_zero] at hc1
      clear hc hv1 hv1' hv2
      rw [List.length_cons]
      go_wp2_with fail
      go_ret
      exact ⟨rfl, bstep (bstep (bstep (bstep h1 h2) h3) h4) h5⟩
    · have hw := takeFr_wrong hE
      have hstop := scanFr_stop hE
      have ht : takeFr s.data.toList = ((⟨#[]⟩ : ByteArray).data.toList, (⟨#[]⟩ : ByteArray).data.toList, (takeFr s.data.toList).2.2) := by
        conv => lhs; rw [show takeFr s.data.toList = ((takeFr s.data.toList).1, (takeFr s.data.toList).2.1, (takeFr s.data.toList).2.2) from rfl, hw.1, hw.2]
      have c1 := Lib.hid (frTake_str s ⟨#[]⟩ ⟨#[]⟩ _ ht hs)
      have c3 := Lib.hid (scan_lit s [] 0 (by rw [hstop]; rfl) rfl (by omega))
      clear ht hw hstop
      generalize (takeFr s.data.toList).2.2 = er at c1 hE
      have ge : ((er : Int) != 0) = true := by rw [bne_iff_ne]; omega
      clear hE
      go_enter Try.func8, Try.ntmps8
      go_wp2_with fail
      refine (S0.out _).mono ?_
      rintro e w1 ⟨rfl, h1⟩
      go_wp2_with fail
      refine (c1.out _).mono ?_
      rintro e w2 ⟨rfl, h2⟩
      go_wp2_with fail
      refine (c3.out _).mono ?_
      rintro e w4 ⟨v1, rfl, hv1, h4⟩
      obtain ⟨a1, cap1, rfl⟩ := hv1.nil_form
      go_wp2_with fail
      go_ret
      exact ⟨rfl, bstep (bstep h1 h2) h4⟩
end Go.Proofs.Ytebliglfofjafaa
