/-
  The walk of the statement NumTexts: texts put one behind the other are taken one by one.
-/
import Derived.Test.YtapeeajneikoeaaNumLaw5
import Derived.Test.YtapeeajneikoeaaArgs
namespace Go.Proofs.Ytapeeajneikoeaa
open Go.RowKit

/-- The bytes of texts, one behind the other. -/
def putTs (l : List ByteArray) : List UInt8 := l.flatMap (fun s => putT s.data.toList)
theorem putTs_snoc (l : List ByteArray) (s : ByteArray) : putTs (l ++ [s]) = putTs l ++ putT s.data.toList := by simp [putTs]
theorem putTs_cons (l : List ByteArray) (s : ByteArray) : putTs (s :: l) = putT s.data.toList ++ putTs l := by simp [putTs]

set_option maxRecDepth 100000 in
set_option maxHeartbeats 1600000 in
theorem walkNumTexts (v0 : Value) (most : Int) (_wm : (Lit.int .i64 most).wf = true) (w : World) (hv : ∃ ss, IsStrs w v0 ss) :
    Calls Try.prog 8 #[v0, .int .i64 most] w fun e w' => e = .returned (.bool true) ∧ Below w.heap.size w w' := by
  obtain ⟨ss, a, cap, rfl, hsz, hlen, hcell⟩ := hv
  have hm := hlen
  unfold maxLen at hm
  have Hcell := Lib.hid hcell
  clear hcell
  by_cases h : 20 < ss.length
  · go_enter Try.func8, Try.ntmps8
    go_wp2_with fail
    refine (numShown _).mono ?_
    rintro e w1 ⟨rfl, h1⟩
    go_wp2_with fail
    go_ret
    exact ⟨rfl, h1⟩
  · go_enter Try.func8, Try.ntmps8
    go_wp2_with fail
    refine (numShown _).mono ?_
    rintro e w1 ⟨rfl, h1⟩
    go_wp2_with fail
    go_loopw [6, 7] (fun t6 t7 wr => ∃ k : Nat, k ≤ ss.length ∧ t7 = .int .i64 k ∧ (∃ b : ByteArray, b.data.toList = putTs (ss.take k) ∧ b.size ≤ 306 * k ∧ t6 = .string b) ∧ (∀ i, (h : i < ss.length) → i < k → ss[i].size ≤ 300) ∧ Below w.heap.size w wr) (fun _ i _ => ss.length - (intOf i).toNat)
    case atStart => exact ⟨0, Nat.zero_le _, rfl, ⟨_, by simp [putTs], by simp [ByteArray.size], rfl⟩, fun i _ h => absurd h (by omega), h1⟩
    case round =>
      obtain ⟨k, hk, rfl, ⟨b, hbl, hbs, rfl⟩, h300, hb⟩ := hrel
      have Hbl := Lib.hid hbl
      have H300 := Lib.hid h300
      clear hbl h300
      by_cases hlt : k < ss.length
      · obtain ⟨bl, off, rfl, hblk, hcells⟩ := Hcell.out (by omega)
        obtain ⟨s, hse⟩ : ∃ s, ss[k] = s := ⟨_, rfl⟩
        have hc1 : wr.cell? ⟨bl, off + k, none⟩ = some (.string s) := by rw [hb.cell (p := ⟨bl, off + k, none⟩) hblk, hcells k hlt, hse]
        have htk : ss.take (k + 1) = ss.take k ++ [s] := by rw [List.take_succ_eq_append_getElem hlt, hse]
        have Htk := Lib.hid htk
        have Hse := Lib.hid hse
        clear hcells htk hse
        have i1 : (0 : Int) ≤ (k : Int) := by omega
        by_cases hs300 : s.size ≤ 300
        · have hpl := putT_len s.data.toList
          have hsl : s.data.toList.length = s.size := by simp
          have hpz : (bstr (putT s.data.toList)).size = (putT s.data.toList).length := bstr_size _
          have hadd : ∀ W : World, (Op.stringOp .add b (bstr (putT s.data.toList))).run Try.prog W = .ok (.string (b ++ bstr (putT s.data.toList))) W := fun W => run_string_add_sum (P := Try.prog) (w := W) _ _ (by omega)
          have hput := putText_lit s _ rfl (by omega) wr
          have Hput := Lib.hid hput
          have Hpz := Lib.hid (show (bstr (putT s.data.toList)).size ≤ 306 by omega)
          have Hq : Hid ((bstr (putT s.data.toList)).data.toList = putT s.data.toList) := rfl
          clear hput hpl hsl hpz
          generalize bstr (putT s.data.toList) = q at hadd Hput Hpz Hq
          go_wp2_with fail
          refine Hput.out.mono ?_
          rintro e w2 ⟨rfl, h2⟩
          go_wp2_with fail
          go_roundw
          case rel =>
            refine ⟨k + 1, by omega, by go_num, ⟨_, ?_, ?_, rfl⟩, ?_, bstep hb h2⟩
            · rw [Htk.out, putTs_snoc, ← Hbl.out, ← Hq.out, list_add]
            · rw [ByteArray.size_append]; have := Hpz.out; omega
            · intro i hi hik
              by_cases e : i = k
              · subst e; rw [Hse.out]; exact hs300
              · exact H300.out i hi (by omega)
          case measure => simp [intOf]; omega
        · go_wp2_with fail
          go_ret
          exact ⟨rfl, hb⟩
      · have hk2 : k = ss.length := by omega
        subst hk2
        rw [List.take_length] at Hbl
        go_wp2_with fail
        go_loopw [6, 8, 9, 10, 11] (fun t6 t8 _ _ _ wr => ∃ k : Nat, k ≤ ss.length ∧ t8 = .int .i64 k ∧ (∃ b : ByteArray, b.data.toList = putTs (ss.drop k) ∧ b.size ≤ 6120 ∧ t6 = .string b) ∧ Below w.heap.size w wr) (fun _ i _ _ _ _ => ss.length - (intOf i).toNat)
        case atStart => exact ⟨0, Nat.zero_le _, rfl, ⟨b, by rw [List.drop_zero]; exact Hbl.out, by omega, rfl⟩, hb⟩
        case round =>
          clear hb Hbl hbs
          obtain ⟨k, hk, rfl, ⟨b, hbl, hbs, rfl⟩, hb⟩ := hrel
          have Hbl := Lib.hid hbl
          clear hbl
          by_cases hlt : k < ss.length
          · obtain ⟨bl, off, rfl, hblk, hcells⟩ := Hcell.out (by omega)
            obtain ⟨s, hse⟩ : ∃ s, ss[k] = s := ⟨_, rfl⟩
            have hcw : w.cell? ⟨bl, off + k, none⟩ = some (.string s) := by rw [hcells k hlt, hse]
            have hs300 : s.size ≤ 300 := by rw [← hse]; exact H300.out k hlt hlt
            have hdk : ss.drop k = s :: ss.drop (k + 1) := by rw [List.drop_eq_getElem_cons hlt, hse]
            have hbe := Hbl.out
            rw [hdk, putTs_cons] at hbe
            have hsl : s.data.toList.length = s.size := by simp
            have Hbe := Lib.hid hbe
            clear hcells hse hdk hbe
            have i1 : (0 : Int) ≤ (k : Int) := by omega
            by_cases hmost : most < (s.size : Int)
            · have c1 := takeText_str b most ⟨#[]⟩ ⟨#[]⟩ 4 (by rw [Hbe.out, takeT_long _ _ (by omega) _ (by omega)]) (by unfold maxLen; omega) wr
              have C1 := Lib.hid c1
              have Hcw := Lib.hid hcw
              clear c1 hsl hcw
              go_wp2_with fail
              refine C1.out.mono ?_
              rintro e w2 ⟨rfl, h2⟩
              have hb2 := bstep hb h2
              have hc2 : w2.cell? ⟨bl, off + k, none⟩ = some (.string s) := by rw [hb2.cell (p := ⟨bl, off + k, none⟩) hblk, Hcw.out]
              go_wp2_with fail
              go_ret
              exact ⟨rfl, hb2⟩
            · obtain ⟨r, hr⟩ : ∃ r : ByteArray, r.data.toList = putTs (ss.drop (k + 1)) := ⟨bstr _, rfl⟩
              have c1 := takeText_str b most s r 0 (by rw [Hbe.out, hr, takeT_putT _ _ (by omega) _ (by omega)]) (by unfold maxLen; omega) wr
              have hrz : r.size ≤ b.size := by
                have := congrArg List.length Hbe.out
                rw [← hr, List.length_append] at this
                simp at this
                omega
              have C1 := Lib.hid c1
              have Hcw := Lib.hid hcw
              have Hr := Lib.hid hr
              clear c1 hsl hcw hr
              go_wp2_with fail
              refine C1.out.mono ?_
              rintro e w2 ⟨rfl, h2⟩
              have hb2 := bstep hb h2
              have hc2 : w2.cell? ⟨bl, off + k, none⟩ = some (.string s) := by rw [hb2.cell (p := ⟨bl, off + k, none⟩) hblk, Hcw.out]
              go_wp2_with fail
              go_roundw
              case rel => exact ⟨k + 1, by omega, by go_num, ⟨r, Hr.out, by omega, rfl⟩, hb2⟩
              case measure => simp [intOf]; omega
          · have hk2 : k = ss.length := by omega
            have hb0 : b = ⟨#[]⟩ := by
              apply ByteArray.ext
              apply Array.toList_inj.1
              rw [Hbl.out, hk2, List.drop_length]
              rfl
            subst hb0
            clear hk2
            go_wp2_with fail
            go_ret
            exact ⟨rfl, hb⟩
end Go.Proofs.Ytapeeajneikoeaa
