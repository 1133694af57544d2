/-
  The walk of the statement CrcSplits: a text that is summed in parts.
-/
import Derived.Test.YtapeeajneikoeaaCrcLaws
import Derived.Test.YtapeeajneikoeaaCrcPlain2
import Derived.Test.YtapeeajneikoeaaArgs
import Derived.Test.YtapeeajneikoeaaAid
namespace Go.Proofs.Ytapeeajneikoeaa
open Go.RowKit

/-- Texts, one behind the other. -/
def joinB (l : List ByteArray) : List UInt8 := l.flatMap (fun s => s.data.toList)
theorem joinB_snoc (l : List ByteArray) (s : ByteArray) : joinB (l ++ [s]) = joinB l ++ s.data.toList := by simp [joinB]

set_option maxHeartbeats 400000 in
theorem walkCrcSplits (a0 : Int) (w0 : (Lit.int .u32 a0).wf = true) (v1 : Value) (w : World) (h1 : ∃ ss, IsStrs w v1 ss) :
    Calls Try.prog 6 #[.int .u32 a0, v1] w fun e w' => e = .returned (.bool true) ∧ Below w.heap.size w w' := by
  obtain ⟨c, hc, rfl⟩ := u32_bounds w0
  obtain ⟨ss, a, cap, rfl, hsz, hlen, hcell⟩ := h1
  have hm := hlen
  unfold maxLen at hm
  by_cases h : 20 < ss.length
  · go_enter Try.func6, Try.ntmps6
    go_wp2_with fail
    refine (crcShown _).mono ?_
    rintro e w1 ⟨rfl, h1⟩
    go_wp2_with fail
    go_ret
    exact ⟨rfl, h1⟩
  · have Hcell := Lib.hid hcell
    clear hcell
    go_enter Try.func6, Try.ntmps6
    go_wp2_with fail
    refine (crcShown _).mono ?_
    rintro e w1 ⟨rfl, h1⟩
    go_wp2_with fail
    go_loopw [6, 7, 8] (fun t6 t7 t8 wr => ∃ k : Nat, k ≤ ss.length ∧ t8 = .int .i64 k ∧ (∃ b : ByteArray, b.data.toList = joinB (ss.take k) ∧ b.size ≤ 300 * k ∧ t6 = .string b) ∧ t7 = .int .u32 (crcU c (joinB (ss.take k))) ∧ Below w.heap.size w wr) (fun _ _ i _ => ss.length - (intOf i).toNat)
    case atStart => exact ⟨0, Nat.zero_le _, rfl, ⟨_, by simp [joinB], by simp [ByteArray.size], rfl⟩, by rw [List.take_zero, show joinB [] = [] from rfl, crcU_nil hc], h1⟩
    case round =>
      obtain ⟨k, hk, rfl, ⟨b, hbl, hbs, rfl⟩, rfl, hb⟩ := hrel
      have Hbl := Lib.hid hbl
      clear hbl
      have ld := crcU_lt c (joinB (ss.take k))
      obtain ⟨d, hd⟩ : ∃ d, crcU c (joinB (ss.take k)) = d := ⟨_, rfl⟩
      rw [hd] at ld ⊢
      have Hd := Lib.hid hd
      clear hd
      by_cases hlt : k < ss.length
      · obtain ⟨bl, off, rfl, hblk, hcells⟩ := Hcell.out (by omega)
        obtain ⟨s, hse⟩ : ∃ s, ss[k] = s := ⟨_, rfl⟩
        have hc1 : wr.cell? ⟨bl, off + k, none⟩ = some (.string s) := by rw [hb.cell (p := ⟨bl, off + k, none⟩) hblk, hcells k hlt, hse]
        have hs1 : s.size ≤ maxLen := hsz s (by rw [← hse]; exact List.getElem_mem hlt)
        have Hse := Lib.hid hse
        have htk : ss.take (k + 1) = ss.take k ++ [s] := by rw [List.take_succ_eq_append_getElem hlt, hse]
        have Htk := Lib.hid htk
        clear hcells htk hse
        have i1 : (0 : Int) ≤ (k : Int) := by omega
        by_cases h300 : s.size ≤ 300
        · have hup := update_any d s wr ld hs1
          have Hup := Lib.hid hup
          clear hup
          have hadd : ∀ W : World, (Op.stringOp .add b s).run Try.prog W = .ok (.string (b ++ s)) W := fun W => run_string_add_sum (P := Try.prog) (w := W) b s (by omega)
          go_wp2_with fail
          refine Hup.out.mono ?_
          rintro e w2 ⟨rfl, h2⟩
          go_wp2_with fail
          go_roundw
          case rel =>
            refine ⟨k + 1, by omega, by go_num, ⟨_, ?_, ?_, rfl⟩, ?_, bstep hb h2⟩
            · rw [Htk.out, joinB_snoc, ← Hbl.out]; simp
            · rw [ByteArray.size_append]; omega
            · rw [Htk.out, joinB_snoc, crcU_append, Hd.out]
          case measure => simp [intOf]; omega
        · go_wp2_with fail
          go_ret
          exact ⟨rfl, hb⟩
      · have hk2 : k = ss.length := by omega
        subst hk2
        have hb9 : b.size ≤ maxLen := by unfold maxLen; omega
        have c1 := update_any c b wr hc hb9
        have e1 : crcU c b.data.toList = d := by rw [Hbl.out, Hd.out]
        rw [e1] at c1
        have c2 := fun W => update_any 0 b W (by omega) hb9
        have c3 := fun W => sum_any b W hb9
        generalize crcU 0 b.data.toList = f at c2 c3
        have C1 := Lib.hid c1
        have C2 := Lib.hid c2
        have C3 := Lib.hid c3
        clear c1 c2 c3 e1
        go_wp2_with fail
        refine C1.out.mono ?_
        rintro e w2 ⟨rfl, h2⟩
        go_wp2_with fail
        refine (C2.out _).mono ?_
        rintro e w3 ⟨rfl, h3⟩
        go_wp2_with fail
        refine (C3.out _).mono ?_
        rintro e w4 ⟨rfl, h4⟩
        go_wp2_with fail
        go_ret
        exact ⟨rfl, bstep (bstep (bstep hb h2) h3) h4⟩
end Go.Proofs.Ytapeeajneikoeaa
