/-
  The walk of the statement CrcFinds: a burst of up to 32 bits is found.
-/
import Derived.Test.YtapeeajneikoeaaCrcLaws
import Derived.Test.YtapeeajneikoeaaCrcPlain2
import Derived.Test.YtapeeajneikoeaaAid
import Derived.Deep.RegionHeld3
import Derived.BigRegion
namespace Go.Proofs.Ytapeeajneikoeaa
open Go.RowKit

theorem i64_bounds {a : Int} (w0 : (Lit.int .i64 a).wf = true) : -9223372036854775808 ≤ a ∧ a ≤ 9223372036854775807 := by
  simpa [Lit.wf, IntKind.min, IntKind.max, IntKind.signed, IntKind.bits] using w0

/-- Block B is the text L, turned here and there, and what stands behind it. -/
def TextAt (w : World) (B m : Nat) (L : List UInt8) : Prop :=
  ∃ C : Array Value, C.size = m ∧ L.length ≤ m ∧ w.heap[B]? = some (.cells C 5 (m, m + 1)) ∧ ∀ j, (h : j < L.length) → C[j]? = some (.int .u8 (L[j].toNat : Int))

theorem TextAt.set {w : World} {B m : Nat} {L : List UInt8} (h : TextAt w B m L) (q : Nat) (b : UInt8) : TextAt (w.setCell ⟨B, q, none⟩ (.int .u8 b.toNat)) B m (L.set q b) := by
  obtain ⟨C, h1, h2, h3, h4⟩ := h
  refine ⟨C.setIfInBounds q (.int .u8 b.toNat), by simpa using h1, by simpa using h2, ?_, fun j hj => ?_⟩
  · simp [World.setCell, Array.getElem?_modify, h3]
  · have hj' : j < L.length := by simpa using hj
    have := (Array.getElem?_eq_some_iff.1 (h4 j hj')).1
    rw [Array.getElem?_setIfInBounds, List.getElem_set]
    by_cases e : q = j
    · rw [if_pos e, if_pos e, if_pos (by omega)]
    · rw [if_neg e, if_neg e]; exact h4 j hj'

theorem TextAt.str {P : Program} {w : World} {B m : Nat} {L : List UInt8} (h : TextAt w B m L) (src dst : TypeId) (cap n : Nat) (hn : L.length = n) (hs : P.underlying src = some (.slice 5)) (he : P.underlying 5 = some (.int .u8)) (hd : P.underlying dst = some .string) :
    (convert src dst (.slice (some ⟨B, 0, none⟩) n cap)).run P w = .ok (.string (bstr L)) w := by
  subst hn
  obtain ⟨C, h1, h2, h3, h4⟩ := h
  refine run_convert_bytes_back w src dst 5 ⟨B, 0, none⟩ cap L hs he hd (fun j hj => ?_)
  have hadd : (⟨B, 0, none⟩ : Addr).add j = ⟨B, j, none⟩ := by unfold Addr.add; split <;> simp_all
  rw [hadd, cell_of_row w B j C _ _ h3]
  exact h4 j hj

theorem bytes_eq {L : List UInt8} {s : ByteArray} (e : (bstr L).toList = s.toList) : L = s.data.toList := by
  have h := e
  rw [ByteArray.toList_eq, ByteArray.toList_eq] at h
  exact h

theorem u8_flip (b : UInt8) (r : Nat) (hr : r < 8) : bits .xor .u8 (b.toNat : Int) (2 ^ r % 256) = ((b ^^^ UInt8.ofNat (2 ^ r)).toNat : Int) := by
  have hp : 2 ^ r < 256 := Nat.pow_lt_pow_right (a := 2) (n := 8) (by omega) hr
  have hc : ((2 : Int) ^ r) = ((2 ^ r : Nat) : Int) := by simp
  rw [hc]
  generalize 2 ^ r = p at hp
  have hb : b.toNat < 256 := b.toNat_lt
  rw [show ((p : Int) % 256) = (p : Int) by omega, u8_xor_nat _ _ hb hp, UInt8.toNat_xor, UInt8.toNat_ofNat', Nat.mod_eq_of_lt hp]

theorem bit_on {b i : Nat} (hb : b < 4294967296) (h : (bits .and .u32 ((b : Int) / 2 ^ i) 1 == 1) = true) : b / 2 ^ i % 2 = 1 := by
  have e : ((b : Int) / 2 ^ i) = ((b / 2 ^ i : Nat) : Int) := by simp
  rw [e] at h
  exact u32_odd (Nat.lt_of_le_of_lt (Nat.div_le_self _ _) hb) h
theorem bit_off {b i : Nat} (hb : b < 4294967296) (h : (bits .and .u32 ((b : Int) / 2 ^ i) 1 == 1) = false) : b / 2 ^ i % 2 = 0 := by
  have e : ((b : Int) / 2 ^ i) = ((b / 2 ^ i : Nat) : Int) := by simp
  rw [e] at h
  have := u32_even (Nat.lt_of_le_of_lt (Nat.div_le_self _ _) hb) h
  omega

set_option maxHeartbeats 800000 in
theorem walkCrcFinds (a0 : Int) (w0 : (Lit.int .u32 a0).wf = true) (s : ByteArray) (hs : s.size ≤ maxLen) (a2 : Int) (w2 : (Lit.int .i64 a2).wf = true) (a3 : Int) (w3 : (Lit.int .u32 a3).wf = true) (w : World) :
    Calls Try.prog 5 #[.int .u32 a0, .string s, .int .i64 a2, .int .u32 a3] w fun e w' => e = .returned (.bool true) ∧ Below w.heap.size w w' := by
  obtain ⟨c, hc, rfl⟩ := u32_bounds w0
  obtain ⟨bt, hbt, rfl⟩ := u32_bounds w3
  have hat := i64_bounds w2
  have hm := hs
  unfold maxLen at hm
  by_cases h : s.size ≤ 2000 ∧ 0 < bt ∧ 0 ≤ a2 ∧ a2 < 8 * s.size
  · obtain ⟨h1, h2, h3, h4⟩ := h
    obtain ⟨a, rfl⟩ := Int.eq_ofNat_of_zero_le h3
    have g2 : ((bt : Int) == 0) = false := by simp; omega
    have g3 : decide ((a : Int) < 0) = false := by simp
    have g4 : decide (8 * (s.size : Int) ≤ (a : Int)) = false := by simp; omega
    go_enter Try.func5, Try.ntmps5
    go_wp2_with fail
    refine (crcShown _).mono ?_
    rintro e w1 ⟨rfl, h5⟩
    obtain ⟨cap, C, hC, hconv⟩ := conv_bytes (P := Try.prog) w1 9 27 5 s Try.underlying9 Try.underlying27 Try.underlying5
    have HC := Lib.hid hC; clear hC
    have hT : TextAt (w1.alloc (.cells C 5 (C.size, C.size + 1))) w1.heap.size C.size s.data.toList := by
      refine ⟨C, rfl, ?_, heap_alloc_new _ _, fun j hj => HC.out j (by simpa using hj)⟩
      rcases Nat.eq_zero_or_pos s.size with h0 | h0
      · simpa using (show s.size ≤ C.size by omega)
      · have := (Array.getElem?_eq_some_iff.1 (HC.out (s.size - 1) (by omega))).1
        simpa using (show s.size ≤ C.size by omega)
    go_wp2_with fail
    go_loopw [11, 12] (fun t11 t12 wr => ∃ (i : Nat) (L : List UInt8), i ≤ 32 ∧ a + i ≤ 8 * s.size ∧ t11 = .int .i64 i ∧ L.length = s.size ∧ numL L = numL s.data.toList ^^^ 2 ^ a * (bt % 2 ^ i) ∧ TextAt wr w1.heap.size C.size L ∧ Below w.heap.size w wr) (fun t _ _ => 32 - (intOf t).toNat)
    case atStart =>
      refine ⟨0, s.data.toList, by omega, by omega, rfl, by simp, by simp [Nat.mod_one], hT, ?_⟩
      exact (h5.alloc h5.size _).drew
    case round =>
      clear hconv hT
      obtain ⟨i, L, hi32, hai, rfl, hL, hnum, hT, hb⟩ := hrel
      have Hnum := Lib.hid hnum
      clear hnum
      by_cases hlt : i < 32 ∧ a + i < 8 * s.size
      · obtain ⟨hl1, hl2⟩ := hlt
        obtain ⟨q, hq⟩ : ∃ q, (a + i) / 8 = q := ⟨_, rfl⟩
        obtain ⟨r, hr⟩ : ∃ r, (a + i) % 8 = r := ⟨_, rfl⟩
        have hql : q < L.length := by omega
        obtain ⟨C', hC1, hC2, hC3, hC4⟩ := hT
        have hcell : wr.cell? ⟨w1.heap.size, q, none⟩ = some (.int .u8 (L[q].toNat : Int)) := by
          rw [cell_of_row wr _ q C' _ _ hC3]; exact hC4 q hql
        have hfro : wr.frozen? ⟨w1.heap.size, q, none⟩ = false := by
          have : ¬ C.size ≤ q := by omega
          simp [World.frozen?, hC3, this]
        have hqi : IntKind.i64.wrap (((a : Int) + (i : Int)).tdiv 8) = (q : Int) := by
          rw [Int.tdiv_eq_ediv_of_nonneg (by omega), IntKind.wrap_i64]; omega
        have hri : ((a : Int) + (i : Int)).tmod 8 = (r : Int) := by
          rw [Int.tmod_eq_emod_of_nonneg (by omega)]; omega
        have j4 : (0 : Int) ≤ (r : Int) := by omega
        have j1 : (0 : Int) ≤ (q : Int) := by omega
        have j2 : (q : Int) < (s.size : Int) := by omega
        have j3 : (r : Int) < 8 := by omega
        have HT := Lib.hid hC3
        have HT4 := Lib.hid hC4
        have Hq := Lib.hid hq
        have Hr := Lib.hid hr
        clear hC3 hC4 hq hr
        go_wp2_with fail
        · go_region
          go_wp2_with fail
          go_roundw
          case rel =>
            refine ⟨i + 1, L.set q (L[q] ^^^ UInt8.ofNat (2 ^ r)), by omega, by omega, by go_num, by simpa using hL, ?_, ?_, ?_⟩
            · exact burst_step_on _ L a bt i q r hql (by omega) (by have := Hq.out; have := Hr.out; omega) (bit_on hbt (by assumption)) Hnum.out
            · have hT' : TextAt wr w1.heap.size C.size L := ⟨C', hC1, hC2, HT.out, HT4.out⟩
              rw [u8_flip L[q] r (by omega)]
              exact hT'.set q _
            · exact (hb.setCell (p := ⟨w1.heap.size, q, none⟩) h5.size _).drew
          case measure => simp [intOf]; omega
        · go_roundw
          case rel =>
            refine ⟨i + 1, L, by omega, by omega, by go_num, hL, ?_, ⟨C', hC1, hC2, HT.out, HT4.out⟩, hb⟩
            rw [mod_bit_off (bit_off hbt (by assumption))]
            exact Hnum.out
          case measure => simp [intOf]; omega
      · have hcv := hT.str (P := Try.prog) 27 9 cap s.size hL Try.underlying27 Try.underlying5 Try.underlying9
        have hbr := burst c s.data.toList L a (bt % 2 ^ i) hc (by simpa using hL) Hnum.out (by simp; omega) (Nat.lt_of_le_of_lt (Nat.mod_le _ _) hbt)
        have c1 := fun W => update_any c s W hc hs
        have c2 := fun W => update_any c (bstr L) W hc (by rw [bstr_size, hL]; exact hs)
        rw [bstr_list] at c2
        have C1 := Lib.hid c1
        have C2 := Lib.hid c2
        have HT := Lib.hid hT
        clear c1 c2 hT
        by_cases hsame : L = s.data.toList
        · subst hsame
          rw [bstr_of] at hcv C2
          clear hbr
          go_wp2_with fail
          all_goals
            refine (C1.out _).mono ?_
            rintro e w2 ⟨rfl, h2⟩
            go_wp2_with fail
            refine (C2.out _).mono ?_
            rintro e w3 ⟨rfl, h3⟩
            go_wp2_with fail
            go_ret
            exact ⟨rfl, bstep (bstep hb h2) h3⟩
        · have hne : ¬ crcU c s.data.toList = crcU c L := fun e => hsame (hbr.2 e)
          have f1 : ((crcU c s.data.toList : Int) == (crcU c L : Int)) = false := by simp; omega
          have f2 : ((bstr L).toList == s.toList) = false := by rw [beq_eq_false_iff_ne]; intro e; exact hsame (bytes_eq e)
          clear hbr
          have Hsame := Lib.hid hsame
          clear hsame
          go_wp2_with fail
          all_goals
            refine (C1.out _).mono ?_
            rintro e w2 ⟨rfl, h2⟩
            go_wp2_with fail
            refine (C2.out _).mono ?_
            rintro e w3 ⟨rfl, h3⟩
            go_wp2_with fail
            go_ret
            exact ⟨rfl, bstep (bstep hb h2) h3⟩
  · go_enter Try.func5, Try.ntmps5
    go_wp2_with fail
    refine (crcShown _).mono ?_
    rintro e w1 ⟨rfl, h1⟩
    go_wp2_with fail
    all_goals (go_ret; exact ⟨rfl, h1⟩)
end Go.Proofs.Ytapeeajneikoeaa
