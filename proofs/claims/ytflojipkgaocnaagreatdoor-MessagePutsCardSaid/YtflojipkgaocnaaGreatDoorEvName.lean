/-
  The walks of text.named, text.wrong and text.Name: whether a text is a name.
-/
import Derived.Test.YtflojipkgaocnaaGreatDoorShelf
import Derived.Test.YtflojipkgaocnaaGreatDoorAid
import Derived.Lib.Hide
import Derived.Lib.OthersKept
import Derived.Lib.TrimU
import Derived.Lib.RuneCountTail
import Derived.BigQuiet
import Derived.LoopN
namespace Go.Proofs.YtflojipkgaocnaaGreatDoor
open Go.RowKit

def namedR (r : Nat) : Bool :=
  (decide (97 ≤ r) && decide (r ≤ 122)) || (decide (65 ≤ r) && decide (r ≤ 90)) || (decide (48 ≤ r) && decide (r ≤ 57)) || decide (r = 45) || decide (r = 95) || decide (r = 46) || decide (160 ≤ r)

def wrongR (d : Nat × Nat) : Bool := decide (d.1 = 65533) && decide (d.2 = 1)

/-- Is what stands from pos on, of at most k runes, all of a name's runes; any: there were some ahead. -/
def nameGo (s : ByteArray) : Nat → Nat → Bool → Bool
  | 0, pos, any => if pos < s.size then false else any
  | k + 1, pos, any => if pos < s.size then (if namedR (Utf8.decode s pos).1 = false ∨ wrongR (Utf8.decode s pos) = true then false else nameGo s k (pos + (Utf8.decode s pos).2) true) else any
def nameB (s : ByteArray) : Bool := nameGo s 32 0 false

/-- Go's tables of UTF-8 lie where they must. -/
def Tabs (w : World) : Prop := Lib.Utf8Tabs 0 1 w
theorem tabs_below {w w' : World} (h : Tabs w) (hb : Below w.heap.size w w') : Tabs w' := by
  refine ⟨fun c hc => ?_, fun i hi => ?_⟩
  · have h1 := h.1 c hc
    rw [hb.cell (p := ⟨0, c, none⟩) (World.block_lt_of_cell? w ⟨0, c, none⟩ h1)]
    exact h1
  · have h1 := h.2 i hi
    constructor
    · rw [hb.cell (World.block_lt_of_cell? w _ h1.1)]; exact h1.1
    · rw [hb.cell (World.block_lt_of_cell? w _ h1.2)]; exact h1.2

set_option maxHeartbeats 1600000 in
theorem named_any (r : Nat) (b : Bool) (hb : namedR r = b) (w : World) :
    Calls Tryz.prog 71 #[.int .i32 r] w fun e w' => e = .returned (.bool b) ∧ w' = w := by
  have h : r < 45 ∨ r = 45 ∨ r = 46 ∨ r = 47 ∨ (48 ≤ r ∧ r ≤ 57) ∨ (58 ≤ r ∧ r ≤ 64) ∨ (65 ≤ r ∧ r ≤ 90) ∨ (91 ≤ r ∧ r ≤ 94) ∨ r = 95 ∨ r = 96 ∨ (97 ≤ r ∧ r ≤ 122) ∨ (123 ≤ r ∧ r ≤ 159) ∨ 160 ≤ r := by omega
  have Hb := Lib.hid hb
  clear hb
  rcases h with h | h | h | h | h | h | h | h | h | h | h | h | h
  all_goals
    go_enter Tryz.func71, Tryz.ntmps71
    go_wp2_with fail
    go_ret
    refine ⟨ret_bool ?_, rfl⟩
    rw [← Hb.out]
    first
      | (simp [namedR]; omega)
      | (simp [namedR]; done)
      | (rw [Bool.eq_iff_iff]; simp only [namedR, Bool.or_eq_true, Bool.and_eq_true, beq_iff_eq, decide_eq_true_eq]; omega)

set_option maxHeartbeats 1600000 in
theorem wrong_any (s : ByteArray) (p : Nat) (hp : p < s.size) (b : Bool) (hb : wrongR (Utf8.decode s p) = b) (w : World) (hT : Tabs w) :
    Calls Tryz.prog 72 #[.string s, .int .i64 p, .int .i32 (Utf8.decode s p).1] w fun e w' => e = .returned (.bool b) ∧ Below w.heap.size w w' := by
  have C := Lib.hid (Tryz.utf8_DecodeRuneInString (s.extract p s.size) w hT)
  have hd : Lib.decodeGo (s.extract p s.size) = Utf8.decode s p := by
    have h1 : Lib.decodeGo (s.extract p s.size) = Lib.decodeGoB (s.extract p s.size) := rfl
    rw [h1, Lib.decodeGoB, if_neg (by rw [ByteArray.size_extract]; omega), Lib.tail_decode]
    rfl
  rw [hd] at C
  clear hd
  obtain ⟨⟨d, n⟩, hd⟩ : ∃ x, Utf8.decode s p = x := ⟨_, rfl⟩
  rw [hd] at C hb ⊢
  simp only at C hb ⊢
  have Hb := Lib.hid hb
  clear hb hd
  have i1 : (0 : Int) ≤ (p : Int) := by omega
  have i2 : (p : Int) ≤ (s.size : Int) := by omega
  by_cases h1 : d = 65533
  · subst h1
    go_enter Tryz.func72, Tryz.ntmps72
    go_wp2_with fail
    refine C.out.mono ?_
    rintro e w1 ⟨rfl, hb1⟩
    go_wp2_with fail
    go_ret
    refine ⟨ret_bool ?_, hb1⟩
    rw [← Hb.out, wrongR, Bool.eq_iff_iff]
    simp only [decide_true, Bool.true_and, beq_iff_eq, decide_eq_true_eq]
    omega
  · have g : ((d : Int) != 65533) = true := by rw [bne_iff_ne]; omega
    have H1 := Lib.hid h1
    clear h1
    go_enter Tryz.func72, Tryz.ntmps72
    go_wp2_with fail
    go_ret
    refine ⟨ret_bool ?_, Below.refl _ _⟩
    rw [← Hb.out]
    simp [wrongR, H1.out]

theorem iter_below {w w' : World} {it : Nat} {s : ByteArray} {pos : Nat} (hb : Below w.heap.size w w') (h : w.heap[it]? = some (.stringIter s pos)) : w'.heap[it]? = some (.stringIter s pos) := by
  rw [hb.block it (Array.getElem?_eq_some_iff.1 h).1]
  exact h

set_option maxHeartbeats 1600000 in
theorem name_any (s : ByteArray) (b : Bool) (hb : nameB s = b) (w : World) (hT : Tabs w) :
    Calls Tryz.prog 45 #[.string s] w fun e w' => e = .returned (.bool b) ∧ Below w.heap.size w w' := by
  have HT := Lib.hid hT
  have Hb := Lib.hid hb
  clear hT hb
  go_enter Tryz.func45, Tryz.ntmps45
  go_wp2_with fail
  go_loopw [2, 3, 4, 5] (fun _ t3 _ _ wr => ∃ n k pos : Nat, n + k = 32 ∧ t3 = .int .i64 n ∧ nameGo s k pos (decide (0 < n)) = b ∧ wr.heap[w.heap.size]? = some (.stringIter s pos) ∧ Below w.heap.size w wr) (fun _ t3 _ _ _ => 33 - (intOf t3).toNat)
  case atStart => exact ⟨0, 32, 0, rfl, rfl, Hb.out, heap_alloc_new _ _, (Below.refl _ _).alloc (Nat.le_refl _) _⟩
  case round =>
    obtain ⟨n, k, pos, hnk, rfl, hgo, hit, hbl⟩ := hrel
    have Hgo := Lib.hid hgo
    clear hgo
    by_cases hp : pos < s.size
    · have hnx := fun ty => Lib.run_next_any_at (P := Tryz.prog) wr w.heap.size s pos ty hit hp
      have hit2 := Lib.iterAt_heap wr w.heap.size s pos (pos + (Utf8.decode s pos).2) hit
      have hb2 : Below w.heap.size w (wr.iterAt w.heap.size s (pos + (Utf8.decode s pos).2)) := Lib.below_iterAt hbl (Nat.le_refl _) s _
      have hT2 := tabs_below HT.out hb2
      cases k with
      | zero =>
        obtain rfl : n = 32 := by omega
        obtain rfl : b = false := by rw [← Hgo.out, nameGo, if_pos hp]
        go_wp2_with fail
        go_ret
        exact ⟨rfl, hb2⟩
      | succ k =>
        have hn1 : ¬ (32 < (n : Int) + 1) := by omega
        obtain ⟨nd, hnd⟩ : ∃ x, namedR (Utf8.decode s pos).1 = x := ⟨_, rfl⟩
        obtain ⟨wg, hwg⟩ : ∃ x, wrongR (Utf8.decode s pos) = x := ⟨_, rfl⟩
        have C1 := Lib.hid (named_any (Utf8.decode s pos).1 nd hnd)
        have C2 := Lib.hid (wrong_any s pos hp wg hwg _ hT2)
        have Hnd := Lib.hid hnd
        have Hwg := Lib.hid hwg
        have Hit2 := Lib.hid hit2
        have HB2 := Lib.hid hb2
        generalize wr.iterAt w.heap.size s (pos + (Utf8.decode s pos).2) = w2 at hnx C2 Hit2 HB2
        clear hit2 hb2 hT2 hnd hwg hit
        cases nd with
        | false =>
          obtain rfl : b = false := by rw [← Hgo.out, nameGo, if_pos hp, if_pos (.inl Hnd.out)]
          go_wp2_with fail
          refine (C1.out _).mono ?_
          rintro e w3 ⟨rfl, rfl⟩
          go_wp2_with fail
          go_ret
          exact ⟨rfl, HB2.out⟩
        | true =>
          cases wg with
          | true =>
            obtain rfl : b = false := by rw [← Hgo.out, nameGo, if_pos hp, if_pos (.inr Hwg.out)]
            go_wp2_with fail
            refine (C1.out _).mono ?_
            rintro e w3 ⟨rfl, rfl⟩
            go_wp2_with fail
            refine C2.out.mono ?_
            rintro e w4 ⟨rfl, hb4⟩
            go_wp2_with fail
            go_ret
            exact ⟨rfl, bstep HB2.out hb4⟩
          | false =>
            have hgo : nameGo s k (pos + (Utf8.decode s pos).2) true = b := by
              rw [← Hgo.out, nameGo, if_pos hp, if_neg (by rw [Hnd.out, Hwg.out]; simp)]
            have HG2 := Lib.hid hgo
            clear hgo
            go_wp2_with fail
            refine (C1.out _).mono ?_
            rintro e w3 ⟨rfl, rfl⟩
            go_wp2_with fail
            refine C2.out.mono ?_
            rintro e w4 ⟨rfl, hb4⟩
            go_wp2_with fail
            go_roundw
            case rel => exact ⟨n + 1, k, pos + (Utf8.decode s pos).2, by omega, by go_num, by simpa using HG2.out, iter_below hb4 Hit2.out, bstep HB2.out hb4⟩
            case measure => simp [intOf]; omega
    · have hnx := fun ty => Lib.run_next_end_at (P := Tryz.prog) wr w.heap.size s pos ty hit hp
      have hb' : decide (0 < n) = b := by
        rw [← Hgo.out]
        cases k with
        | zero => rw [nameGo, if_neg hp]
        | succ k => rw [nameGo, if_neg hp]
      have Hb' := Lib.hid hb'
      clear hb'
      go_wp2_with fail
      go_ret
      refine ⟨ret_bool ?_, hbl⟩
      rw [← Hb'.out]
end Go.Proofs.YtflojipkgaocnaaGreatDoor
