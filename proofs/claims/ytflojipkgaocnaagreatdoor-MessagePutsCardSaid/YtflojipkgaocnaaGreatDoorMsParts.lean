/-
  The walk of message.parts at the kinds that have numbers alone, and at a batch. Printed by gen_msparts.py of this claim's writer.
-/
import Derived.Test.YtflojipkgaocnaaGreatDoorMsPut
namespace Go.Proofs.YtflojipkgaocnaaGreatDoor
open Go.RowKit
set_option linter.unusedSimpArgs false
set_option linter.unusedVariables false


set_option maxRecDepth 100000 in
set_option maxHeartbeats 3200000 in
theorem parts_plain (v : Value) (k : Nat) (hk : HasKind v k) (h : k ≠ 4 ∧ k ≠ 6 ∧ k ≠ 7 ∧ k ≠ 11 ∧ k ≠ 12 ∧ k ≠ 14) (w : World) :
    Calls Tryz.prog 25 #[v] w fun e w' => e = .returned (.tuple #[.string ⟨#[]⟩, .bool true]) ∧ Below w.heap.size w w' := by
  obtain ⟨T, p, F, rfl, hm, hcf, hc⟩ := hk
  have HC := Lib.hid hc
  have g1 : ((k : Int) == 4) = false := by rw [beq_eq_false_iff_ne]; omega
  have g2 : ((k : Int) == 6) = false := by rw [beq_eq_false_iff_ne]; omega
  have g3 : ((k : Int) == 7) = false := by rw [beq_eq_false_iff_ne]; omega
  have g4 : ((k : Int) == 11) = false := by rw [beq_eq_false_iff_ne]; omega
  have g5 : ((k : Int) == 12) = false := by rw [beq_eq_false_iff_ne]; omega
  have g6 : ((k : Int) == 14) = false := by rw [beq_eq_false_iff_ne]; omega
  clear hc h
  go_enter Tryz.func25, Tryz.ntmps25
  go_wp2_with fail
  refine (HC.out _).mono ?_
  rintro e w1 ⟨rfl, hb1⟩
  have HB := Lib.hid hb1
  clear hb1
  go_wp2_with fail
  go_ret2
  exact ⟨rfl, bstep ((Below.refl _ _).alloc (Nat.le_refl _) _) HB.out⟩

theorem run_fieldA (x0 x1 x2 x3 x4 x5 : Value) (W : World) : (Instr.field 75 (.agg #[x0, x1, x2, x3, x4, x5]) 1).run Tryz.prog W = .ok (.agg #[x1, x2, x3, x4, x5]) W := by kernel_rfl
/-- PutBatch, of any batch. -/
theorem putB_all (B : Nat) (v : Value) (b : BW) (s : ByteArray) (hs : putB b = s) (w : World) (h : IsBatch B w v b) (hB : B ≤ w.heap.size) (hT : Tabs w) :
    Calls Tryz.prog 43 #[v] w fun r w' => r = .returned (.string s) ∧ Below w.heap.size w w' := by
  by_cases hf : fitsB b = 0
  · exact putB_any B v b s hs w h hB hT (fits_light hf)
  · obtain ⟨lv, rfl, hl⟩ := h
    have HL := Lib.hid hl
    obtain ⟨a, cap, rfl⟩ := hl.form
    obtain rfl : ⟨#[]⟩ = s := by rw [← hs, putB, if_neg hf]
    have hb0 : Below w.heap.size w (w.alloc (.cells #[.string b.stream, .int .i64 b.expect, .int .i64 b.session, .int .i64 b.seq, .slice a b.events.length cap] 28)) := (Below.refl _ _).alloc (Nat.le_refl _) _
    have CF := Lib.hid (fits_any B _ b _ rfl _ ⟨_, rfl, HL.out.keep hb0 hB⟩ (Nat.le_trans hB hb0.size) (tabs_below hT hb0))
    have g : ((fitsB b : Int) != 0) = true := by rw [bne_iff_ne]; omega
    clear hl hs hf
    generalize fitsB b = c at g CF
    go_enter Tryz.func43, Tryz.ntmps43
    go_wp2_with fail
    refine CF.out.mono ?_
    rintro r w1 ⟨rfl, hb1⟩
    go_wp2_with fail
    go_ret
    exact ⟨rfl, bstep hb0 hb1⟩

set_option maxRecDepth 100000 in
set_option maxHeartbeats 3200000 in
theorem parts_app (B : Nat) (v : Value) (a : Int) (b : BW) (w : World) (h : IsMsg B w v (.app a b)) (hB : B ≤ w.heap.size) (hT : Tabs w) :
    Calls Tryz.prog 25 #[v] w fun e w' => GotRest (.app a b) w e w' := by
  have HK : HasKind v 11 := hasKind h
  obtain ⟨lv, rfl, hl⟩ := h
  have HL := Lib.hid hl
  have HT := Lib.hid hT
  obtain ⟨ea, ec, rfl⟩ := hl.form
  obtain ⟨T, p, F, hv, hm, hcf, hc⟩ := HK
  injection hv with hv1 hv2
  subst hv1 hv2
  have HC := Lib.hid hc
  obtain ⟨s, hs⟩ : ∃ s, putB b = s := ⟨_, rfl⟩
  have hne : s.toList = [] ↔ ¬ fitsB b = 0 := by
    rw [← hs]
    constructor
    · intro e hf
      refine pb_ne hf ?_
      rw [← e, ByteArray.toList_eq]
    · intro hf
      rw [putB, if_neg hf, ByteArray.toList_eq]
  have HS := Lib.hid (fun (X : World) (hX : Below w.heap.size w X) => putB_all B _ b s hs X ⟨_, rfl, HL.out.keep hX hB⟩ (Nat.le_trans hB hX.size) (tabs_below HT.out hX))
  have hrest : bstr (Msg.app a b).rest = s := by rw [← hs]; rfl
  have HR := Lib.hid hrest
  have HN := Lib.hid hne
  have ta : ∀ (W : World) (v : Value), (Instr.typeAssert (.iface 75 v) 34 75 false).run Tryz.prog W = .ok v W := fun W v => by kernel_rfl
  have fa := fun (W : World) (x0 x1 x2 x3 x4 x5 : Value) => run_fieldA x0 x1 x2 x3 x4 x5 W
  clear hl hT hc hs hne hrest
  have HB0 := Lib.hid ((Below.refl w.heap.size w).alloc (Nat.le_refl _) (.cells #[.pointer none, .slice none 0 0] 100))
  by_cases hf : fitsB b = 0
  · have q1 : s.toList.isEmpty = false := by
      cases e : s.toList.isEmpty
      · rfl
      · exact absurd hf (HN.out.1 (List.isEmpty_iff.1 e))
    have Hf := Lib.hid hf
    clear hf
    go_enter Tryz.func25, Tryz.ntmps25
    go_wp2_with fail
    refine (HC.out _).mono ?_
    rintro e w1 ⟨rfl, hb1⟩
    have HB := Lib.hid (bstep HB0.out hb1)
    clear hb1
    go_wp2_with fail
    refine (HS.out _ HB.out).mono ?_
    rintro e w2 ⟨rfl, hb2⟩
    have HB2 := Lib.hid hb2
    clear hb2
    go_wp2_with fail
    go_ret2
    refine ⟨?_, bstep HB.out HB2.out⟩
    rw [HR.out, Msg.restOk, Hf.out]
    rfl
  · have q1 : s.toList.isEmpty = true := List.isEmpty_iff.2 (HN.out.2 hf)
    have Hf := Lib.hid hf
    clear hf
    go_enter Tryz.func25, Tryz.ntmps25
    go_wp2_with fail
    refine (HC.out _).mono ?_
    rintro e w1 ⟨rfl, hb1⟩
    have HB := Lib.hid (bstep HB0.out hb1)
    clear hb1
    go_wp2_with fail
    refine (HS.out _ HB.out).mono ?_
    rintro e w2 ⟨rfl, hb2⟩
    have HB2 := Lib.hid hb2
    clear hb2
    go_wp2_with fail
    go_ret2
    refine ⟨?_, bstep HB.out HB2.out⟩
    rw [HR.out, Msg.restOk, decide_eq_false Hf.out]
    rfl
end Go.Proofs.YtflojipkgaocnaaGreatDoor
