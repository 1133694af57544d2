/-
  The walk of message.Take. Printed by gen_mstake.py of this claim's writer.
-/
import Derived.Test.YtflojipkgaocnaaGreatDoorMsMsgR
import Derived.Test.YtflojipkgaocnaaGreatDoorMsJoin
import Derived.RegionTactic
namespace Go.Proofs.YtflojipkgaocnaaGreatDoor
open Go.RowKit
set_option linter.unusedSimpArgs false
set_option linter.unusedVariables false

theorem tabs_two {w : World} (h : Tabs w) : 2 ≤ w.heap.size := World.block_lt_of_cell? w _ (h.2 0 (by omega)).1
theorem ok_light {m : Msg} (h : okM m) : LightM m := by
  cases m <;> simp only [LightM]
  case view => exact ⟨Nat.le_trans h.2.1.1 (by omega), Nat.le_trans h.2.2.1.1 (by omega), Nat.le_trans h.2.2.2.1 (by omega)⟩
  case hav => exact Nat.le_trans h.2.2.2.1 (by omega)
  case logs => exact Nat.le_trans h.2.2.2.2.2.2.1 (by omega)
  case red => exact Nat.le_trans h.2.1 (by omega)
  case res => exact Nat.le_trans h.2.2.2.1 (by omega)
/-- A message, or nil, and what is wrong. -/
def GotTake (x : Option Msg) (e : Nat) (w : World) (r : Ending) (w' : World) : Prop :=
  ∃ v, r = .returned (.tuple #[v, .int .i64 e]) ∧ (x = none → v = .nilIface) ∧ (∀ m, x = some m → IsMsg w'.heap.size w' v m) ∧ Below w.heap.size w w'
theorem got_none {e : Nat} {w w' : World} (hb : Below w.heap.size w w') : GotTake none e w (.returned (.tuple #[.nilIface, .int .i64 e])) w' := ⟨_, rfl, fun _ => rfl, (fun m h => by cases h), hb⟩

theorem take_nilS (w : World) : Calls Tryz.prog 14 #[.string (bstr [])] w fun r w' => GotTake none 3 w r w' := by
  have g : (bstr []).toList.isEmpty = true := by rw [List.isEmpty_iff, ByteArray.toList_eq]; rfl
  go_enter Tryz.func14, Tryz.ntmps14
  go_wp2_with fail
  go_ret2
  exact got_none (Below.refl _ _)

theorem str_cons (c : UInt8) (t : List UInt8) : (bstr (c :: t)).toList.isEmpty = false ∧ 0 < (bstr (c :: t)).size ∧ (∀ h : 0 < (bstr (c :: t)).size, (((bstr (c :: t))[0]'h).toNat : Int) = (c.toNat : Int)) ∧ (bstr (c :: t)).extract 1 (bstr (c :: t)).size = bstr t := by
  refine ⟨?_, by rw [bstr_size]; simp, fun h => rfl, ?_⟩
  · cases h : (bstr (c :: t)).toList.isEmpty
    · rfl
    · rw [List.isEmpty_iff, ByteArray.toList_eq] at h
      cases h
  · exact bstr_drop (c :: t) 1

set_option maxRecDepth 100000 in
set_option maxHeartbeats 3200000 in
theorem takeM_any (l : List UInt8) (x : Option Msg) (e : Nat) (h : takeM l = (x, e)) (hl : l.length ≤ 1000000) (w : World) (hT : Tabs w) :
    Calls Tryz.prog 14 #[.string (bstr l)] w fun r w' => GotTake x e w r w' := by
  cases l with
  | nil =>
    simp only [takeM, Prod.mk.injEq] at h
    obtain ⟨rfl, rfl⟩ := h
    exact take_nilS w
  | cons c t =>
    have HT := Lib.hid hT
    have h2 := tabs_two hT
    obtain ⟨q1, q2, q3, q4⟩ := str_cons c t
    have hsz : (bstr (c :: t)).size ≤ 1000000 := by rw [bstr_size]; exact hl
    have htl : t.length ≤ maxLen := by simp only [List.length_cons] at hl; unfold maxLen; omega
    generalize bstr (c :: t) = s at q1 q2 q3 q4 hsz
    have hk := c.toNat_lt
    rw [takeM] at h
    generalize c.toNat = k at h q3 hk
    have i0 : (0 : Int) < (s.size : Int) := by omega
    have i1 : (1 : Int) ≤ (s.size : Int) := by omega
    by_cases hk1 : k < 1
    · rw [if_pos (.inl hk1)] at h
      simp only [Prod.mk.injEq] at h
      obtain ⟨rfl, rfl⟩ := h
      have g1 : (k : Int) < 1 := by omega
      have d1 : decide (k < 1) = true := decide_eq_true hk1
      clear hT hl hk1
      go_enter Tryz.func14, Tryz.ntmps14
      go_wp2_with fail
      go_ret2
      exact got_none (Below.refl _ _)
    · have g1 : ¬ (k : Int) < 1 := by omega
      have d1 : decide (k < 1) = false := decide_eq_false hk1
      by_cases hk2 : 14 < k
      · rw [if_pos (.inr hk2)] at h
        simp only [Prod.mk.injEq] at h
        obtain ⟨rfl, rfl⟩ := h
        have g2 : (14 : Int) < (k : Int) := by omega
        have d2 : decide (14 < k) = true := decide_eq_true hk2
        clear hT hl hk1 hk2
        go_enter Tryz.func14, Tryz.ntmps14
        go_wp2_with fail
        go_ret2
        exact got_none (Below.refl _ _)
      · have g2 : ¬ (14 : Int) < (k : Int) := by omega
        have d2 : decide (14 < k) = false := decide_eq_false hk2
        rw [if_neg (by omega)] at h
        obtain ⟨m, l1, e1, hm⟩ : ∃ a b c, rdMsg k t 0 = (a, b, c) := ⟨_, _, _, rfl⟩
        rw [hm] at h
        simp only at h
        have hb0 : Below w.heap.size w (w.alloc (.cells #[.string (bstr t), .int .i64 0] 113)) := (Below.refl _ _).alloc (Nat.le_refl _) _
        have HB0 := Lib.hid hb0
        have hr0 : RmAt w.heap.size t 0 (w.alloc (.cells #[.string (bstr t), .int .i64 0] 113)) := heap_alloc_new w _
        have CM := Lib.hid (rmMsg_any w.heap.size k (by omega) (by omega) t 0 m l1 e1 hm htl _ hr0 (tabs_below hT hb0) h2)
        have hlt0 : w.heap.size < (w.alloc (.cells #[.string (bstr t), .int .i64 0] 113)).heap.size := by rw [World.size_alloc]; omega
        have HLT := Lib.hid hlt0
        have hlight : e1 = 0 → LightM m := fun he => by
          have := (msg_cod k (by omega) (by omega)).back t 0 (by rw [hm]; exact he)
          rw [hm] at this
          exact ok_light this.2.2.2
        have HLI := Lib.hid hlight
        obtain ⟨s1, hs1⟩ : ∃ s1, bstr t = s1 := ⟨_, rfl⟩
        rw [hs1] at q4 HB0 CM HLT
        have eK : IntKind.i64.wrap (k : Int) = (k : Int) := by rw [IntKind.wrap_i64]; omega
        clear hT hl hk1 hk2 hm hb0 hr0 hlt0 hlight hs1 htl
        by_cases he : e1 = 0
        · subst he
          rw [if_neg (by simp)] at h
          have hL := HLI.out rfl
          by_cases hl1 : l1 = []
          · subst hl1
            obtain ⟨q, hq⟩ : ∃ q, rightM m = q := ⟨_, rfl⟩
            rw [hq] at h
            have CR := Lib.hid (fun (X : World) (u : Value) (hu : IsMsg X.heap.size X u m) (hX : Below w.heap.size w X) => rightM_any X.heap.size u m q hq X hu (Nat.le_refl _) (tabs_below HT.out hX) hL)
            have hem : (bstr []).toList.isEmpty = true := by rw [List.isEmpty_iff, ByteArray.toList_eq]; rfl
            clear hq hL
            cases q with
            | true =>
              rw [if_neg (by simp)] at h
              simp only [Prod.mk.injEq] at h
              obtain ⟨rfl, rfl⟩ := h
              go_enter Tryz.func14, Tryz.ntmps14
              go_wp2_with fail
              refine CM.out.mono ?_
              rintro r w1 ⟨v, rfl, hmsg, hr1, hg1⟩
              have HM := Lib.hid hmsg
              have HB1 := Lib.hid (HB0.out.trans (gb_below hg1 (Nat.le_refl _) HLT.out))
              obtain ⟨y0, y1, f0, f1⟩ := hr1.cells
              obtain ⟨Tv, pv, Fv, rfl, -⟩ := hasKind hmsg
              clear hmsg hr1 hg1
              go_wp2_with fail
              refine (CR.out _ _ HM.out HB1.out).mono ?_
              rintro r w2 ⟨rfl, hb2⟩
              go_wp2_with fail
              go_ret2
              exact ⟨_, rfl, (fun h => by cases h), (fun m' hm' => by cases hm'; exact (HM.out.keep hb2 (Nat.le_refl _)).up hb2.size), bstep HB1.out hb2⟩
            | false =>
              rw [if_pos (.inr rfl)] at h
              simp only [Prod.mk.injEq] at h
              obtain ⟨rfl, rfl⟩ := h
              go_enter Tryz.func14, Tryz.ntmps14
              go_wp2_with fail
              refine CM.out.mono ?_
              rintro r w1 ⟨v, rfl, hmsg, hr1, hg1⟩
              have HM := Lib.hid hmsg
              have HB1 := Lib.hid (HB0.out.trans (gb_below hg1 (Nat.le_refl _) HLT.out))
              obtain ⟨y0, y1, f0, f1⟩ := hr1.cells
              obtain ⟨Tv, pv, Fv, rfl, -⟩ := hasKind hmsg
              clear hmsg hr1 hg1
              go_wp2_with fail
              refine (CR.out _ _ HM.out HB1.out).mono ?_
              rintro r w2 ⟨rfl, hb2⟩
              go_wp2_with fail
              go_ret2
              exact got_none (bstep HB1.out hb2)
          · rw [if_pos (.inl hl1)] at h
            simp only [Prod.mk.injEq] at h
            obtain ⟨rfl, rfl⟩ := h
            have hem : (bstr l1).toList.isEmpty = false := by
              cases h : (bstr l1).toList.isEmpty
              · rfl
              · rw [List.isEmpty_iff, ByteArray.toList_eq] at h
                exact absurd h hl1
            clear hL hl1
            go_enter Tryz.func14, Tryz.ntmps14
            go_wp2_with fail
            refine CM.out.mono ?_
            rintro r w1 ⟨v, rfl, hmsg, hr1, hg1⟩
            have HM := Lib.hid hmsg
            have HB1 := Lib.hid (HB0.out.trans (gb_below hg1 (Nat.le_refl _) HLT.out))
            obtain ⟨y0, y1, f0, f1⟩ := hr1.cells
            obtain ⟨Tv, pv, Fv, rfl, -⟩ := hasKind hmsg
            clear hmsg hr1 hg1
            go_wp2_with fail
            go_ret2
            exact got_none HB1.out
        · rw [if_pos he] at h
          simp only [Prod.mk.injEq] at h
          obtain ⟨rfl, rfl⟩ := h
          have ge : ((e1 : Int) != 0) = true := by simp; omega
          clear he
          go_enter Tryz.func14, Tryz.ntmps14
          go_wp2_with fail
          refine CM.out.mono ?_
          rintro r w1 ⟨v, rfl, hmsg, hr1, hg1⟩
          have HM := Lib.hid hmsg
          have HB1 := Lib.hid (HB0.out.trans (gb_below hg1 (Nat.le_refl _) HLT.out))
          obtain ⟨y0, y1, f0, f1⟩ := hr1.cells
          obtain ⟨Tv, pv, Fv, rfl, -⟩ := hasKind hmsg
          clear hmsg hr1 hg1
          go_wp2_with fail
          go_region
          go_wp2_with fail
          all_goals
            go_ret2
            exact got_none HB1.out.drew
end Go.Proofs.YtflojipkgaocnaaGreatDoor
