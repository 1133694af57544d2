/-
  The walks of message.reader's chain and marks. Printed by gen_msrdr.py of this claim's writer.
-/
import Derived.Test.YtflojipkgaocnaaGreatDoorMsRdr
import Derived.Deep.AppendLies
namespace Go.Proofs.YtflojipkgaocnaaGreatDoor
open Go.RowKit
set_option linter.unusedSimpArgs false
set_option linter.unusedVariables false

/-- What holds at each round's head of a reader's loop. -/
def ListRel {α : Type} (ty : TypeId) (sz : Nat) (cell : α → List Value) (go : Nat → List UInt8 → Nat → List α × List UInt8 × Nat) (rb cnt : Nat) (G : List α × List UInt8 × Nat) (w : World) (rv cv : Value) (wr : World) : Prop :=
  ∃ (ds : List α) (li : List UInt8) (ei : Nat), cv = .int .i64 ds.length ∧ ds.length ≤ cnt ∧ li.length ≤ maxLen ∧ G = (ds ++ (go (cnt - ds.length) li ei).1, (go (cnt - ds.length) li ei).2) ∧ wr.ownsRow w.heap.size ty sz rv ds.length (ds.flatMap cell) ∧ RmAt rb li ei wr ∧ w.grownBy wr (some rb)
/-- What was read, in a row of the call's own. -/
def GotList {α : Type} (ty : TypeId) (sz : Nat) (cell : α → List Value) (rb : Nat) (v : List α) (l' : List UInt8) (e' : Nat) (w : World) (r : Ending) (w' : World) : Prop :=
  ∃ lv, r = .returned lv ∧ w'.ownsRow w.heap.size ty sz lv v.length (v.flatMap cell) ∧ RmAt rb l' e' w' ∧ w.grownBy w' (some rb)
theorem rdI_le (l : List UInt8) (e : Nat) : (rdI l e).2.1.length ≤ l.length := rdNum_le l e

theorem iinfoM : (Tryz.prog.info? 3).map (fun i => (i.zero, i.size, i.bytes)) = some (some (.int .i64 0), 1, 8) := by kernel_rfl
theorem minfoM : (Tryz.prog.info? 87).map (fun i => (i.zero, i.size, i.bytes)) = some (some (.agg #[.int .i64 0, .int .i64 0]), 2, 16) := by kernel_rfl

set_option maxRecDepth 100000 in
set_option maxHeartbeats 6400000 in
theorem rmChain_any (rb : Nat) (l : List UInt8) (e : Nat) (v : List Int) (l' : List UInt8) (e' : Nat) (h : rdChain l e = (v, l', e')) (hl : l.length ≤ maxLen) (w : World) (hw : RmAt rb l e w) :
    Calls Tryz.prog 56 #[.pointer (some ⟨rb, 0, none⟩)] w fun r w' => GotList 3 1 icell rb v l' e' w r w' := by
  obtain ⟨cnt, l1, e1, h1⟩ : ∃ a b c, rdMany 6 l e = (a, b, c) := ⟨_, _, _, rfl⟩
  have CM := Lib.hid (rmMany_any rb 6 l e cnt l1 e1 h1 hl)
  have hcnt : cnt ≤ 6 := by
    unfold rdMany at h1
    split at h1
    · simp only [Prod.mk.injEq] at h1; omega
    · split at h1
      · simp only [Prod.mk.injEq] at h1; omega
      · rename_i q
        rw [h1] at q
        exact Nat.le_of_not_lt q
  have hl1 : l1.length ≤ maxLen := by
    have h2 : l1 = (rdNum l e).2.1 := by
      unfold rdMany at h1
      split at h1
      · simp only [Prod.mk.injEq] at h1; rw [h1.2]
      · split at h1
        · simp only [Prod.mk.injEq] at h1; exact h1.2.1.symm
        · rw [h1]
    rw [h2]
    exact Nat.le_trans (rdNum_le _ _) hl
  unfold rdChain rdList at h
  rw [h1] at h
  simp only at h
  have HH := Lib.hid h
  have HW := Lib.hid hw
  have HL1 := Lib.hid hl1
  have hlt := hw.lt
  have CN := Lib.hid (fun (li : List UInt8) (ei : Nat) (hli : li.length ≤ maxLen) => rmNum_any rb li ei (rdNum li ei).1 (rdNum li ei).2.1 (rdNum li ei).2.2 rfl hli)
  obtain ⟨i0, hi0, hzz0, hzz1, hzz2⟩ := info_parts iinfoM
  clear h h1 hl hw hl1
  go_enter Tryz.func56, Tryz.ntmps56
  go_wp2_with fail
  refine (CM.out _ HW.out).mono ?_
  rintro r w1 ⟨rfl, hw1, g1⟩
  have HW1 := Lib.hid hw1
  have G1 := Lib.hid g1
  clear hw1 g1
  go_wp2_with fail
  go_loopw [3, 6] (fun t3 t6 wr => ListRel 3 1 icell (rdTimes rdI) rb cnt (v, l', e') w t3 t6 wr) (fun _ t6 _ => cnt - (intOf t6).toNat)
  case atStart => exact ⟨[], l1, e1, rfl, Nat.zero_le _, HL1.out, by rw [← HH.out]; simp, World.ownsRow_nil _ _ _ _, HW1.out, G1.out⟩
  case round =>
    obtain ⟨ds, li, ei, rfl, hdl, hli, hG, hown, hrm, hgb⟩ := hrel
    have HG := Lib.hid hG
    have HLI := Lib.hid hli
    have HOW := Lib.hid hown
    have HRM := Lib.hid hrm
    have HGB := Lib.hid hgb
    obtain ⟨ra, rc, rfl⟩ := own_form hown
    clear hG hli hown hrm hgb
    by_cases hlt2 : ds.length < cnt
    · have i2 : (ds.length : Int) < (cnt : Int) := by omega
      go_wp2_with fail
      refine (CN.out li ei HLI.out _ HRM.out).mono ?_
      rintro r w2 ⟨rfl, hw2, g2⟩
      obtain ⟨n2, l2, e2, h2⟩ : ∃ a b c, rdNum li ei = (a, b, c) := ⟨_, _, _, rfl⟩
      have hle := rdNum_le li ei
      have hnx : rdTimes rdI (cnt - ds.length) li ei = ((n2 : Int) :: (rdTimes rdI (cnt - (ds.length + 1)) l2 e2).1, (rdTimes rdI (cnt - (ds.length + 1)) l2 e2).2) := by
        rw [show cnt - ds.length = (cnt - (ds.length + 1)) + 1 by omega, rdTimes]
        have h3 : rdI li ei = ((n2 : Int), l2, e2) := by unfold rdI; rw [h2]
        rw [h3]
      rw [h2] at hw2 hle
      simp only [h2]
      simp only at hw2 hle
      have HNX := Lib.hid hnx
      have HLE := Lib.hid hle
      have hA : Below w2.heap.size w2 (w2.alloc (.cells #[.int .i64 (n2 : Int)] 3)) := (Below.refl _ _).alloc (Nat.le_refl _) _
      have hsz : w.heap.size ≤ w2.heap.size := Nat.le_trans HGB.out.size g2.size
      have HOWA := Lib.hid (own_below hA (own_rb HOW.out hlt g2))
      have HRA := Lib.hid (hw2.keep hA)
      have HGA := Lib.hid (gb_bel (HGB.out.trans g2) hA)
      clear hw2 g2 h2 hnx hle hA
      go_wp2_with (at_builtin; refine wpList_append_lies _ rfl _ _ 23 rfl w.heap.size 3 i0 _ 1 8 Tryz.underlying23 hi0 hzz0 hzz1 hzz2 rfl (by omega) _ _ _ rfl HOWA.out ⟨w2.heap.size, 0, none⟩ 1 1 [.int .i64 (n2 : Int)] rfl rfl (World.news_of_block (heap_alloc_new w2 _)) (by simp [Value.oneCell']) (by omega) (by unfold maxLen; omega) (by omega) (by simp only [World.size_alloc]; omega) _ rfl ?_; intro gg cap2 w8 hown8 hgrow hat hlt8; have HOW8 := Lib.hid hown8; have HR8 := Lib.hid (HRA.out.row HOWA.out hlt hgrow); have HG8 := Lib.hid (gb_row HGA.out HOWA.out (Nat.le_refl _) hgrow); clear hown8 hgrow hat)
      go_roundw
      case rel =>
        refine ⟨ds ++ [(n2 : Int)], l2, e2, by rw [List.length_append]; go_num, by rw [List.length_append, List.length_singleton]; omega, Nat.le_trans HLE.out HLI.out, ?_, ?_, HR8.out, HG8.out⟩
        · rw [HG.out, HNX.out, List.length_append, List.length_singleton]
          simp
        · rw [List.length_append, List.length_singleton, List.flatMap_append]
          exact HOW8.out
      case measure => simp [intOf]; omega
    · have i2 : ¬ (ds.length : Int) < (cnt : Int) := by omega
      have hx : rdTimes rdI (cnt - ds.length) li ei = ([], li, ei) := by rw [show cnt - ds.length = 0 by omega]; rfl
      have hG := HG.out
      rw [hx, List.append_nil] at hG
      simp only [Prod.mk.injEq] at hG
      obtain ⟨rfl, rfl, rfl⟩ := hG
      clear hx
      go_wp2_with fail
      go_ret
      exact ⟨_, rfl, HOW.out, HRM.out, HGB.out⟩

set_option maxRecDepth 100000 in
set_option maxHeartbeats 6400000 in
theorem rmMarks_any (rb : Nat) (l : List UInt8) (e : Nat) (v : List (Int × Int)) (l' : List UInt8) (e' : Nat) (h : rdMarks l e = (v, l', e')) (hl : l.length ≤ maxLen) (w : World) (hw : RmAt rb l e w) :
    Calls Tryz.prog 57 #[.pointer (some ⟨rb, 0, none⟩)] w fun r w' => GotList 87 2 mcell rb v l' e' w r w' := by
  obtain ⟨cnt, l1, e1, h1⟩ : ∃ a b c, rdMany 30 l e = (a, b, c) := ⟨_, _, _, rfl⟩
  have CM := Lib.hid (rmMany_any rb 30 l e cnt l1 e1 h1 hl)
  have hcnt : cnt ≤ 30 := by
    unfold rdMany at h1
    split at h1
    · simp only [Prod.mk.injEq] at h1; omega
    · split at h1
      · simp only [Prod.mk.injEq] at h1; omega
      · rename_i q
        rw [h1] at q
        exact Nat.le_of_not_lt q
  have hl1 : l1.length ≤ maxLen := by
    have h2 : l1 = (rdNum l e).2.1 := by
      unfold rdMany at h1
      split at h1
      · simp only [Prod.mk.injEq] at h1; rw [h1.2]
      · split at h1
        · simp only [Prod.mk.injEq] at h1; exact h1.2.1.symm
        · rw [h1]
    rw [h2]
    exact Nat.le_trans (rdNum_le _ _) hl
  unfold rdMarks rdList at h
  rw [h1] at h
  simp only at h
  have HH := Lib.hid h
  have HW := Lib.hid hw
  have HL1 := Lib.hid hl1
  have hlt := hw.lt
  have CN := Lib.hid (fun (li : List UInt8) (ei : Nat) (hli : li.length ≤ maxLen) => rmNum_any rb li ei (rdNum li ei).1 (rdNum li ei).2.1 (rdNum li ei).2.2 rfl hli)
  obtain ⟨i0, hi0, hzz0, hzz1, hzz2⟩ := info_parts minfoM
  clear h h1 hl hw hl1
  go_enter Tryz.func57, Tryz.ntmps57
  go_wp2_with fail
  refine (CM.out _ HW.out).mono ?_
  rintro r w1 ⟨rfl, hw1, g1⟩
  have HW1 := Lib.hid hw1
  have G1 := Lib.hid g1
  clear hw1 g1
  go_wp2_with fail
  go_loopw [3, 4, 7] (fun t3 _ t7 wr => ListRel 87 2 mcell (rdTimes (rdSeq rdI rdI)) rb cnt (v, l', e') w t3 t7 wr) (fun _ _ t7 _ => cnt - (intOf t7).toNat)
  case atStart => exact ⟨[], l1, e1, rfl, Nat.zero_le _, HL1.out, by rw [← HH.out]; simp, World.ownsRow_nil _ _ _ _, HW1.out, G1.out⟩
  case round =>
    obtain ⟨ds, li, ei, rfl, hdl, hli, hG, hown, hrm, hgb⟩ := hrel
    have HG := Lib.hid hG
    have HLI := Lib.hid hli
    have HOW := Lib.hid hown
    have HRM := Lib.hid hrm
    have HGB := Lib.hid hgb
    obtain ⟨ra, rc, rfl⟩ := own_form hown
    clear hG hli hown hrm hgb
    by_cases hlt2 : ds.length < cnt
    · have i2 : (ds.length : Int) < (cnt : Int) := by omega
      obtain ⟨n2, l2, e2, h2⟩ : ∃ a b c, rdNum li ei = (a, b, c) := ⟨_, _, _, rfl⟩
      obtain ⟨n3, l3, e3, h3⟩ : ∃ a b c, rdNum l2 e2 = (a, b, c) := ⟨_, _, _, rfl⟩
      have hle2 : l2.length ≤ maxLen := by have := rdNum_le li ei; rw [h2] at this; exact Nat.le_trans this HLI.out
      have hle3 : l3.length ≤ maxLen := by have := rdNum_le l2 e2; rw [h3] at this; exact Nat.le_trans this hle2
      have hnx : rdTimes (rdSeq rdI rdI) (cnt - ds.length) li ei = (((n2 : Int), (n3 : Int)) :: (rdTimes (rdSeq rdI rdI) (cnt - (ds.length + 1)) l3 e3).1, (rdTimes (rdSeq rdI rdI) (cnt - (ds.length + 1)) l3 e3).2) := by
        rw [show cnt - ds.length = (cnt - (ds.length + 1)) + 1 by omega, rdTimes]
        have h4 : rdSeq rdI rdI li ei = (((n2 : Int), (n3 : Int)), l3, e3) := by unfold rdSeq rdI; rw [h2]; simp only; rw [h3]
        rw [h4]
      have C2 := Lib.hid (rmNum_any rb li ei n2 l2 e2 h2 HLI.out)
      have C3 := Lib.hid (rmNum_any rb l2 e2 n3 l3 e3 h3 hle2)
      have HNX := Lib.hid hnx
      have HLE := Lib.hid hle3
      clear h2 h3 hnx hle2 hle3
      go_wp2_with fail
      refine (C2.out _ HRM.out).mono ?_
      rintro r w2 ⟨rfl, hw2, g2⟩
      have HW2 := Lib.hid hw2
      have G2 := Lib.hid (HGB.out.trans g2)
      have HOW2 := Lib.hid (own_rb HOW.out hlt g2)
      clear hw2 g2
      go_wp2_with fail
      refine (C3.out _ HW2.out).mono ?_
      rintro r w3 ⟨rfl, hw3, g3⟩
      have hA : Below w3.heap.size w3 (w3.alloc (.cells #[.int .i64 (n2 : Int), .int .i64 (n3 : Int)] 87)) := (Below.refl _ _).alloc (Nat.le_refl _) _
      have hsz : w.heap.size ≤ w3.heap.size := Nat.le_trans G2.out.size g3.size
      have HOWA := Lib.hid (own_below hA (own_rb HOW2.out hlt g3))
      have HRA := Lib.hid (hw3.keep hA)
      have HGA := Lib.hid (gb_bel (G2.out.trans g3) hA)
      clear hw3 g3 hA
      go_wp2_with (at_builtin; refine wpList_append_lies _ rfl _ _ 24 rfl w.heap.size 87 i0 _ 2 16 Tryz.underlying24 hi0 hzz0 hzz1 hzz2 rfl (by omega) _ _ _ rfl HOWA.out ⟨w3.heap.size, 0, none⟩ 1 1 [.int .i64 (n2 : Int), .int .i64 (n3 : Int)] rfl rfl (World.news_of_block (heap_alloc_new w3 _)) (by simp [Value.oneCell']) (by omega) (by unfold maxLen; omega) (by omega) (by simp only [World.size_alloc]; omega) _ rfl ?_; intro gg cap2 w8 hown8 hgrow hat hlt8; have HOW8 := Lib.hid hown8; have HR8 := Lib.hid (HRA.out.row HOWA.out hlt hgrow); have HG8 := Lib.hid (gb_row HGA.out HOWA.out (Nat.le_refl _) hgrow); clear hown8 hgrow hat)
      go_roundw
      case rel =>
        refine ⟨ds ++ [((n2 : Int), (n3 : Int))], l3, e3, by rw [List.length_append]; go_num, by rw [List.length_append, List.length_singleton]; omega, HLE.out, ?_, ?_, HR8.out, HG8.out⟩
        · rw [HG.out, HNX.out, List.length_append, List.length_singleton]
          simp
        · rw [List.length_append, List.length_singleton, List.flatMap_append]
          exact HOW8.out
      case measure => simp [intOf]; omega
    · have i2 : ¬ (ds.length : Int) < (cnt : Int) := by omega
      have hx : rdTimes (rdSeq rdI rdI) (cnt - ds.length) li ei = ([], li, ei) := by rw [show cnt - ds.length = 0 by omega]; rfl
      have hG := HG.out
      rw [hx, List.append_nil] at hG
      simp only [Prod.mk.injEq] at hG
      obtain ⟨rfl, rfl, rfl⟩ := hG
      clear hx
      go_wp2_with fail
      go_ret
      exact ⟨_, rfl, HOW.out, HRM.out, HGB.out⟩
end Go.Proofs.YtflojipkgaocnaaGreatDoor
