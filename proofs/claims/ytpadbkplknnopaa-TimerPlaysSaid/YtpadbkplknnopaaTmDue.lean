/-
  The walk of timer.Due, and what Set does.
-/
import Derived.Test.YtpadbkplknnopaaTmSet
namespace Go.Proofs.Ytpadbkplknnopaa
open Go.RowKit

theorem Try.sinfo : (Try.prog.info? 9).map (fun i => (i.zero, i.size, i.bytes)) = some (some (.string ByteArray.empty), 1, 16) := by kernel_rfl
def scells (l : List ByteArray) : List Value := l.map Value.string
theorem scells_append (l m : List ByteArray) : scells (l ++ m) = scells l ++ scells m := by simp [scells]
theorem scells_len (l : List ByteArray) : (scells l).length = l.length := by simp [scells]
/-- A row of texts that the call made. -/
def OwnS (w : World) (base : Nat) (v : Value) (l : List ByteArray) : Prop := w.ownsRow base 9 1 v l.length (scells l)
theorem OwnS.form {w : World} {base : Nat} {v : Value} {l : List ByteArray} (h : OwnS w base v l) : ∃ a cap, v = .slice a l.length cap := by
  rcases h.2 with ⟨rfl, h0⟩ | ⟨g, cap, cur, rfl, _⟩
  · exact ⟨none, 0, by rw [h0]⟩
  · exact ⟨_, _, rfl⟩
theorem OwnS.keep {w w' : World} {b : Nat} {v : Value} {l : List ByteArray} (h : OwnS w b v l) (k : Below w.heap.size w w') : OwnS w' b v l := own_below k h
theorem OwnS.less {w : World} {b b' : Nat} {v : Value} {l : List ByteArray} (hb : b ≤ b') (h : OwnS w b' v l) : OwnS w b v l := own_less hb h
theorem OwnS.set {w : World} {b g o : Nat} {v x : Value} {l : List ByteArray} (h : OwnS w b v l) (hg : g < b) : OwnS (w.setCell ⟨g, o, none⟩ x) b v l := by
  refine World.ownsRow.kept h (row := some g) ⟨rfl, rfl, rfl, by rw [World.size_setCell]; exact Nat.le_refl _, fun k _ hne => ?_⟩ ?_
  · simp only [World.setCell]
    rw [Array.getElem?_modify, if_neg (fun e => hne (by rw [e]))]
  · rcases h.2 with ⟨rfl, _⟩ | ⟨b2, cap, cur, rfl, h1, _⟩
    · exact .inl rfl
    · refine .inr ?_
      simp only [Value.ownBlock, ne_eq, Option.some.injEq]
      omega
theorem owns_nil (w : World) (b : Nat) : OwnS w b (.slice none 0 0) [] := ⟨rfl, .inl ⟨rfl, rfl⟩⟩

theorem IsTimers.drop {B : Nat} {w : World} {b off n cap : Nat} {l : List TM} (h : IsTimers B w (.slice (some ⟨b, off, none⟩) n cap) l) (k : Nat) (hk : k < l.length) : IsTimers B w (.slice (some ⟨b, off + k * 2, none⟩) (l.length - k) (cap - k)) (l.drop k) := by
  obtain ⟨a', cap', he, h1, h2, h3, h5⟩ := h
  injection he with e1 e2 e3
  subst e1 e2 e3
  have hl : (l.drop k).length = l.length - k := by rw [List.length_drop]
  refine ⟨_, _, by rw [hl], by rw [hl]; omega, by omega, fun e => (by cases e), fun hp => ?_⟩
  obtain ⟨b', off', e, hlt, hc⟩ := h5 (by omega)
  injection e with e
  injection e with e1 e2
  subst e1 e2
  refine ⟨_, _, rfl, hlt, fun i hi => ?_⟩
  rw [List.getElem_drop]
  have h6 := hc (k + i) (by omega)
  rw [show off + k * 2 + i * 2 = off + (k + i) * 2 by omega]
  exact h6
theorem timers_none {B : Nat} {w : World} (a : Option Addr) (c : Nat) (hc : c ≤ maxLen) (ha : a = none → c = 0) : IsTimers B w (.slice a 0 c) [] := ⟨a, c, rfl, Nat.zero_le _, hc, ha, fun h => absurd h (by simp)⟩

set_option maxRecDepth 100000 in
set_option maxHeartbeats 1600000 in
theorem due_some (B : Nat) (cap : Nat) (b off : Nat) (l : List TM) (now : Int) (k : Nat) (hk : k ≤ l.length) (hlo : ∀ j (h : j < l.length), j < k → l[j].at_ ≤ now) (hhi : ∀ (h : k < l.length), now < l[k].at_) (hl64 : l.length ≤ 1000) (w : World) (h : IsTimers B w (.slice (some ⟨b, off, none⟩) l.length cap) l) (hB : B ≤ w.heap.size) :
    Calls Try.prog 13 #[.agg #[.slice (some ⟨b, off, none⟩) l.length cap], .int .i64 now] w fun r w' => ∃ v' nv, r = .returned (.tuple #[.agg #[v'], nv]) ∧ OwnT w' w.heap.size v' (l.drop k) ∧ OwnS w' w.heap.size nv ((l.take k).map (·.name)) ∧ Below w.heap.size w w' := by
  obtain ⟨i0, hi0, hzz0, hzz1, hzz2⟩ := info_parts Try.sinfo
  have HL := Lib.hid h
  have hb0 : Below w.heap.size w ((w.alloc (.cells #[.slice (some ⟨b, off, none⟩) l.length cap] 26)).alloc (.cells #[.slice none 0 0] 26)) := ((Below.refl _ _).alloc (Nat.le_refl _) _).alloc (by rw [World.size_alloc]; omega) _
  have hg0 : ((w.alloc (.cells #[.slice (some ⟨b, off, none⟩) l.length cap] 26)).alloc (.cells #[.slice none 0 0] 26)).heap[w.heap.size]? = some (.cells #[.slice (some ⟨b, off, none⟩) l.length cap] 26) := by
    rw [heap_alloc_old _ _ (show w.heap.size < _ by rw [World.size_alloc]; omega)]
    exact heap_alloc_new w _
  have hg1 : ((w.alloc (.cells #[.slice (some ⟨b, off, none⟩) l.length cap] 26)).alloc (.cells #[.slice none 0 0] 26)).heap[w.heap.size + 1]? = some (.cells #[.slice none 0 0] 26) := heap_alloc2_new w _ _
  have hsz0 : ((w.alloc (.cells #[.slice (some ⟨b, off, none⟩) l.length cap] 26)).alloc (.cells #[.slice none 0 0] 26)).heap.size = w.heap.size + 2 := by simp
  have HB0 := Lib.hid hb0
  have HG0 := Lib.hid hg0
  have HG1 := Lib.hid hg1
  have HS0 := Lib.hid hsz0
  have HLO := Lib.hid hlo
  have HHI := Lib.hid hhi
  have HBB := Lib.hid hB
  have H := True.intro
  clear h hb0 hg0 hg1 hsz0 hlo hhi hB
  go_enter Try.func13, Try.ntmps13
  go_wp2_with fail
  go_loopw [6, 8, 12] (fun t6 _ t12 wr => ∃ j : Nat, j ≤ k ∧ t12 = .int .i64 j ∧ OwnS wr (w.heap.size + 2) t6 ((l.take j).map (·.name)) ∧ Below (w.heap.size + 2) ((w.alloc (.cells #[.slice (some ⟨b, off, none⟩) l.length cap] 26)).alloc (.cells #[.slice none 0 0] 26)) wr) (fun _ _ t12 _ => l.length - (intOf t12).toNat)
  case atStart => exact ⟨0, Nat.zero_le _, rfl, by simpa using owns_nil _ _, Below.refl _ _⟩
  case round =>
    obtain ⟨j, hj, rfl, hown, hbl⟩ := hrel
    have hlj : ((l.take j).map (·.name)).length = j := by rw [List.length_map, List.length_take]; omega
    obtain ⟨na, nc, hform⟩ := hown.form
    rw [hlj] at hform
    subst hform
    have hbw := HB0.out.trans (hbl.mono (by omega))
    have hg0 := (hbl.block w.heap.size (by omega)).trans HG0.out
    have hg1 := (hbl.block (w.heap.size + 1) (by omega)).trans HG1.out
    have hszr : w.heap.size + 2 ≤ wr.heap.size := by have := hbl.size; rw [HS0.out] at this; omega
    have y0 : wr.cell? ⟨w.heap.size, 0, none⟩ = some (.slice (some ⟨b, off, none⟩) l.length cap) := by rw [Lib.cell_of_heap hg0]; rfl
    have HOWN := Lib.hid hown
    have HBW := Lib.hid hbw
    have HBL := Lib.hid hbl
    have G0 := Lib.hid hg0
    have G1 := Lib.hid hg1
    have HLJ := Lib.hid hlj
    clear hown hbw hbl hg0 hg1 hlj
    by_cases hjk : j < k
    · have hjl : j < l.length := by omega
      obtain ⟨b, off, cap', he, hblk, _, hc1, hc2⟩ := (HL.out.keep HBW.out HBB.out).get j hjl
      injection he with e1 e2 e3
      injection e1 with e1
      injection e1 with e1 e2
      subst e1 e2 e3
      obtain ⟨y, hy⟩ : ∃ y, l[j] = y := ⟨_, rfl⟩
      have hat := HLO.out j hjl hjk
      rw [hy] at hc1 hc2 hat
      have i1 : (0 : Int) ≤ (j : Int) := by omega
      have i2 : (j : Int) < (l.length : Int) := by omega
      have i3 : ¬ now < y.at_ := by omega
      have Hy := Lib.hid hy
      have HO2 := Lib.hid (show (wr.alloc (.cells #[.string y.name, .int .i64 y.at_] 61)).ownsRow (w.heap.size + 2) 9 1 (.slice na j nc) j (scells ((l.take j).map (·.name))) by
        have h1 := HOWN.out.keep ((Below.refl wr.heap.size wr).alloc (Nat.le_refl _) (.cells #[.string y.name, .int .i64 y.at_] 61))
        unfold OwnS at h1
        rw [HLJ.out] at h1
        exact h1)
      have HO3 := Lib.hid (own_below ((Below.refl (wr.alloc (.cells #[.string y.name, .int .i64 y.at_] 61)).heap.size _).alloc (Nat.le_refl _) (.cells #[.string y.name] 9)) HO2.out)
      clear hy hat
      go_wp2_with (at_builtin; refine wpList_append_lies _ rfl _ _ 41 rfl (w.heap.size + 2) 9 i0 _ 1 16 Try.underlying41 hi0 hzz0 hzz1 hzz2 rfl (by omega) _ _ _ rfl HO3.out ⟨wr.heap.size + 1, 0, none⟩ 1 1 [.string y.name] rfl rfl (World.news_of_block (heap_alloc2_new wr _ _)) (by simp [Value.oneCell']) (by omega) (by unfold maxLen; omega) (by omega) (by simp only [World.size_alloc]; omega) _ rfl ?_; intro gg cap2 w8 hown8 hgrow hat hlt8)
      go_roundw
      case rel =>
        refine ⟨j + 1, by omega, by go_num, ?_, ?_⟩
        · unfold OwnS
          rw [List.take_succ_eq_append_getElem hjl, Hy.out, List.map_append, scells_append, List.length_append, List.length_map, List.length_take, Nat.min_eq_left (by omega)]
          exact hown8
        · have hb2 : Below (w.heap.size + 2) ((w.alloc (.cells #[.slice (some ⟨b, off, none⟩) l.length cap] 26)).alloc (.cells #[.slice none 0 0] 26)) ((wr.alloc (.cells #[.string y.name, .int .i64 y.at_] 61)).alloc (.cells #[.string y.name] 9)) := (HBL.out.alloc hszr _).alloc (by rw [World.size_alloc]; omega) _
          exact hb2.trans ⟨hgrow.os, hgrow.tape, hgrow.output, hgrow.size, fun q hq => hgrow.block q (by simp only [World.size_alloc]; omega) (fun e => by have := (World.ownsRow.lt HO3.out q e.symm).1; omega)⟩
      case measure => simp [intOf]; omega
    · obtain rfl : j = k := by omega
      by_cases hjl : j < l.length
      · obtain ⟨b2, off2, cap', he, hblk, hlc, hc1, hc2⟩ := (HL.out.keep HBW.out HBB.out).get j hjl
        injection he with e1 e2 e3
        injection e1 with e1
        injection e1 with e1 e2
        subst e1 e2 e3
        obtain ⟨y, hy⟩ : ∃ y, l[j] = y := ⟨_, rfl⟩
        have hat := HHI.out hjl
        rw [hy] at hc1 hc2 hat
        have i1 : (0 : Int) ≤ (j : Int) := by omega
        have i2 : (j : Int) < (l.length : Int) := by omega
        have i4 : (j : Int) ≤ (l.length : Int) := by omega
        have i5 : (l.length : Int) ≤ (cap : Int) := by omega
        have i6 : (j : Int) ≤ (cap : Int) := by omega
        have i7 : ¬ cap = j := by omega
        have CC := Lib.hid (fun (X : World) (hX : Below w.heap.size w X) => clone_any B _ (l.drop j) X ((HL.out.keep hX HBB.out).drop j hjl) (by rw [List.length_drop]; omega))
        have HBX := Lib.hid (HBW.out.alloc (show w.heap.size ≤ wr.heap.size by omega) (.cells #[.string y.name, .int .i64 y.at_] 61))
        have GX1 := Lib.hid (show (wr.alloc (.cells #[.string y.name, .int .i64 y.at_] 61)).heap[w.heap.size + 1]? = _ from (heap_alloc_old _ _ (by omega)).trans G1.out)
        have HOSX := Lib.hid (HOWN.out.keep ((Below.refl wr.heap.size wr).alloc (Nat.le_refl _) (.cells #[.string y.name, .int .i64 y.at_] 61)))
        have hszx : (wr.alloc (.cells #[.string y.name, .int .i64 y.at_] 61)).heap.size = wr.heap.size + 1 := by rw [World.size_alloc]
        have hszx2 : w.heap.size + 2 ≤ (wr.alloc (.cells #[.string y.name, .int .i64 y.at_] 61)).heap.size := by omega
        have HQZ := Lib.hid hszx
        have hnq : w.heap.size ≠ wr.heap.size := by omega
        have hlq : w.heap.size < wr.heap.size := by omega
        clear hy hszx
        go_wp2_with fail
        refine (CC.out _ HBX.out).mono ?_
        rintro r w2 ⟨vc, rfl, ho2, hb2⟩
        obtain ⟨oa, oc, hvf⟩ := ho2.form
        rw [List.length_drop] at hvf
        subst hvf
        have hg1 := (hb2.block (w.heap.size + 1) (by omega)).trans GX1.out
        have hos := (HOSX.out).keep hb2
        have HO2 := Lib.hid ho2
        have HOS2 := Lib.hid hos
        have G2 := Lib.hid hg1
        have HBW2 := Lib.hid (bstep HBX.out hb2)
        clear ho2 hos hg1 hb2
        have c1 : w2.cell? ⟨w.heap.size + 1, 0, none⟩ = some (.slice none 0 0) := by rw [Lib.cell_of_heap G2.out]; rfl
        have f1 : w2.frozen? ⟨w.heap.size + 1, 0, none⟩ = false := Lib.frozen_of_heap G2.out 0
        go_wp2_with fail
        (try simp only [Exit.inBlock, Exit.then])
        refine bodyPost_ret (ret_row1t rfl _ _ _ _ _ _ _ (by rfl) G2.out Try.underlying26 rfl tsize) rfl ?_
        exact ⟨_, _, rfl, (HO2.out.set (by omega)).less (by omega), (HOS2.out.set (by omega)).less (by omega), HBW2.out.setCell (p := ⟨w.heap.size + 1, 0, none⟩) (by simp only; omega) _⟩
      · have hall : l.drop j = [] := List.drop_of_length_le (by omega)
        have hjl2 : j = l.length := by omega
        have hcl : l.length ≤ cap := by obtain ⟨_, _, he, h1, _⟩ := HL.out; injection he with e1 e2 e3; omega
        have hcm : cap ≤ maxLen := by obtain ⟨_, _, he, _, h1, _⟩ := HL.out; injection he with e1 e2 e3; omega
        have HCM := Lib.hid hcm
        clear hcm
        have g1 : ¬ (j : Int) < (l.length : Int) := by omega
        have i1 : (0 : Int) ≤ (j : Int) := by omega
        have i4 : (j : Int) ≤ (l.length : Int) := by omega
        have i5 : (l.length : Int) ≤ (cap : Int) := by omega
        have i6 : (j : Int) ≤ (cap : Int) := by omega
        have e0 : l.length - j = 0 := by omega
        have CC := Lib.hid (fun (X : World) (a : Option Addr) (c : Nat) (h1 : c ≤ maxLen) (h2 : a = none → c = 0) => clone_any B _ [] X (timers_none a c h1 h2) (by simp))
        have HALL := Lib.hid hall
        have hszx2 := hszr
        have HJL2 := Lib.hid hjl2
        clear hall hjl2
        by_cases hcj : cap = j
        · obtain rfl : j = cap := hcj.symm
          have HBX := HBW
          have GX1 := G1
          have HOSX := HOWN
          go_wp2_with fail
          refine (CC.out _ (some ⟨b, off, none⟩) 0 (by omega) (fun e => by cases e)).mono ?_
          rintro r w2 ⟨vc, rfl, ho2, hb2⟩
          obtain ⟨oa, oc, hvf⟩ := ho2.form
          simp only [List.length_nil] at hvf
          subst hvf
          have hg1 := (hb2.block (w.heap.size + 1) (by omega)).trans GX1.out
          have hos := (HOSX.out).keep hb2
          have HO2 := Lib.hid (show OwnT w2 wr.heap.size _ (l.drop j) by rw [HALL.out]; exact ho2)
          have HOS2 := Lib.hid hos
          have G2 := Lib.hid hg1
          have HBW2 := Lib.hid (bstep HBX.out hb2)
          clear ho2 hos hg1 hb2
          have c1 : w2.cell? ⟨w.heap.size + 1, 0, none⟩ = some (.slice none 0 0) := by rw [Lib.cell_of_heap G2.out]; rfl
          have f1 : w2.frozen? ⟨w.heap.size + 1, 0, none⟩ = false := Lib.frozen_of_heap G2.out 0
          go_wp2_with fail
          (try simp only [Exit.inBlock, Exit.then])
          refine bodyPost_ret (ret_row1t rfl _ _ _ _ _ _ _ (by rfl) G2.out Try.underlying26 rfl tsize) rfl ?_
          exact ⟨_, _, rfl, (HO2.out.set (by omega)).less (by omega), (HOS2.out.set (by omega)).less (by omega), HBW2.out.setCell (p := ⟨w.heap.size + 1, 0, none⟩) (by simp only; omega) _⟩
        · have i7 := hcj
          have HBX := HBW
          have GX1 := G1
          have HOSX := HOWN
          go_wp2_with fail
          refine (CC.out _ (some ⟨b, off + j * 2, none⟩) (cap - j) (by have := HCM.out; omega) (fun e => by cases e)).mono ?_
          rintro r w2 ⟨vc, rfl, ho2, hb2⟩
          obtain ⟨oa, oc, hvf⟩ := ho2.form
          simp only [List.length_nil] at hvf
          subst hvf
          have hg1 := (hb2.block (w.heap.size + 1) (by omega)).trans GX1.out
          have hos := (HOSX.out).keep hb2
          have HO2 := Lib.hid (show OwnT w2 wr.heap.size _ (l.drop j) by rw [HALL.out]; exact ho2)
          have HOS2 := Lib.hid hos
          have G2 := Lib.hid hg1
          have HBW2 := Lib.hid (bstep HBX.out hb2)
          clear ho2 hos hg1 hb2
          have c1 : w2.cell? ⟨w.heap.size + 1, 0, none⟩ = some (.slice none 0 0) := by rw [Lib.cell_of_heap G2.out]; rfl
          have f1 : w2.frozen? ⟨w.heap.size + 1, 0, none⟩ = false := Lib.frozen_of_heap G2.out 0
          go_wp2_with fail
          (try simp only [Exit.inBlock, Exit.then])
          refine bodyPost_ret (ret_row1t rfl _ _ _ _ _ _ _ (by rfl) G2.out Try.underlying26 rfl tsize) rfl ?_
          exact ⟨_, _, rfl, (HO2.out.set (by omega)).less (by omega), (HOS2.out.set (by omega)).less (by omega), HBW2.out.setCell (p := ⟨w.heap.size + 1, 0, none⟩) (by simp only; omega) _⟩

set_option maxRecDepth 100000 in
set_option maxHeartbeats 1600000 in
theorem due_none (now : Int) (w : World) :
    Calls Try.prog 13 #[.agg #[.slice none 0 0], .int .i64 now] w fun r w' => ∃ v' nv, r = .returned (.tuple #[.agg #[v'], nv]) ∧ OwnT w' w.heap.size v' [] ∧ OwnS w' w.heap.size nv [] ∧ Below w.heap.size w w' := by
  have hb0 : Below w.heap.size w ((w.alloc (.cells #[.slice none 0 0] 26)).alloc (.cells #[.slice none 0 0] 26)) := ((Below.refl _ _).alloc (Nat.le_refl _) _).alloc (by rw [World.size_alloc]; omega) _
  have hg0 : ((w.alloc (.cells #[.slice none 0 0] 26)).alloc (.cells #[.slice none 0 0] 26)).heap[w.heap.size]? = some (.cells #[.slice none 0 0] 26) := by
    rw [heap_alloc_old _ _ (show w.heap.size < _ by rw [World.size_alloc]; omega)]
    exact heap_alloc_new w _
  have hg1 : ((w.alloc (.cells #[.slice none 0 0] 26)).alloc (.cells #[.slice none 0 0] 26)).heap[w.heap.size + 1]? = some (.cells #[.slice none 0 0] 26) := heap_alloc2_new w _ _
  have hsz0 : ((w.alloc (.cells #[.slice none 0 0] 26)).alloc (.cells #[.slice none 0 0] 26)).heap.size = w.heap.size + 2 := by simp
  have HB0 := Lib.hid hb0
  have HG0 := Lib.hid hg0
  have HG1 := Lib.hid hg1
  have HS0 := Lib.hid hsz0
  clear hb0 hg0 hg1 hsz0
  have CC := Lib.hid (fun (X : World) => clone_any X.heap.size _ [] X (timers_none none 0 (by simp) (fun _ => rfl)) (by simp))
  go_enter Try.func13, Try.ntmps13
  go_wp2_with fail
  go_loopw [6, 8, 12] (fun t6 _ t12 wr => t6 = .slice none 0 0 ∧ t12 = .int .i64 0 ∧ wr = ((w.alloc (.cells #[.slice none 0 0] 26)).alloc (.cells #[.slice none 0 0] 26))) (fun _ _ _ _ => 0)
  case atStart => exact ⟨rfl, rfl, rfl⟩
  case round =>
    obtain ⟨rfl, rfl, rfl⟩ := hrel
    go_wp2_with fail
    refine (CC.out _).mono ?_
    rintro r w2 ⟨vc, rfl, ho2, hb2⟩
    obtain ⟨oa, oc, hvf⟩ := ho2.form
    simp only [List.length_nil] at hvf
    subst hvf
    have hg1 := (hb2.block (w.heap.size + 1) (by rw [HS0.out]; omega)).trans HG1.out
    have HO2 := Lib.hid ho2
    have G2 := Lib.hid hg1
    have HBW2 := Lib.hid (bstep HB0.out hb2)
    clear ho2 hg1 hb2
    have c1 : w2.cell? ⟨w.heap.size + 1, 0, none⟩ = some (.slice none 0 0) := by rw [Lib.cell_of_heap G2.out]; rfl
    have f1 : w2.frozen? ⟨w.heap.size + 1, 0, none⟩ = false := Lib.frozen_of_heap G2.out 0
    go_wp2_with fail
    (try simp only [Exit.inBlock, Exit.then])
    refine bodyPost_ret (ret_row1t rfl _ _ _ _ _ _ _ (by rfl) G2.out Try.underlying26 rfl tsize) rfl ?_
    exact ⟨_, _, rfl, (HO2.out.set (by rw [HS0.out]; omega)).less (by rw [HS0.out]; omega), owns_nil _ _, HBW2.out.setCell (p := ⟨w.heap.size + 1, 0, none⟩) (by simp only; omega) _⟩
end Go.Proofs.Ytpadbkplknnopaa
