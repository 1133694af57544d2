/-
  The walk of message.parts at Have. Printed by gen_mshav.py of this claim's writer.
-/
import Derived.Test.YtflojipkgaocnaaGreatDoorMsParts
import Derived.Test.YtflojipkgaocnaaGreatDoorMsNumb2
import Derived.Test.YtflojipkgaocnaaGreatDoorRegInv
import Derived.Test.YtflojipkgaocnaaGreatDoorEvRead
namespace Go.Proofs.YtflojipkgaocnaaGreatDoor
open Go.RowKit
set_option linter.unusedSimpArgs false
set_option linter.unusedVariables false

set_option maxHeartbeats 2000000 in
set_option maxRecDepth 100000 in
/-- WriteString, and that it turns no block but the builder's own two. -/
theorem writeString_far (B b : Nat) (l : List UInt8) (s : ByteArray) (w : World) (p v : Value) (hp : p = .pointer none ∨ p = .pointer (some ⟨b, 0, none⟩)) (h : Lib.BuilderAt 100 5 B b p (bcells l) w) (hbk : w.heap[b]? = some (.cells #[p, v] 100 (0, 0))) (hlen : l.length + s.size ≤ 140737488355328) (hBw : B ≤ w.heap.size) :
    Calls Tryz.prog 27 #[.pointer (some ⟨b, 0, none⟩), .string s] w fun e w' => e = .returned (.tuple #[.int .i64 s.size, .nilIface]) ∧ Lib.IsBuilder 100 5 B b (bcells (l ++ s.data.toList)) w' ∧ Below B w w' ∧ ∀ g, g < w.heap.size → g ≠ b → v.ownBlock ≠ some g → w'.heap[g]? = w.heap[g]? := by
  obtain ⟨i0, hi, hz0, hz1, hz2⟩ := info_parts bd_byte
  have hbl : (bcells l).length = l.length := bcells_len l
  obtain ⟨hB, v', hbk', hown, hne⟩ := h
  obtain rfl : v = v' := by
    have e := hbk.symm.trans hbk'
    injection e with e
    injection e with e
    have := congrArg (fun x : Array Value => x.toList) e
    simpa using this
  have hcheck : Calls Tryz.prog 50 #[.pointer (some ⟨b, 0, none⟩)] w fun e w' => e = .returned (.tuple #[]) ∧ w'.heap[b]? = some (.cells #[.pointer (some ⟨b, 0, none⟩), v] 100 (0, 0)) ∧ w'.ownsRow B 5 1 v (bcells l).length (bcells l) ∧ Below B w w' ∧ w'.heap.size = w.heap.size ∧ ∀ g, g ≠ b → w'.heap[g]? = w.heap[g]? := by
    have c0 : w.cell? ⟨b, 0, none⟩ = some p := by rw [Lib.cell_of_heap hbk]; rfl
    rcases hp with rfl | rfl
    · have hs : w.shape? b = some (100, 2) := by unfold World.shape?; rw [hbk]; rfl
      refine (copyCheck_fresh b w c0 hs (Lib.frozen_of_heap hbk 0)).mono ?_
      rintro e w' ⟨rfl, rfl⟩
      refine ⟨rfl, by simp [World.setCell, Array.getElem?_modify, hbk], ?_, (Below.refl B w).setCell (p := ⟨b, 0, none⟩) hB _, by rw [World.size_setCell], fun g hg => ?_⟩
      · exact hown.kept (gb_set w b 0 _) (by rcases hown.2 with ⟨rfl, _⟩ | ⟨b2, cap, cur, rfl, h1, _⟩; exact .inl rfl; exact .inr hne)
      · simp only [World.setCell]
        rw [Array.getElem?_modify, if_neg (fun e => hg e.symm)]
    · refine (copyCheck_used b w c0).mono ?_
      rintro e w' ⟨rfl, rfl⟩
      exact ⟨rfl, hbk, hown, Below.refl B _, rfl, fun g _ => rfl⟩
  clear hbk hbk' hown
  go_enter Tryz.func27, Tryz.ntmps27
  go_wp2_with fail
  refine hcheck.mono ?_
  rintro e w1 ⟨rfl, hbk, hown, hb1, hsz1, hfar1⟩
  have HF1 := Lib.hid hfar1
  have HS1 := Lib.hid hsz1
  have hsz := hb1.size
  have c0 : w1.cell? ⟨b, 0, none⟩ = some (.pointer (some ⟨b, 0, none⟩)) := by rw [Lib.cell_of_heap hbk]; rfl
  have c1 : w1.cell? ⟨b, 1, none⟩ = some v := by rw [Lib.cell_of_heap hbk]; rfl
  have hlt : b < w1.heap.size := (Array.getElem?_eq_some_iff.1 hbk).1
  have Hbk := Lib.hid hbk
  clear hbk hfar1 hsz1 hcheck
  go_wp2_with (at_builtin; refine Lib.wpList_append_own_string _ rfl _ _ 98 9 rfl B 5 i0 Tryz.underlying98 Tryz.underlying9 hi hz0 hz1 hz2 _ _ _ rfl hown s rfl ?c3 ?c4 ?c5 ?_)
  case c3 => unfold maxLen; omega
  case c4 => omega
  case c5 => omega
  intro v' w2 hown' hgrow _
  have hb2 : w2.heap[b]? = some (.cells #[.pointer (some ⟨b, 0, none⟩), v] 100 (0, 0)) := by
    rw [hgrow.block b hlt (fun e => hne e.symm)]
    exact Hbk.out
  have d0 : w2.cell? ⟨b, 0, none⟩ = some (.pointer (some ⟨b, 0, none⟩)) := by rw [Lib.cell_of_heap hb2]; rfl
  have d1 : w2.cell? ⟨b, 1, none⟩ = some v := by rw [Lib.cell_of_heap hb2]; rfl
  have f1 : w2.frozen? ⟨b, 1, none⟩ = false := Lib.frozen_of_heap hb2 1
  obtain ⟨ao, n', cap, rfl⟩ : ∃ ao n' cap, v' = .slice ao n' cap := by
    rcases hown'.2 with ⟨hv, _⟩ | ⟨g, cap, cur, hv, _⟩
    · exact ⟨_, _, _, hv⟩
    · exact ⟨_, _, _, hv⟩
  have Hb2 := Lib.hid hb2
  have HG := Lib.hid hgrow
  clear hb2 hgrow
  go_wp2
  go_ret2
  refine ⟨rfl, .inr ?_, ?_, fun g hg hgb hgv => ?_⟩
  · rw [bcells_append, show bcells s.data.toList = Lib.strCells s from rfl]
    exact Lib.BuilderAt.put (T := 100) (e := 5) hB Hb2.out (bs' := bcells l ++ Lib.strCells s) (by rw [List.length_append, Lib.strCells_length, hbl]; exact hown') (by decide)
  · exact (hb1.grown HG.out (by omega) (fun k hk => (hown.lt k hk).1)).setCell (p := ⟨b, 1, none⟩) hB _
  · have e1 : (w2.setCell ⟨b, 1, none⟩ (.slice ao n' cap)).heap[g]? = w2.heap[g]? := by
      simp only [World.setCell]
      rw [Array.getElem?_modify, if_neg (fun e => hgb e.symm)]
    rw [e1, HG.out.block g (by have := HS1.out; omega) (fun e => hgv e.symm)]
    exact HF1.out g hgb

/-- A builder's block, and where its row is not. -/
theorem builder_parts {B b : Nat} {bs : List Value} {w : World} (h : Lib.IsBuilder 100 5 B b bs w) : ∃ p v, (p = .pointer none ∨ p = .pointer (some ⟨b, 0, none⟩)) ∧ Lib.BuilderAt 100 5 B b p bs w ∧ w.heap[b]? = some (.cells #[p, v] 100 (0, 0)) ∧ ∀ g, w.heap.size ≤ g → v.ownBlock ≠ some g := by
  rcases h with h | h
  · obtain ⟨h1, v, h2, h3, h4⟩ := id h
    exact ⟨_, v, .inl rfl, h, h2, fun g hg e => by have := (h3.lt g e).2; omega⟩
  · obtain ⟨h1, v, h2, h3, h4⟩ := id h
    exact ⟨_, v, .inr rfl, h, h2, fun g hg e => by have := (h3.lt g e).2; omega⟩
theorem builderAt_below {B b : Nat} {p : Value} {bs : List Value} {w w' : World} (hb : Below w.heap.size w w') (h : Lib.BuilderAt 100 5 B b p bs w) : Lib.BuilderAt 100 5 B b p bs w' := by
  obtain ⟨hB, v, hbk, hown, hne⟩ := h
  exact ⟨hB, v, by rw [hb.block b (Array.getElem?_eq_some_iff.1 hbk).1]; exact hbk, own_below hb hown, hne⟩

theorem any_not {α : Type} (p : α → Bool) (l : List α) : l.any (fun x => !p x) = !(l.all p) := by
  induction l with
  | nil => rfl
  | cons a l ih => simp only [List.any_cons, List.all_cons, ih, Bool.not_and]

theorem run_fieldHave (x0 x1 x2 x3 : Value) (W : World) : (Instr.field 67 (.agg #[x0, x1, x2, x3]) 3).run Tryz.prog W = .ok x3 W := by kernel_rfl
theorem catM_le : ∀ l : List (Int × Int), (catL putM2 l).length ≤ 12 * l.length
  | [] => by simp [catL]
  | x :: l => by
    have h1 := catM_le l
    have h2 := putI_le x.1
    have h3 := putI_le x.2
    have h4 : (putM2 x).length = (putI x.1).length + (putI x.2).length := by unfold putM2; rw [List.length_append]
    rw [catL_cons, List.length_append, List.length_cons]
    omega

set_option maxRecDepth 100000 in
set_option maxHeartbeats 6400000 in
theorem parts_hav (B : Nat) (v : Value) (a b c : Int) (l : List (Int × Int)) (w : World) (h : IsMsg B w v (.hav a b c l)) (hB : B ≤ w.heap.size) (hT : Tabs w) (hl : l.length ≤ 1000) :
    Calls Tryz.prog 25 #[v] w fun en w' => GotRest (.hav a b c l) w en w' := by
  have HK : HasKind v 6 := hasKind h
  obtain ⟨lv, rfl, he⟩ := h
  have HE := Lib.hid he
  have HT := Lib.hid hT
  obtain ⟨ea, ec, rfl⟩ := he.form
  obtain ⟨T, p, F, hv, hm, hcf, hc⟩ := HK
  injection hv with hv1 hv2
  subst hv1 hv2
  have HC := Lib.hid hc
  have hok : (Msg.hav a b c l).restOk = (decide (l.length ≤ 30) && l.all okM2) := rfl
  obtain ⟨q, hq⟩ : ∃ q, l.all okM2 = q := ⟨_, rfl⟩
  have hqn : l.any (fun x => !okM2 x) = !q := by rw [← hq]; exact any_not _ _
  rw [hq] at hok
  have HOK := Lib.hid hok
  have CON := Lib.hid (fun (X : World) (hX : Below w.heap.size w X) => conM_any B _ l (!q) hqn X (HE.out.keep hX hB) (Nat.le_trans hB hX.size))
  have ta : ∀ (W : World) (v : Value), (Instr.typeAssert (.iface 67 v) 34 67 false).run Tryz.prog W = .ok v W := fun W v => by kernel_rfl
  have fa := run_fieldHave
  have HB0 := Lib.hid ((Below.refl w.heap.size w).alloc (Nat.le_refl _) (.cells #[.pointer none, .slice none 0 0] 100))
  have CN := Lib.hid (fun X : World => pN_any (l.length : Int) X)
  have zn := pN_size (l.length : Int)
  have CW0 := Lib.hid (fun b X hX hY => writeString_any b b [] (pN (l.length : Int)) X hX (by simp only [List.length_nil]; omega) hY)
  have BN := Lib.hid (builder_new w)
  clear he hT hc hok hq hqn zn
  go_enter Tryz.func25, Tryz.ntmps25
  go_wp2_with fail
  refine (HC.out _).mono ?_
  rintro en w1 ⟨rfl, hb1⟩
  have HA1 := Lib.hid (bstep HB0.out hb1)
  have BN1 := Lib.hid (builder_below hb1 BN.out)
  clear hb1
  go_wp2_with fail
  refine (CN.out _).mono ?_
  rintro en w2 ⟨rfl, hb2⟩
  have HA2 := Lib.hid (bstep HA1.out hb2)
  have BN2 := Lib.hid (builder_below hb2 BN1.out)
  clear hb2
  go_wp2_with fail
  refine (CW0.out _ _ BN2.out HA2.out.size).mono ?_
  rintro en w3 ⟨rfl, bn3, hb3⟩
  have BN3 := Lib.hid bn3
  have HA3 := Lib.hid (HA2.out.trans hb3)
  clear bn3 hb3
  go_wp2_with fail
  have HB := Lib.hid (Below.refl w.heap.size w)
  go_loopw [13, 77] (fun _ t77 wr => ∃ j : Nat, j ≤ l.length ∧ t77 = .int .i64 j ∧ Lib.IsBuilder 100 5 w.heap.size w.heap.size (bcells (putN (clampN l.length) ++ catL putM2 (l.take j))) wr ∧ Below w.heap.size w wr) (fun _ t77 _ => l.length - (intOf t77).toNat)
  case atStart => exact ⟨0, Nat.zero_le _, rfl, (by rw [show catL putM2 (l.take 0) = [] from rfl, List.append_nil]; exact BN3.out), HA3.out⟩
  case round =>
    obtain ⟨j, hj, rfl, bnj, hbj⟩ := hrel
    have BNJ := Lib.hid bnj
    have HBJ := Lib.hid hbj
    clear bnj hbj
    by_cases hlt : j < l.length
    · obtain ⟨b', off, cap', he, hblk, _, hc1, hc2⟩ := (HE.out.keep HBJ.out hB).at2 j hlt
      obtain ⟨rfl, -, rfl⟩ : ea = some ⟨b', off, none⟩ ∧ l.length = l.length ∧ ec = cap' := by injection he with e1 e2 e3; exact ⟨e1, e2, e3⟩
      clear he
      have HTK := Lib.hid (catL_take (put := putM2) hlt)
      have zk := catM_le (l.take j)
      rw [List.length_take] at zk
      have z6 := putN_len6 (clampN_le (l.length : Int))
      obtain ⟨y, hy⟩ : ∃ y, l[j] = y := ⟨_, rfl⟩
      rw [hy] at hc1 hc2 HTK
      have i1 : (0 : Int) ≤ (j : Int) := by omega
      have i2 : (j : Int) < (l.length : Int) := by omega
      clear hy
      obtain ⟨x1, x2⟩ := y
      have hy2 : putM2 (x1, x2) = (pN x1 ++ pN x2).data.toList := by rw [list_addE]; rfl
      rw [hy2] at HTK
      have zx1 := pN_size x1
      have zx2 := pN_size x2
      have CP1 := Lib.hid (fun X : World => pN_any x1 X)
      have CP2 := Lib.hid (fun X : World => pN_any x2 X)
      generalize pN x1 = P1 at zx1 CP1 HTK
      generalize pN x2 = P2 at zx2 CP2 HTK
      have a1 : ∀ W : World, (Op.stringOp .add P1 P2).run Tryz.prog W = .ok (.string (P1 ++ P2)) W := fun W => run_string_add_sum (P := Tryz.prog) (w := W) _ _ (by omega)
      obtain ⟨pp, pv, hpp, hba, hbk, hnr⟩ := builder_parts BNJ.out
      have BA := Lib.hid hba
      have BK := Lib.hid hbk
      have NR := Lib.hid hnr
      have NB := Lib.hid (show wr.heap.size ≠ w.heap.size from by have := (Array.getElem?_eq_some_iff.1 hbk).1; omega)
      have CWF := Lib.hid (fun (X : World) hA hK hY => writeString_far w.heap.size w.heap.size (putN (clampN l.length) ++ catL putM2 (l.take j)) (P1 ++ P2) X pp pv hpp hA hK (by rw [List.length_append, ByteArray.size_append]; omega) hY)
      simp only at hc1 hc2
      clear hba hbk hnr hpp hy2 zk z6 zx1 zx2
      have MKS := Lib.hid (fun (X' : World) (hg : X'.heap[wr.heap.size]? = some (.cells #[.int .i64 x1, .int .i64 x2] 87)) => (show X'.cell? ⟨wr.heap.size, 0, none⟩ = some (.int .i64 x1) ∧ X'.cell? ⟨wr.heap.size, 1, none⟩ = some (.int .i64 x2) from ⟨by rw [Lib.cell_of_heap hg]; rfl, by rw [Lib.cell_of_heap hg]; rfl⟩))
      have G0 := Lib.hid (heap_alloc_new wr (.cells #[.int .i64 x1, .int .i64 x2] 87))
      go_wp2_with fail
      refine region_begin (S := fun X' => X'.cell? ⟨wr.heap.size, 0, none⟩ = some (.int .i64 x1) ∧ X'.cell? ⟨wr.heap.size, 1, none⟩ = some (.int .i64 x2)) 8 rfl (by kernel_rfl) (MKS.out _ (show (wr.alloc (.cells #[.int .i64 x1, .int .i64 x2] 87)).drew.heap[wr.heap.size]? = _ from G0.out)) (fun hH0 => ?_)
      have hwd : Below wr.heap.size wr (wr.alloc (.cells #[.int .i64 x1, .int .i64 x2] 87)).drew := ((Below.refl wr.heap.size wr).alloc (Nat.le_refl _) _).drew
      have HWD := Lib.hid hwd
      have G1 := Lib.hid (show (wr.alloc (.cells #[.int .i64 x1, .int .i64 x2] 87)).drew.heap[wr.heap.size]? = some (.cells #[.int .i64 x1, .int .i64 x2] 87) from G0.out)
      have LWD := Lib.hid (show wr.heap.size < (wr.alloc (.cells #[.int .i64 x1, .int .i64 x2] 87)).drew.heap.size from by show _ < (wr.alloc (.cells #[.int .i64 x1, .int .i64 x2] 87)).heap.size; rw [World.size_alloc]; omega)
      clear hwd
      generalize (wr.alloc (.cells #[.int .i64 x1, .int .i64 x2] 87)).drew = wd at *
      refine wpAnyH_take (i := 0) (oi := ?oh0) (v := ?vh0) ?hih0 (by kernel_rfl) (by kernel_rfl) (by kernel_rfl) ?hQh0 ?hyh0 hH0 ?_
      case hih0 => simp only [List.getElem?_toArray, List.getElem?_cons_zero]; rfl
      case hQh0 => exact fun _ _ _ h => h
      case hyh0 => refine Or.inl ⟨by rfl, ?_⟩; intro W hSw; (try dsimp only at hSw); go_simp; try with_reducible rfl
      simp only [Act.put, List.setIfInBounds_toArray, List.set_cons_zero, List.set_cons_succ]
      refine wpAnyH_take (i := 1) (oi := ?oh1) (v := ?vh1) ?hih1 (by kernel_rfl) (by kernel_rfl) (by kernel_rfl) ?hQh1 ?hyh1 hH0 ?_
      case hih1 => simp only [List.getElem?_toArray, List.getElem?_cons_zero, List.getElem?_cons_succ]; rfl
      case hQh1 => exact fun _ _ _ h => h
      case hyh1 => refine Or.inl ⟨by rfl, ?_⟩; intro W hSw; (try dsimp only at hSw); go_simp; try with_reducible rfl
      simp only [Act.put, List.setIfInBounds_toArray, List.set_cons_zero, List.set_cons_succ]
      refine wpAnyH_take (i := 3) (oi := ?oh3) (v := ?vh3) ?hih3 (by kernel_rfl) (by kernel_rfl) (by kernel_rfl) ?hQh3 ?hyh3 hH0 ?_
      case hih3 => simp only [List.getElem?_toArray, List.getElem?_cons_zero, List.getElem?_cons_succ]; rfl
      case hQh3 => exact fun _ _ _ h => h
      case hyh3 => refine Or.inl ⟨by rfl, ?_⟩; intro W hSw; (try dsimp only at hSw); go_simp; try with_reducible rfl
      simp only [Act.put, List.setIfInBounds_toArray, List.set_cons_zero, List.set_cons_succ]
      refine wpAnyH_take (i := 4) (oi := ?oh4) (v := ?vh4) ?hih4 (by kernel_rfl) (by kernel_rfl) (by kernel_rfl) ?hQh4 ?hyh4 hH0 ?_
      case hih4 => simp only [List.getElem?_toArray, List.getElem?_cons_zero, List.getElem?_cons_succ]; rfl
      case hQh4 => exact fun _ _ _ h => h
      case hyh4 => refine Or.inl ⟨by rfl, ?_⟩; intro W hSw; (try dsimp only at hSw); go_simp; try with_reducible rfl
      simp only [Act.put, List.setIfInBounds_toArray, List.set_cons_zero, List.set_cons_succ]
      clear hH0
      refine wpAnyH_ready (rs := [2]) (by kernel_rfl) (by simp) ?_
      refine AllReadyH.cons (o := ?oh2) ?hoh2 (fun K' hK => ?_) AllReadyH.nil
      case hoh2 => simp only [List.getElem?_toArray, List.getElem?_cons_zero, List.getElem?_cons_succ]; rfl
      go_simp
      refine (CP1.out _).mono ?_
      rintro r w5 ⟨rfl, hb5⟩
      have G5 := Lib.hid ((hb5.block _ LWD.out).trans G1.out)
      have H5 := Lib.hid (bstep HWD.out hb5)
      have L5 := Lib.hid (Nat.lt_of_lt_of_le LWD.out hb5.size)
      clear hb5
      refine hK.out _ _ (MKS.out _ G5.out) (fun hH1 => ?_)
      clear hK K'
      (try simp only [Act.put, List.setIfInBounds_toArray, List.set_cons_zero, List.set_cons_succ])
      clear hH1
      refine wpAnyH_ready (rs := [5]) (by kernel_rfl) (by simp) ?_
      refine AllReadyH.cons (o := ?oh5) ?hoh5 (fun K' hK => ?_) AllReadyH.nil
      case hoh5 => simp only [List.getElem?_toArray, List.getElem?_cons_zero, List.getElem?_cons_succ]; rfl
      go_simp
      refine (CP2.out _).mono ?_
      rintro r w6 ⟨rfl, hb6⟩
      have G6 := Lib.hid ((hb6.block _ L5.out).trans G5.out)
      have H6 := Lib.hid (bstep H5.out hb6)
      have L6 := Lib.hid (Nat.lt_of_lt_of_le L5.out hb6.size)
      clear hb6
      refine hK.out _ _ (MKS.out _ G6.out) (fun hH2 => ?_)
      clear hK K'
      (try simp only [Act.put, List.setIfInBounds_toArray, List.set_cons_zero, List.set_cons_succ])
      refine wpAnyH_take (i := 6) (oi := ?oh6) (v := ?vh6) ?hih6 (by kernel_rfl) (by kernel_rfl) (by kernel_rfl) ?hQh6 ?hyh6 hH2 ?_
      case hih6 => simp only [List.getElem?_toArray, List.getElem?_cons_zero, List.getElem?_cons_succ]; rfl
      case hQh6 => exact fun _ _ _ h => h
      case hyh6 => refine Or.inl ⟨by rfl, ?_⟩; intro W hSw; (try dsimp only at hSw); go_simp; try with_reducible rfl
      simp only [Act.put, List.setIfInBounds_toArray, List.set_cons_zero, List.set_cons_succ]
      clear hH2
      refine wpAnyH_ready (rs := [7]) (by kernel_rfl) (by simp) ?_
      refine AllReadyH.cons (o := ?oh7) ?hoh7 (fun K' hK => ?_) AllReadyH.nil
      case hoh7 => simp only [List.getElem?_toArray, List.getElem?_cons_zero, List.getElem?_cons_succ]; rfl
      go_simp
      refine (CWF.out w6 (builderAt_below H6.out BA.out) ((H6.out.block _ (Array.getElem?_eq_some_iff.1 BK.out).1).trans BK.out) (bstep HBJ.out H6.out).size).mono ?_
      rintro r w7 ⟨rfl, bn7, hb7, hfar⟩
      have G7 := Lib.hid ((hfar _ L6.out NB.out (NR.out _ (Nat.le_refl _))).trans G6.out)
      have BN7 := Lib.hid bn7
      have HB7 := Lib.hid ((bstep HBJ.out H6.out).trans hb7)
      clear bn7 hb7 hfar
      refine hK.out _ _ (MKS.out _ G7.out) (fun hH3 => ?_)
      clear hK K'
      (try simp only [Act.put, List.setIfInBounds_toArray, List.set_cons_zero, List.set_cons_succ])
      clear hH3 a1
      refine wpAnyH_done (by kernel_rfl) ?_ _
      go_wp2_with fail
      go_roundw
      case rel =>
        refine ⟨j + 1, by omega, by go_num, ?_, HB7.out⟩
        rw [HTK.out, ← List.append_assoc]
        exact BN7.out
      case measure => simp [intOf]; omega

    · have g : ¬ ((j : Int) < (l.length : Int)) := by omega
      have hkl : l.take j = l := List.take_of_length_le (by omega)
      have bnl := BNJ.out
      rw [hkl] at bnl
      have BNL := Lib.hid bnl
      clear hkl bnl
      cases q with
      | true =>
        by_cases h30 : l.length ≤ 30
        · have g30 : (l.length : Int) ≤ 30 := by omega
          have H30 := Lib.hid h30
          clear h30
          go_wp2_with fail
          refine (builder_string _ _ _ _ BNL.out HBJ.out.size).mono ?_
          rintro r w8 ⟨rfl, hb8⟩
          have HB8 := Lib.hid (HBJ.out.trans hb8)
          clear hb8
          go_wp2_with fail
          refine (CON.out _ HB8.out).mono ?_
          rintro r w9 ⟨rfl, hb9⟩
          have HB9 := Lib.hid (bstep HB8.out hb9)
          clear hb9
          go_wp2_with fail
          go_ret2
          refine ⟨?_, HB9.out⟩
          rw [HOK.out, decide_eq_true H30.out]
          rfl
        · have g30 : ¬ (l.length : Int) ≤ 30 := by omega
          have H30 := Lib.hid h30
          clear h30
          go_wp2_with fail
          refine (builder_string _ _ _ _ BNL.out HBJ.out.size).mono ?_
          rintro r w8 ⟨rfl, hb8⟩
          have HB8 := Lib.hid (HBJ.out.trans hb8)
          clear hb8
          go_wp2_with fail
          go_ret2
          refine ⟨?_, HB8.out⟩
          rw [HOK.out, decide_eq_false H30.out, Bool.false_and]
          rfl
      | false =>
        by_cases h30 : l.length ≤ 30
        · have g30 : (l.length : Int) ≤ 30 := by omega
          have H30 := Lib.hid h30
          clear h30
          go_wp2_with fail
          refine (builder_string _ _ _ _ BNL.out HBJ.out.size).mono ?_
          rintro r w8 ⟨rfl, hb8⟩
          have HB8 := Lib.hid (HBJ.out.trans hb8)
          clear hb8
          go_wp2_with fail
          refine (CON.out _ HB8.out).mono ?_
          rintro r w9 ⟨rfl, hb9⟩
          have HB9 := Lib.hid (bstep HB8.out hb9)
          clear hb9
          go_wp2_with fail
          go_ret2
          refine ⟨?_, HB9.out⟩
          rw [HOK.out, Bool.and_false]
          rfl
        · have g30 : ¬ (l.length : Int) ≤ 30 := by omega
          have H30 := Lib.hid h30
          clear h30
          go_wp2_with fail
          refine (builder_string _ _ _ _ BNL.out HBJ.out.size).mono ?_
          rintro r w8 ⟨rfl, hb8⟩
          have HB8 := Lib.hid (HBJ.out.trans hb8)
          clear hb8
          go_wp2_with fail
          go_ret2
          refine ⟨?_, HB8.out⟩
          rw [HOK.out, decide_eq_false H30.out, Bool.false_and]
          rfl

end Go.Proofs.YtflojipkgaocnaaGreatDoor
