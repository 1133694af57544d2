/-
  The walks of message.Put, message.Right and message.Epoch, over what numbers, Kind and parts give. Printed by gen_msput.py of this claim's writer.
-/
import Derived.Test.YtflojipkgaocnaaGreatDoorMsKind
import Derived.Test.YtflojipkgaocnaaGreatDoorMsNums
import Derived.Test.YtflojipkgaocnaaGreatDoorMsNumb
import Derived.Test.YtflojipkgaocnaaGreatDoorEvPut
namespace Go.Proofs.YtflojipkgaocnaaGreatDoor
open Go.RowKit
set_option linter.unusedSimpArgs false
set_option linter.unusedVariables false

/-- The bytes of the rest of a message, and whether it is right. -/
def GotRest (m : Msg) (w : World) (e : Ending) (w' : World) : Prop := e = .returned (.tuple #[.string (bstr m.rest), .bool m.restOk]) ∧ Below w.heap.size w w'
theorem nums_le (m : Msg) : m.nums.length ≤ 6 := by cases m <;> simp [Msg.nums]
theorem putI_le (n : Int) : (putI n).length ≤ 6 := putN_len6 (clampN_le n)
theorem catI_le : ∀ l : List Int, (catL putI l).length ≤ 6 * l.length
  | [] => by simp [catL]
  | n :: l => by
    have h1 := catI_le l
    have h2 := putI_le n
    rw [catL_cons, List.length_append, List.length_cons]
    omega
theorem catL_take {α : Type} {put : α → List UInt8} {l : List α} {k : Nat} (h : k < l.length) : catL put (l.take (k + 1)) = catL put (l.take k) ++ put l[k] := by
  unfold catL
  rw [List.take_succ_eq_append_getElem h, List.flatMap_append]
  simp
theorem any_numM (l : List Int) : l.any (fun x => !numM x) = !(l.all numM) := by
  induction l with
  | nil => rfl
  | cons a l ih => simp only [List.any_cons, List.all_cons, ih, Bool.not_and]

set_option maxRecDepth 100000 in
set_option maxHeartbeats 3200000 in
theorem put_gen (v : Value) (m : Msg) (w : World) (hk : HasKind v m.kind) (hsz : m.rest.length ≤ 100000000)
    (CN : ∀ X : World, Below w.heap.size w X → Calls Tryz.prog 21 #[v] X fun e w' => GotNums m.nums X e w')
    (CP : ∀ X : World, Below w.heap.size w X → Calls Tryz.prog 25 #[v] X fun e w' => GotRest m X e w') :
    Calls Tryz.prog 10 #[v] w fun e w' => e = .returned (.string (putM m)) ∧ Below w.heap.size w w' := by
  have CN0 := Lib.hid CN
  have CP0 := Lib.hid CP
  obtain ⟨T, p, F, rfl, hm, hcf, hc⟩ := hk
  have HC := Lib.hid hc
  have hkb := kind_bd m
  have hn6 := nums_le m
  obtain ⟨bad, hbad⟩ : ∃ b, m.nums.any (fun x => !numM x) = b := ⟨_, rfl⟩
  obtain ⟨ok, hok⟩ : ∃ b, m.restOk = b := ⟨_, rfl⟩
  have hright : rightM m = (!bad && ok) := by rw [rightM, ← hbad, ← hok, any_numM, Bool.not_not]
  have hcon := fun (X : World) (u : Value) (hu : IsNums X.heap.size X u m.nums) => conI_any X.heap.size u m.nums bad hbad X hu (Nat.le_refl _)
  have HCON := Lib.hid hcon
  have hput : putM m = if (!bad && ok) = true then bstr (UInt8.ofNat m.kind :: bodyM m) else ⟨#[]⟩ := by rw [putM, hright]
  have HPUT := Lib.hid hput
  have HOK := Lib.hid hok
  have hkn := kind_nat m
  have hrl : (bstr m.rest).size ≤ 100000000 := by rw [bstr_size]; exact hsz
  have hbody : ∀ s : ByteArray, s = bstr (UInt8.ofNat m.kind :: catL putI m.nums) → s ++ bstr m.rest = bstr (UInt8.ofNat m.kind :: bodyM m) := by
    rintro s rfl
    apply ext_listE
    rw [list_addE, bstr_list, bstr_list, bstr_list, List.cons_append]
    rfl
  have HBODY := Lib.hid hbody
  unfold GotRest at CP0
  rw [hok] at CP0
  generalize hR : bstr m.rest = R at CP0 hrl HBODY
  generalize hL : m.nums = L at CN0 HCON hn6 HBODY
  obtain ⟨c, hcc⟩ : ∃ c, UInt8.ofNat m.kind = c := ⟨_, rfl⟩
  rw [hcc] at hkn HBODY HPUT
  generalize m.kind = k at hkn HC hkb
  have HKN := Lib.hid hkn
  clear CN CP hc hbad hok hright hcon hput hkn hbody hR hL hcc hsz HOK
  cases bad with
  | true =>
    go_enter Tryz.func10, Tryz.ntmps10
    go_wp2_with fail
    refine (CN0.out _ (Below.refl _ _)).mono ?_
    rintro e w1 ⟨u, rfl, hu, hb1⟩
    have HU := Lib.hid hu
    have HB1 := Lib.hid hb1
    obtain ⟨au, cu, rfl⟩ := hu.form
    clear hu hb1
    go_wp2_with fail
    refine (HCON.out _ _ HU.out).mono ?_
    rintro e w2 ⟨rfl, hb2⟩
    have HB2 := Lib.hid hb2
    clear hb2
    go_wp2_with fail
    go_ret
    exact ⟨by rw [HPUT.out]; rfl, bstep HB1.out HB2.out⟩
  | false =>
    cases ok with
    | false =>
      go_enter Tryz.func10, Tryz.ntmps10
      go_wp2_with fail
      refine (CN0.out _ (Below.refl _ _)).mono ?_
      rintro e w1 ⟨u, rfl, hu, hb1⟩
      have HU := Lib.hid hu
      have HB1 := Lib.hid hb1
      obtain ⟨au, cu, rfl⟩ := hu.form
      clear hu hb1
      go_wp2_with fail
      refine (HCON.out _ _ HU.out).mono ?_
      rintro e w2 ⟨rfl, hb2⟩
      have HB2 := Lib.hid (bstep HB1.out hb2)
      clear hb2
      go_wp2_with fail
      refine (CP0.out _ HB2.out).mono ?_
      rintro e w3 ⟨rfl, hb3⟩
      have HB3 := Lib.hid (bstep HB2.out hb3)
      clear hb3
      go_wp2_with fail
      go_ret
      exact ⟨by rw [HPUT.out]; rfl, HB3.out⟩
    | true =>
      go_enter Tryz.func10, Tryz.ntmps10
      go_wp2_with fail
      refine (CN0.out _ (Below.refl _ _)).mono ?_
      rintro e w1 ⟨u, rfl, hu, hb1⟩
      have HU := Lib.hid hu
      have HB1 := Lib.hid hb1
      obtain ⟨au, cu, rfl⟩ := hu.form
      clear hu hb1
      go_wp2_with fail
      refine (HCON.out _ _ HU.out).mono ?_
      rintro e w2 ⟨rfl, hb2⟩
      have HU2 := Lib.hid ((HU.out.keep hb2 (Nat.le_refl _)).up hb2.size)
      have HB2 := Lib.hid (bstep HB1.out hb2)
      clear hb2
      go_wp2_with fail
      refine (CP0.out _ HB2.out).mono ?_
      rintro e w3 ⟨rfl, hb3⟩
      have HU3 := Lib.hid ((HU2.out.keep hb3 (Nat.le_refl _)).up hb3.size)
      have HB3 := Lib.hid (bstep HB2.out hb3)
      clear hb3
      have BN := Lib.hid (builder_new w3)
      have HB4 := Lib.hid (HB3.out.alloc (by have := HB3.out.size; omega) (.cells #[.pointer none, .slice none 0 0] 100))
      have HA3 := Lib.hid ((Below.refl w3.heap.size w3).alloc (Nat.le_refl _) (.cells #[.pointer none, .slice none 0 0] 100))
      go_wp2_with fail
      refine (HC.out _).mono ?_
      rintro e w5 ⟨rfl, hb5⟩
      have BN5 := Lib.hid (builder_below hb5 BN.out)
      have HA5 := Lib.hid (bstep HA3.out hb5)
      have ku : IntKind.u8.wrap (k : Int) = (c.toNat : Int) := by rw [HKN.out, IntKind.wrap_u8]; omega
      clear hb5
      go_wp2_with fail
      refine (writeByte_any w3.heap.size w3.heap.size [] c _ BN5.out (by simp) HA5.out.size).mono ?_
      rintro e w6 ⟨rfl, bn6, hb6⟩
      have BN6 := Lib.hid bn6
      have HA6 := Lib.hid (HA5.out.trans hb6)
      clear bn6 hb6 ku
      go_wp2_with fail
      go_loopw [9, 34] (fun _ t34 wr => ∃ j : Nat, j ≤ L.length ∧ t34 = .int .i64 j ∧ Lib.IsBuilder 100 5 w3.heap.size w3.heap.size (bcells (c :: catL putI (L.take j))) wr ∧ Below w3.heap.size w3 wr) (fun _ t34 _ => L.length - (intOf t34).toNat)
      case atStart => exact ⟨0, Nat.zero_le _, rfl, BN6.out, HA6.out⟩
      case round =>
        obtain ⟨j, hj, rfl, bnj, hbj⟩ := hrel
        have BNJ := Lib.hid bnj
        have HBJ := Lib.hid hbj
        clear bnj hbj
        by_cases hlt : j < L.length
        · obtain ⟨b, off, cap', he, hblk, _, hc1⟩ := (HU3.out.keep HBJ.out (Nat.le_refl _)).at1 j hlt
          obtain ⟨rfl, -, rfl⟩ : au = some ⟨b, off, none⟩ ∧ L.length = L.length ∧ cu = cap' := by injection he with e1 e2 e3; exact ⟨e1, e2, e3⟩
          clear he
          obtain ⟨y, hy⟩ : ∃ y, L[j] = y := ⟨_, rfl⟩
          rw [hy] at hc1
          have HY := Lib.hid hy
          have i1 : (0 : Int) ≤ (j : Int) := by omega
          have i2 : (j : Int) < (L.length : Int) := by omega
          clear hy
          have CPN := Lib.hid (fun X : World => pN_any y X)
          go_wp2_with fail
          refine (CPN.out _).mono ?_
          rintro e w7 ⟨rfl, hb7⟩
          have BN7 := Lib.hid (builder_below hb7 BNJ.out)
          have HB7 := Lib.hid (bstep HBJ.out hb7)
          have l1 := catI_le (L.take j)
          have l2 : (L.take j).length ≤ L.length := by rw [List.length_take]; omega
          have l3 := pN_size y
          have CW := Lib.hid (fun X hX hY => writeString_any w3.heap.size w3.heap.size (c :: catL putI (L.take j)) (pN y) X hX (by simp only [List.length_cons]; omega) hY)
          clear hb7 l1 l2 l3
          go_wp2_with fail
          refine (CW.out _ BN7.out HB7.out.size).mono ?_
          rintro e w8 ⟨rfl, bn8, hb8⟩
          have BN8 := Lib.hid bn8
          have HB8 := Lib.hid (HB7.out.trans hb8)
          clear bn8 hb8
          go_wp2_with fail
          go_roundw
          case rel =>
            refine ⟨j + 1, by omega, by go_num, ?_, HB8.out⟩
            rw [catL_take hlt, HY.out]
            exact BN8.out
          case measure => simp [intOf]; omega
        · have g : ¬ ((j : Int) < (L.length : Int)) := by omega
          have htk : L.take j = L := List.take_of_length_le (by omega)
          have bnl := BNJ.out
          rw [htk] at bnl
          have BNL := Lib.hid bnl
          have l1 := catI_le L
          have hs1 : (bstr (c :: catL putI L)).size ≤ 100 := by rw [bstr_size, List.length_cons]; omega
          have HBY := Lib.hid (HBODY.out _ rfl)
          have CS := Lib.hid (fun X hX hY => builder_string w3.heap.size w3.heap.size (c :: catL putI L) X hX hY)
          generalize bstr (c :: catL putI L) = S1 at CS hs1 HBY
          have a1 : ∀ W : World, (Op.stringOp .add S1 R).run Tryz.prog W = .ok (.string (S1 ++ R)) W := fun W => run_string_add_sum (P := Tryz.prog) (w := W) _ _ (by omega)
          clear htk bnl l1
          go_wp2_with fail
          refine (CS.out _ BNL.out HBJ.out.size).mono ?_
          rintro e w9 ⟨rfl, hb9⟩
          have HB9 := Lib.hid (HBJ.out.trans hb9)
          clear hb9
          go_wp2_with fail
          go_ret
          exact ⟨by rw [HPUT.out, HBY.out]; rfl, bstep HB3.out HB9.out⟩

theorem right_iff_put (m : Msg) : (putM m).toList.isEmpty = !rightM m := by
  rw [Bool.eq_iff_iff, List.isEmpty_iff, ByteArray.toList_eq]
  cases h : rightM m
  · rw [putM_not h]; simp
  · rw [putM_list h]; simp

theorem right_gen (v : Value) (m : Msg) (q : Bool) (hq : rightM m = q) (w : World) (CP : Calls Tryz.prog 10 #[v] w fun e w' => e = .returned (.string (putM m)) ∧ Below w.heap.size w w') (hv : ∃ T p, v = .iface T p) :
    Calls Tryz.prog 8 #[v] w fun e w' => e = .returned (.bool q) ∧ Below w.heap.size w w' := by
  have H := right_iff_put m
  rw [hq] at H
  have CP0 := Lib.hid CP
  obtain ⟨T, p, rfl⟩ := hv
  clear CP hq
  generalize putM m = s at H CP0
  cases q with
  | true =>
    have g : s.toList.isEmpty = false := H
    clear H
    go_enter Tryz.func8, Tryz.ntmps8
    go_wp2_with fail
    refine CP0.out.mono ?_
    rintro e w1 ⟨rfl, hb1⟩
    go_wp2_with fail
    go_ret
    exact ⟨rfl, hb1⟩
  | false =>
    have g : s.toList.isEmpty = true := H
    clear H
    go_enter Tryz.func8, Tryz.ntmps8
    go_wp2_with fail
    refine CP0.out.mono ?_
    rintro e w1 ⟨rfl, hb1⟩
    go_wp2_with fail
    go_ret
    exact ⟨rfl, hb1⟩
end Go.Proofs.YtflojipkgaocnaaGreatDoor
