/-
  message.Put and message.Right at the messages that a client tells. Printed by gen_rt.py of this claim's writer.
-/
import Derived.Test.YtapgjjfndbfnpaaDoorRtOne
import Derived.Test.YtapgjjfndbfnpaaDoorRegInv
import Derived.Test.YtapgjjfndbfnpaaDoorBuild
namespace Go.Proofs.YtapgjjfndbfnpaaDoor.Ms
open Go.RowKit
set_option linter.unusedSimpArgs false
set_option linter.unusedVariables false


/-- The bytes of the rest of a message, and whether it is right. -/
def GotRest (m : Msg) (w : World) (e : Ending) (w' : World) : Prop := e = .returned (.tuple #[.string (bstr m.rest), .bool m.restOk]) ∧ Below w.heap.size w w'
theorem nums_le (m : Msg) : m.nums.length ≤ 6 := by cases m <;> simp [Msg.nums]
theorem putI_le (n : Int) : (putI n).length ≤ 6 := putN_len6 (clampN_le n)
theorem catI_le : ∀ l : List Int, (catL putI l).length ≤ 6 * l.length
  | [] => by simp [catL]
  | n :: l => by
    have h1 := catI_le l
    have h2 := putI_le n
    rw [catL_cons, List.length_append, List.length_cons]
    omega
theorem catL_take {α : Type} {put : α → List UInt8} {l : List α} {k : Nat} (h : k < l.length) : catL put (l.take (k + 1)) = catL put (l.take k) ++ put l[k] := by
  unfold catL
  rw [List.take_succ_eq_append_getElem h, List.flatMap_append]
  simp
theorem any_numM (l : List Int) : l.any (fun x => !numM x) = !(l.all numM) := by
  induction l with
  | nil => rfl
  | cons a l ih => simp only [List.any_cons, List.all_cons, ih, Bool.not_and]

set_option maxRecDepth 100000 in
set_option maxHeartbeats 3200000 in
theorem put_gen (v : Value) (m : Msg) (w : World) (hk : HasKind v m.kind) (hsz : m.rest.length ≤ 100000000)
    (CN : ∀ X : World, Below w.heap.size w X → Calls Tryd.prog 63 #[v] X fun e w' => GotNums m.nums X e w')
    (CP : ∀ X : World, Below w.heap.size w X → Calls Tryd.prog 67 #[v] X fun e w' => GotRest m X e w') :
    Calls Tryd.prog 49 #[v] w fun e w' => e = .returned (.string (putM m)) ∧ Below w.heap.size w w' := by
  have CN0 := Lib.hid CN
  have CP0 := Lib.hid CP
  obtain ⟨T, p, F, rfl, hm, hcf, hc⟩ := hk
  have HC := Lib.hid hc
  have hkb := kind_bd m
  have hn6 := nums_le m
  obtain ⟨bad, hbad⟩ : ∃ b, m.nums.any (fun x => !numM x) = b := ⟨_, rfl⟩
  obtain ⟨ok, hok⟩ : ∃ b, m.restOk = b := ⟨_, rfl⟩
  have hright : rightM m = (!bad && ok) := by rw [rightM, ← hbad, ← hok, any_numM, Bool.not_not]
  have hcon := fun (X : World) (u : Value) (hu : IsNums X.heap.size X u m.nums) => conI_any X.heap.size u m.nums bad hbad X hu (Nat.le_refl _)
  have HCON := Lib.hid hcon
  have hput : putM m = if (!bad && ok) = true then bstr (UInt8.ofNat m.kind :: bodyM m) else ⟨#[]⟩ := by rw [putM, hright]
  have HPUT := Lib.hid hput
  have HOK := Lib.hid hok
  have hkn := kind_nat m
  have hrl : (bstr m.rest).size ≤ 100000000 := by rw [bstr_size]; exact hsz
  have hbody : ∀ s : ByteArray, s = bstr (UInt8.ofNat m.kind :: catL putI m.nums) → s ++ bstr m.rest = bstr (UInt8.ofNat m.kind :: bodyM m) := by
    rintro s rfl
    apply ext_listE
    rw [list_addE, bstr_list, bstr_list, bstr_list, List.cons_append]
    rfl
  have HBODY := Lib.hid hbody
  unfold GotRest at CP0
  rw [hok] at CP0
  generalize hR : bstr m.rest = R at CP0 hrl HBODY
  generalize hL : m.nums = L at CN0 HCON hn6 HBODY
  obtain ⟨c, hcc⟩ : ∃ c, UInt8.ofNat m.kind = c := ⟨_, rfl⟩
  rw [hcc] at hkn HBODY HPUT
  generalize m.kind = k at hkn HC hkb
  have HKN := Lib.hid hkn
  clear CN CP hc hbad hok hright hcon hput hkn hbody hR hL hcc hsz HOK
  cases bad with
  | true =>
    go_enter Tryd.func49, Tryd.ntmps49
    go_wp2_with fail
    refine (CN0.out _ (Below.refl _ _)).mono ?_
    rintro e w1 ⟨u, rfl, hu, hb1⟩
    have HU := Lib.hid hu
    have HB1 := Lib.hid hb1
    obtain ⟨au, cu, rfl⟩ := hu.form
    clear hu hb1
    go_wp2_with fail
    refine (HCON.out _ _ HU.out).mono ?_
    rintro e w2 ⟨rfl, hb2⟩
    have HB2 := Lib.hid hb2
    clear hb2
    go_wp2_with fail
    go_ret
    exact ⟨by rw [HPUT.out]; rfl, bstep HB1.out HB2.out⟩
  | false =>
    cases ok with
    | false =>
      go_enter Tryd.func49, Tryd.ntmps49
      go_wp2_with fail
      refine (CN0.out _ (Below.refl _ _)).mono ?_
      rintro e w1 ⟨u, rfl, hu, hb1⟩
      have HU := Lib.hid hu
      have HB1 := Lib.hid hb1
      obtain ⟨au, cu, rfl⟩ := hu.form
      clear hu hb1
      go_wp2_with fail
      refine (HCON.out _ _ HU.out).mono ?_
      rintro e w2 ⟨rfl, hb2⟩
      have HB2 := Lib.hid (bstep HB1.out hb2)
      clear hb2
      go_wp2_with fail
      refine (CP0.out _ HB2.out).mono ?_
      rintro e w3 ⟨rfl, hb3⟩
      have HB3 := Lib.hid (bstep HB2.out hb3)
      clear hb3
      go_wp2_with fail
      go_ret
      exact ⟨by rw [HPUT.out]; rfl, HB3.out⟩
    | true =>
      go_enter Tryd.func49, Tryd.ntmps49
      go_wp2_with fail
      refine (CN0.out _ (Below.refl _ _)).mono ?_
      rintro e w1 ⟨u, rfl, hu, hb1⟩
      have HU := Lib.hid hu
      have HB1 := Lib.hid hb1
      obtain ⟨au, cu, rfl⟩ := hu.form
      clear hu hb1
      go_wp2_with fail
      refine (HCON.out _ _ HU.out).mono ?_
      rintro e w2 ⟨rfl, hb2⟩
      have HU2 := Lib.hid ((HU.out.keep hb2 (Nat.le_refl _)).up hb2.size)
      have HB2 := Lib.hid (bstep HB1.out hb2)
      clear hb2
      go_wp2_with fail
      refine (CP0.out _ HB2.out).mono ?_
      rintro e w3 ⟨rfl, hb3⟩
      have HU3 := Lib.hid ((HU2.out.keep hb3 (Nat.le_refl _)).up hb3.size)
      have HB3 := Lib.hid (bstep HB2.out hb3)
      clear hb3
      have BN := Lib.hid (builder_new w3)
      have HB4 := Lib.hid (HB3.out.alloc (by have := HB3.out.size; omega) (.cells #[.pointer none, .slice none 0 0] 143))
      have HA3 := Lib.hid ((Below.refl w3.heap.size w3).alloc (Nat.le_refl _) (.cells #[.pointer none, .slice none 0 0] 143))
      go_wp2_with fail
      refine (HC.out _).mono ?_
      rintro e w5 ⟨rfl, hb5⟩
      have BN5 := Lib.hid (builder_below hb5 BN.out)
      have HA5 := Lib.hid (bstep HA3.out hb5)
      have ku : IntKind.u8.wrap (k : Int) = (c.toNat : Int) := by rw [HKN.out, IntKind.wrap_u8]; omega
      clear hb5
      go_wp2_with fail
      refine (writeByte_any w3.heap.size w3.heap.size [] c _ BN5.out (by simp) HA5.out.size).mono ?_
      rintro e w6 ⟨rfl, bn6, hb6⟩
      have BN6 := Lib.hid bn6
      have HA6 := Lib.hid (HA5.out.trans hb6)
      clear bn6 hb6 ku
      go_wp2_with fail
      go_loopw [9, 34] (fun _ t34 wr => ∃ j : Nat, j ≤ L.length ∧ t34 = .int .i64 j ∧ Lib.IsBuilder 143 5 w3.heap.size w3.heap.size (bcells (c :: catL putI (L.take j))) wr ∧ Below w3.heap.size w3 wr) (fun _ t34 _ => L.length - (intOf t34).toNat)
      case atStart => exact ⟨0, Nat.zero_le _, rfl, BN6.out, HA6.out⟩
      case round =>
        obtain ⟨j, hj, rfl, bnj, hbj⟩ := hrel
        have BNJ := Lib.hid bnj
        have HBJ := Lib.hid hbj
        clear bnj hbj
        by_cases hlt : j < L.length
        · obtain ⟨b, off, cap', he, hblk, _, hc1⟩ := (HU3.out.keep HBJ.out (Nat.le_refl _)).at1 j hlt
          obtain ⟨rfl, -, rfl⟩ : au = some ⟨b, off, none⟩ ∧ L.length = L.length ∧ cu = cap' := by injection he with e1 e2 e3; exact ⟨e1, e2, e3⟩
          clear he
          obtain ⟨y, hy⟩ : ∃ y, L[j] = y := ⟨_, rfl⟩
          rw [hy] at hc1
          have HY := Lib.hid hy
          have i1 : (0 : Int) ≤ (j : Int) := by omega
          have i2 : (j : Int) < (L.length : Int) := by omega
          clear hy
          have CPN := Lib.hid (fun X : World => pN_any y X)
          go_wp2_with fail
          refine (CPN.out _).mono ?_
          rintro e w7 ⟨rfl, hb7⟩
          have BN7 := Lib.hid (builder_below hb7 BNJ.out)
          have HB7 := Lib.hid (bstep HBJ.out hb7)
          have l1 := catI_le (L.take j)
          have l2 : (L.take j).length ≤ L.length := by rw [List.length_take]; omega
          have l3 := pN_size y
          have CW := Lib.hid (fun X hX hY => writeString_any w3.heap.size w3.heap.size (c :: catL putI (L.take j)) (pN y) X hX (by simp only [List.length_cons]; omega) hY)
          clear hb7 l1 l2 l3
          go_wp2_with fail
          refine (CW.out _ BN7.out HB7.out.size).mono ?_
          rintro e w8 ⟨rfl, bn8, hb8⟩
          have BN8 := Lib.hid bn8
          have HB8 := Lib.hid (HB7.out.trans hb8)
          clear bn8 hb8
          go_wp2_with fail
          go_roundw
          case rel =>
            refine ⟨j + 1, by omega, by go_num, ?_, HB8.out⟩
            rw [catL_take hlt, HY.out]
            exact BN8.out
          case measure => simp [intOf]; omega
        · have g : ¬ ((j : Int) < (L.length : Int)) := by omega
          have htk : L.take j = L := List.take_of_length_le (by omega)
          have bnl := BNJ.out
          rw [htk] at bnl
          have BNL := Lib.hid bnl
          have l1 := catI_le L
          have hs1 : (bstr (c :: catL putI L)).size ≤ 100 := by rw [bstr_size, List.length_cons]; omega
          have HBY := Lib.hid (HBODY.out _ rfl)
          have CS := Lib.hid (fun X hX hY => builder_string w3.heap.size w3.heap.size (c :: catL putI L) X hX hY)
          generalize bstr (c :: catL putI L) = S1 at CS hs1 HBY
          have a1 : ∀ W : World, (Op.stringOp .add S1 R).run Tryd.prog W = .ok (.string (S1 ++ R)) W := fun W => run_string_add_sum (P := Tryd.prog) (w := W) _ _ (by omega)
          clear htk bnl l1
          go_wp2_with fail
          refine (CS.out _ BNL.out HBJ.out.size).mono ?_
          rintro e w9 ⟨rfl, hb9⟩
          have HB9 := Lib.hid (HBJ.out.trans hb9)
          clear hb9
          go_wp2_with fail
          go_ret
          exact ⟨by rw [HPUT.out, HBY.out]; rfl, bstep HB3.out HB9.out⟩

theorem right_iff_put (m : Msg) : (putM m).toList.isEmpty = !rightM m := by
  rw [Bool.eq_iff_iff, List.isEmpty_iff, ByteArray.toList_eq]
  cases h : rightM m
  · rw [putM_not h]; simp
  · rw [putM_list h]; simp

theorem right_gen (v : Value) (m : Msg) (q : Bool) (hq : rightM m = q) (w : World) (CP : Calls Tryd.prog 49 #[v] w fun e w' => e = .returned (.string (putM m)) ∧ Below w.heap.size w w') (hv : ∃ T p, v = .iface T p) :
    Calls Tryd.prog 28 #[v] w fun e w' => e = .returned (.bool q) ∧ Below w.heap.size w w' := by
  have H := right_iff_put m
  rw [hq] at H
  have CP0 := Lib.hid CP
  obtain ⟨T, p, rfl⟩ := hv
  clear CP hq
  generalize putM m = s at H CP0
  cases q with
  | true =>
    have g : s.toList.isEmpty = false := H
    clear H
    go_enter Tryd.func28, Tryd.ntmps28
    go_wp2_with fail
    refine CP0.out.mono ?_
    rintro e w1 ⟨rfl, hb1⟩
    go_wp2_with fail
    go_ret
    exact ⟨rfl, hb1⟩
  | false =>
    have g : s.toList.isEmpty = true := H
    clear H
    go_enter Tryd.func28, Tryd.ntmps28
    go_wp2_with fail
    refine CP0.out.mono ?_
    rintro e w1 ⟨rfl, hb1⟩
    go_wp2_with fail
    go_ret
    exact ⟨rfl, hb1⟩


set_option maxRecDepth 100000 in
set_option maxHeartbeats 3200000 in
theorem parts_plain (v : Value) (k : Nat) (hk : HasKind v k) (h : k ≠ 4 ∧ k ≠ 6 ∧ k ≠ 7 ∧ k ≠ 11 ∧ k ≠ 12 ∧ k ≠ 14) (w : World) :
    Calls Tryd.prog 67 #[v] w fun e w' => e = .returned (.tuple #[.string ⟨#[]⟩, .bool true]) ∧ Below w.heap.size w w' := by
  obtain ⟨T, p, F, rfl, hm, hcf, hc⟩ := hk
  have HC := Lib.hid hc
  have g1 : ((k : Int) == 4) = false := by rw [beq_eq_false_iff_ne]; omega
  have g2 : ((k : Int) == 6) = false := by rw [beq_eq_false_iff_ne]; omega
  have g3 : ((k : Int) == 7) = false := by rw [beq_eq_false_iff_ne]; omega
  have g4 : ((k : Int) == 11) = false := by rw [beq_eq_false_iff_ne]; omega
  have g5 : ((k : Int) == 12) = false := by rw [beq_eq_false_iff_ne]; omega
  have g6 : ((k : Int) == 14) = false := by rw [beq_eq_false_iff_ne]; omega
  clear hc h
  go_enter Tryd.func67, Tryd.ntmps67
  go_wp2_with fail
  refine (HC.out _).mono ?_
  rintro e w1 ⟨rfl, hb1⟩
  have HB := Lib.hid hb1
  clear hb1
  go_wp2_with fail
  go_ret2
  exact ⟨rfl, bstep ((Below.refl _ _).alloc (Nat.le_refl _) _) HB.out⟩

theorem run_fieldA (x0 x1 x2 x3 x4 x5 : Value) (W : World) : (Instr.field 52 (.agg #[x0, x1, x2, x3, x4, x5]) 1).run Tryd.prog W = .ok (.agg #[x1, x2, x3, x4, x5]) W := by kernel_rfl
/-- PutBatch, of any batch. -/
theorem putB_all (B : Nat) (v : Value) (b : BW) (s : ByteArray) (hs : putB b = s) (w : World) (h : IsBatch B w v b) (hB : B ≤ w.heap.size) (hT : Tabs w) :
    Calls Tryd.prog 82 #[v] w fun r w' => r = .returned (.string s) ∧ Below w.heap.size w w' := by
  by_cases hf : fitsB b = 0
  · exact putB_any B v b s hs w h hB hT (fits_light hf)
  · obtain ⟨lv, rfl, hl⟩ := h
    have HL := Lib.hid hl
    obtain ⟨a, cap, rfl⟩ := hl.form
    obtain rfl : ⟨#[]⟩ = s := by rw [← hs, putB, if_neg hf]
    have hb0 : Below w.heap.size w (w.alloc (.cells #[.string b.stream, .int .i64 b.expect, .int .i64 b.session, .int .i64 b.seq, .slice a b.events.length cap] 24)) := (Below.refl _ _).alloc (Nat.le_refl _) _
    have CF := Lib.hid (fits_any B _ b _ rfl _ ⟨_, rfl, HL.out.keep hb0 hB⟩ (Nat.le_trans hB hb0.size) (tabs_below hT hb0))
    have g : ((fitsB b : Int) != 0) = true := by rw [bne_iff_ne]; omega
    clear hl hs hf
    generalize fitsB b = c at g CF
    go_enter Tryd.func82, Tryd.ntmps82
    go_wp2_with fail
    refine CF.out.mono ?_
    rintro r w1 ⟨rfl, hb1⟩
    go_wp2_with fail
    go_ret
    exact ⟨rfl, bstep hb0 hb1⟩

set_option maxRecDepth 100000 in
set_option maxHeartbeats 3200000 in
theorem parts_app (B : Nat) (v : Value) (a : Int) (b : BW) (w : World) (h : IsMsg B w v (.app a b)) (hB : B ≤ w.heap.size) (hT : Tabs w) :
    Calls Tryd.prog 67 #[v] w fun e w' => GotRest (.app a b) w e w' := by
  have HK : HasKind v 11 := hasKind h
  obtain ⟨lv, rfl, hl⟩ := h
  have HL := Lib.hid hl
  have HT := Lib.hid hT
  obtain ⟨ea, ec, rfl⟩ := hl.form
  obtain ⟨T, p, F, hv, hm, hcf, hc⟩ := HK
  injection hv with hv1 hv2
  subst hv1 hv2
  have HC := Lib.hid hc
  obtain ⟨s, hs⟩ : ∃ s, putB b = s := ⟨_, rfl⟩
  have hne : s.toList = [] ↔ ¬ fitsB b = 0 := by
    rw [← hs]
    constructor
    · intro e hf
      refine pb_ne hf ?_
      rw [← e, ByteArray.toList_eq]
    · intro hf
      rw [putB, if_neg hf, ByteArray.toList_eq]
  have HS := Lib.hid (fun (X : World) (hX : Below w.heap.size w X) => putB_all B _ b s hs X ⟨_, rfl, HL.out.keep hX hB⟩ (Nat.le_trans hB hX.size) (tabs_below HT.out hX))
  have hrest : bstr (Msg.app a b).rest = s := by rw [← hs]; rfl
  have HR := Lib.hid hrest
  have HN := Lib.hid hne
  have ta : ∀ (W : World) (v : Value), (Instr.typeAssert (.iface 52 v) 48 52 false).run Tryd.prog W = .ok v W := fun W v => by kernel_rfl
  have fa := fun (W : World) (x0 x1 x2 x3 x4 x5 : Value) => run_fieldA x0 x1 x2 x3 x4 x5 W
  clear hl hT hc hs hne hrest
  have HB0 := Lib.hid ((Below.refl w.heap.size w).alloc (Nat.le_refl _) (.cells #[.pointer none, .slice none 0 0] 143))
  by_cases hf : fitsB b = 0
  · have q1 : s.toList.isEmpty = false := by
      cases e : s.toList.isEmpty
      · rfl
      · exact absurd hf (HN.out.1 (List.isEmpty_iff.1 e))
    have Hf := Lib.hid hf
    clear hf
    go_enter Tryd.func67, Tryd.ntmps67
    go_wp2_with fail
    refine (HC.out _).mono ?_
    rintro e w1 ⟨rfl, hb1⟩
    have HB := Lib.hid (bstep HB0.out hb1)
    clear hb1
    go_wp2_with fail
    refine (HS.out _ HB.out).mono ?_
    rintro e w2 ⟨rfl, hb2⟩
    have HB2 := Lib.hid hb2
    clear hb2
    go_wp2_with fail
    go_ret2
    refine ⟨?_, bstep HB.out HB2.out⟩
    rw [HR.out, Msg.restOk, Hf.out]
    rfl
  · have q1 : s.toList.isEmpty = true := List.isEmpty_iff.2 (HN.out.2 hf)
    have Hf := Lib.hid hf
    clear hf
    go_enter Tryd.func67, Tryd.ntmps67
    go_wp2_with fail
    refine (HC.out _).mono ?_
    rintro e w1 ⟨rfl, hb1⟩
    have HB := Lib.hid (bstep HB0.out hb1)
    clear hb1
    go_wp2_with fail
    refine (HS.out _ HB.out).mono ?_
    rintro e w2 ⟨rfl, hb2⟩
    have HB2 := Lib.hid hb2
    clear hb2
    go_wp2_with fail
    go_ret2
    refine ⟨?_, bstep HB.out HB2.out⟩
    rw [HR.out, Msg.restOk, decide_eq_false Hf.out]
    rfl

theorem box3 {w W : World} {a0 a1 a2 : Value} {t : TypeId} (hb : Below (w.heap.size + 1) (w.alloc (.cells #[a0, a1, a2] t)) W) : W.cell? ⟨w.heap.size, 0, none⟩ = some a0 ∧ W.cell? ⟨w.heap.size, 1, none⟩ = some a1 ∧ W.cell? ⟨w.heap.size, 2, none⟩ = some a2 :=
  ⟨(hb.cell (p := ⟨w.heap.size, 0, none⟩) (by simp)).trans (by simp), (hb.cell (p := ⟨w.heap.size, 1, none⟩) (by simp)).trans (by simp), (hb.cell (p := ⟨w.heap.size, 2, none⟩) (by simp)).trans (by simp)⟩

set_option maxRecDepth 100000 in
set_option maxHeartbeats 6400000 in
theorem parts_red (B : Nat) (v : Value) (a : Int) (s : ByteArray) (f : Int) (w : World) (h : IsMsg B w v (.red a s f)) (hT : Tabs w) (hs : s.size ≤ 1000000) :
    Calls Tryd.prog 67 #[v] w fun e w' => GotRest (.red a s f) w e w' := by
  have HK : HasKind v 12 := hasKind h
  obtain rfl := h
  have HT := Lib.hid hT
  obtain ⟨T, p, F, hv, hm, hcf, hc⟩ := HK
  injection hv with hv1 hv2
  subst hv1 hv2
  have HC := Lib.hid hc
  have z1 := pT_size s
  have z2 := pN_size f
  have C1 := Lib.hid (pT_any s (by omega))
  have C2 := Lib.hid (pN_any f)
  obtain ⟨q, hq⟩ : ∃ q, nameB s = q := ⟨_, rfl⟩
  have C3 := Lib.hid (fun (X : World) (hX : Tabs X) => name_any s q hq X hX)
  obtain ⟨q2, hq2⟩ : ∃ q, numM f = q := ⟨_, rfl⟩
  have C4 := Lib.hid (numM_any f q2 hq2)
  have hrest : bstr (Msg.red a s f).rest = pT s ++ pN f := by
    apply ext_listE
    rw [list_addE]
    rfl
  have hok : (Msg.red a s f).restOk = (q && q2) := by rw [← hq, ← hq2]; rfl
  have HR := Lib.hid hrest
  have HOK := Lib.hid hok
  have ta : ∀ (W : World) (v : Value), (Instr.typeAssert (.iface 120 v) 48 120 false).run Tryd.prog W = .ok v W := fun W v => by kernel_rfl
  have HB0 := Lib.hid ((Below.refl w.heap.size w).alloc (Nat.le_refl _) (.cells #[.pointer none, .slice none 0 0] 143))
  generalize pT s = P1 at z1 C1 HR
  generalize pN f = P2 at z2 C2 HR
  have a1 : ∀ W : World, (Op.stringOp .add P1 P2).run Tryd.prog W = .ok (.string (P1 ++ P2)) W := fun W => run_string_add_sum (P := Tryd.prog) (w := W) _ _ (by omega)
  clear hT hc hrest hok hq hq2 hs
  cases q with
  | false =>
    go_enter Tryd.func67, Tryd.ntmps67
    go_wp2_with fail
    refine (HC.out _).mono ?_
    rintro e w1 ⟨rfl, hb1⟩
    have HB := Lib.hid (bstep HB0.out hb1)
    clear hb1
    have MKS := Lib.hid (fun (X' : World) (hk : Below (w1.heap.size + 1) (w1.alloc (.cells #[.int .i64 a, .string s, .int .i64 f] 120)) X') => (show X'.cell? ⟨w1.heap.size, 1, none⟩ = some (.string s) ∧ X'.cell? ⟨w1.heap.size, 2, none⟩ = some (.int .i64 f) ∧ Below (w1.heap.size + 1) (w1.alloc (.cells #[.int .i64 a, .string s, .int .i64 f] 120)) X' from ⟨(box3 hk).2.1, (box3 hk).2.2, hk⟩))
    go_wp2_with fail
    refine region_begin (S := fun X' => X'.cell? ⟨w1.heap.size, 1, none⟩ = some (.string s) ∧ X'.cell? ⟨w1.heap.size, 2, none⟩ = some (.int .i64 f) ∧ Below (w1.heap.size + 1) (w1.alloc (.cells #[.int .i64 a, .string s, .int .i64 f] 120)) X') 17 rfl (by kernel_rfl) (MKS.out _ (bx_new (w := w1) (.cells #[.int .i64 a, .string s, .int .i64 f] 120)).drew) (fun hH0 => ?_)
    refine wpAnyH_take (i := 0) (oi := ?on0) (v := ?vn0) ?hin0 (by kernel_rfl) (by kernel_rfl) (by kernel_rfl) ?hQn0 ?hyn0 hH0 ?_
    case hin0 => simp only [List.getElem?_toArray, List.getElem?_cons_zero]; rfl
    case hQn0 => exact fun _ _ _ h => h
    case hyn0 => refine Or.inl ⟨by rfl, ?_⟩; intro W hSw; (try dsimp only at hSw); go_simp; try with_reducible rfl
    simp only [Act.put, List.setIfInBounds_toArray, List.set_cons_zero, List.set_cons_succ]
    refine wpAnyH_take (i := 1) (oi := ?on1) (v := ?vn1) ?hin1 (by kernel_rfl) (by kernel_rfl) (by kernel_rfl) ?hQn1 ?hyn1 hH0 ?_
    case hin1 => simp only [List.getElem?_toArray, List.getElem?_cons_zero, List.getElem?_cons_succ]; rfl
    case hQn1 => exact fun _ _ _ h => h
    case hyn1 => refine Or.inl ⟨by rfl, ?_⟩; intro W hSw; (try dsimp only at hSw); go_simp; try with_reducible rfl
    simp only [Act.put, List.setIfInBounds_toArray, List.set_cons_zero, List.set_cons_succ]
    refine wpAnyH_take (i := 3) (oi := ?on3) (v := ?vn3) ?hin3 (by kernel_rfl) (by kernel_rfl) (by kernel_rfl) ?hQn3 ?hyn3 hH0 ?_
    case hin3 => simp only [List.getElem?_toArray, List.getElem?_cons_zero, List.getElem?_cons_succ]; rfl
    case hQn3 => exact fun _ _ _ h => h
    case hyn3 => refine Or.inl ⟨by rfl, ?_⟩; intro W hSw; (try dsimp only at hSw); go_simp; try with_reducible rfl
    simp only [Act.put, List.setIfInBounds_toArray, List.set_cons_zero, List.set_cons_succ]
    refine wpAnyH_take (i := 4) (oi := ?on4) (v := ?vn4) ?hin4 (by kernel_rfl) (by kernel_rfl) (by kernel_rfl) ?hQn4 ?hyn4 hH0 ?_
    case hin4 => simp only [List.getElem?_toArray, List.getElem?_cons_zero, List.getElem?_cons_succ]; rfl
    case hQn4 => exact fun _ _ _ h => h
    case hyn4 => refine Or.inl ⟨by rfl, ?_⟩; intro W hSw; (try dsimp only at hSw); go_simp; try with_reducible rfl
    simp only [Act.put, List.setIfInBounds_toArray, List.set_cons_zero, List.set_cons_succ]
    refine wpAnyH_take (i := 7) (oi := ?on7) (v := ?vn7) ?hin7 (by kernel_rfl) (by kernel_rfl) (by kernel_rfl) ?hQn7 ?hyn7 hH0 ?_
    case hin7 => simp only [List.getElem?_toArray, List.getElem?_cons_zero, List.getElem?_cons_succ]; rfl
    case hQn7 => exact fun _ _ _ h => h
    case hyn7 => refine Or.inl ⟨by rfl, ?_⟩; intro W hSw; (try dsimp only at hSw); go_simp; try with_reducible rfl
    simp only [Act.put, List.setIfInBounds_toArray, List.set_cons_zero, List.set_cons_succ]
    refine wpAnyH_take (i := 8) (oi := ?on8) (v := ?vn8) ?hin8 (by kernel_rfl) (by kernel_rfl) (by kernel_rfl) ?hQn8 ?hyn8 hH0 ?_
    case hin8 => simp only [List.getElem?_toArray, List.getElem?_cons_zero, List.getElem?_cons_succ]; rfl
    case hQn8 => exact fun _ _ _ h => h
    case hyn8 => refine Or.inl ⟨by rfl, ?_⟩; intro W hSw; (try dsimp only at hSw); go_simp; try with_reducible rfl
    simp only [Act.put, List.setIfInBounds_toArray, List.set_cons_zero, List.set_cons_succ]
    clear hH0
    have B1 := Lib.hid (bx_new (w := w1) (.cells #[.int .i64 a, .string s, .int .i64 f] 120)).drew
    refine wpAnyH_ready (rs := [2]) (by kernel_rfl) (by simp) ?_
    refine AllReadyH.cons (o := ?on2) ?hon2 (fun K' hK => ?_) AllReadyH.nil
    case hon2 => simp only [List.getElem?_toArray, List.getElem?_cons_zero, List.getElem?_cons_succ]; rfl
    go_simp
    refine (C1.out _).mono ?_
    rintro r w2 ⟨rfl, hb2⟩
    have B2 := Lib.hid (bx_more B1.out hb2)
    clear hb2
    refine hK.out _ _ (MKS.out _ B2.out) (fun hH1 => ?_)
    clear hK K'
    (try simp only [Act.put, List.setIfInBounds_toArray, List.set_cons_zero, List.set_cons_succ])
    clear hH1
    refine wpAnyH_ready (rs := [5]) (by kernel_rfl) (by simp) ?_
    refine AllReadyH.cons (o := ?on5) ?hon5 (fun K' hK => ?_) AllReadyH.nil
    case hon5 => simp only [List.getElem?_toArray, List.getElem?_cons_zero, List.getElem?_cons_succ]; rfl
    go_simp
    refine (C2.out _).mono ?_
    rintro r w3 ⟨rfl, hb3⟩
    have B3 := Lib.hid (bx_more B2.out hb3)
    clear hb3
    refine hK.out _ _ (MKS.out _ B3.out) (fun hH2 => ?_)
    clear hK K'
    (try simp only [Act.put, List.setIfInBounds_toArray, List.set_cons_zero, List.set_cons_succ])
    refine wpAnyH_take (i := 6) (oi := ?on6) (v := ?vn6) ?hin6 (by kernel_rfl) (by kernel_rfl) (by kernel_rfl) ?hQn6 ?hyn6 hH2 ?_
    case hin6 => simp only [List.getElem?_toArray, List.getElem?_cons_zero, List.getElem?_cons_succ]; rfl
    case hQn6 => exact fun _ _ _ h => h
    case hyn6 => refine Or.inl ⟨by rfl, ?_⟩; intro W hSw; (try dsimp only at hSw); go_simp; try with_reducible rfl
    simp only [Act.put, List.setIfInBounds_toArray, List.set_cons_zero, List.set_cons_succ]
    clear hH2
    refine wpAnyH_ready (rs := [9]) (by kernel_rfl) (by simp) ?_
    refine AllReadyH.cons (o := ?on9) ?hon9 (fun K' hK => ?_) AllReadyH.nil
    case hon9 => simp only [List.getElem?_toArray, List.getElem?_cons_zero, List.getElem?_cons_succ]; rfl
    go_simp
    refine (C3.out _ (tabs_below HT.out (bstep HB.out (bx_below B3.out)))).mono ?_
    rintro r w4 ⟨rfl, hb4⟩
    have B4 := Lib.hid (bx_more B3.out hb4)
    clear hb4
    refine hK.out _ _ (MKS.out _ B4.out) (fun hH3 => ?_)
    clear hK K'
    (try simp only [Act.put, List.setIfInBounds_toArray, List.set_cons_zero, List.set_cons_succ])
    refine wpAnyH_take (i := 10) (oi := ?on10) (v := ?vn10) ?hin10 (by kernel_rfl) (by kernel_rfl) (by kernel_rfl) ?hQn10 ?hyn10 hH3 ?_
    case hin10 => simp only [List.getElem?_toArray, List.getElem?_cons_zero, List.getElem?_cons_succ]; rfl
    case hQn10 => exact fun _ _ _ h => h
    case hyn10 => refine Or.inl ⟨by rfl, ?_⟩; intro W hSw; (try dsimp only at hSw); go_simp; try with_reducible rfl
    simp only [Act.put, List.setIfInBounds_toArray, List.set_cons_zero, List.set_cons_succ]
    refine wpAnyH_take (i := 11) (oi := ?on11) (v := undef) ?hin11 (by kernel_rfl) (by kernel_rfl) (by kernel_rfl) ?hQn11 ?hyn11 hH3 ?_
    case hin11 => simp only [List.getElem?_toArray, List.getElem?_cons_zero, List.getElem?_cons_succ]; rfl
    case hQn11 => exact fun _ _ _ h => h
    case hyn11 => exact Or.inr ⟨by rfl, rfl⟩
    simp only [Act.put, List.setIfInBounds_toArray, List.set_cons_zero, List.set_cons_succ]
    refine wpAnyH_take (i := 12) (oi := ?on12) (v := undef) ?hin12 (by kernel_rfl) (by kernel_rfl) (by kernel_rfl) ?hQn12 ?hyn12 hH3 ?_
    case hin12 => simp only [List.getElem?_toArray, List.getElem?_cons_zero, List.getElem?_cons_succ]; rfl
    case hQn12 => exact fun _ _ _ h => h
    case hyn12 => exact Or.inr ⟨by rfl, rfl⟩
    simp only [Act.put, List.setIfInBounds_toArray, List.set_cons_zero, List.set_cons_succ]
    refine wpAnyH_take (i := 13) (oi := ?on13) (v := undef) ?hin13 (by kernel_rfl) (by kernel_rfl) (by kernel_rfl) ?hQn13 ?hyn13 hH3 ?_
    case hin13 => simp only [List.getElem?_toArray, List.getElem?_cons_zero, List.getElem?_cons_succ]; rfl
    case hQn13 => exact fun _ _ _ h => h
    case hyn13 => exact Or.inr ⟨by rfl, rfl⟩
    simp only [Act.put, List.setIfInBounds_toArray, List.set_cons_zero, List.set_cons_succ]
    refine wpAnyH_take (i := 14) (oi := ?on14) (v := ?vn14) ?hin14 (by kernel_rfl) (by kernel_rfl) (by kernel_rfl) ?hQn14 ?hyn14 hH3 ?_
    case hin14 => simp only [List.getElem?_toArray, List.getElem?_cons_zero, List.getElem?_cons_succ]; rfl
    case hQn14 => exact fun _ _ _ h => h
    case hyn14 => refine Or.inl ⟨by rfl, ?_⟩; intro W hSw; (try dsimp only at hSw); go_simp; try with_reducible rfl
    simp only [Act.put, List.setIfInBounds_toArray, List.set_cons_zero, List.set_cons_succ]
    clear hH3
    refine wpAnyH_ready (rs := [15]) (by kernel_rfl) (by simp) ?_
    refine AllReadyH.cons (o := ?on15) ?hon15 (fun K' hK => ?_) AllReadyH.nil
    case hon15 => simp only [List.getElem?_toArray, List.getElem?_cons_zero, List.getElem?_cons_succ]; rfl
    go_simp
    refine hK.out _ _ (MKS.out _ B4.out) (fun hH4 => ?_)
    clear hK K'
    (try simp only [Act.put, List.setIfInBounds_toArray, List.set_cons_zero, List.set_cons_succ])
    clear hH4
    refine wpAnyH_ready (rs := [16]) (by kernel_rfl) (by simp) ?_
    refine AllReadyH.cons (o := ?on16) ?hon16 (fun K' hK => ?_) AllReadyH.nil
    case hon16 => simp only [List.getElem?_toArray, List.getElem?_cons_zero, List.getElem?_cons_succ]; rfl
    go_simp
    refine hK.out _ _ (MKS.out _ B4.out) (fun hH5 => ?_)
    clear hK K'
    (try simp only [Act.put, List.setIfInBounds_toArray, List.set_cons_zero, List.set_cons_succ])
    clear hH5
    refine wpAnyH_done (by kernel_rfl) ?_ _
    go_wp2_with fail
    go_ret2
    exact ⟨by rw [HR.out, HOK.out]; rfl, bstep HB.out (bx_below B4.out)⟩
  | true =>
    go_enter Tryd.func67, Tryd.ntmps67
    go_wp2_with fail
    refine (HC.out _).mono ?_
    rintro e w1 ⟨rfl, hb1⟩
    have HB := Lib.hid (bstep HB0.out hb1)
    clear hb1
    have MKS := Lib.hid (fun (X' : World) (hk : Below (w1.heap.size + 1) (w1.alloc (.cells #[.int .i64 a, .string s, .int .i64 f] 120)) X') => (show X'.cell? ⟨w1.heap.size, 1, none⟩ = some (.string s) ∧ X'.cell? ⟨w1.heap.size, 2, none⟩ = some (.int .i64 f) ∧ Below (w1.heap.size + 1) (w1.alloc (.cells #[.int .i64 a, .string s, .int .i64 f] 120)) X' from ⟨(box3 hk).2.1, (box3 hk).2.2, hk⟩))
    go_wp2_with fail
    refine region_begin (S := fun X' => X'.cell? ⟨w1.heap.size, 1, none⟩ = some (.string s) ∧ X'.cell? ⟨w1.heap.size, 2, none⟩ = some (.int .i64 f) ∧ Below (w1.heap.size + 1) (w1.alloc (.cells #[.int .i64 a, .string s, .int .i64 f] 120)) X') 17 rfl (by kernel_rfl) (MKS.out _ (bx_new (w := w1) (.cells #[.int .i64 a, .string s, .int .i64 f] 120)).drew) (fun hH0 => ?_)
    refine wpAnyH_take (i := 0) (oi := ?oy0) (v := ?vy0) ?hiy0 (by kernel_rfl) (by kernel_rfl) (by kernel_rfl) ?hQy0 ?hyy0 hH0 ?_
    case hiy0 => simp only [List.getElem?_toArray, List.getElem?_cons_zero]; rfl
    case hQy0 => exact fun _ _ _ h => h
    case hyy0 => refine Or.inl ⟨by rfl, ?_⟩; intro W hSw; (try dsimp only at hSw); go_simp; try with_reducible rfl
    simp only [Act.put, List.setIfInBounds_toArray, List.set_cons_zero, List.set_cons_succ]
    refine wpAnyH_take (i := 1) (oi := ?oy1) (v := ?vy1) ?hiy1 (by kernel_rfl) (by kernel_rfl) (by kernel_rfl) ?hQy1 ?hyy1 hH0 ?_
    case hiy1 => simp only [List.getElem?_toArray, List.getElem?_cons_zero, List.getElem?_cons_succ]; rfl
    case hQy1 => exact fun _ _ _ h => h
    case hyy1 => refine Or.inl ⟨by rfl, ?_⟩; intro W hSw; (try dsimp only at hSw); go_simp; try with_reducible rfl
    simp only [Act.put, List.setIfInBounds_toArray, List.set_cons_zero, List.set_cons_succ]
    refine wpAnyH_take (i := 3) (oi := ?oy3) (v := ?vy3) ?hiy3 (by kernel_rfl) (by kernel_rfl) (by kernel_rfl) ?hQy3 ?hyy3 hH0 ?_
    case hiy3 => simp only [List.getElem?_toArray, List.getElem?_cons_zero, List.getElem?_cons_succ]; rfl
    case hQy3 => exact fun _ _ _ h => h
    case hyy3 => refine Or.inl ⟨by rfl, ?_⟩; intro W hSw; (try dsimp only at hSw); go_simp; try with_reducible rfl
    simp only [Act.put, List.setIfInBounds_toArray, List.set_cons_zero, List.set_cons_succ]
    refine wpAnyH_take (i := 4) (oi := ?oy4) (v := ?vy4) ?hiy4 (by kernel_rfl) (by kernel_rfl) (by kernel_rfl) ?hQy4 ?hyy4 hH0 ?_
    case hiy4 => simp only [List.getElem?_toArray, List.getElem?_cons_zero, List.getElem?_cons_succ]; rfl
    case hQy4 => exact fun _ _ _ h => h
    case hyy4 => refine Or.inl ⟨by rfl, ?_⟩; intro W hSw; (try dsimp only at hSw); go_simp; try with_reducible rfl
    simp only [Act.put, List.setIfInBounds_toArray, List.set_cons_zero, List.set_cons_succ]
    refine wpAnyH_take (i := 7) (oi := ?oy7) (v := ?vy7) ?hiy7 (by kernel_rfl) (by kernel_rfl) (by kernel_rfl) ?hQy7 ?hyy7 hH0 ?_
    case hiy7 => simp only [List.getElem?_toArray, List.getElem?_cons_zero, List.getElem?_cons_succ]; rfl
    case hQy7 => exact fun _ _ _ h => h
    case hyy7 => refine Or.inl ⟨by rfl, ?_⟩; intro W hSw; (try dsimp only at hSw); go_simp; try with_reducible rfl
    simp only [Act.put, List.setIfInBounds_toArray, List.set_cons_zero, List.set_cons_succ]
    refine wpAnyH_take (i := 8) (oi := ?oy8) (v := ?vy8) ?hiy8 (by kernel_rfl) (by kernel_rfl) (by kernel_rfl) ?hQy8 ?hyy8 hH0 ?_
    case hiy8 => simp only [List.getElem?_toArray, List.getElem?_cons_zero, List.getElem?_cons_succ]; rfl
    case hQy8 => exact fun _ _ _ h => h
    case hyy8 => refine Or.inl ⟨by rfl, ?_⟩; intro W hSw; (try dsimp only at hSw); go_simp; try with_reducible rfl
    simp only [Act.put, List.setIfInBounds_toArray, List.set_cons_zero, List.set_cons_succ]
    clear hH0
    have B1 := Lib.hid (bx_new (w := w1) (.cells #[.int .i64 a, .string s, .int .i64 f] 120)).drew
    refine wpAnyH_ready (rs := [2]) (by kernel_rfl) (by simp) ?_
    refine AllReadyH.cons (o := ?oy2) ?hoy2 (fun K' hK => ?_) AllReadyH.nil
    case hoy2 => simp only [List.getElem?_toArray, List.getElem?_cons_zero, List.getElem?_cons_succ]; rfl
    go_simp
    refine (C1.out _).mono ?_
    rintro r w2 ⟨rfl, hb2⟩
    have B2 := Lib.hid (bx_more B1.out hb2)
    clear hb2
    refine hK.out _ _ (MKS.out _ B2.out) (fun hH1 => ?_)
    clear hK K'
    (try simp only [Act.put, List.setIfInBounds_toArray, List.set_cons_zero, List.set_cons_succ])
    clear hH1
    refine wpAnyH_ready (rs := [5]) (by kernel_rfl) (by simp) ?_
    refine AllReadyH.cons (o := ?oy5) ?hoy5 (fun K' hK => ?_) AllReadyH.nil
    case hoy5 => simp only [List.getElem?_toArray, List.getElem?_cons_zero, List.getElem?_cons_succ]; rfl
    go_simp
    refine (C2.out _).mono ?_
    rintro r w3 ⟨rfl, hb3⟩
    have B3 := Lib.hid (bx_more B2.out hb3)
    clear hb3
    refine hK.out _ _ (MKS.out _ B3.out) (fun hH2 => ?_)
    clear hK K'
    (try simp only [Act.put, List.setIfInBounds_toArray, List.set_cons_zero, List.set_cons_succ])
    refine wpAnyH_take (i := 6) (oi := ?oy6) (v := ?vy6) ?hiy6 (by kernel_rfl) (by kernel_rfl) (by kernel_rfl) ?hQy6 ?hyy6 hH2 ?_
    case hiy6 => simp only [List.getElem?_toArray, List.getElem?_cons_zero, List.getElem?_cons_succ]; rfl
    case hQy6 => exact fun _ _ _ h => h
    case hyy6 => refine Or.inl ⟨by rfl, ?_⟩; intro W hSw; (try dsimp only at hSw); go_simp; try with_reducible rfl
    simp only [Act.put, List.setIfInBounds_toArray, List.set_cons_zero, List.set_cons_succ]
    clear hH2
    refine wpAnyH_ready (rs := [9]) (by kernel_rfl) (by simp) ?_
    refine AllReadyH.cons (o := ?oy9) ?hoy9 (fun K' hK => ?_) AllReadyH.nil
    case hoy9 => simp only [List.getElem?_toArray, List.getElem?_cons_zero, List.getElem?_cons_succ]; rfl
    go_simp
    refine (C3.out _ (tabs_below HT.out (bstep HB.out (bx_below B3.out)))).mono ?_
    rintro r w4 ⟨rfl, hb4⟩
    have B4 := Lib.hid (bx_more B3.out hb4)
    clear hb4
    refine hK.out _ _ (MKS.out _ B4.out) (fun hH3 => ?_)
    clear hK K'
    (try simp only [Act.put, List.setIfInBounds_toArray, List.set_cons_zero, List.set_cons_succ])
    refine wpAnyH_take (i := 10) (oi := ?oy10) (v := ?vy10) ?hiy10 (by kernel_rfl) (by kernel_rfl) (by kernel_rfl) ?hQy10 ?hyy10 hH3 ?_
    case hiy10 => simp only [List.getElem?_toArray, List.getElem?_cons_zero, List.getElem?_cons_succ]; rfl
    case hQy10 => exact fun _ _ _ h => h
    case hyy10 => refine Or.inl ⟨by rfl, ?_⟩; intro W hSw; (try dsimp only at hSw); go_simp; try with_reducible rfl
    simp only [Act.put, List.setIfInBounds_toArray, List.set_cons_zero, List.set_cons_succ]
    refine wpAnyH_take (i := 11) (oi := ?oy11) (v := ?vy11) ?hiy11 (by kernel_rfl) (by kernel_rfl) (by kernel_rfl) ?hQy11 ?hyy11 hH3 ?_
    case hiy11 => simp only [List.getElem?_toArray, List.getElem?_cons_zero, List.getElem?_cons_succ]; rfl
    case hQy11 => exact fun _ _ _ h => h
    case hyy11 => refine Or.inl ⟨by rfl, ?_⟩; intro W hSw; (try dsimp only at hSw); go_simp; try with_reducible rfl
    simp only [Act.put, List.setIfInBounds_toArray, List.set_cons_zero, List.set_cons_succ]
    refine wpAnyH_take (i := 12) (oi := ?oy12) (v := ?vy12) ?hiy12 (by kernel_rfl) (by kernel_rfl) (by kernel_rfl) ?hQy12 ?hyy12 hH3 ?_
    case hiy12 => simp only [List.getElem?_toArray, List.getElem?_cons_zero, List.getElem?_cons_succ]; rfl
    case hQy12 => exact fun _ _ _ h => h
    case hyy12 => refine Or.inl ⟨by rfl, ?_⟩; intro W hSw; (try dsimp only at hSw); go_simp; try with_reducible rfl
    simp only [Act.put, List.setIfInBounds_toArray, List.set_cons_zero, List.set_cons_succ]
    clear hH3
    refine wpAnyH_ready (rs := [13]) (by kernel_rfl) (by simp) ?_
    refine AllReadyH.cons (o := ?oy13) ?hoy13 (fun K' hK => ?_) AllReadyH.nil
    case hoy13 => simp only [List.getElem?_toArray, List.getElem?_cons_zero, List.getElem?_cons_succ]; rfl
    go_simp
    refine (C4.out _).mono ?_
    rintro r w5 ⟨rfl, rfl⟩
    refine hK.out _ _ (MKS.out _ B4.out) (fun hH3 => ?_)
    clear hK K'
    (try simp only [Act.put, List.setIfInBounds_toArray, List.set_cons_zero, List.set_cons_succ])
    refine wpAnyH_take (i := 14) (oi := ?oy14) (v := ?vy14) ?hiy14 (by kernel_rfl) (by kernel_rfl) (by kernel_rfl) ?hQy14 ?hyy14 hH3 ?_
    case hiy14 => simp only [List.getElem?_toArray, List.getElem?_cons_zero, List.getElem?_cons_succ]; rfl
    case hQy14 => exact fun _ _ _ h => h
    case hyy14 => refine Or.inl ⟨by rfl, ?_⟩; intro W hSw; (try dsimp only at hSw); go_simp; try with_reducible rfl
    simp only [Act.put, List.setIfInBounds_toArray, List.set_cons_zero, List.set_cons_succ]
    clear hH3
    refine wpAnyH_ready (rs := [15]) (by kernel_rfl) (by simp) ?_
    refine AllReadyH.cons (o := ?oy15) ?hoy15 (fun K' hK => ?_) AllReadyH.nil
    case hoy15 => simp only [List.getElem?_toArray, List.getElem?_cons_zero, List.getElem?_cons_succ]; rfl
    go_simp
    refine hK.out _ _ (MKS.out _ B4.out) (fun hH4 => ?_)
    clear hK K'
    (try simp only [Act.put, List.setIfInBounds_toArray, List.set_cons_zero, List.set_cons_succ])
    clear hH4
    refine wpAnyH_ready (rs := [16]) (by kernel_rfl) (by simp) ?_
    refine AllReadyH.cons (o := ?oy16) ?hoy16 (fun K' hK => ?_) AllReadyH.nil
    case hoy16 => simp only [List.getElem?_toArray, List.getElem?_cons_zero, List.getElem?_cons_succ]; rfl
    go_simp
    refine hK.out _ _ (MKS.out _ B4.out) (fun hH5 => ?_)
    clear hK K'
    (try simp only [Act.put, List.setIfInBounds_toArray, List.set_cons_zero, List.set_cons_succ])
    clear hH5
    refine wpAnyH_done (by kernel_rfl) ?_ _
    go_wp2_with fail
    go_ret2
    exact ⟨by rw [HR.out, HOK.out]; rfl, bstep HB.out (bx_below B4.out)⟩
theorem putB_le (b : BW) : (putB b).size ≤ 20000 := by
  by_cases hf : fitsB b = 0
  · have h := fits_light hf
    rw [putB, if_pos hf, bstr_size, List.length_append]
    have h1 := headB_size h
    have h2 := bodyL_size h.e
    have h3 := h.n
    have h4 := size_listE (headB b)
    omega
  · rw [putB, if_neg hf]
    exact Nat.zero_le _

def LightM : Msg → Prop
  | .red _ s _ => s.size ≤ 1000000
  | _ => True
theorem rest_le {m : Msg} (h : LightM m) : m.rest.length ≤ 100000000 := by
  cases m <;> simp only [Msg.rest, LightM, List.length_append, List.length_nil] at h ⊢ <;> try omega
  case app a b =>
    have h1 := putB_le b
    rw [size_listE]
    omega
  case red a s f =>
    have h1 := pT_size s
    have h2 := putI_le f
    have h3 : (putT s.data.toList).length = (pT s).size := by rw [pT, bstr_size]
    omega
theorem parts_whr (v : Value) (a : Int) (w : World) (hv : HasKind v 5) :
    Calls Tryd.prog 67 #[v] w fun e w' => GotRest (.whr a) w e w' := by
  refine (parts_plain v 5 hv (by simp) w).mono ?_
  rintro e w' ⟨rfl, hb⟩
  exact ⟨rfl, hb⟩
theorem parts_any (B : Nat) (v : Value) (m : Msg) (w : World) (h : IsMsg B w v m) (hB : B ≤ w.heap.size) (hT : Tabs w) (hL : LightM m) :
    Calls Tryd.prog 67 #[v] w fun e w' => GotRest m w e w' := by
  have hv := hasKind h
  cases m
  case whr => exact parts_whr v _ w hv
  case app => exact parts_app B v _ _ w h hB hT
  case red => exact parts_red B v _ _ _ w h hT hL
/-- message.Right, of a message. -/
theorem rightM_any (B : Nat) (v : Value) (m : Msg) (q : Bool) (hq : rightM m = q) (w : World) (h : IsMsg B w v m) (hB : B ≤ w.heap.size) (hT : Tabs w) (hL : LightM m) :
    Calls Tryd.prog 28 #[v] w fun e w' => e = .returned (.bool q) ∧ Below w.heap.size w w' :=
  right_gen v m q hq w (put_gen v m w (hasKind h) (rest_le hL) (fun X hX => numbers_any B v m X (h.keep hX hB) (Nat.le_trans hB hX.size)) (fun X hX => parts_any B v m X (h.keep hX hB) (Nat.le_trans hB hX.size) (tabs_below hT hX) hL)) (by obtain ⟨T, p, F, hv, _⟩ := hasKind h; exact ⟨T, p, hv⟩)
end Go.Proofs.YtapgjjfndbfnpaaDoor.Ms
