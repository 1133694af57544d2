/-
  message.parts, Put, Right and Epoch, of any message and of nil. Printed by gen_msjoin.py of this claim's writer.
-/
import Derived.Test.YtflojipkgaocnaaGreatDoorMsRed
import Derived.Test.YtflojipkgaocnaaGreatDoorMsRow
import Derived.Test.YtflojipkgaocnaaGreatDoorMsRes
import Derived.Test.YtflojipkgaocnaaGreatDoorMsView
namespace Go.Proofs.YtflojipkgaocnaaGreatDoor
open Go.RowKit
set_option linter.unusedSimpArgs false
set_option linter.unusedVariables false

/-- What can be gone through. -/
def LightM : Msg → Prop
  | .view _ c s b => c.length ≤ 1000 ∧ s.length ≤ 1000 ∧ b.length ≤ 1000
  | .hav _ _ _ l => l.length ≤ 1000
  | .logs _ _ _ _ _ _ l => l.length ≤ 1000
  | .red _ s _ => s.size ≤ 1000000
  | .res _ _ _ l => l.length ≤ 1000
  | _ => True
theorem rest_le {m : Msg} (h : LightM m) : m.rest.length ≤ 100000000 := by
  cases m <;> simp only [Msg.rest, LightM, List.length_append, List.length_nil] at h ⊢ <;> try omega
  case view a c s b =>
    have h1 := putL_le c h.1
    have h2 := putL_le s h.2.1
    have h3 := putL_le b h.2.2
    omega
  case hav a b c l =>
    have h1 := catM_le l
    have h2 := putN_len6 (clampN_le (l.length : Int))
    unfold putL
    rw [List.length_append]
    omega
  case logs a b c d e f l =>
    have h1 := catR_le l
    have h2 := putN_len6 (clampN_le (l.length : Int))
    unfold putRow
    split
    · exact Nat.zero_le _
    · rw [bstr_list]
      unfold putL
      rw [List.length_append]
      omega
  case app a b =>
    have h1 := putB_le b
    rw [size_listE]
    omega
  case red a s f =>
    have h1 := pT_size s
    have h2 := putI_le f
    have h3 : (putT s.data.toList).length = (pT s).size := by rw [pT, bstr_size]
    omega
  case res a b c l =>
    have h1 := catE_le l
    have h2 := putN_len6 (clampN_le (l.length : Int))
    unfold putL
    rw [List.length_append]
    omega
theorem parts_no (v : Value) (m : Msg) (k : Nat) (hk : m.kind = k) (hv : HasKind v m.kind) (h : k ≠ 4 ∧ k ≠ 6 ∧ k ≠ 7 ∧ k ≠ 11 ∧ k ≠ 12 ∧ k ≠ 14) (hr : m.rest = []) (ho : m.restOk = true) (w : World) :
    Calls Tryz.prog 25 #[v] w fun e w' => GotRest m w e w' := by
  rw [hk] at hv
  refine (parts_plain v k hv h w).mono ?_
  rintro e w' ⟨rfl, hb⟩
  exact ⟨by rw [hr, ho]; rfl, hb⟩
theorem parts_any (B : Nat) (v : Value) (m : Msg) (w : World) (h : IsMsg B w v m) (hB : B ≤ w.heap.size) (hT : Tabs w) (hL : LightM m) :
    Calls Tryz.prog 25 #[v] w fun e w' => GotRest m w e w' := by
  have hv := hasKind h
  cases m
  case view => exact parts_view B v _ _ _ _ w h hB hL.1 hL.2.1 hL.2.2
  case hav => exact parts_hav B v _ _ _ _ w h hB hT hL
  case logs => exact parts_logs B v _ _ _ _ _ _ _ w h hB hT hL
  case app => exact parts_app B v _ _ w h hB hT
  case red => exact parts_red B v _ _ _ w h hT hL
  case res => exact parts_res B v _ _ _ _ w h hB hT hL
  all_goals exact parts_no v _ _ rfl hv (by simp [Msg.kind]) rfl rfl w
theorem putM_any (B : Nat) (v : Value) (m : Msg) (s : ByteArray) (hs : putM m = s) (w : World) (h : IsMsg B w v m) (hB : B ≤ w.heap.size) (hT : Tabs w) (hL : LightM m) :
    Calls Tryz.prog 10 #[v] w fun e w' => e = .returned (.string s) ∧ Below w.heap.size w w' := by
  subst hs
  exact put_gen v m w (hasKind h) (rest_le hL) (fun X hX => numbers_any B v m X (h.keep hX hB) (Nat.le_trans hB hX.size)) (fun X hX => parts_any B v m X (h.keep hX hB) (Nat.le_trans hB hX.size) (tabs_below hT hX) hL)
theorem rightM_any (B : Nat) (v : Value) (m : Msg) (q : Bool) (hq : rightM m = q) (w : World) (h : IsMsg B w v m) (hB : B ≤ w.heap.size) (hT : Tabs w) (hL : LightM m) :
    Calls Tryz.prog 8 #[v] w fun e w' => e = .returned (.bool q) ∧ Below w.heap.size w w' :=
  right_gen v m q hq w (putM_any B v m _ rfl w h hB hT hL) (by obtain ⟨T, p, F, hv, _⟩ := hasKind h; exact ⟨T, p, hv⟩)

set_option maxRecDepth 100000 in
theorem put_nil (w : World) : Calls Tryz.prog 10 #[.nilIface] w fun e w' => e = .returned (.string ⟨#[]⟩) ∧ Below w.heap.size w w' := by
  have C := Lib.hid (numbers_nil w)
  go_enter Tryz.func10, Tryz.ntmps10
  go_wp2_with fail
  refine C.out.mono ?_
  rintro e w1 ⟨rfl, hb1⟩
  go_wp2_with fail
  go_ret
  exact ⟨rfl, hb1⟩
theorem right_nil (w : World) : Calls Tryz.prog 8 #[.nilIface] w fun e w' => e = .returned (.bool false) ∧ Below w.heap.size w w' := by
  have C := Lib.hid (put_nil w)
  go_enter Tryz.func8, Tryz.ntmps8
  go_wp2_with fail
  refine C.out.mono ?_
  rintro e w1 ⟨rfl, hb1⟩
  go_wp2_with fail
  go_ret
  exact ⟨rfl, hb1⟩
set_option maxRecDepth 100000 in
theorem epoch_nil (w : World) : Calls Tryz.prog 12 #[.nilIface] w fun e w' => e = .returned (.int .i64 0) ∧ Below w.heap.size w w' := by
  have C := Lib.hid (numbers_nil w)
  go_enter Tryz.func12, Tryz.ntmps12
  go_wp2_with fail
  refine C.out.mono ?_
  rintro e w1 ⟨rfl, hb1⟩
  go_wp2_with fail
  go_ret
  exact ⟨rfl, hb1⟩

set_option maxRecDepth 100000 in
set_option maxHeartbeats 3200000 in
theorem epoch_gen (v : Value) (k : Nat) (L : List Int) (q : Bool) (n : Int) (hk : HasKind v k) (h1 : 1 ≤ k) (h2 : k ≤ 14) (hn : q = true → k = 1 → ∃ h : 1 < L.length, L[1] = n) (hn0 : q = true → k = 3 ∨ k = 4 ∨ k = 6 ∨ k = 7 ∨ k = 8 ∨ k = 9 ∨ k = 10 → ∃ h : 0 < L.length, L[0] = n)
    (hz : q = true → k = 2 ∨ k = 5 ∨ k = 11 ∨ k = 12 ∨ k = 13 ∨ k = 14 → n = 0) (hf : q = false → n = 0) (w : World)
    (CN : Calls Tryz.prog 21 #[v] w fun e w' => GotNums L w e w') (CR : ∀ X : World, Below w.heap.size w X → Calls Tryz.prog 8 #[v] X fun e w' => e = .returned (.bool q) ∧ Below X.heap.size X w') :
    Calls Tryz.prog 12 #[v] w fun e w' => e = .returned (.int .i64 n) ∧ Below w.heap.size w w' := by
  have CN0 := Lib.hid CN
  have CR0 := Lib.hid CR
  obtain ⟨T, p, F, rfl, hm, hcf, hc⟩ := hk
  have HC := Lib.hid hc
  clear CN CR hc
  cases q with
  | false =>
    obtain rfl := hf rfl
    clear hn hn0 hz hf
    go_enter Tryz.func12, Tryz.ntmps12
    go_wp2_with fail
    refine CN0.out.mono ?_
    rintro e w1 ⟨u, rfl, hu, hb1⟩
    have HB1 := Lib.hid hb1
    obtain ⟨au, cu, rfl⟩ := hu.form
    clear hu hb1
    go_wp2_with fail
    refine (CR0.out _ HB1.out).mono ?_
    rintro e w2 ⟨rfl, hb2⟩
    go_wp2_with fail
    go_ret
    exact ⟨rfl, bstep HB1.out hb2⟩
  | true =>
    have hk' : k = 1 ∨ (k = 3 ∨ k = 4 ∨ k = 6 ∨ k = 7 ∨ k = 8 ∨ k = 9 ∨ k = 10) ∨ (k = 2 ∨ k = 5 ∨ k = 11 ∨ k = 12 ∨ k = 13 ∨ k = 14) := by omega
    rcases hk' with hk' | hk' | hk'
    · obtain ⟨hlt, hv⟩ := hn rfl hk'
      subst hk'
      clear hn hn0 hz hf
      go_enter Tryz.func12, Tryz.ntmps12
      go_wp2_with fail
      refine CN0.out.mono ?_
      rintro e w1 ⟨u, rfl, hu, hb1⟩
      have HU := Lib.hid hu
      have HB1 := Lib.hid hb1
      obtain ⟨au, cu, rfl⟩ := hu.form
      clear hu hb1
      go_wp2_with fail
      refine (CR0.out _ HB1.out).mono ?_
      rintro e w2 ⟨rfl, hb2⟩
      have HU2 := Lib.hid ((HU.out.keep hb2 (Nat.le_refl _)).up hb2.size)
      have HB2 := Lib.hid (bstep HB1.out hb2)
      clear hb2
      go_wp2_with fail
      refine (HC.out _).mono ?_
      rintro e w3 ⟨rfl, hb3⟩
      have HU3 := Lib.hid ((HU2.out.keep hb3 (Nat.le_refl _)).up hb3.size)
      have HB3 := Lib.hid (bstep HB2.out hb3)
      clear hb3
      obtain ⟨b, off, cap', he, hblk, _, hc1⟩ := HU3.out.at1 1 hlt
      obtain ⟨rfl, -, rfl⟩ : au = some ⟨b, off, none⟩ ∧ L.length = L.length ∧ cu = cap' := by injection he with e1 e2 e3; exact ⟨e1, e2, e3⟩
      clear he
      have i2 : (1 : Int) < (L.length : Int) := by omega
      rw [hv] at hc1

      have HV := Lib.hid hv
      clear hv
      go_wp2_with fail
      go_ret
      exact ⟨rfl, HB3.out⟩
    · obtain ⟨hlt, hv⟩ := hn0 rfl hk'
      clear hn hn0 hz hf
      rcases hk' with rfl | rfl | rfl | rfl | rfl | rfl | rfl
      all_goals
        go_enter Tryz.func12, Tryz.ntmps12
        go_wp2_with fail
        refine CN0.out.mono ?_
        rintro e w1 ⟨u, rfl, hu, hb1⟩
        have HU := Lib.hid hu
        have HB1 := Lib.hid hb1
        obtain ⟨au, cu, rfl⟩ := hu.form
        clear hu hb1
        go_wp2_with fail
        refine (CR0.out _ HB1.out).mono ?_
        rintro e w2 ⟨rfl, hb2⟩
        have HU2 := Lib.hid ((HU.out.keep hb2 (Nat.le_refl _)).up hb2.size)
        have HB2 := Lib.hid (bstep HB1.out hb2)
        clear hb2
        go_wp2_with fail
        refine (HC.out _).mono ?_
        rintro e w3 ⟨rfl, hb3⟩
        have HU3 := Lib.hid ((HU2.out.keep hb3 (Nat.le_refl _)).up hb3.size)
        have HB3 := Lib.hid (bstep HB2.out hb3)
        clear hb3
        obtain ⟨b, off, cap', he, hblk, _, hc1⟩ := HU3.out.at1 0 hlt
        obtain ⟨rfl, -, rfl⟩ : au = some ⟨b, off, none⟩ ∧ L.length = L.length ∧ cu = cap' := by injection he with e1 e2 e3; exact ⟨e1, e2, e3⟩
        clear he
        have i2 : (0 : Int) < (L.length : Int) := by omega
        rw [hv] at hc1
        rw [Nat.add_zero] at hc1
        have HV := Lib.hid hv
        clear hv
        go_wp2_with fail
        go_ret
        exact ⟨rfl, HB3.out⟩
    · obtain rfl := hz rfl hk'
      clear hn hn0 hz hf
      rcases hk' with rfl | rfl | rfl | rfl | rfl | rfl
      all_goals
        go_enter Tryz.func12, Tryz.ntmps12
        go_wp2_with fail
        refine CN0.out.mono ?_
        rintro e w1 ⟨u, rfl, hu, hb1⟩
        have HU := Lib.hid hu
        have HB1 := Lib.hid hb1
        obtain ⟨au, cu, rfl⟩ := hu.form
        clear hu hb1
        go_wp2_with fail
        refine (CR0.out _ HB1.out).mono ?_
        rintro e w2 ⟨rfl, hb2⟩
        have HU2 := Lib.hid ((HU.out.keep hb2 (Nat.le_refl _)).up hb2.size)
        have HB2 := Lib.hid (bstep HB1.out hb2)
        clear hb2
        go_wp2_with fail
        refine (HC.out _).mono ?_
        rintro e w3 ⟨rfl, hb3⟩
        have HU3 := Lib.hid ((HU2.out.keep hb3 (Nat.le_refl _)).up hb3.size)
        have HB3 := Lib.hid (bstep HB2.out hb3)
        clear hb3
        go_wp2_with fail
        go_ret
        exact ⟨rfl, HB3.out⟩

theorem epochM_any (B : Nat) (v : Value) (m : Msg) (n : Int) (hn : epochM m = n) (w : World) (h : IsMsg B w v m) (hB : B ≤ w.heap.size) (hT : Tabs w) (hL : LightM m) :
    Calls Tryz.prog 12 #[v] w fun e w' => e = .returned (.int .i64 n) ∧ Below w.heap.size w w' := by
  refine epoch_gen v m.kind m.nums (rightM m) n (hasKind h) (kind_bd m).1 (kind_bd m).2 (fun hq hk => ?_) (fun hq hk => ?_) (fun hq hk => ?_) (fun hq => ?_) w (numbers_any B v m w h hB) (fun X hX => rightM_any B v m _ rfl X (h.keep hX hB) (Nat.le_trans hB hX.size) (tabs_below hT hX) hL)
  all_goals unfold epochM at hn; rw [hq] at hn
  · rw [if_pos rfl] at hn
    cases m <;> first | exact ⟨by simp [Msg.nums], hn⟩ | (exact absurd hk (by simp [Msg.kind]))
  · rw [if_pos rfl] at hn
    cases m <;> first | exact ⟨by simp [Msg.nums], hn⟩ | (exact absurd hk (by simp [Msg.kind]))
  · rw [if_pos rfl] at hn
    cases m <;> first | exact hn.symm | (exact absurd hk (by simp [Msg.kind]))
  · rw [if_neg (by decide)] at hn
    exact hn.symm
end Go.Proofs.YtflojipkgaocnaaGreatDoor
