/-
  The walk of bucketlinelaw18.ViewPlays. Printed by gen_vwlaw5.py of this claim's writer.
-/
import Derived.Test.YtigojackdkaanaaVwRef4
import Derived.Test.YtigojackdkaanaaVwRefPut
namespace Go.Proofs.Ytigojackdkaanaa
open Go.RowKit

theorem bx_more {w W W' : World} {o : Obj} (h : Below (w.heap.size + 1) (w.alloc o) W) (k : Below W.heap.size W W') : Below (w.heap.size + 1) (w.alloc o) W' := below_more h (by have := h.size; simpa using this) k
theorem bx_alloc {w W : World} {o : Obj} (h : Below (w.heap.size + 1) (w.alloc o) W) (o' : Obj) : Below (w.heap.size + 1) (w.alloc o) (W.alloc o') := h.alloc (by have := h.size; simpa using this) o'
theorem bx_new {w : World} (o : Obj) : Below (w.heap.size + 1) (w.alloc o) (w.alloc o) := Below.refl _ _
theorem bx_lt {w W : World} {o : Obj} (h : Below (w.heap.size + 1) (w.alloc o) W) : w.heap.size < W.heap.size := by have := h.size; rw [World.size_alloc] at this; omega

theorem plays_of {w w3 W : World} {a0 a1 a2 a3 : Value} {t t' : TypeId} (h1 : Below (w.heap.size + 1) (w.alloc (.cells #[a0, a1, a2, a3] t)) W) (h2 : Below (w3.heap.size + 1) (w3.alloc (.cells #[a0, a1, a2, a3] t')) W) :
    W.cell? ⟨w.heap.size, 0, none⟩ = some (a0) ∧ W.cell? ⟨w.heap.size, 1, none⟩ = some (a1) ∧ W.cell? ⟨w.heap.size, 2, none⟩ = some (a2) ∧ W.cell? ⟨w.heap.size, 3, none⟩ = some (a3) ∧ W.cell? ⟨w3.heap.size, 0, none⟩ = some (a0) ∧ W.cell? ⟨w3.heap.size, 1, none⟩ = some (a1) ∧ W.cell? ⟨w3.heap.size, 2, none⟩ = some (a2) ∧ W.cell? ⟨w3.heap.size, 3, none⟩ = some (a3) ∧ Below (w.heap.size + 1) (w.alloc (.cells #[a0, a1, a2, a3] t)) W ∧ Below (w3.heap.size + 1) (w3.alloc (.cells #[a0, a1, a2, a3] t')) W := by
  obtain ⟨y0, y1, y2, y3⟩ := box4 h1
  obtain ⟨z0, z1, z2, z3⟩ := box4 h2
  exact ⟨y0, y1, y2, y3, z0, z1, z2, z3, h1, h2⟩
theorem plays_keep {w w3 W W' : World} {a0 a1 a2 a3 : Value} {t t' : TypeId} (h : W.cell? ⟨w.heap.size, 0, none⟩ = some (a0) ∧ W.cell? ⟨w.heap.size, 1, none⟩ = some (a1) ∧ W.cell? ⟨w.heap.size, 2, none⟩ = some (a2) ∧ W.cell? ⟨w.heap.size, 3, none⟩ = some (a3) ∧ W.cell? ⟨w3.heap.size, 0, none⟩ = some (a0) ∧ W.cell? ⟨w3.heap.size, 1, none⟩ = some (a1) ∧ W.cell? ⟨w3.heap.size, 2, none⟩ = some (a2) ∧ W.cell? ⟨w3.heap.size, 3, none⟩ = some (a3) ∧ Below (w.heap.size + 1) (w.alloc (.cells #[a0, a1, a2, a3] t)) W ∧ Below (w3.heap.size + 1) (w3.alloc (.cells #[a0, a1, a2, a3] t')) W) (k : Below W.heap.size W W') :
    W'.cell? ⟨w.heap.size, 0, none⟩ = some (a0) ∧ W'.cell? ⟨w.heap.size, 1, none⟩ = some (a1) ∧ W'.cell? ⟨w.heap.size, 2, none⟩ = some (a2) ∧ W'.cell? ⟨w.heap.size, 3, none⟩ = some (a3) ∧ W'.cell? ⟨w3.heap.size, 0, none⟩ = some (a0) ∧ W'.cell? ⟨w3.heap.size, 1, none⟩ = some (a1) ∧ W'.cell? ⟨w3.heap.size, 2, none⟩ = some (a2) ∧ W'.cell? ⟨w3.heap.size, 3, none⟩ = some (a3) ∧ Below (w.heap.size + 1) (w.alloc (.cells #[a0, a1, a2, a3] t)) W' ∧ Below (w3.heap.size + 1) (w3.alloc (.cells #[a0, a1, a2, a3] t')) W' :=
  plays_of (bx_more h.2.2.2.2.2.2.2.2.1 k) (bx_more h.2.2.2.2.2.2.2.2.2 k)
theorem plays_below {w w3 W : World} {a0 a1 a2 a3 : Value} {t t' : TypeId} (h : W.cell? ⟨w.heap.size, 0, none⟩ = some (a0) ∧ W.cell? ⟨w.heap.size, 1, none⟩ = some (a1) ∧ W.cell? ⟨w.heap.size, 2, none⟩ = some (a2) ∧ W.cell? ⟨w.heap.size, 3, none⟩ = some (a3) ∧ W.cell? ⟨w3.heap.size, 0, none⟩ = some (a0) ∧ W.cell? ⟨w3.heap.size, 1, none⟩ = some (a1) ∧ W.cell? ⟨w3.heap.size, 2, none⟩ = some (a2) ∧ W.cell? ⟨w3.heap.size, 3, none⟩ = some (a3) ∧ Below (w.heap.size + 1) (w.alloc (.cells #[a0, a1, a2, a3] t)) W ∧ Below (w3.heap.size + 1) (w3.alloc (.cells #[a0, a1, a2, a3] t')) W) : Below w.heap.size w W := below_one' h.2.2.2.2.2.2.2.2.1
theorem plays_a {w w3 W : World} {a0 a1 a2 a3 : Value} {t t' : TypeId} (h : W.cell? ⟨w.heap.size, 0, none⟩ = some (a0) ∧ W.cell? ⟨w.heap.size, 1, none⟩ = some (a1) ∧ W.cell? ⟨w.heap.size, 2, none⟩ = some (a2) ∧ W.cell? ⟨w.heap.size, 3, none⟩ = some (a3) ∧ W.cell? ⟨w3.heap.size, 0, none⟩ = some (a0) ∧ W.cell? ⟨w3.heap.size, 1, none⟩ = some (a1) ∧ W.cell? ⟨w3.heap.size, 2, none⟩ = some (a2) ∧ W.cell? ⟨w3.heap.size, 3, none⟩ = some (a3) ∧ Below (w.heap.size + 1) (w.alloc (.cells #[a0, a1, a2, a3] t)) W ∧ Below (w3.heap.size + 1) (w3.alloc (.cells #[a0, a1, a2, a3] t')) W) : Below (w.heap.size + 1) (w.alloc (.cells #[a0, a1, a2, a3] t)) W := h.2.2.2.2.2.2.2.2.1
theorem plays_b {w w3 W : World} {a0 a1 a2 a3 : Value} {t t' : TypeId} (h : W.cell? ⟨w.heap.size, 0, none⟩ = some (a0) ∧ W.cell? ⟨w.heap.size, 1, none⟩ = some (a1) ∧ W.cell? ⟨w.heap.size, 2, none⟩ = some (a2) ∧ W.cell? ⟨w.heap.size, 3, none⟩ = some (a3) ∧ W.cell? ⟨w3.heap.size, 0, none⟩ = some (a0) ∧ W.cell? ⟨w3.heap.size, 1, none⟩ = some (a1) ∧ W.cell? ⟨w3.heap.size, 2, none⟩ = some (a2) ∧ W.cell? ⟨w3.heap.size, 3, none⟩ = some (a3) ∧ Below (w.heap.size + 1) (w.alloc (.cells #[a0, a1, a2, a3] t)) W ∧ Below (w3.heap.size + 1) (w3.alloc (.cells #[a0, a1, a2, a3] t')) W) : Below (w3.heap.size + 1) (w3.alloc (.cells #[a0, a1, a2, a3] t')) W := h.2.2.2.2.2.2.2.2.2

theorem node_head (V : VW) : nodeV V 0 = headV V := by
  rw [nodeV, headV]
  by_cases h : rightB V = true
  · have n1 := ((rightB_iff V).1 h).n1
    rw [if_pos ⟨h, by omega, by omega⟩, if_pos h]
    rfl
  · rw [if_neg (fun k => h k.1), if_neg h]
theorem of_both (B : Nat) (v : Value) (V : VW) (w : World) (h : IsView B w v V) (hB : B ≤ w.heap.size) (hsm' : SmallV V) (rr : Bool) (M : VW) (hb : rightB V = rr) (hM : (if rr = true then V else zeroV) = M) :
    Calls Try.prog 26 #[v] w fun e w' => ∃ vw, e = .returned (.tuple #[vw, .bool rr]) ∧ IsView w'.heap.size w' vw M ∧ Below w.heap.size w w' ∧ FreshV w.heap.size vw := by
  cases rr with
  | true =>
    rw [if_pos rfl] at hM
    subst hM
    exact of_true B v V w h hB hsm' hb
  | false =>
    rw [if_neg (by decide)] at hM
    subst hM
    exact of_false B v V w h hB hsm' hb
theorem small_zero : SmallV zeroV := by decide
theorem small_without {V A : VW} {x : Int} {c : Nat} (hs : SmallV V) (h : withoutV V x = (A, c)) : SmallV A := by
  rw [withoutV] at h
  obtain ⟨s1, s2, s3⟩ := hs
  have e1 := List.length_eraseIdx_le V.chain (placeV V x).toNat
  have e2 := List.length_eraseIdx_le V.since (placeV V x).toNat
  have e3 := List.length_eraseIdx_le V.boot (placeV V x).toNat
  repeat' split at h
  all_goals (injection h with h1 _; subst h1)
  · exact small_zero
  · exact small_zero
  · exact small_zero
  · exact small_zero
  · exact ⟨by simp only; omega, by simp only; omega, by simp only; omega⟩
theorem small_with {V A : VW} {x b : Int} {c : Nat} (h : withV V x b = (A, c)) : SmallV A := by
  rw [withV] at h
  split at h
  · injection h with h1 _; subst h1; exact small_zero
  · rename_i hn
    have hr : rightB V = true := by
      cases hr : rightB V with
      | true => rfl
      | false => exact absurd (.inl hr) hn
    have hR := (rightB_iff V).1 hr
    have n2 := hR.n2
    have es := hR.s
    have eb := hR.b
    repeat' split at h
    all_goals (injection h with h1 _; subst h1)
    · exact small_zero
    · exact small_zero
    · exact ⟨by simp only [List.length_append, List.length_singleton]; omega, by simp only [List.length_append, List.length_singleton]; omega, by simp only [List.length_append, List.length_singleton]; omega⟩
theorem wf64p {a : Int} (h : (Lit.int .i64 a).wf = true) : I64 a := by
  simpa [I64, Lit.wf, IntKind.min, IntKind.max, IntKind.signed, IntKind.bits] using h
theorem ends_below {w w3 w5 w6 w7 w8 w10 Z W : World} {u00 u01 u02 u03 u10 u11 u12 u13 u20 u21 u22 u23 u30 u31 u32 u33 u40 u41 u42 u43 u50 u51 u52 u53 u60 u61 u62 u63 : Value} (h : W.cell? ⟨w.heap.size, 0, none⟩ = some (u00) ∧ W.cell? ⟨w.heap.size, 1, none⟩ = some (u01) ∧ W.cell? ⟨w.heap.size, 2, none⟩ = some (u02) ∧ W.cell? ⟨w.heap.size, 3, none⟩ = some (u03) ∧ W.cell? ⟨w3.heap.size, 0, none⟩ = some (u10) ∧ W.cell? ⟨w3.heap.size, 1, none⟩ = some (u11) ∧ W.cell? ⟨w3.heap.size, 2, none⟩ = some (u12) ∧ W.cell? ⟨w3.heap.size, 3, none⟩ = some (u13) ∧ W.cell? ⟨w5.heap.size, 0, none⟩ = some (u20) ∧ W.cell? ⟨w5.heap.size, 1, none⟩ = some (u21) ∧ W.cell? ⟨w5.heap.size, 2, none⟩ = some (u22) ∧ W.cell? ⟨w5.heap.size, 3, none⟩ = some (u23) ∧ W.cell? ⟨w6.heap.size, 0, none⟩ = some (u30) ∧ W.cell? ⟨w6.heap.size, 1, none⟩ = some (u31) ∧ W.cell? ⟨w6.heap.size, 2, none⟩ = some (u32) ∧ W.cell? ⟨w6.heap.size, 3, none⟩ = some (u33) ∧ W.cell? ⟨w7.heap.size, 0, none⟩ = some (u40) ∧ W.cell? ⟨w7.heap.size, 1, none⟩ = some (u41) ∧ W.cell? ⟨w7.heap.size, 2, none⟩ = some (u42) ∧ W.cell? ⟨w7.heap.size, 3, none⟩ = some (u43) ∧ W.cell? ⟨w8.heap.size, 0, none⟩ = some (u50) ∧ W.cell? ⟨w8.heap.size, 1, none⟩ = some (u51) ∧ W.cell? ⟨w8.heap.size, 2, none⟩ = some (u52) ∧ W.cell? ⟨w8.heap.size, 3, none⟩ = some (u53) ∧ W.cell? ⟨w10.heap.size, 0, none⟩ = some (u60) ∧ W.cell? ⟨w10.heap.size, 1, none⟩ = some (u61) ∧ W.cell? ⟨w10.heap.size, 2, none⟩ = some (u62) ∧ W.cell? ⟨w10.heap.size, 3, none⟩ = some (u63) ∧ Below Z.heap.size Z W) : Below Z.heap.size Z W := h.2.2.2.2.2.2.2.2.2.2.2.2.2.2.2.2.2.2.2.2.2.2.2.2.2.2.2.2

set_option maxRecDepth 100000 in
set_option maxHeartbeats 6400000 in
theorem walkViewPlays (v : Value) (x : Int) (wx : (Lit.int .i64 x).wf = true) (b : Int) (wb : (Lit.int .i64 b).wf = true) (W : World) (h : ∃ V, IsView W.heap.size W v V) :
    Calls Try.prog 7 #[v, .int .i64 x, .int .i64 b] W fun e W' => e = .returned (.bool true) ∧ Below W.heap.size W W' := by
  obtain ⟨V, hv⟩ := h
  have hx64 := wf64p wx
  have hb64 := wf64p wb
  have HV := Lib.hid hv
  have C1 := Lib.hid shown_any
  have C2' := Lib.hid (fun (b : Bool) (hb : b = decide (SmallV V)) (w1 : World) (hb1 : Below W.heap.size W w1) => smallV_any W.heap.size v V b hb w1 (hv.keep hb1 (Nat.le_refl _)))
  obtain ⟨he64, cc, s, bt, rfl, h1, h2, h3⟩ := hv
  have H1 := Lib.hid h1
  obtain ⟨a1, k1, rfl⟩ := h1.form
  obtain ⟨a2, k2, rfl⟩ := h2.form
  obtain ⟨a3, k3, rfl⟩ := h3.form
  clear h1 h2 h3 wx wb
  by_cases hs : SmallV V
  · have C2 := Lib.hid (C2'.out true (decide_eq_true hs).symm)
    obtain ⟨rr, hr0⟩ : ∃ z, rightB V = z := ⟨_, rfl⟩
    have hr := Lib.hid hr0
    clear hr0 C2'
    obtain ⟨hd, hHd⟩ : ∃ z, headV V = z := ⟨_, rfl⟩
    obtain ⟨tl, hTl⟩ : ∃ z, tailV V = z := ⟨_, rfl⟩
    obtain ⟨pl, hPl⟩ : ∃ z, placeV V x = z := ⟨_, rfl⟩
    obtain ⟨ah, hAh⟩ : ∃ z, aheadV V x = z := ⟨_, rfl⟩
    obtain ⟨bh, hBh⟩ : ∃ z, behindV V x = z := ⟨_, rfl⟩
    obtain ⟨si, hSi⟩ : ∃ z, sinceV V x = z := ⟨_, rfl⟩
    obtain ⟨bo, hBo⟩ : ∃ z, bootV V x = z := ⟨_, rfl⟩
    obtain ⟨⟨A, cA⟩, hA⟩ : ∃ z, withoutV V x = z := ⟨_, rfl⟩
    obtain ⟨⟨D, cD⟩, hD⟩ : ∃ z, withV V x b = z := ⟨_, rfl⟩
    obtain ⟨pt, hPt⟩ : ∃ z, putV V = z := ⟨_, rfl⟩
    have hN0 := (node_head V).trans hHd
    obtain ⟨M, hM⟩ : ∃ z, (if rr = true then V else zeroV) = z := ⟨_, rfl⟩
    have hsA := small_without hs hA
    have hsD := small_with hD
    have CRR := Lib.hid (fun (w1 : World) (hb1 : Below W.heap.size W w1) => refRight_any W.heap.size _ V w1 (HV.out.keep hb1 (Nat.le_refl _)) hb1.size hs rr hr.out.symm)
    have CR := Lib.hid (fun (w1 : World) (hb1 : Below W.heap.size W w1) => right_any W.heap.size _ V w1 (HV.out.keep hb1 (Nat.le_refl _)) hb1.size hs rr hr.out.symm)
    have CH := Lib.hid (fun (w1 : World) (hb1 : Below W.heap.size W w1) => head_any W.heap.size _ V hd hHd w1 (HV.out.keep hb1 (Nat.le_refl _)) hb1.size hs)
    have CN := Lib.hid (fun (w1 : World) (hb1 : Below W.heap.size W w1) => refNode_any W.heap.size _ V 0 hd hN0 w1 (HV.out.keep hb1 (Nat.le_refl _)) hb1.size hs)
    have CT := Lib.hid (fun (w1 : World) (hb1 : Below W.heap.size W w1) => tail_any W.heap.size _ V tl hTl w1 (HV.out.keep hb1 (Nat.le_refl _)) hb1.size hs)
    have CP := Lib.hid (fun (w1 : World) (hb1 : Below W.heap.size W w1) => place_any W.heap.size _ V x pl hPl w1 (HV.out.keep hb1 (Nat.le_refl _)) hb1.size hs)
    have CP2 := Lib.hid (fun (w1 : World) (hb1 : Below W.heap.size W w1) => refPlace_any W.heap.size _ V x pl hPl w1 (HV.out.keep hb1 (Nat.le_refl _)) hb1.size hs)
    have CA := Lib.hid (fun (w1 : World) (hb1 : Below W.heap.size W w1) => ahead_any W.heap.size _ V x ah hAh w1 (HV.out.keep hb1 (Nat.le_refl _)) hb1.size hs)
    have CA2 := Lib.hid (fun (w1 : World) (hb1 : Below W.heap.size W w1) => refAhead_any W.heap.size _ V x ah hAh w1 (HV.out.keep hb1 (Nat.le_refl _)) hb1.size hs)
    have CB := Lib.hid (fun (w1 : World) (hb1 : Below W.heap.size W w1) => behind_any W.heap.size _ V x bh hBh w1 (HV.out.keep hb1 (Nat.le_refl _)) hb1.size hs)
    have CB2 := Lib.hid (fun (w1 : World) (hb1 : Below W.heap.size W w1) => refBehind_any W.heap.size _ V x bh hBh w1 (HV.out.keep hb1 (Nat.le_refl _)) hb1.size hs)
    have CS := Lib.hid (fun (w1 : World) (hb1 : Below W.heap.size W w1) => since_any W.heap.size _ V x si hSi w1 (HV.out.keep hb1 (Nat.le_refl _)) hb1.size hs)
    have CS2 := Lib.hid (fun (w1 : World) (hb1 : Below W.heap.size W w1) => refSince_any W.heap.size _ V x si hSi w1 (HV.out.keep hb1 (Nat.le_refl _)) hb1.size hs)
    have CO := Lib.hid (fun (w1 : World) (hb1 : Below W.heap.size W w1) => boot_any W.heap.size _ V x bo hBo w1 (HV.out.keep hb1 (Nat.le_refl _)) hb1.size hs)
    have CO2 := Lib.hid (fun (w1 : World) (hb1 : Below W.heap.size W w1) => refBoot_any W.heap.size _ V x bo hBo w1 (HV.out.keep hb1 (Nat.le_refl _)) hb1.size hs)
    have CW := Lib.hid (fun (w1 : World) (hb1 : Below W.heap.size W w1) => without_any W.heap.size _ V x A cA hA w1 (HV.out.keep hb1 (Nat.le_refl _)) hb1.size hs)
    have CW2 := Lib.hid (fun (w1 : World) (hb1 : Below W.heap.size W w1) => refWithout_any W.heap.size _ V x A cA hA w1 (HV.out.keep hb1 (Nat.le_refl _)) hb1.size hs)
    have CD := Lib.hid (fun (w1 : World) (hb1 : Below W.heap.size W w1) => with_any W.heap.size _ V x b D cD hD w1 (HV.out.keep hb1 (Nat.le_refl _)) hb1.size hs hx64 hb64)
    have CD2 := Lib.hid (fun (w1 : World) (hb1 : Below W.heap.size W w1) => refWith_any W.heap.size _ V x b D cD hD w1 (HV.out.keep hb1 (Nat.le_refl _)) hb1.size hs hx64 hb64)
    have CM := Lib.hid (fun (w1 : World) (hb1 : Below W.heap.size W w1) => message_any W.heap.size _ V w1 (HV.out.keep hb1 (Nat.le_refl _)) hb1.size hs)
    have CU := Lib.hid (fun (w1 : World) (hb1 : Below W.heap.size W w1) => vput_any W.heap.size _ V pt hPt w1 (HV.out.keep hb1 (Nat.le_refl _)) hb1.size hs)
    have CU2 := Lib.hid (fun (w1 : World) (hb1 : Below W.heap.size W w1) => refVPut_any W.heap.size _ V pt hPt w1 (HV.out.keep hb1 (Nat.le_refl _)) hb1.size hs)
    have HTL := Lib.hid hTl
    clear hHd hTl hPl hAh hBh hSi hBo hA hD hPt hN0
    go_enter Try.func7, Try.ntmps7
    go_wp2_with fail
    refine (C1.out _).mono ?_
    rintro e w1 ⟨rfl, hb1⟩
    have bx1 : Below (W.heap.size + 1) _ w1 := hb1.mono (by simp)
    obtain ⟨y0, y1, y2, y3⟩ := box4 bx1
    go_wp2_with fail
    refine (C2.out _ (below_one' bx1)).mono ?_
    rintro e w2 ⟨rfl, hb2⟩
    have bx2 := bx_more bx1 hb2
    obtain ⟨y0, y1, y2, y3⟩ := box4 bx2
    go_wp2_with fail
    refine (as_any W.heap.size _ V w2 (HV.out.keep (below_one' bx2) (Nat.le_refl _))).mono ?_
    rintro e w3 ⟨rfl, hb3⟩
    have bx3 := bx_more bx2 hb3
    have bx3' := bx_alloc bx3 (.cells #[.int .i64 V.epoch, .slice a1 V.chain.length k1, .slice a2 V.since.length k2, .slice a3 V.boot.length k3] 41)
    have bn3 := bx_new (w := w3) (.cells #[.int .i64 V.epoch, .slice a1 V.chain.length k1, .slice a2 V.since.length k2, .slice a3 V.boot.length k3] 41)
    obtain ⟨y0, y1, y2, y3⟩ := box4 bx3'
    go_wp2_with fail
    refine (CRR.out _ (below_one' bx3')).mono ?_
    rintro e w4 ⟨rfl, hb4⟩
    have bx4 := bx_more bx3' hb4
    have bn4 := bx_more bn3 hb4
    obtain ⟨y0, y1, y2, y3⟩ := box4 bx4
    obtain ⟨z0, z1, z2, z3⟩ := box4 bn4
    go_upto_if 36 with fail
    go_cut [11] (fun s11 wx => s11 = .int .i64 tl ∧ wx = w4)
    case first => as_aux_lemma =>
      cases rr with
      | true =>
        have hpos : 0 < V.chain.length := ((rightB_iff V).1 hr.out).n1
        have hr' := Lib.hid (show V.chain[V.chain.length - 1]'(by omega) = tl by rw [← getD_lt (by omega), ← HTL.out, tailV, if_pos hr.out])
        obtain ⟨b1, o1, k', he1, hlt1, _, hcell⟩ := (H1.out.keep (below_one' bx4) (Nat.le_refl _)).get (V.chain.length - 1) (by omega)
        obtain ⟨rfl, -, rfl⟩ : a1 = some ⟨b1, o1, none⟩ ∧ V.chain.length = V.chain.length ∧ k1 = k' := by injection he1 with e1 e2 e3; exact ⟨e1, e2, e3⟩
        clear he1
        rw [hr'.out] at hcell
        obtain ⟨m, hm⟩ : ∃ m, V.chain.length = m + 1 := ⟨V.chain.length - 1, by omega⟩
        have e1 : (V.chain.length : Int) - 1 = (m : Int) := by omega
        have e2 : V.chain.length - 1 = m := by omega
        rw [e2] at hcell
        have i1 : (0 : Int) ≤ (m : Int) := by omega
        have i2 : (m : Int) < (V.chain.length : Int) := by omega
        have hs1 : V.chain.length ≤ 20 := hs.1
        clear hm e2
        go_wp2
        go_meet
        case rel => exact ⟨rfl, rfl⟩
      | false =>
        have h0 : 0 = tl := by rw [← HTL.out, tailV, if_neg (by rw [hr.out]; decide)]
        have H0 := Lib.hid h0
        clear h0
        go_wp2
        go_meet
        case rel => exact ⟨by rw [← H0.out], rfl⟩
    case rest =>
      obtain ⟨rfl, hwx⟩ := hcut
      subst hwx
      go_upto_region 10 with fail
      go_cut [106] (fun s106 wx => s106 = .bool false ∧ Below (W.heap.size + 1) (W.alloc (.cells #[.int .i64 V.epoch, .slice a1 V.chain.length k1, .slice a2 V.since.length k2, .slice a3 V.boot.length k3] 24)) wx ∧ Below (w3.heap.size + 1) (w3.alloc (.cells #[.int .i64 V.epoch, .slice a1 V.chain.length k1, .slice a2 V.since.length k2, .slice a3 V.boot.length k3] 41)) wx)
      case first => as_aux_lemma =>
        have hh := plays_of bx4.drew bn4.drew
        go_region_held3 (fun W' => W'.cell? ⟨W.heap.size, 0, none⟩ = some (.int .i64 V.epoch) ∧ W'.cell? ⟨W.heap.size, 1, none⟩ = some (.slice a1 V.chain.length k1) ∧ W'.cell? ⟨W.heap.size, 2, none⟩ = some (.slice a2 V.since.length k2) ∧ W'.cell? ⟨W.heap.size, 3, none⟩ = some (.slice a3 V.boot.length k3) ∧ W'.cell? ⟨w3.heap.size, 0, none⟩ = some (.int .i64 V.epoch) ∧ W'.cell? ⟨w3.heap.size, 1, none⟩ = some (.slice a1 V.chain.length k1) ∧ W'.cell? ⟨w3.heap.size, 2, none⟩ = some (.slice a2 V.since.length k2) ∧ W'.cell? ⟨w3.heap.size, 3, none⟩ = some (.slice a3 V.boot.length k3) ∧ Below (W.heap.size + 1) (W.alloc (.cells #[.int .i64 V.epoch, .slice a1 V.chain.length k1, .slice a2 V.since.length k2, .slice a3 V.boot.length k3] 24)) W' ∧ Below (w3.heap.size + 1) (w3.alloc (.cells #[.int .i64 V.epoch, .slice a1 V.chain.length k1, .slice a2 V.since.length k2, .slice a3 V.boot.length k3] 41)) W')
          (first | exact hh | exact plays_keep (by assumption) (by assumption))
          (first
            | ((with_reducible refine (CR.out _ ?_).mono ?_); exact plays_below (by assumption); rintro e w5 ⟨rfl, hb5⟩)
            | ((with_reducible refine (CH.out _ ?_).mono ?_); exact plays_below (by assumption); rintro e w5 ⟨rfl, hb5⟩)
            | ((with_reducible refine (CN.out _ ?_).mono ?_); exact plays_below (by assumption); rintro e w5 ⟨rfl, hb5⟩)
            | ((with_reducible refine (CT.out _ ?_).mono ?_); exact plays_below (by assumption); rintro e w5 ⟨rfl, hb5⟩)
            | ((with_reducible refine (CP.out _ ?_).mono ?_); exact plays_below (by assumption); rintro e w5 ⟨rfl, hb5⟩)
            | ((with_reducible refine (CP2.out _ ?_).mono ?_); exact plays_below (by assumption); rintro e w5 ⟨rfl, hb5⟩)
            | ((with_reducible refine (CA.out _ ?_).mono ?_); exact plays_below (by assumption); rintro e w5 ⟨rfl, hb5⟩)
            | ((with_reducible refine (CA2.out _ ?_).mono ?_); exact plays_below (by assumption); rintro e w5 ⟨rfl, hb5⟩)
            | ((with_reducible refine (CB.out _ ?_).mono ?_); exact plays_below (by assumption); rintro e w5 ⟨rfl, hb5⟩)
            | ((with_reducible refine (CB2.out _ ?_).mono ?_); exact plays_below (by assumption); rintro e w5 ⟨rfl, hb5⟩)
            | ((with_reducible refine (CS.out _ ?_).mono ?_); exact plays_below (by assumption); rintro e w5 ⟨rfl, hb5⟩)
            | ((with_reducible refine (CS2.out _ ?_).mono ?_); exact plays_below (by assumption); rintro e w5 ⟨rfl, hb5⟩)
            | ((with_reducible refine (CO.out _ ?_).mono ?_); exact plays_below (by assumption); rintro e w5 ⟨rfl, hb5⟩)
            | ((with_reducible refine (CO2.out _ ?_).mono ?_); exact plays_below (by assumption); rintro e w5 ⟨rfl, hb5⟩))
        go_wp2
        go_meet
        case rel => exact ⟨rfl, plays_a (by assumption), plays_b (by assumption)⟩
      case rest =>
        clear bx1 bx2 bx3 bx3' bn3 bx4 bn4 y0 y1 y2 y3 z0 z1 z2 z3
        obtain ⟨rfl, bxa, bxb⟩ := hcut
        obtain ⟨ya0, ya1, ya2, ya3⟩ := box4 bxa
        obtain ⟨yb0, yb1, yb2, yb3⟩ := box4 bxb
        go_wp2_with fail
        refine (CW.out _ (below_one' bxa)).mono ?_
        rintro e w5 ⟨va, rfl, hva, hbs⟩
        obtain ⟨c1, c4, c2, c5, c3, c6, rfl⟩ := hva.form
        have Hva := Lib.hid hva
        clear hva
        replace bxa := bx_alloc (bx_more bxa hbs) (.cells #[.int .i64 A.epoch, .slice c1 A.chain.length c4, .slice c2 A.since.length c5, .slice c3 A.boot.length c6] 24)
        replace bxb := bx_alloc (bx_more bxb hbs) (.cells #[.int .i64 A.epoch, .slice c1 A.chain.length c4, .slice c2 A.since.length c5, .slice c3 A.boot.length c6] 24)
        have bxc := bx_new (w := w5) (.cells #[.int .i64 A.epoch, .slice c1 A.chain.length c4, .slice c2 A.since.length c5, .slice c3 A.boot.length c6] 24)
        clear hbs
        obtain ⟨ya0, ya1, ya2, ya3⟩ := box4 bxa
        obtain ⟨yb0, yb1, yb2, yb3⟩ := box4 bxb
        go_wp2_with fail
        refine (CW2.out _ (below_one' bxa)).mono ?_
        rintro e w6 ⟨vb, rfl, hvb, hbs⟩
        obtain ⟨d1, d4, d2, d5, d3, d6, rfl⟩ := hvb.form
        have Hvb := Lib.hid hvb
        clear hvb
        replace bxa := bx_alloc (bx_more bxa hbs) (.cells #[.int .i64 A.epoch, .slice d1 A.chain.length d4, .slice d2 A.since.length d5, .slice d3 A.boot.length d6] 41)
        replace bxb := bx_alloc (bx_more bxb hbs) (.cells #[.int .i64 A.epoch, .slice d1 A.chain.length d4, .slice d2 A.since.length d5, .slice d3 A.boot.length d6] 41)
        replace bxc := bx_alloc (bx_more bxc hbs) (.cells #[.int .i64 A.epoch, .slice d1 A.chain.length d4, .slice d2 A.since.length d5, .slice d3 A.boot.length d6] 41)
        have bxd := bx_new (w := w6) (.cells #[.int .i64 A.epoch, .slice d1 A.chain.length d4, .slice d2 A.since.length d5, .slice d3 A.boot.length d6] 41)
        clear hbs
        obtain ⟨ya0, ya1, ya2, ya3⟩ := box4 bxa
        obtain ⟨yb0, yb1, yb2, yb3⟩ := box4 bxb
        go_wp2_with fail
        refine (CD.out _ (below_one' bxa)).mono ?_
        rintro e w7 ⟨vc, rfl, hvc, hbs⟩
        obtain ⟨e1, e4, e2, e5, e3, e6, rfl⟩ := hvc.form
        have Hvc := Lib.hid hvc
        clear hvc
        replace bxa := bx_alloc (bx_more bxa hbs) (.cells #[.int .i64 D.epoch, .slice e1 D.chain.length e4, .slice e2 D.since.length e5, .slice e3 D.boot.length e6] 24)
        replace bxb := bx_alloc (bx_more bxb hbs) (.cells #[.int .i64 D.epoch, .slice e1 D.chain.length e4, .slice e2 D.since.length e5, .slice e3 D.boot.length e6] 24)
        replace bxc := bx_alloc (bx_more bxc hbs) (.cells #[.int .i64 D.epoch, .slice e1 D.chain.length e4, .slice e2 D.since.length e5, .slice e3 D.boot.length e6] 24)
        replace bxd := bx_alloc (bx_more bxd hbs) (.cells #[.int .i64 D.epoch, .slice e1 D.chain.length e4, .slice e2 D.since.length e5, .slice e3 D.boot.length e6] 24)
        have bxe := bx_new (w := w7) (.cells #[.int .i64 D.epoch, .slice e1 D.chain.length e4, .slice e2 D.since.length e5, .slice e3 D.boot.length e6] 24)
        clear hbs
        obtain ⟨ya0, ya1, ya2, ya3⟩ := box4 bxa
        obtain ⟨yb0, yb1, yb2, yb3⟩ := box4 bxb
        go_wp2_with fail
        refine (CD2.out _ (below_one' bxa)).mono ?_
        rintro e w8 ⟨vd, rfl, hvd, hbs⟩
        obtain ⟨f1, f4, f2, f5, f3, f6, rfl⟩ := hvd.form
        have Hvd := Lib.hid hvd
        clear hvd
        replace bxa := bx_alloc (bx_more bxa hbs) (.cells #[.int .i64 D.epoch, .slice f1 D.chain.length f4, .slice f2 D.since.length f5, .slice f3 D.boot.length f6] 41)
        replace bxb := bx_alloc (bx_more bxb hbs) (.cells #[.int .i64 D.epoch, .slice f1 D.chain.length f4, .slice f2 D.since.length f5, .slice f3 D.boot.length f6] 41)
        replace bxc := bx_alloc (bx_more bxc hbs) (.cells #[.int .i64 D.epoch, .slice f1 D.chain.length f4, .slice f2 D.since.length f5, .slice f3 D.boot.length f6] 41)
        replace bxd := bx_alloc (bx_more bxd hbs) (.cells #[.int .i64 D.epoch, .slice f1 D.chain.length f4, .slice f2 D.since.length f5, .slice f3 D.boot.length f6] 41)
        replace bxe := bx_alloc (bx_more bxe hbs) (.cells #[.int .i64 D.epoch, .slice f1 D.chain.length f4, .slice f2 D.since.length f5, .slice f3 D.boot.length f6] 41)
        have bxf := bx_new (w := w8) (.cells #[.int .i64 D.epoch, .slice f1 D.chain.length f4, .slice f2 D.since.length f5, .slice f3 D.boot.length f6] 41)
        clear hbs
        obtain ⟨ya0, ya1, ya2, ya3⟩ := box4 bxa
        obtain ⟨yb0, yb1, yb2, yb3⟩ := box4 bxb
        go_wp2_with fail
        refine (CM.out _ (below_one' bxa)).mono ?_
        rintro e w9 ⟨m1, m2, m3, rfl, hm, hbs, -, -, -⟩
        have HM := Lib.hid hm
        clear hm
        replace bxa := bx_more bxa hbs
        replace bxb := bx_more bxb hbs
        replace bxc := bx_more bxc hbs
        replace bxd := bx_more bxd hbs
        replace bxe := bx_more bxe hbs
        replace bxf := bx_more bxf hbs
        clear hbs
        go_wp2_with fail
        refine (of_both w9.heap.size _ V w9 HM.out (Nat.le_refl _) hs rr M hr.out hM).mono ?_
        rintro e w10 ⟨vg, rfl, hvg, hbs, -⟩
        obtain ⟨g1, g4, g2, g5, g3, g6, rfl⟩ := hvg.form
        have Hvg := Lib.hid hvg
        clear hvg
        replace bxa := bx_alloc (bx_more bxa hbs) (.cells #[.int .i64 M.epoch, .slice g1 M.chain.length g4, .slice g2 M.since.length g5, .slice g3 M.boot.length g6] 24)
        replace bxb := bx_alloc (bx_more bxb hbs) (.cells #[.int .i64 M.epoch, .slice g1 M.chain.length g4, .slice g2 M.since.length g5, .slice g3 M.boot.length g6] 24)
        replace bxc := bx_alloc (bx_more bxc hbs) (.cells #[.int .i64 M.epoch, .slice g1 M.chain.length g4, .slice g2 M.since.length g5, .slice g3 M.boot.length g6] 24)
        replace bxd := bx_alloc (bx_more bxd hbs) (.cells #[.int .i64 M.epoch, .slice g1 M.chain.length g4, .slice g2 M.since.length g5, .slice g3 M.boot.length g6] 24)
        replace bxe := bx_alloc (bx_more bxe hbs) (.cells #[.int .i64 M.epoch, .slice g1 M.chain.length g4, .slice g2 M.since.length g5, .slice g3 M.boot.length g6] 24)
        replace bxf := bx_alloc (bx_more bxf hbs) (.cells #[.int .i64 M.epoch, .slice g1 M.chain.length g4, .slice g2 M.since.length g5, .slice g3 M.boot.length g6] 24)
        have bxg := bx_new (w := w10) (.cells #[.int .i64 M.epoch, .slice g1 M.chain.length g4, .slice g2 M.since.length g5, .slice g3 M.boot.length g6] 24)
        clear hbs
        go_upto_region 17 with fail
        obtain ⟨Z, hZ⟩ : ∃ z, w10.alloc (.cells #[.int .i64 M.epoch, .slice g1 M.chain.length g4, .slice g2 M.since.length g5, .slice g3 M.boot.length g6] 24) = z := ⟨_, rfl⟩
        rw [hZ] at bxa bxb bxc bxd bxe bxf
        have bxg' : Below (w10.heap.size + 1) (w10.alloc (.cells #[.int .i64 M.epoch, .slice g1 M.chain.length g4, .slice g2 M.since.length g5, .slice g3 M.boot.length g6] 24)) Z := by rw [← hZ]; exact bxg
        rw [hZ]
        obtain ⟨ya0, ya1, ya2, ya3⟩ := box4 bxa
        obtain ⟨yb0, yb1, yb2, yb3⟩ := box4 bxb
        obtain ⟨yc0, yc1, yc2, yc3⟩ := box4 bxc
        obtain ⟨yd0, yd1, yd2, yd3⟩ := box4 bxd
        obtain ⟨ye0, ye1, ye2, ye3⟩ := box4 bxe
        obtain ⟨yf0, yf1, yf2, yf3⟩ := box4 bxf
        obtain ⟨yg0, yg1, yg2, yg3⟩ := box4 bxg'
        have hvaZ := Lib.hid (Hva.out.keep (below_one' bxc) (Nat.le_refl _))
        have hvbZ := Lib.hid (Hvb.out.keep (below_one' bxd) (Nat.le_refl _))
        have hvcZ := Lib.hid (Hvc.out.keep (below_one' bxe) (Nat.le_refl _))
        have hvdZ := Lib.hid (Hvd.out.keep (below_one' bxf) (Nat.le_refl _))
        have hvgZ := Lib.hid (Hvg.out.keep (below_one' bxg') (Nat.le_refl _))
        have hvZ := Lib.hid (HV.out.keep (below_one' bxa) (Nat.le_refl _))
        have lc := bx_lt bxc
        have ld := bx_lt bxd
        have le := bx_lt bxe
        have lf := bx_lt bxf
        have lg := bx_lt bxg'
        have la := bx_lt bxa
        have lb := bx_lt bxb
        have S1 := Lib.hid (fun (w1 : World) (hb : Below Z.heap.size Z w1) => same_any _ _ _ _ A A w1 (hvaZ.out.keep hb (by omega)) (hvbZ.out.keep hb (by omega)) (by have := hb.size; omega) (by have := hb.size; omega) hsA true (sameV_self A).symm)
        have S2 := Lib.hid (fun (w1 : World) (hb : Below Z.heap.size Z w1) => same_any _ _ _ _ D D w1 (hvcZ.out.keep hb (by omega)) (hvdZ.out.keep hb (by omega)) (by have := hb.size; omega) (by have := hb.size; omega) hsD true (sameV_self D).symm)
        have hWZ := below_one' bxa
        have hkeep : ∀ W', Below Z.heap.size Z W' → (W'.cell? ⟨W.heap.size, 0, none⟩ = some (.int .i64 V.epoch) ∧ W'.cell? ⟨W.heap.size, 1, none⟩ = some (.slice a1 V.chain.length k1) ∧ W'.cell? ⟨W.heap.size, 2, none⟩ = some (.slice a2 V.since.length k2) ∧ W'.cell? ⟨W.heap.size, 3, none⟩ = some (.slice a3 V.boot.length k3) ∧ W'.cell? ⟨w3.heap.size, 0, none⟩ = some (.int .i64 V.epoch) ∧ W'.cell? ⟨w3.heap.size, 1, none⟩ = some (.slice a1 V.chain.length k1) ∧ W'.cell? ⟨w3.heap.size, 2, none⟩ = some (.slice a2 V.since.length k2) ∧ W'.cell? ⟨w3.heap.size, 3, none⟩ = some (.slice a3 V.boot.length k3) ∧ W'.cell? ⟨w5.heap.size, 0, none⟩ = some (.int .i64 A.epoch) ∧ W'.cell? ⟨w5.heap.size, 1, none⟩ = some (.slice c1 A.chain.length c4) ∧ W'.cell? ⟨w5.heap.size, 2, none⟩ = some (.slice c2 A.since.length c5) ∧ W'.cell? ⟨w5.heap.size, 3, none⟩ = some (.slice c3 A.boot.length c6) ∧ W'.cell? ⟨w6.heap.size, 0, none⟩ = some (.int .i64 A.epoch) ∧ W'.cell? ⟨w6.heap.size, 1, none⟩ = some (.slice d1 A.chain.length d4) ∧ W'.cell? ⟨w6.heap.size, 2, none⟩ = some (.slice d2 A.since.length d5) ∧ W'.cell? ⟨w6.heap.size, 3, none⟩ = some (.slice d3 A.boot.length d6) ∧ W'.cell? ⟨w7.heap.size, 0, none⟩ = some (.int .i64 D.epoch) ∧ W'.cell? ⟨w7.heap.size, 1, none⟩ = some (.slice e1 D.chain.length e4) ∧ W'.cell? ⟨w7.heap.size, 2, none⟩ = some (.slice e2 D.since.length e5) ∧ W'.cell? ⟨w7.heap.size, 3, none⟩ = some (.slice e3 D.boot.length e6) ∧ W'.cell? ⟨w8.heap.size, 0, none⟩ = some (.int .i64 D.epoch) ∧ W'.cell? ⟨w8.heap.size, 1, none⟩ = some (.slice f1 D.chain.length f4) ∧ W'.cell? ⟨w8.heap.size, 2, none⟩ = some (.slice f2 D.since.length f5) ∧ W'.cell? ⟨w8.heap.size, 3, none⟩ = some (.slice f3 D.boot.length f6) ∧ W'.cell? ⟨w10.heap.size, 0, none⟩ = some (.int .i64 M.epoch) ∧ W'.cell? ⟨w10.heap.size, 1, none⟩ = some (.slice g1 M.chain.length g4) ∧ W'.cell? ⟨w10.heap.size, 2, none⟩ = some (.slice g2 M.since.length g5) ∧ W'.cell? ⟨w10.heap.size, 3, none⟩ = some (.slice g3 M.boot.length g6) ∧ Below Z.heap.size Z W') := by
          intro W' hb
          exact ⟨(hb.cell (p := ⟨W.heap.size, 0, none⟩) (by simp only; omega)).trans ya0, (hb.cell (p := ⟨W.heap.size, 1, none⟩) (by simp only; omega)).trans ya1, (hb.cell (p := ⟨W.heap.size, 2, none⟩) (by simp only; omega)).trans ya2, (hb.cell (p := ⟨W.heap.size, 3, none⟩) (by simp only; omega)).trans ya3, (hb.cell (p := ⟨w3.heap.size, 0, none⟩) (by simp only; omega)).trans yb0, (hb.cell (p := ⟨w3.heap.size, 1, none⟩) (by simp only; omega)).trans yb1, (hb.cell (p := ⟨w3.heap.size, 2, none⟩) (by simp only; omega)).trans yb2, (hb.cell (p := ⟨w3.heap.size, 3, none⟩) (by simp only; omega)).trans yb3, (hb.cell (p := ⟨w5.heap.size, 0, none⟩) (by simp only; omega)).trans yc0, (hb.cell (p := ⟨w5.heap.size, 1, none⟩) (by simp only; omega)).trans yc1, (hb.cell (p := ⟨w5.heap.size, 2, none⟩) (by simp only; omega)).trans yc2, (hb.cell (p := ⟨w5.heap.size, 3, none⟩) (by simp only; omega)).trans yc3, (hb.cell (p := ⟨w6.heap.size, 0, none⟩) (by simp only; omega)).trans yd0, (hb.cell (p := ⟨w6.heap.size, 1, none⟩) (by simp only; omega)).trans yd1, (hb.cell (p := ⟨w6.heap.size, 2, none⟩) (by simp only; omega)).trans yd2, (hb.cell (p := ⟨w6.heap.size, 3, none⟩) (by simp only; omega)).trans yd3, (hb.cell (p := ⟨w7.heap.size, 0, none⟩) (by simp only; omega)).trans ye0, (hb.cell (p := ⟨w7.heap.size, 1, none⟩) (by simp only; omega)).trans ye1, (hb.cell (p := ⟨w7.heap.size, 2, none⟩) (by simp only; omega)).trans ye2, (hb.cell (p := ⟨w7.heap.size, 3, none⟩) (by simp only; omega)).trans ye3, (hb.cell (p := ⟨w8.heap.size, 0, none⟩) (by simp only; omega)).trans yf0, (hb.cell (p := ⟨w8.heap.size, 1, none⟩) (by simp only; omega)).trans yf1, (hb.cell (p := ⟨w8.heap.size, 2, none⟩) (by simp only; omega)).trans yf2, (hb.cell (p := ⟨w8.heap.size, 3, none⟩) (by simp only; omega)).trans yf3, (hb.cell (p := ⟨w10.heap.size, 0, none⟩) (by simp only; omega)).trans yg0, (hb.cell (p := ⟨w10.heap.size, 1, none⟩) (by simp only; omega)).trans yg1, (hb.cell (p := ⟨w10.heap.size, 2, none⟩) (by simp only; omega)).trans yg2, (hb.cell (p := ⟨w10.heap.size, 3, none⟩) (by simp only; omega)).trans yg3, hb⟩
        have HK := Lib.hid hkeep
        have hh := HK.out Z.drew (Below.refl _ _).drew
        clear hkeep bxa bxb bxc bxd bxe bxf bxg bxg' ya0 ya1 ya2 ya3 yb0 yb1 yb2 yb3 yc0 yc1 yc2 yc3 yd0 yd1 yd2 yd3 ye0 ye1 ye2 ye3 yf0 yf1 yf2 yf3 yg0 yg1 yg2 yg3
        have HWZ := Lib.hid hWZ
        clear hWZ
        cases rr with
        | true =>
          rw [if_pos rfl] at hM
          subst hM
          have S3 := Lib.hid (fun (w1 : World) (hb : Below Z.heap.size Z w1) => same_any _ _ _ _ V V w1 (hvgZ.out.keep hb (by omega)) (hvZ.out.keep hb (by omega)) (by have := hb.size; omega) (by have := hb.size; omega) hs true (sameV_self V).symm)
          refine region_begin (S := fun W' => W'.cell? ⟨W.heap.size, 0, none⟩ = some (.int .i64 V.epoch) ∧ W'.cell? ⟨W.heap.size, 1, none⟩ = some (.slice a1 V.chain.length k1) ∧ W'.cell? ⟨W.heap.size, 2, none⟩ = some (.slice a2 V.since.length k2) ∧ W'.cell? ⟨W.heap.size, 3, none⟩ = some (.slice a3 V.boot.length k3) ∧ W'.cell? ⟨w3.heap.size, 0, none⟩ = some (.int .i64 V.epoch) ∧ W'.cell? ⟨w3.heap.size, 1, none⟩ = some (.slice a1 V.chain.length k1) ∧ W'.cell? ⟨w3.heap.size, 2, none⟩ = some (.slice a2 V.since.length k2) ∧ W'.cell? ⟨w3.heap.size, 3, none⟩ = some (.slice a3 V.boot.length k3) ∧ W'.cell? ⟨w5.heap.size, 0, none⟩ = some (.int .i64 A.epoch) ∧ W'.cell? ⟨w5.heap.size, 1, none⟩ = some (.slice c1 A.chain.length c4) ∧ W'.cell? ⟨w5.heap.size, 2, none⟩ = some (.slice c2 A.since.length c5) ∧ W'.cell? ⟨w5.heap.size, 3, none⟩ = some (.slice c3 A.boot.length c6) ∧ W'.cell? ⟨w6.heap.size, 0, none⟩ = some (.int .i64 A.epoch) ∧ W'.cell? ⟨w6.heap.size, 1, none⟩ = some (.slice d1 A.chain.length d4) ∧ W'.cell? ⟨w6.heap.size, 2, none⟩ = some (.slice d2 A.since.length d5) ∧ W'.cell? ⟨w6.heap.size, 3, none⟩ = some (.slice d3 A.boot.length d6) ∧ W'.cell? ⟨w7.heap.size, 0, none⟩ = some (.int .i64 D.epoch) ∧ W'.cell? ⟨w7.heap.size, 1, none⟩ = some (.slice e1 D.chain.length e4) ∧ W'.cell? ⟨w7.heap.size, 2, none⟩ = some (.slice e2 D.since.length e5) ∧ W'.cell? ⟨w7.heap.size, 3, none⟩ = some (.slice e3 D.boot.length e6) ∧ W'.cell? ⟨w8.heap.size, 0, none⟩ = some (.int .i64 D.epoch) ∧ W'.cell? ⟨w8.heap.size, 1, none⟩ = some (.slice f1 D.chain.length f4) ∧ W'.cell? ⟨w8.heap.size, 2, none⟩ = some (.slice f2 D.since.length f5) ∧ W'.cell? ⟨w8.heap.size, 3, none⟩ = some (.slice f3 D.boot.length f6) ∧ W'.cell? ⟨w10.heap.size, 0, none⟩ = some (.int .i64 V.epoch) ∧ W'.cell? ⟨w10.heap.size, 1, none⟩ = some (.slice g1 V.chain.length g4) ∧ W'.cell? ⟨w10.heap.size, 2, none⟩ = some (.slice g2 V.since.length g5) ∧ W'.cell? ⟨w10.heap.size, 3, none⟩ = some (.slice g3 V.boot.length g6) ∧ Below Z.heap.size Z W') 40 rfl (by kernel_rfl) hh (fun hH0 => ?_)
          have hq0 : Below Z.heap.size Z Z.drew := (Below.refl _ _).drew
          refine wpAnyH_take (i := 0) (oi := ?oT0) (v := ?vT0) ?hiT0 (by kernel_rfl) (by kernel_rfl) (by kernel_rfl) ?hQT0 ?hyT0 hH0 ?_
          case hiT0 => simp only [List.getElem?_toArray, List.getElem?_cons_zero]; rfl
          case hQT0 => exact fun _ _ _ h => h
          case hyT0 => refine Or.inl ⟨by rfl, ?_⟩; intro W hSw; (try dsimp only at hSw); go_simp; try with_reducible rfl
          simp only [Act.put, List.setIfInBounds_toArray, List.set_cons_zero, List.set_cons_succ]
          refine wpAnyH_take (i := 1) (oi := ?oT1) (v := ?vT1) ?hiT1 (by kernel_rfl) (by kernel_rfl) (by kernel_rfl) ?hQT1 ?hyT1 hH0 ?_
          case hiT1 => simp only [List.getElem?_toArray, List.getElem?_cons_zero, List.getElem?_cons_succ]; rfl
          case hQT1 => exact fun _ _ _ h => h
          case hyT1 => refine Or.inl ⟨by rfl, ?_⟩; intro W hSw; (try dsimp only at hSw); go_simp; try with_reducible rfl
          simp only [Act.put, List.setIfInBounds_toArray, List.set_cons_zero, List.set_cons_succ]
          refine wpAnyH_ready (rs := [2]) (by kernel_rfl) (by simp) ?_
          refine AllReadyH.cons (o := ?oT2) ?hoT2 (fun K' hK => ?_) AllReadyH.nil
          case hoT2 => simp only [List.getElem?_toArray, List.getElem?_cons_zero, List.getElem?_cons_succ]; rfl
          go_simp
          refine (S1.out _ hq0).mono ?_
          rintro e v1 ⟨rfl, hb1⟩
          have hq1 : Below Z.heap.size Z v1 := bstep hq0 hb1
          refine hK.out _ _ (HK.out _ hq1) (fun hH1 => ?_)
          clear hK K' hH0
          (try simp only [Act.put, List.setIfInBounds_toArray, List.set_cons_zero, List.set_cons_succ])
          refine wpAnyH_take (i := 3) (oi := ?oT3) (v := ?vT3) ?hiT3 (by kernel_rfl) (by kernel_rfl) (by kernel_rfl) ?hQT3 ?hyT3 hH1 ?_
          case hiT3 => simp only [List.getElem?_toArray, List.getElem?_cons_zero, List.getElem?_cons_succ]; rfl
          case hQT3 => exact fun _ _ _ h => h
          case hyT3 => refine Or.inl ⟨by rfl, ?_⟩; intro W hSw; (try dsimp only at hSw); go_simp; try with_reducible rfl
          simp only [Act.put, List.setIfInBounds_toArray, List.set_cons_zero, List.set_cons_succ]
          refine wpAnyH_take (i := 4) (oi := ?oT4) (v := ?vT4) ?hiT4 (by kernel_rfl) (by kernel_rfl) (by kernel_rfl) ?hQT4 ?hyT4 hH1 ?_
          case hiT4 => simp only [List.getElem?_toArray, List.getElem?_cons_zero, List.getElem?_cons_succ]; rfl
          case hQT4 => exact fun _ _ _ h => h
          case hyT4 => refine Or.inl ⟨by rfl, ?_⟩; intro W hSw; (try dsimp only at hSw); go_simp; try with_reducible rfl
          simp only [Act.put, List.setIfInBounds_toArray, List.set_cons_zero, List.set_cons_succ]
          refine wpAnyH_take (i := 5) (oi := ?oT5) (v := ?vT5) ?hiT5 (by kernel_rfl) (by kernel_rfl) (by kernel_rfl) ?hQT5 ?hyT5 hH1 ?_
          case hiT5 => simp only [List.getElem?_toArray, List.getElem?_cons_zero, List.getElem?_cons_succ]; rfl
          case hQT5 => exact fun _ _ _ h => h
          case hyT5 => refine Or.inl ⟨by rfl, ?_⟩; intro W hSw; (try dsimp only at hSw); go_simp; try with_reducible rfl
          simp only [Act.put, List.setIfInBounds_toArray, List.set_cons_zero, List.set_cons_succ]
          refine wpAnyH_take (i := 6) (oi := ?oT6) (v := ?vT6) ?hiT6 (by kernel_rfl) (by kernel_rfl) (by kernel_rfl) ?hQT6 ?hyT6 hH1 ?_
          case hiT6 => simp only [List.getElem?_toArray, List.getElem?_cons_zero, List.getElem?_cons_succ]; rfl
          case hQT6 => exact fun _ _ _ h => h
          case hyT6 => refine Or.inl ⟨by rfl, ?_⟩; intro W hSw; (try dsimp only at hSw); go_simp; try with_reducible rfl
          simp only [Act.put, List.setIfInBounds_toArray, List.set_cons_zero, List.set_cons_succ]
          refine wpAnyH_take (i := 7) (oi := ?oT7) (v := ?vT7) ?hiT7 (by kernel_rfl) (by kernel_rfl) (by kernel_rfl) ?hQT7 ?hyT7 hH1 ?_
          case hiT7 => simp only [List.getElem?_toArray, List.getElem?_cons_zero, List.getElem?_cons_succ]; rfl
          case hQT7 => exact fun _ _ _ h => h
          case hyT7 => refine Or.inl ⟨by rfl, ?_⟩; intro W hSw; (try dsimp only at hSw); go_simp; try with_reducible rfl
          simp only [Act.put, List.setIfInBounds_toArray, List.set_cons_zero, List.set_cons_succ]
          refine wpAnyH_take (i := 8) (oi := ?oT8) (v := ?vT8) ?hiT8 (by kernel_rfl) (by kernel_rfl) (by kernel_rfl) ?hQT8 ?hyT8 hH1 ?_
          case hiT8 => simp only [List.getElem?_toArray, List.getElem?_cons_zero, List.getElem?_cons_succ]; rfl
          case hQT8 => exact fun _ _ _ h => h
          case hyT8 => refine Or.inl ⟨by rfl, ?_⟩; intro W hSw; (try dsimp only at hSw); go_simp; try with_reducible rfl
          simp only [Act.put, List.setIfInBounds_toArray, List.set_cons_zero, List.set_cons_succ]
          refine wpAnyH_take (i := 9) (oi := ?oT9) (v := ?vT9) ?hiT9 (by kernel_rfl) (by kernel_rfl) (by kernel_rfl) ?hQT9 ?hyT9 hH1 ?_
          case hiT9 => simp only [List.getElem?_toArray, List.getElem?_cons_zero, List.getElem?_cons_succ]; rfl
          case hQT9 => exact fun _ _ _ h => h
          case hyT9 => refine Or.inl ⟨by rfl, ?_⟩; intro W hSw; (try dsimp only at hSw); go_simp; try with_reducible rfl
          simp only [Act.put, List.setIfInBounds_toArray, List.set_cons_zero, List.set_cons_succ]
          refine wpAnyH_take (i := 10) (oi := ?oT10) (v := ?vT10) ?hiT10 (by kernel_rfl) (by kernel_rfl) (by kernel_rfl) ?hQT10 ?hyT10 hH1 ?_
          case hiT10 => simp only [List.getElem?_toArray, List.getElem?_cons_zero, List.getElem?_cons_succ]; rfl
          case hQT10 => exact fun _ _ _ h => h
          case hyT10 => refine Or.inl ⟨by rfl, ?_⟩; intro W hSw; (try dsimp only at hSw); go_simp; try with_reducible rfl
          simp only [Act.put, List.setIfInBounds_toArray, List.set_cons_zero, List.set_cons_succ]
          refine wpAnyH_ready (rs := [11]) (by kernel_rfl) (by simp) ?_
          refine AllReadyH.cons (o := ?oT11) ?hoT11 (fun K' hK => ?_) AllReadyH.nil
          case hoT11 => simp only [List.getElem?_toArray, List.getElem?_cons_zero, List.getElem?_cons_succ]; rfl
          go_simp
          refine (S2.out _ hq1).mono ?_
          rintro e v2 ⟨rfl, hb2⟩
          have hq2 : Below Z.heap.size Z v2 := bstep hq1 hb2
          refine hK.out _ _ (HK.out _ hq2) (fun hH2 => ?_)
          clear hK K' hH1
          (try simp only [Act.put, List.setIfInBounds_toArray, List.set_cons_zero, List.set_cons_succ])
          refine wpAnyH_take (i := 12) (oi := ?oT12) (v := ?vT12) ?hiT12 (by kernel_rfl) (by kernel_rfl) (by kernel_rfl) ?hQT12 ?hyT12 hH2 ?_
          case hiT12 => simp only [List.getElem?_toArray, List.getElem?_cons_zero, List.getElem?_cons_succ]; rfl
          case hQT12 => exact fun _ _ _ h => h
          case hyT12 => refine Or.inl ⟨by rfl, ?_⟩; intro W hSw; (try dsimp only at hSw); go_simp; try with_reducible rfl
          simp only [Act.put, List.setIfInBounds_toArray, List.set_cons_zero, List.set_cons_succ]
          refine wpAnyH_take (i := 13) (oi := ?oT13) (v := ?vT13) ?hiT13 (by kernel_rfl) (by kernel_rfl) (by kernel_rfl) ?hQT13 ?hyT13 hH2 ?_
          case hiT13 => simp only [List.getElem?_toArray, List.getElem?_cons_zero, List.getElem?_cons_succ]; rfl
          case hQT13 => exact fun _ _ _ h => h
          case hyT13 => refine Or.inl ⟨by rfl, ?_⟩; intro W hSw; (try dsimp only at hSw); go_simp; try with_reducible rfl
          simp only [Act.put, List.setIfInBounds_toArray, List.set_cons_zero, List.set_cons_succ]
          refine wpAnyH_take (i := 14) (oi := ?oT14) (v := ?vT14) ?hiT14 (by kernel_rfl) (by kernel_rfl) (by kernel_rfl) ?hQT14 ?hyT14 hH2 ?_
          case hiT14 => simp only [List.getElem?_toArray, List.getElem?_cons_zero, List.getElem?_cons_succ]; rfl
          case hQT14 => exact fun _ _ _ h => h
          case hyT14 => refine Or.inl ⟨by rfl, ?_⟩; intro W hSw; (try dsimp only at hSw); go_simp; try with_reducible rfl
          simp only [Act.put, List.setIfInBounds_toArray, List.set_cons_zero, List.set_cons_succ]
          refine wpAnyH_take (i := 15) (oi := ?oT15) (v := ?vT15) ?hiT15 (by kernel_rfl) (by kernel_rfl) (by kernel_rfl) ?hQT15 ?hyT15 hH2 ?_
          case hiT15 => simp only [List.getElem?_toArray, List.getElem?_cons_zero, List.getElem?_cons_succ]; rfl
          case hQT15 => exact fun _ _ _ h => h
          case hyT15 => refine Or.inl ⟨by rfl, ?_⟩; intro W hSw; (try dsimp only at hSw); go_simp; try with_reducible rfl
          simp only [Act.put, List.setIfInBounds_toArray, List.set_cons_zero, List.set_cons_succ]
          refine wpAnyH_take (i := 16) (oi := ?oT16) (v := ?vT16) ?hiT16 (by kernel_rfl) (by kernel_rfl) (by kernel_rfl) ?hQT16 ?hyT16 hH2 ?_
          case hiT16 => simp only [List.getElem?_toArray, List.getElem?_cons_zero, List.getElem?_cons_succ]; rfl
          case hQT16 => exact fun _ _ _ h => h
          case hyT16 => refine Or.inl ⟨by rfl, ?_⟩; intro W hSw; (try dsimp only at hSw); go_simp; try with_reducible rfl
          simp only [Act.put, List.setIfInBounds_toArray, List.set_cons_zero, List.set_cons_succ]
          refine wpAnyH_take (i := 17) (oi := ?oT17) (v := ?vT17) ?hiT17 (by kernel_rfl) (by kernel_rfl) (by kernel_rfl) ?hQT17 ?hyT17 hH2 ?_
          case hiT17 => simp only [List.getElem?_toArray, List.getElem?_cons_zero, List.getElem?_cons_succ]; rfl
          case hQT17 => exact fun _ _ _ h => h
          case hyT17 => refine Or.inl ⟨by rfl, ?_⟩; intro W hSw; (try dsimp only at hSw); go_simp; try with_reducible rfl
          simp only [Act.put, List.setIfInBounds_toArray, List.set_cons_zero, List.set_cons_succ]
          refine wpAnyH_take (i := 18) (oi := ?oT18) (v := ?vT18) ?hiT18 (by kernel_rfl) (by kernel_rfl) (by kernel_rfl) ?hQT18 ?hyT18 hH2 ?_
          case hiT18 => simp only [List.getElem?_toArray, List.getElem?_cons_zero, List.getElem?_cons_succ]; rfl
          case hQT18 => exact fun _ _ _ h => h
          case hyT18 => refine Or.inl ⟨by rfl, ?_⟩; intro W hSw; (try dsimp only at hSw); go_simp; try with_reducible rfl
          simp only [Act.put, List.setIfInBounds_toArray, List.set_cons_zero, List.set_cons_succ]
          refine wpAnyH_take (i := 19) (oi := ?oT19) (v := ?vT19) ?hiT19 (by kernel_rfl) (by kernel_rfl) (by kernel_rfl) ?hQT19 ?hyT19 hH2 ?_
          case hiT19 => simp only [List.getElem?_toArray, List.getElem?_cons_zero, List.getElem?_cons_succ]; rfl
          case hQT19 => exact fun _ _ _ h => h
          case hyT19 => refine Or.inl ⟨by rfl, ?_⟩; intro W hSw; (try dsimp only at hSw); go_simp; try with_reducible rfl
          simp only [Act.put, List.setIfInBounds_toArray, List.set_cons_zero, List.set_cons_succ]
          refine wpAnyH_take (i := 21) (oi := ?oT21) (v := ?vT21) ?hiT21 (by kernel_rfl) (by kernel_rfl) (by kernel_rfl) ?hQT21 ?hyT21 hH2 ?_
          case hiT21 => simp only [List.getElem?_toArray, List.getElem?_cons_zero, List.getElem?_cons_succ]; rfl
          case hQT21 => exact fun _ _ _ h => h
          case hyT21 => refine Or.inl ⟨by rfl, ?_⟩; intro W hSw; (try dsimp only at hSw); go_simp; try with_reducible rfl
          simp only [Act.put, List.setIfInBounds_toArray, List.set_cons_zero, List.set_cons_succ]
          refine wpAnyH_ready (rs := [20]) (by kernel_rfl) (by simp) ?_
          refine AllReadyH.cons (o := ?oT20) ?hoT20 (fun K' hK => ?_) AllReadyH.nil
          case hoT20 => simp only [List.getElem?_toArray, List.getElem?_cons_zero, List.getElem?_cons_succ]; rfl
          go_simp
          refine (CU.out _ (bstep HWZ.out hq2)).mono ?_
          rintro e v3 ⟨rfl, hb3⟩
          have hq3 : Below Z.heap.size Z v3 := bstep hq2 hb3
          refine hK.out _ _ (HK.out _ hq3) (fun hH3 => ?_)
          clear hK K' hH2
          (try simp only [Act.put, List.setIfInBounds_toArray, List.set_cons_zero, List.set_cons_succ])
          refine wpAnyH_ready (rs := [22]) (by kernel_rfl) (by simp) ?_
          refine AllReadyH.cons (o := ?oT22) ?hoT22 (fun K' hK => ?_) AllReadyH.nil
          case hoT22 => simp only [List.getElem?_toArray, List.getElem?_cons_zero, List.getElem?_cons_succ]; rfl
          go_simp
          refine (CU2.out _ (bstep HWZ.out hq3)).mono ?_
          rintro e v4 ⟨rfl, hb4⟩
          have hq4 : Below Z.heap.size Z v4 := bstep hq3 hb4
          refine hK.out _ _ (HK.out _ hq4) (fun hH4 => ?_)
          clear hK K' hH3
          (try simp only [Act.put, List.setIfInBounds_toArray, List.set_cons_zero, List.set_cons_succ])
          refine wpAnyH_take (i := 23) (oi := ?oT23) (v := ?vT23) ?hiT23 (by kernel_rfl) (by kernel_rfl) (by kernel_rfl) ?hQT23 ?hyT23 hH4 ?_
          case hiT23 => simp only [List.getElem?_toArray, List.getElem?_cons_zero, List.getElem?_cons_succ]; rfl
          case hQT23 => exact fun _ _ _ h => h
          case hyT23 => refine Or.inl ⟨by rfl, ?_⟩; intro W hSw; (try dsimp only at hSw); go_simp; try with_reducible rfl
          simp only [Act.put, List.setIfInBounds_toArray, List.set_cons_zero, List.set_cons_succ]
          refine wpAnyH_take (i := 24) (oi := ?oT24) (v := ?vT24) ?hiT24 (by kernel_rfl) (by kernel_rfl) (by kernel_rfl) ?hQT24 ?hyT24 hH4 ?_
          case hiT24 => simp only [List.getElem?_toArray, List.getElem?_cons_zero, List.getElem?_cons_succ]; rfl
          case hQT24 => exact fun _ _ _ h => h
          case hyT24 => refine Or.inl ⟨by rfl, ?_⟩; intro W hSw; (try dsimp only at hSw); go_simp; try with_reducible rfl
          simp only [Act.put, List.setIfInBounds_toArray, List.set_cons_zero, List.set_cons_succ]
          refine wpAnyH_take (i := 25) (oi := ?oT25) (v := ?vT25) ?hiT25 (by kernel_rfl) (by kernel_rfl) (by kernel_rfl) ?hQT25 ?hyT25 hH4 ?_
          case hiT25 => simp only [List.getElem?_toArray, List.getElem?_cons_zero, List.getElem?_cons_succ]; rfl
          case hQT25 => exact fun _ _ _ h => h
          case hyT25 => refine Or.inl ⟨by rfl, ?_⟩; intro W hSw; (try dsimp only at hSw); go_simp; try with_reducible rfl
          simp only [Act.put, List.setIfInBounds_toArray, List.set_cons_zero, List.set_cons_succ]
          refine wpAnyH_take (i := 26) (oi := ?oT26) (v := ?vT26) ?hiT26 (by kernel_rfl) (by kernel_rfl) (by kernel_rfl) ?hQT26 ?hyT26 hH4 ?_
          case hiT26 => simp only [List.getElem?_toArray, List.getElem?_cons_zero, List.getElem?_cons_succ]; rfl
          case hQT26 => exact fun _ _ _ h => h
          case hyT26 => refine Or.inl ⟨by rfl, ?_⟩; intro W hSw; (try dsimp only at hSw); go_simp; try with_reducible rfl
          simp only [Act.put, List.setIfInBounds_toArray, List.set_cons_zero, List.set_cons_succ]
          refine wpAnyH_take (i := 27) (oi := ?oT27) (v := ?vT27) ?hiT27 (by kernel_rfl) (by kernel_rfl) (by kernel_rfl) ?hQT27 ?hyT27 hH4 ?_
          case hiT27 => simp only [List.getElem?_toArray, List.getElem?_cons_zero, List.getElem?_cons_succ]; rfl
          case hQT27 => exact fun _ _ _ h => h
          case hyT27 => refine Or.inl ⟨by rfl, ?_⟩; intro W hSw; (try dsimp only at hSw); go_simp; try with_reducible rfl
          simp only [Act.put, List.setIfInBounds_toArray, List.set_cons_zero, List.set_cons_succ]
          refine wpAnyH_take (i := 28) (oi := ?oT28) (v := ?vT28) ?hiT28 (by kernel_rfl) (by kernel_rfl) (by kernel_rfl) ?hQT28 ?hyT28 hH4 ?_
          case hiT28 => simp only [List.getElem?_toArray, List.getElem?_cons_zero, List.getElem?_cons_succ]; rfl
          case hQT28 => exact fun _ _ _ h => h
          case hyT28 => refine Or.inl ⟨by rfl, ?_⟩; intro W hSw; (try dsimp only at hSw); go_simp; try with_reducible rfl
          simp only [Act.put, List.setIfInBounds_toArray, List.set_cons_zero, List.set_cons_succ]
          refine wpAnyH_take (i := 29) (oi := ?oT29) (v := ?vT29) ?hiT29 (by kernel_rfl) (by kernel_rfl) (by kernel_rfl) ?hQT29 ?hyT29 hH4 ?_
          case hiT29 => simp only [List.getElem?_toArray, List.getElem?_cons_zero, List.getElem?_cons_succ]; rfl
          case hQT29 => exact fun _ _ _ h => h
          case hyT29 => refine Or.inl ⟨by rfl, ?_⟩; intro W hSw; (try dsimp only at hSw); go_simp; try with_reducible rfl
          simp only [Act.put, List.setIfInBounds_toArray, List.set_cons_zero, List.set_cons_succ]
          refine wpAnyH_take (i := 30) (oi := ?oT30) (v := ?vT30) ?hiT30 (by kernel_rfl) (by kernel_rfl) (by kernel_rfl) ?hQT30 ?hyT30 hH4 ?_
          case hiT30 => simp only [List.getElem?_toArray, List.getElem?_cons_zero, List.getElem?_cons_succ]; rfl
          case hQT30 => exact fun _ _ _ h => h
          case hyT30 => refine Or.inl ⟨by rfl, ?_⟩; intro W hSw; (try dsimp only at hSw); go_simp; try with_reducible rfl
          simp only [Act.put, List.setIfInBounds_toArray, List.set_cons_zero, List.set_cons_succ]
          refine wpAnyH_take (i := 31) (oi := ?oT31) (v := ?vT31) ?hiT31 (by kernel_rfl) (by kernel_rfl) (by kernel_rfl) ?hQT31 ?hyT31 hH4 ?_
          case hiT31 => simp only [List.getElem?_toArray, List.getElem?_cons_zero, List.getElem?_cons_succ]; rfl
          case hQT31 => exact fun _ _ _ h => h
          case hyT31 => refine Or.inl ⟨by rfl, ?_⟩; intro W hSw; (try dsimp only at hSw); go_simp; try with_reducible rfl
          simp only [Act.put, List.setIfInBounds_toArray, List.set_cons_zero, List.set_cons_succ]
          refine wpAnyH_take (i := 32) (oi := ?oT32) (v := ?vT32) ?hiT32 (by kernel_rfl) (by kernel_rfl) (by kernel_rfl) ?hQT32 ?hyT32 hH4 ?_
          case hiT32 => simp only [List.getElem?_toArray, List.getElem?_cons_zero, List.getElem?_cons_succ]; rfl
          case hQT32 => exact fun _ _ _ h => h
          case hyT32 => refine Or.inl ⟨by rfl, ?_⟩; intro W hSw; (try dsimp only at hSw); go_simp; try with_reducible rfl
          simp only [Act.put, List.setIfInBounds_toArray, List.set_cons_zero, List.set_cons_succ]
          refine wpAnyH_take (i := 33) (oi := ?oT33) (v := ?vT33) ?hiT33 (by kernel_rfl) (by kernel_rfl) (by kernel_rfl) ?hQT33 ?hyT33 hH4 ?_
          case hiT33 => simp only [List.getElem?_toArray, List.getElem?_cons_zero, List.getElem?_cons_succ]; rfl
          case hQT33 => exact fun _ _ _ h => h
          case hyT33 => refine Or.inl ⟨by rfl, ?_⟩; intro W hSw; (try dsimp only at hSw); go_simp; try with_reducible rfl
          simp only [Act.put, List.setIfInBounds_toArray, List.set_cons_zero, List.set_cons_succ]
          refine wpAnyH_take (i := 34) (oi := ?oT34) (v := ?vT34) ?hiT34 (by kernel_rfl) (by kernel_rfl) (by kernel_rfl) ?hQT34 ?hyT34 hH4 ?_
          case hiT34 => simp only [List.getElem?_toArray, List.getElem?_cons_zero, List.getElem?_cons_succ]; rfl
          case hQT34 => exact fun _ _ _ h => h
          case hyT34 => refine Or.inl ⟨by rfl, ?_⟩; intro W hSw; (try dsimp only at hSw); go_simp; try with_reducible rfl
          simp only [Act.put, List.setIfInBounds_toArray, List.set_cons_zero, List.set_cons_succ]
          refine wpAnyH_take (i := 35) (oi := ?oT35) (v := ?vT35) ?hiT35 (by kernel_rfl) (by kernel_rfl) (by kernel_rfl) ?hQT35 ?hyT35 hH4 ?_
          case hiT35 => simp only [List.getElem?_toArray, List.getElem?_cons_zero, List.getElem?_cons_succ]; rfl
          case hQT35 => exact fun _ _ _ h => h
          case hyT35 => refine Or.inl ⟨by rfl, ?_⟩; intro W hSw; (try dsimp only at hSw); go_simp; try with_reducible rfl
          simp only [Act.put, List.setIfInBounds_toArray, List.set_cons_zero, List.set_cons_succ]
          refine wpAnyH_ready (rs := [36]) (by kernel_rfl) (by simp) ?_
          refine AllReadyH.cons (o := ?oT36) ?hoT36 (fun K' hK => ?_) AllReadyH.nil
          case hoT36 => simp only [List.getElem?_toArray, List.getElem?_cons_zero, List.getElem?_cons_succ]; rfl
          go_simp
          refine (S3.out _ hq4).mono ?_
          rintro e v5 ⟨rfl, hb5⟩
          have hq5 : Below Z.heap.size Z v5 := bstep hq4 hb5
          refine hK.out _ _ (HK.out _ hq5) (fun hH5 => ?_)
          clear hK K' hH4
          (try simp only [Act.put, List.setIfInBounds_toArray, List.set_cons_zero, List.set_cons_succ])
          refine wpAnyH_take (i := 37) (oi := ?oT37) (v := ?vT37) ?hiT37 (by kernel_rfl) (by kernel_rfl) (by kernel_rfl) ?hQT37 ?hyT37 hH5 ?_
          case hiT37 => simp only [List.getElem?_toArray, List.getElem?_cons_zero, List.getElem?_cons_succ]; rfl
          case hQT37 => exact fun _ _ _ h => h
          case hyT37 => refine Or.inl ⟨by rfl, ?_⟩; intro W hSw; (try dsimp only at hSw); go_simp; try with_reducible rfl
          simp only [Act.put, List.setIfInBounds_toArray, List.set_cons_zero, List.set_cons_succ]
          refine wpAnyH_take (i := 38) (oi := ?oT38) (v := ?vT38) ?hiT38 (by kernel_rfl) (by kernel_rfl) (by kernel_rfl) ?hQT38 ?hyT38 hH5 ?_
          case hiT38 => simp only [List.getElem?_toArray, List.getElem?_cons_zero, List.getElem?_cons_succ]; rfl
          case hQT38 => exact fun _ _ _ h => h
          case hyT38 => refine Or.inl ⟨by rfl, ?_⟩; intro W hSw; (try dsimp only at hSw); go_simp; try with_reducible rfl
          simp only [Act.put, List.setIfInBounds_toArray, List.set_cons_zero, List.set_cons_succ]
          refine wpAnyH_take (i := 39) (oi := ?oT39) (v := ?vT39) ?hiT39 (by kernel_rfl) (by kernel_rfl) (by kernel_rfl) ?hQT39 ?hyT39 hH5 ?_
          case hiT39 => simp only [List.getElem?_toArray, List.getElem?_cons_zero, List.getElem?_cons_succ]; rfl
          case hQT39 => exact fun _ _ _ h => h
          case hyT39 => refine Or.inl ⟨by rfl, ?_⟩; intro W hSw; (try dsimp only at hSw); go_simp; try with_reducible rfl
          simp only [Act.put, List.setIfInBounds_toArray, List.set_cons_zero, List.set_cons_succ]
          refine wpAnyH_done (by kernel_rfl) ?_ _
          go_wp2_with fail
          go_ret
          exact ⟨rfl, bstep HWZ.out hq5⟩
        | false =>
          refine region_begin (S := fun W' => W'.cell? ⟨W.heap.size, 0, none⟩ = some (.int .i64 V.epoch) ∧ W'.cell? ⟨W.heap.size, 1, none⟩ = some (.slice a1 V.chain.length k1) ∧ W'.cell? ⟨W.heap.size, 2, none⟩ = some (.slice a2 V.since.length k2) ∧ W'.cell? ⟨W.heap.size, 3, none⟩ = some (.slice a3 V.boot.length k3) ∧ W'.cell? ⟨w3.heap.size, 0, none⟩ = some (.int .i64 V.epoch) ∧ W'.cell? ⟨w3.heap.size, 1, none⟩ = some (.slice a1 V.chain.length k1) ∧ W'.cell? ⟨w3.heap.size, 2, none⟩ = some (.slice a2 V.since.length k2) ∧ W'.cell? ⟨w3.heap.size, 3, none⟩ = some (.slice a3 V.boot.length k3) ∧ W'.cell? ⟨w5.heap.size, 0, none⟩ = some (.int .i64 A.epoch) ∧ W'.cell? ⟨w5.heap.size, 1, none⟩ = some (.slice c1 A.chain.length c4) ∧ W'.cell? ⟨w5.heap.size, 2, none⟩ = some (.slice c2 A.since.length c5) ∧ W'.cell? ⟨w5.heap.size, 3, none⟩ = some (.slice c3 A.boot.length c6) ∧ W'.cell? ⟨w6.heap.size, 0, none⟩ = some (.int .i64 A.epoch) ∧ W'.cell? ⟨w6.heap.size, 1, none⟩ = some (.slice d1 A.chain.length d4) ∧ W'.cell? ⟨w6.heap.size, 2, none⟩ = some (.slice d2 A.since.length d5) ∧ W'.cell? ⟨w6.heap.size, 3, none⟩ = some (.slice d3 A.boot.length d6) ∧ W'.cell? ⟨w7.heap.size, 0, none⟩ = some (.int .i64 D.epoch) ∧ W'.cell? ⟨w7.heap.size, 1, none⟩ = some (.slice e1 D.chain.length e4) ∧ W'.cell? ⟨w7.heap.size, 2, none⟩ = some (.slice e2 D.since.length e5) ∧ W'.cell? ⟨w7.heap.size, 3, none⟩ = some (.slice e3 D.boot.length e6) ∧ W'.cell? ⟨w8.heap.size, 0, none⟩ = some (.int .i64 D.epoch) ∧ W'.cell? ⟨w8.heap.size, 1, none⟩ = some (.slice f1 D.chain.length f4) ∧ W'.cell? ⟨w8.heap.size, 2, none⟩ = some (.slice f2 D.since.length f5) ∧ W'.cell? ⟨w8.heap.size, 3, none⟩ = some (.slice f3 D.boot.length f6) ∧ W'.cell? ⟨w10.heap.size, 0, none⟩ = some (.int .i64 M.epoch) ∧ W'.cell? ⟨w10.heap.size, 1, none⟩ = some (.slice g1 M.chain.length g4) ∧ W'.cell? ⟨w10.heap.size, 2, none⟩ = some (.slice g2 M.since.length g5) ∧ W'.cell? ⟨w10.heap.size, 3, none⟩ = some (.slice g3 M.boot.length g6) ∧ Below Z.heap.size Z W') 40 rfl (by kernel_rfl) hh (fun hH0 => ?_)
          have hq0 : Below Z.heap.size Z Z.drew := (Below.refl _ _).drew
          refine wpAnyH_take (i := 0) (oi := ?oF0) (v := ?vF0) ?hiF0 (by kernel_rfl) (by kernel_rfl) (by kernel_rfl) ?hQF0 ?hyF0 hH0 ?_
          case hiF0 => simp only [List.getElem?_toArray, List.getElem?_cons_zero]; rfl
          case hQF0 => exact fun _ _ _ h => h
          case hyF0 => refine Or.inl ⟨by rfl, ?_⟩; intro W hSw; (try dsimp only at hSw); go_simp; try with_reducible rfl
          simp only [Act.put, List.setIfInBounds_toArray, List.set_cons_zero, List.set_cons_succ]
          refine wpAnyH_take (i := 1) (oi := ?oF1) (v := ?vF1) ?hiF1 (by kernel_rfl) (by kernel_rfl) (by kernel_rfl) ?hQF1 ?hyF1 hH0 ?_
          case hiF1 => simp only [List.getElem?_toArray, List.getElem?_cons_zero, List.getElem?_cons_succ]; rfl
          case hQF1 => exact fun _ _ _ h => h
          case hyF1 => refine Or.inl ⟨by rfl, ?_⟩; intro W hSw; (try dsimp only at hSw); go_simp; try with_reducible rfl
          simp only [Act.put, List.setIfInBounds_toArray, List.set_cons_zero, List.set_cons_succ]
          refine wpAnyH_ready (rs := [2]) (by kernel_rfl) (by simp) ?_
          refine AllReadyH.cons (o := ?oF2) ?hoF2 (fun K' hK => ?_) AllReadyH.nil
          case hoF2 => simp only [List.getElem?_toArray, List.getElem?_cons_zero, List.getElem?_cons_succ]; rfl
          go_simp
          refine (S1.out _ hq0).mono ?_
          rintro e v1 ⟨rfl, hb1⟩
          have hq1 : Below Z.heap.size Z v1 := bstep hq0 hb1
          refine hK.out _ _ (HK.out _ hq1) (fun hH1 => ?_)
          clear hK K' hH0
          (try simp only [Act.put, List.setIfInBounds_toArray, List.set_cons_zero, List.set_cons_succ])
          refine wpAnyH_take (i := 3) (oi := ?oF3) (v := ?vF3) ?hiF3 (by kernel_rfl) (by kernel_rfl) (by kernel_rfl) ?hQF3 ?hyF3 hH1 ?_
          case hiF3 => simp only [List.getElem?_toArray, List.getElem?_cons_zero, List.getElem?_cons_succ]; rfl
          case hQF3 => exact fun _ _ _ h => h
          case hyF3 => refine Or.inl ⟨by rfl, ?_⟩; intro W hSw; (try dsimp only at hSw); go_simp; try with_reducible rfl
          simp only [Act.put, List.setIfInBounds_toArray, List.set_cons_zero, List.set_cons_succ]
          refine wpAnyH_take (i := 4) (oi := ?oF4) (v := ?vF4) ?hiF4 (by kernel_rfl) (by kernel_rfl) (by kernel_rfl) ?hQF4 ?hyF4 hH1 ?_
          case hiF4 => simp only [List.getElem?_toArray, List.getElem?_cons_zero, List.getElem?_cons_succ]; rfl
          case hQF4 => exact fun _ _ _ h => h
          case hyF4 => refine Or.inl ⟨by rfl, ?_⟩; intro W hSw; (try dsimp only at hSw); go_simp; try with_reducible rfl
          simp only [Act.put, List.setIfInBounds_toArray, List.set_cons_zero, List.set_cons_succ]
          refine wpAnyH_take (i := 5) (oi := ?oF5) (v := ?vF5) ?hiF5 (by kernel_rfl) (by kernel_rfl) (by kernel_rfl) ?hQF5 ?hyF5 hH1 ?_
          case hiF5 => simp only [List.getElem?_toArray, List.getElem?_cons_zero, List.getElem?_cons_succ]; rfl
          case hQF5 => exact fun _ _ _ h => h
          case hyF5 => refine Or.inl ⟨by rfl, ?_⟩; intro W hSw; (try dsimp only at hSw); go_simp; try with_reducible rfl
          simp only [Act.put, List.setIfInBounds_toArray, List.set_cons_zero, List.set_cons_succ]
          refine wpAnyH_take (i := 6) (oi := ?oF6) (v := ?vF6) ?hiF6 (by kernel_rfl) (by kernel_rfl) (by kernel_rfl) ?hQF6 ?hyF6 hH1 ?_
          case hiF6 => simp only [List.getElem?_toArray, List.getElem?_cons_zero, List.getElem?_cons_succ]; rfl
          case hQF6 => exact fun _ _ _ h => h
          case hyF6 => refine Or.inl ⟨by rfl, ?_⟩; intro W hSw; (try dsimp only at hSw); go_simp; try with_reducible rfl
          simp only [Act.put, List.setIfInBounds_toArray, List.set_cons_zero, List.set_cons_succ]
          refine wpAnyH_take (i := 7) (oi := ?oF7) (v := ?vF7) ?hiF7 (by kernel_rfl) (by kernel_rfl) (by kernel_rfl) ?hQF7 ?hyF7 hH1 ?_
          case hiF7 => simp only [List.getElem?_toArray, List.getElem?_cons_zero, List.getElem?_cons_succ]; rfl
          case hQF7 => exact fun _ _ _ h => h
          case hyF7 => refine Or.inl ⟨by rfl, ?_⟩; intro W hSw; (try dsimp only at hSw); go_simp; try with_reducible rfl
          simp only [Act.put, List.setIfInBounds_toArray, List.set_cons_zero, List.set_cons_succ]
          refine wpAnyH_take (i := 8) (oi := ?oF8) (v := ?vF8) ?hiF8 (by kernel_rfl) (by kernel_rfl) (by kernel_rfl) ?hQF8 ?hyF8 hH1 ?_
          case hiF8 => simp only [List.getElem?_toArray, List.getElem?_cons_zero, List.getElem?_cons_succ]; rfl
          case hQF8 => exact fun _ _ _ h => h
          case hyF8 => refine Or.inl ⟨by rfl, ?_⟩; intro W hSw; (try dsimp only at hSw); go_simp; try with_reducible rfl
          simp only [Act.put, List.setIfInBounds_toArray, List.set_cons_zero, List.set_cons_succ]
          refine wpAnyH_take (i := 9) (oi := ?oF9) (v := ?vF9) ?hiF9 (by kernel_rfl) (by kernel_rfl) (by kernel_rfl) ?hQF9 ?hyF9 hH1 ?_
          case hiF9 => simp only [List.getElem?_toArray, List.getElem?_cons_zero, List.getElem?_cons_succ]; rfl
          case hQF9 => exact fun _ _ _ h => h
          case hyF9 => refine Or.inl ⟨by rfl, ?_⟩; intro W hSw; (try dsimp only at hSw); go_simp; try with_reducible rfl
          simp only [Act.put, List.setIfInBounds_toArray, List.set_cons_zero, List.set_cons_succ]
          refine wpAnyH_take (i := 10) (oi := ?oF10) (v := ?vF10) ?hiF10 (by kernel_rfl) (by kernel_rfl) (by kernel_rfl) ?hQF10 ?hyF10 hH1 ?_
          case hiF10 => simp only [List.getElem?_toArray, List.getElem?_cons_zero, List.getElem?_cons_succ]; rfl
          case hQF10 => exact fun _ _ _ h => h
          case hyF10 => refine Or.inl ⟨by rfl, ?_⟩; intro W hSw; (try dsimp only at hSw); go_simp; try with_reducible rfl
          simp only [Act.put, List.setIfInBounds_toArray, List.set_cons_zero, List.set_cons_succ]
          refine wpAnyH_ready (rs := [11]) (by kernel_rfl) (by simp) ?_
          refine AllReadyH.cons (o := ?oF11) ?hoF11 (fun K' hK => ?_) AllReadyH.nil
          case hoF11 => simp only [List.getElem?_toArray, List.getElem?_cons_zero, List.getElem?_cons_succ]; rfl
          go_simp
          refine (S2.out _ hq1).mono ?_
          rintro e v2 ⟨rfl, hb2⟩
          have hq2 : Below Z.heap.size Z v2 := bstep hq1 hb2
          refine hK.out _ _ (HK.out _ hq2) (fun hH2 => ?_)
          clear hK K' hH1
          (try simp only [Act.put, List.setIfInBounds_toArray, List.set_cons_zero, List.set_cons_succ])
          refine wpAnyH_take (i := 12) (oi := ?oF12) (v := ?vF12) ?hiF12 (by kernel_rfl) (by kernel_rfl) (by kernel_rfl) ?hQF12 ?hyF12 hH2 ?_
          case hiF12 => simp only [List.getElem?_toArray, List.getElem?_cons_zero, List.getElem?_cons_succ]; rfl
          case hQF12 => exact fun _ _ _ h => h
          case hyF12 => refine Or.inl ⟨by rfl, ?_⟩; intro W hSw; (try dsimp only at hSw); go_simp; try with_reducible rfl
          simp only [Act.put, List.setIfInBounds_toArray, List.set_cons_zero, List.set_cons_succ]
          refine wpAnyH_take (i := 13) (oi := ?oF13) (v := ?vF13) ?hiF13 (by kernel_rfl) (by kernel_rfl) (by kernel_rfl) ?hQF13 ?hyF13 hH2 ?_
          case hiF13 => simp only [List.getElem?_toArray, List.getElem?_cons_zero, List.getElem?_cons_succ]; rfl
          case hQF13 => exact fun _ _ _ h => h
          case hyF13 => refine Or.inl ⟨by rfl, ?_⟩; intro W hSw; (try dsimp only at hSw); go_simp; try with_reducible rfl
          simp only [Act.put, List.setIfInBounds_toArray, List.set_cons_zero, List.set_cons_succ]
          refine wpAnyH_take (i := 14) (oi := ?oF14) (v := ?vF14) ?hiF14 (by kernel_rfl) (by kernel_rfl) (by kernel_rfl) ?hQF14 ?hyF14 hH2 ?_
          case hiF14 => simp only [List.getElem?_toArray, List.getElem?_cons_zero, List.getElem?_cons_succ]; rfl
          case hQF14 => exact fun _ _ _ h => h
          case hyF14 => refine Or.inl ⟨by rfl, ?_⟩; intro W hSw; (try dsimp only at hSw); go_simp; try with_reducible rfl
          simp only [Act.put, List.setIfInBounds_toArray, List.set_cons_zero, List.set_cons_succ]
          refine wpAnyH_take (i := 15) (oi := ?oF15) (v := ?vF15) ?hiF15 (by kernel_rfl) (by kernel_rfl) (by kernel_rfl) ?hQF15 ?hyF15 hH2 ?_
          case hiF15 => simp only [List.getElem?_toArray, List.getElem?_cons_zero, List.getElem?_cons_succ]; rfl
          case hQF15 => exact fun _ _ _ h => h
          case hyF15 => refine Or.inl ⟨by rfl, ?_⟩; intro W hSw; (try dsimp only at hSw); go_simp; try with_reducible rfl
          simp only [Act.put, List.setIfInBounds_toArray, List.set_cons_zero, List.set_cons_succ]
          refine wpAnyH_take (i := 16) (oi := ?oF16) (v := ?vF16) ?hiF16 (by kernel_rfl) (by kernel_rfl) (by kernel_rfl) ?hQF16 ?hyF16 hH2 ?_
          case hiF16 => simp only [List.getElem?_toArray, List.getElem?_cons_zero, List.getElem?_cons_succ]; rfl
          case hQF16 => exact fun _ _ _ h => h
          case hyF16 => refine Or.inl ⟨by rfl, ?_⟩; intro W hSw; (try dsimp only at hSw); go_simp; try with_reducible rfl
          simp only [Act.put, List.setIfInBounds_toArray, List.set_cons_zero, List.set_cons_succ]
          refine wpAnyH_take (i := 17) (oi := ?oF17) (v := ?vF17) ?hiF17 (by kernel_rfl) (by kernel_rfl) (by kernel_rfl) ?hQF17 ?hyF17 hH2 ?_
          case hiF17 => simp only [List.getElem?_toArray, List.getElem?_cons_zero, List.getElem?_cons_succ]; rfl
          case hQF17 => exact fun _ _ _ h => h
          case hyF17 => refine Or.inl ⟨by rfl, ?_⟩; intro W hSw; (try dsimp only at hSw); go_simp; try with_reducible rfl
          simp only [Act.put, List.setIfInBounds_toArray, List.set_cons_zero, List.set_cons_succ]
          refine wpAnyH_take (i := 18) (oi := ?oF18) (v := ?vF18) ?hiF18 (by kernel_rfl) (by kernel_rfl) (by kernel_rfl) ?hQF18 ?hyF18 hH2 ?_
          case hiF18 => simp only [List.getElem?_toArray, List.getElem?_cons_zero, List.getElem?_cons_succ]; rfl
          case hQF18 => exact fun _ _ _ h => h
          case hyF18 => refine Or.inl ⟨by rfl, ?_⟩; intro W hSw; (try dsimp only at hSw); go_simp; try with_reducible rfl
          simp only [Act.put, List.setIfInBounds_toArray, List.set_cons_zero, List.set_cons_succ]
          refine wpAnyH_take (i := 19) (oi := ?oF19) (v := ?vF19) ?hiF19 (by kernel_rfl) (by kernel_rfl) (by kernel_rfl) ?hQF19 ?hyF19 hH2 ?_
          case hiF19 => simp only [List.getElem?_toArray, List.getElem?_cons_zero, List.getElem?_cons_succ]; rfl
          case hQF19 => exact fun _ _ _ h => h
          case hyF19 => refine Or.inl ⟨by rfl, ?_⟩; intro W hSw; (try dsimp only at hSw); go_simp; try with_reducible rfl
          simp only [Act.put, List.setIfInBounds_toArray, List.set_cons_zero, List.set_cons_succ]
          refine wpAnyH_take (i := 21) (oi := ?oF21) (v := ?vF21) ?hiF21 (by kernel_rfl) (by kernel_rfl) (by kernel_rfl) ?hQF21 ?hyF21 hH2 ?_
          case hiF21 => simp only [List.getElem?_toArray, List.getElem?_cons_zero, List.getElem?_cons_succ]; rfl
          case hQF21 => exact fun _ _ _ h => h
          case hyF21 => refine Or.inl ⟨by rfl, ?_⟩; intro W hSw; (try dsimp only at hSw); go_simp; try with_reducible rfl
          simp only [Act.put, List.setIfInBounds_toArray, List.set_cons_zero, List.set_cons_succ]
          refine wpAnyH_ready (rs := [20]) (by kernel_rfl) (by simp) ?_
          refine AllReadyH.cons (o := ?oF20) ?hoF20 (fun K' hK => ?_) AllReadyH.nil
          case hoF20 => simp only [List.getElem?_toArray, List.getElem?_cons_zero, List.getElem?_cons_succ]; rfl
          go_simp
          refine (CU.out _ (bstep HWZ.out hq2)).mono ?_
          rintro e v3 ⟨rfl, hb3⟩
          have hq3 : Below Z.heap.size Z v3 := bstep hq2 hb3
          refine hK.out _ _ (HK.out _ hq3) (fun hH3 => ?_)
          clear hK K' hH2
          (try simp only [Act.put, List.setIfInBounds_toArray, List.set_cons_zero, List.set_cons_succ])
          refine wpAnyH_ready (rs := [22]) (by kernel_rfl) (by simp) ?_
          refine AllReadyH.cons (o := ?oF22) ?hoF22 (fun K' hK => ?_) AllReadyH.nil
          case hoF22 => simp only [List.getElem?_toArray, List.getElem?_cons_zero, List.getElem?_cons_succ]; rfl
          go_simp
          refine (CU2.out _ (bstep HWZ.out hq3)).mono ?_
          rintro e v4 ⟨rfl, hb4⟩
          have hq4 : Below Z.heap.size Z v4 := bstep hq3 hb4
          refine hK.out _ _ (HK.out _ hq4) (fun hH4 => ?_)
          clear hK K' hH3
          (try simp only [Act.put, List.setIfInBounds_toArray, List.set_cons_zero, List.set_cons_succ])
          refine wpAnyH_take (i := 23) (oi := ?oF23) (v := ?vF23) ?hiF23 (by kernel_rfl) (by kernel_rfl) (by kernel_rfl) ?hQF23 ?hyF23 hH4 ?_
          case hiF23 => simp only [List.getElem?_toArray, List.getElem?_cons_zero, List.getElem?_cons_succ]; rfl
          case hQF23 => exact fun _ _ _ h => h
          case hyF23 => refine Or.inl ⟨by rfl, ?_⟩; intro W hSw; (try dsimp only at hSw); go_simp; try with_reducible rfl
          simp only [Act.put, List.setIfInBounds_toArray, List.set_cons_zero, List.set_cons_succ]
          refine wpAnyH_take (i := 24) (oi := ?oF24) (v := ?vF24) ?hiF24 (by kernel_rfl) (by kernel_rfl) (by kernel_rfl) ?hQF24 ?hyF24 hH4 ?_
          case hiF24 => simp only [List.getElem?_toArray, List.getElem?_cons_zero, List.getElem?_cons_succ]; rfl
          case hQF24 => exact fun _ _ _ h => h
          case hyF24 => refine Or.inl ⟨by rfl, ?_⟩; intro W hSw; (try dsimp only at hSw); go_simp; try with_reducible rfl
          simp only [Act.put, List.setIfInBounds_toArray, List.set_cons_zero, List.set_cons_succ]
          refine wpAnyH_take (i := 25) (oi := ?oF25) (v := ?vF25) ?hiF25 (by kernel_rfl) (by kernel_rfl) (by kernel_rfl) ?hQF25 ?hyF25 hH4 ?_
          case hiF25 => simp only [List.getElem?_toArray, List.getElem?_cons_zero, List.getElem?_cons_succ]; rfl
          case hQF25 => exact fun _ _ _ h => h
          case hyF25 => refine Or.inl ⟨by rfl, ?_⟩; intro W hSw; (try dsimp only at hSw); go_simp; try with_reducible rfl
          simp only [Act.put, List.setIfInBounds_toArray, List.set_cons_zero, List.set_cons_succ]
          refine wpAnyH_take (i := 26) (oi := ?oF26) (v := ?vF26) ?hiF26 (by kernel_rfl) (by kernel_rfl) (by kernel_rfl) ?hQF26 ?hyF26 hH4 ?_
          case hiF26 => simp only [List.getElem?_toArray, List.getElem?_cons_zero, List.getElem?_cons_succ]; rfl
          case hQF26 => exact fun _ _ _ h => h
          case hyF26 => refine Or.inl ⟨by rfl, ?_⟩; intro W hSw; (try dsimp only at hSw); go_simp; try with_reducible rfl
          simp only [Act.put, List.setIfInBounds_toArray, List.set_cons_zero, List.set_cons_succ]
          refine wpAnyH_take (i := 27) (oi := ?oF27) (v := ?vF27) ?hiF27 (by kernel_rfl) (by kernel_rfl) (by kernel_rfl) ?hQF27 ?hyF27 hH4 ?_
          case hiF27 => simp only [List.getElem?_toArray, List.getElem?_cons_zero, List.getElem?_cons_succ]; rfl
          case hQF27 => exact fun _ _ _ h => h
          case hyF27 => refine Or.inl ⟨by rfl, ?_⟩; intro W hSw; (try dsimp only at hSw); go_simp; try with_reducible rfl
          simp only [Act.put, List.setIfInBounds_toArray, List.set_cons_zero, List.set_cons_succ]
          refine wpAnyH_take (i := 28) (oi := ?oF28) (v := ?vF28) ?hiF28 (by kernel_rfl) (by kernel_rfl) (by kernel_rfl) ?hQF28 ?hyF28 hH4 ?_
          case hiF28 => simp only [List.getElem?_toArray, List.getElem?_cons_zero, List.getElem?_cons_succ]; rfl
          case hQF28 => exact fun _ _ _ h => h
          case hyF28 => refine Or.inl ⟨by rfl, ?_⟩; intro W hSw; (try dsimp only at hSw); go_simp; try with_reducible rfl
          simp only [Act.put, List.setIfInBounds_toArray, List.set_cons_zero, List.set_cons_succ]
          refine wpAnyH_take (i := 29) (oi := ?oF29) (v := ?vF29) ?hiF29 (by kernel_rfl) (by kernel_rfl) (by kernel_rfl) ?hQF29 ?hyF29 hH4 ?_
          case hiF29 => simp only [List.getElem?_toArray, List.getElem?_cons_zero, List.getElem?_cons_succ]; rfl
          case hQF29 => exact fun _ _ _ h => h
          case hyF29 => refine Or.inl ⟨by rfl, ?_⟩; intro W hSw; (try dsimp only at hSw); go_simp; try with_reducible rfl
          simp only [Act.put, List.setIfInBounds_toArray, List.set_cons_zero, List.set_cons_succ]
          refine wpAnyH_take (i := 30) (oi := ?oF30) (v := ?vF30) ?hiF30 (by kernel_rfl) (by kernel_rfl) (by kernel_rfl) ?hQF30 ?hyF30 hH4 ?_
          case hiF30 => simp only [List.getElem?_toArray, List.getElem?_cons_zero, List.getElem?_cons_succ]; rfl
          case hQF30 => exact fun _ _ _ h => h
          case hyF30 => refine Or.inl ⟨by rfl, ?_⟩; intro W hSw; (try dsimp only at hSw); go_simp; try with_reducible rfl
          simp only [Act.put, List.setIfInBounds_toArray, List.set_cons_zero, List.set_cons_succ]
          refine wpAnyH_take (i := 31) (oi := ?oF31) (v := ?vF31) ?hiF31 (by kernel_rfl) (by kernel_rfl) (by kernel_rfl) ?hQF31 ?hyF31 hH4 ?_
          case hiF31 => simp only [List.getElem?_toArray, List.getElem?_cons_zero, List.getElem?_cons_succ]; rfl
          case hQF31 => exact fun _ _ _ h => h
          case hyF31 => refine Or.inl ⟨by rfl, ?_⟩; intro W hSw; (try dsimp only at hSw); go_simp; try with_reducible rfl
          simp only [Act.put, List.setIfInBounds_toArray, List.set_cons_zero, List.set_cons_succ]
          refine wpAnyH_take (i := 32) (oi := ?oF32) (v := ?vF32) ?hiF32 (by kernel_rfl) (by kernel_rfl) (by kernel_rfl) ?hQF32 ?hyF32 hH4 ?_
          case hiF32 => simp only [List.getElem?_toArray, List.getElem?_cons_zero, List.getElem?_cons_succ]; rfl
          case hQF32 => exact fun _ _ _ h => h
          case hyF32 => refine Or.inl ⟨by rfl, ?_⟩; intro W hSw; (try dsimp only at hSw); go_simp; try with_reducible rfl
          simp only [Act.put, List.setIfInBounds_toArray, List.set_cons_zero, List.set_cons_succ]
          refine wpAnyH_take (i := 33) (oi := ?oF33) (v := ?vF33) ?hiF33 (by kernel_rfl) (by kernel_rfl) (by kernel_rfl) ?hQF33 ?hyF33 hH4 ?_
          case hiF33 => simp only [List.getElem?_toArray, List.getElem?_cons_zero, List.getElem?_cons_succ]; rfl
          case hQF33 => exact fun _ _ _ h => h
          case hyF33 => refine Or.inl ⟨by rfl, ?_⟩; intro W hSw; (try dsimp only at hSw); go_simp; try with_reducible rfl
          simp only [Act.put, List.setIfInBounds_toArray, List.set_cons_zero, List.set_cons_succ]
          refine wpAnyH_take (i := 34) (oi := ?oF34) (v := undef) ?hiF34 (by kernel_rfl) (by kernel_rfl) (by kernel_rfl) ?hQF34 ?hyF34 hH4 ?_
          case hiF34 => simp only [List.getElem?_toArray, List.getElem?_cons_zero, List.getElem?_cons_succ]; rfl
          case hQF34 => exact fun _ _ _ h => h
          case hyF34 => exact Or.inr ⟨by rfl, rfl⟩
          simp only [Act.put, List.setIfInBounds_toArray, List.set_cons_zero, List.set_cons_succ]
          refine wpAnyH_take (i := 35) (oi := ?oF35) (v := undef) ?hiF35 (by kernel_rfl) (by kernel_rfl) (by kernel_rfl) ?hQF35 ?hyF35 hH4 ?_
          case hiF35 => simp only [List.getElem?_toArray, List.getElem?_cons_zero, List.getElem?_cons_succ]; rfl
          case hQF35 => exact fun _ _ _ h => h
          case hyF35 => exact Or.inr ⟨by rfl, rfl⟩
          simp only [Act.put, List.setIfInBounds_toArray, List.set_cons_zero, List.set_cons_succ]
          refine wpAnyH_take (i := 36) (oi := ?oF36) (v := undef) ?hiF36 (by kernel_rfl) (by kernel_rfl) (by kernel_rfl) ?hQF36 ?hyF36 hH4 ?_
          case hiF36 => simp only [List.getElem?_toArray, List.getElem?_cons_zero, List.getElem?_cons_succ]; rfl
          case hQF36 => exact fun _ _ _ h => h
          case hyF36 => exact Or.inr ⟨by rfl, rfl⟩
          simp only [Act.put, List.setIfInBounds_toArray, List.set_cons_zero, List.set_cons_succ]
          refine wpAnyH_take (i := 37) (oi := ?oF37) (v := ?vF37) ?hiF37 (by kernel_rfl) (by kernel_rfl) (by kernel_rfl) ?hQF37 ?hyF37 hH4 ?_
          case hiF37 => simp only [List.getElem?_toArray, List.getElem?_cons_zero, List.getElem?_cons_succ]; rfl
          case hQF37 => exact fun _ _ _ h => h
          case hyF37 => refine Or.inl ⟨by rfl, ?_⟩; intro W hSw; (try dsimp only at hSw); go_simp; try with_reducible rfl
          simp only [Act.put, List.setIfInBounds_toArray, List.set_cons_zero, List.set_cons_succ]
          refine wpAnyH_take (i := 38) (oi := ?oF38) (v := ?vF38) ?hiF38 (by kernel_rfl) (by kernel_rfl) (by kernel_rfl) ?hQF38 ?hyF38 hH4 ?_
          case hiF38 => simp only [List.getElem?_toArray, List.getElem?_cons_zero, List.getElem?_cons_succ]; rfl
          case hQF38 => exact fun _ _ _ h => h
          case hyF38 => refine Or.inl ⟨by rfl, ?_⟩; intro W hSw; (try dsimp only at hSw); go_simp; try with_reducible rfl
          simp only [Act.put, List.setIfInBounds_toArray, List.set_cons_zero, List.set_cons_succ]
          refine wpAnyH_take (i := 39) (oi := ?oF39) (v := ?vF39) ?hiF39 (by kernel_rfl) (by kernel_rfl) (by kernel_rfl) ?hQF39 ?hyF39 hH4 ?_
          case hiF39 => simp only [List.getElem?_toArray, List.getElem?_cons_zero, List.getElem?_cons_succ]; rfl
          case hQF39 => exact fun _ _ _ h => h
          case hyF39 => refine Or.inl ⟨by rfl, ?_⟩; intro W hSw; (try dsimp only at hSw); go_simp; try with_reducible rfl
          simp only [Act.put, List.setIfInBounds_toArray, List.set_cons_zero, List.set_cons_succ]
          refine wpAnyH_done (by kernel_rfl) ?_ _
          go_wp2_with fail
          go_ret
          exact ⟨rfl, bstep HWZ.out hq4⟩
  · have C2 := Lib.hid (C2'.out false (decide_eq_false hs).symm)
    go_enter Try.func7, Try.ntmps7
    go_wp2_with fail
    refine (C1.out _).mono ?_
    rintro e w1 ⟨rfl, hb1⟩
    have bx1 : Below (W.heap.size + 1) _ w1 := hb1.mono (by simp)
    obtain ⟨y0, y1, y2, y3⟩ := box4 bx1
    go_wp2_with fail
    refine (C2.out _ (below_one' bx1)).mono ?_
    rintro e w2 ⟨rfl, hb2⟩
    have bx2 := bx_more bx1 hb2
    obtain ⟨y0, y1, y2, y3⟩ := box4 bx2
    go_wp2_with fail
    go_ret
    exact ⟨rfl, below_one' bx2⟩
end Go.Proofs.Ytigojackdkaanaa
