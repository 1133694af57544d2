/-
  The walk of bucketlinelaw12.TimerOrders.
-/
import Derived.Test.YtpadbkplknnopaaTmOpen
import Derived.Test.YtpadbkplknnopaaTmOrd
import Derived.Test.YtpadbkplknnopaaRegInv
namespace Go.Proofs.Ytpadbkplknnopaa
set_option linter.unusedSimpArgs false
set_option linter.unusedVariables false
open Go.RowKit

theorem run_abc (w : World) (k : Nat) (hk : k < 26) : (Instr.slice 9 (.string ⟨#[97, 98, 99, 100, 101, 102, 103, 104, 105, 106, 107, 108, 109, 110, 111, 112, 113, 114, 115, 116, 117, 118, 119, 120, 121, 122]⟩) (some (.int .i64 (k : Int))) (some (.int .i64 ((k : Int) + 1))) none).run Try.prog w = .ok (.string (nmT k)) w := by
  have e : (⟨#[97, 98, 99, 100, 101, 102, 103, 104, 105, 106, 107, 108, 109, 110, 111, 112, 113, 114, 115, 116, 117, 118, 119, 120, 121, 122]⟩ : ByteArray) = abcT := rfl
  rw [e]
  have hs : abcT.size = 26 := by rfl
  have h0 : (0 : Int) ≤ (k : Int) := by omega
  have h1 : (0 : Int) ≤ (k : Int) + 1 := by omega
  have h2 : (k : Int) + 1 ≤ ((26 : Nat) : Int) := by omega
  have h3 : ((k : Int) + 1).toNat = k + 1 := by omega
  have h4 : (k : Int) ≤ ((k + 1 : Nat) : Int) := by omega
  have r1 := run_sliceBound (P := Try.prog) w .i64 ((k : Int) + 1) 26 .sliceAlen h1 h2
  have r2 := run_sliceBound (P := Try.prog) w .i64 (k : Int) (k + 1) .sliceB h0 h4
  rw [h3] at r1
  rw [Int.toNat_natCast] at r2
  simp only [Instr.slice, run_underlying Try.underlying9, Instr.sliceBounds, hs, nmT, Sem.run_bind, Sem.run_pure, Result.andThen_ok, r1, r2, Option.isSome_none, Bool.false_eq_true, if_false]

set_option maxRecDepth 100000 in
set_option maxHeartbeats 6400000 in
theorem walkTimerOrders (v0 : Value) (a : Int) (wa : (Lit.int .i64 a).wf = true) (w : World) (hv : ∃ l, IsNums w.heap.size w v0 l) :
    Calls Try.prog 3 #[v0, .int .i64 a] w fun e w' => e = .returned (.bool true) ∧ Below w.heap.size w w' := by
  obtain ⟨l, hl⟩ := hv
  have HL := Lib.hid hl
  obtain ⟨la, lc, rfl⟩ := hl.form
  have HSH := Lib.hid (shown_any w)
  have hwa : -9223372036854775808 ≤ a ∧ a ≤ 9223372036854775807 := by simpa [Lit.wf, IntKind.min, IntKind.max, IntKind.signed, IntKind.bits] using wa
  have HWA := Lib.hid hwa
  clear wa hwa
  go_enter Try.func3, Try.ntmps3
  go_wp2_with fail
  refine HSH.out.mono ?_
  rintro e wa ⟨rfl, hba⟩
  have hzA := hba.size
  have HBA := Lib.hid hba
  clear hl hba
  by_cases g26 : (26 : Int) < (l.length : Int)
  · go_wp2_with fail
    go_ret
    exact ⟨rfl, HBA.out⟩
  by_cases h0 : l.length = 0
  · have g0 : ((l.length : Int) == 0) = true := by rw [beq_iff_eq]; omega
    clear h0
    go_wp2_with fail
    go_ret
    exact ⟨rfl, HBA.out⟩
  have g0 : ((l.length : Int) == 0) = false := by rw [beq_eq_false_iff_ne]; omega
  obtain ⟨K, hK⟩ : ∃ K, pickT a l.length = K := ⟨_, rfl⟩
  have hKn : K < l.length := by rw [← hK]; exact Nat.mod_lt _ (by omega)
  have CP := Lib.hid (fun (X : World) => (by have h := pick_any a HWA.out l.length (by omega) (by omega) X; rw [hK] at h; exact h))
  clear hK
  go_wp2_with fail
  have hga := heap_alloc_new wa (.cells #[.slice none 0 0] 26)
  have hgb := heap_alloc_new (wa.alloc (.cells #[.slice none 0 0] 26)) (.cells #[.slice none 0 0] 26)
  have hb1 : Below wa.heap.size wa (wa.alloc (.cells #[.slice none 0 0] 26)) := (Below.refl _ _).alloc (Nat.le_refl _) _
  have hb2 : Below (wa.heap.size + 1) (wa.alloc (.cells #[.slice none 0 0] 26)) ((wa.alloc (.cells #[.slice none 0 0] 26)).alloc (.cells #[.slice none 0 0] 26)) := (Below.refl _ _).alloc (by rw [World.size_alloc]; exact Nat.le_refl _) _
  have hsz1 : (wa.alloc (.cells #[.slice none 0 0] 26)).heap.size = wa.heap.size + 1 := by rw [World.size_alloc]
  rw [hsz1] at hgb
  have h2 : TwoT wa wa.heap.size (.slice none 0 0) [] (.slice none 0 0) [] ((wa.alloc (.cells #[.slice none 0 0] 26)).alloc (.cells #[.slice none 0 0] 26)) := ⟨(hb2.block _ (by omega)).trans hga, hgb, ownt_nil _ _, ownt_nil _ _, hb1.trans (hb2.mono (by omega))⟩
  have HT2 := Lib.hid h2
  clear hga hgb hb1 hb2 hsz1 h2
  go_wp2_with fail
  refine (CP.out _).mono ?_
  rintro e w1 ⟨rfl, rfl⟩
  generalize (wa.alloc (.cells #[.slice none 0 0] 26)).alloc (.cells #[.slice none 0 0] 26) = w1 at *
  generalize hp0 : wa.heap.size = p0 at *
  have HFIN := Lib.hid (fun (X : World) (hX : Below p0 wa X) => (show Below w.heap.size w X from HBA.out.trans (hX.mono (by omega))))
  have HP0 := Lib.hid hp0
  clear hp0
  go_wp2_with fail
  go_loopw [9] (fun t9 wr => ∃ (k : Nat) (A B : List TM) (ta : Option Addr) (tc : Nat) (tb : Option Addr) (tcb : Nat), k ≤ l.length ∧ t9 = .int .i64 k ∧ RightT A ∧ InT l (fun i => i < k) A ∧ A.length = k ∧ RightT B ∧ InT l (fun j => ∃ i, i < k ∧ j = (l.length - 1 - i + K) % l.length) B ∧ B.length ≤ k ∧ TwoT wa p0 (.slice ta A.length tc) A (.slice tb B.length tcb) B wr) (fun t9 _ => l.length - (intOf t9).toNat)
  case atStart => exact ⟨0, [], [], none, 0, none, 0, Nat.zero_le _, rfl, right_nil, in_nil _ _ (by omega), rfl, right_nil, in_nil _ _ (by rintro i ⟨_, h, _⟩; omega), Nat.le_refl _, HT2.out⟩
  case round =>
    obtain ⟨k, A, B, ta, tc, tb, tcb, hk, rfl, hRA, hIA, hLA, hRB, hIB, hLB, ht⟩ := hrel
    have HT := Lib.hid ht
    clear ht
    by_cases hlt : k < l.length
    · obtain ⟨j, hj⟩ : ∃ j, (l.length - 1 - k + K) % l.length = j := ⟨_, rfl⟩
      have hjl : j < l.length := by rw [← hj]; exact Nat.mod_lt _ (by omega)
      obtain ⟨bb, of, q1, he, hbB, hc1⟩ := (HL.out.keep HBA.out (Nat.le_refl _)).get k hlt
      obtain ⟨rfl, -, rfl⟩ : la = some ⟨bb, of, none⟩ ∧ l.length = l.length ∧ lc = q1 := by injection he with e1 e2 e3; exact ⟨e1, e2, e3⟩
      clear he
      have hc2 : wa.cell? ⟨bb, of + j, none⟩ = some (.int .i64 l[j]) := by
        obtain ⟨b2, of2, q2, he, _, hc2⟩ := (HL.out.keep HBA.out (Nat.le_refl _)).get j hjl
        injection he with e1 e2 e3
        injection e1 with e1
        injection e1 with e1 e4
        rw [e1, e4]
        exact hc2
      have hx1 : l[k]?.getD 0 = l[k] := by rw [List.getElem?_eq_getElem hlt]; rfl
      have hx2 : l[j]?.getD 0 = l[j] := by rw [List.getElem?_eq_getElem hjl]; rfl
      obtain ⟨x, hx⟩ : ∃ x, l[k] = x := ⟨_, rfl⟩
      obtain ⟨x2, hy⟩ : ∃ x, l[j] = x := ⟨_, rfl⟩
      rw [hx] at hc1 hx1
      rw [hy] at hc2 hx2
      have iA := in_set (j := k) (by omega) (fun i (h : i < k) => by omega) hIA
      have iB := in_set (j := j) (by omega) (fun i (h : ∃ q, q < k ∧ i = (l.length - 1 - q + K) % l.length) => by obtain ⟨q, _, rfl⟩ := h; have := Nat.mod_lt (l.length - 1 - q + K) (show 0 < l.length by omega); omega) hIB
      have lA := in_len (j := k) (by omega) (fun i (h : i < k) => by omega) (by omega) hIA x
      have lB := set_len_le (nmT j) x2 B
      rw [hx1] at iA
      rw [hx2] at iB
      have rA := set_right hRA (nmT k) x
      have rB := set_right hRB (nmT j) x2
      have fA : ¬ fullT (nmT k) A = true := by rw [not_full (by omega)]; simp
      have fB : ¬ fullT (nmT j) B = true := by rw [not_full (by omega)]; simp
      obtain ⟨A1, hA1⟩ : ∃ A1, setR (nmT k) x A = A1 := ⟨_, rfl⟩
      obtain ⟨B1, hB1⟩ : ∃ B1, setR (nmT j) x2 B = B1 := ⟨_, rfl⟩
      have CA := Lib.hid (fun (X : World) (b : Nat) (v : Value) (h : OwnT X b v A) => (by have h2 := set_any (nmT k) x hRA (by omega) h; rw [setOf, if_neg fA, hA1, setErr, if_neg fA] at h2; exact h2))
      have CB := Lib.hid (fun (X : World) (b : Nat) (v : Value) (h : OwnT X b v B) => (by have h2 := set_any (nmT j) x2 hRB (by omega) h; rw [setOf, if_neg fB, hB1, setErr, if_neg fB] at h2; exact h2))
      rw [hA1] at iA lA rA
      rw [hB1] at iB lB rB
      have hRA1 : RightT A1 := rA
      have hRB1 : RightT B1 := rB
      have hIA1 : InT l (fun i => i < k + 1) A1 := iA.congr (fun i => by constructor <;> intro h <;> omega)
      have hIB1 : InT l (fun j => ∃ i, i < k + 1 ∧ j = (l.length - 1 - i + K) % l.length) B1 := iB.congr (fun i => by
        constructor
        · rintro (⟨q, h1, h2⟩ | h)
          · exact ⟨q, by omega, h2⟩
          · exact ⟨k, by omega, by rw [h, hj]⟩
        · rintro ⟨q, h1, h2⟩
          by_cases hq : q = k
          · subst hq; exact .inr (by rw [h2, hj])
          · exact .inl ⟨q, by omega, h2⟩)
      have hLA1 : A1.length = k + 1 := by omega
      have hLB1 : B1.length ≤ k + 1 := by omega
      have MKA := Lib.hid (fun (X : World) (hX : Below p0 wa X) => (show (fun X => X.cell? ⟨bb, of + k, none⟩ = some (.int .i64 x)) X from (hX.cell (p := ⟨bb, of + k, none⟩) (by simp only; omega)).trans hc1))
      have MKB := Lib.hid (fun (X : World) (hX : Below p0 wa X) => (show (fun X => X.cell? ⟨bb, of + j, none⟩ = some (.int .i64 x2)) X from (hX.cell (p := ⟨bb, of + j, none⟩) (by simp only; omega)).trans hc2))
      have i1 : (0 : Int) ≤ (k : Int) := by omega
      have i2 : (k : Int) < (l.length : Int) := by omega
      have j1 : (0 : Int) ≤ (j : Int) := by omega
      have j2 : (j : Int) < (l.length : Int) := by omega
      have i3 : ¬ (l.length : Int) = 0 := by omega
      have k26 : k < 26 := by omega
      have j26 : j < 26 := by omega
      obtain ⟨m1, hm1⟩ : ∃ m : Nat, m = l.length - 1 := ⟨_, rfl⟩
      obtain ⟨m2, hm2⟩ : ∃ m : Nat, m = m1 - k := ⟨_, rfl⟩
      obtain ⟨m3, hm3⟩ : ∃ m : Nat, m = m2 + K := ⟨_, rfl⟩
      have e1 : IntKind.i64.wrap ((l.length : Int) - 1) = (m1 : Int) := by rw [IntKind.wrap_i64]; omega
      have e2 : IntKind.i64.wrap ((m1 : Int) - (k : Int)) = (m2 : Int) := by rw [IntKind.wrap_i64]; omega
      have e3 : IntKind.i64.wrap ((m2 : Int) + (K : Int)) = (m3 : Int) := by rw [IntKind.wrap_i64]; omega
      have e4 : (m3 : Int).tmod (l.length : Int) = (j : Int) := by rw [Int.tmod_eq_emod_of_nonneg (by omega), ← hj, ← hm1, ← hm2, ← hm3]; rfl
      have e5 : IntKind.i64.wrap (j : Int) = (j : Int) := by rw [IntKind.wrap_i64]; omega
      have e6 : IntKind.i64.wrap ((k : Int) + 1) = ((k + 1 : Nat) : Int) := by rw [IntKind.wrap_i64]; omega
      have e7 : IntKind.i64.wrap ((j : Int) + 1) = ((j + 1 : Nat) : Int) := by rw [IntKind.wrap_i64]; omega
      have rs1 := fun (W : World) => run_abc W k k26
      have rs2 := fun (W : World) => run_abc W j j26
      have HLA := Lib.hid hLA1
      have HLA0 := Lib.hid hLA
      clear hj hx hy hx1 hx2 hc1 hc2 iA iB lA lB rA rB fA fB hA1 hB1 hm1 hm2 hm3 hRA hRB hIA hIB hLA hLA1
      go_wp2_with fail
      refine region_begin (S := fun X => X.cell? ⟨bb, of + k, none⟩ = some (.int .i64 x)) 14 rfl (by kernel_rfl) (MKA.out _ (HT.out.keep (Below.refl _ _).drew).bl) (fun hH0 => ?_)
      refine wpAnyH_take (i := 1) (oi := ?os1A) (v := ?vs1A) ?his1A (by kernel_rfl) (by kernel_rfl) (by kernel_rfl) ?hQs1A ?hys1A hH0 ?_
      case his1A => simp only [List.getElem?_toArray, List.getElem?_cons_zero, List.getElem?_cons_succ]; rfl
      case hQs1A => exact fun _ _ _ h => h
      case hys1A => refine Or.inl ⟨by rfl, ?_⟩; intro W hSw; (try dsimp only at hSw); go_simp; try with_reducible rfl
      simp only [Act.put, List.setIfInBounds_toArray, List.set_cons_zero, List.set_cons_succ]
      refine wpAnyH_take (i := 2) (oi := ?os2A) (v := ?vs2A) ?his2A (by kernel_rfl) (by kernel_rfl) (by kernel_rfl) ?hQs2A ?hys2A hH0 ?_
      case his2A => simp only [List.getElem?_toArray, List.getElem?_cons_zero, List.getElem?_cons_succ]; rfl
      case hQs2A => exact fun _ _ _ h => h
      case hys2A => refine Or.inl ⟨by rfl, ?_⟩; intro W hSw; (try dsimp only at hSw); go_simp; try with_reducible rfl
      simp only [Act.put, List.setIfInBounds_toArray, List.set_cons_zero, List.set_cons_succ]
      refine wpAnyH_take (i := 3) (oi := ?os3A) (v := ?vs3A) ?his3A (by kernel_rfl) (by kernel_rfl) (by kernel_rfl) ?hQs3A ?hys3A hH0 ?_
      case his3A => simp only [List.getElem?_toArray, List.getElem?_cons_zero, List.getElem?_cons_succ]; rfl
      case hQs3A => exact fun _ _ _ h => h
      case hys3A => refine Or.inl ⟨by rfl, ?_⟩; intro W hSw; (try dsimp only at hSw); go_simp; try with_reducible rfl
      simp only [Act.put, List.setIfInBounds_toArray, List.set_cons_zero, List.set_cons_succ]
      refine wpAnyH_take (i := 4) (oi := ?os4A) (v := ?vs4A) ?his4A (by kernel_rfl) (by kernel_rfl) (by kernel_rfl) ?hQs4A ?hys4A hH0 ?_
      case his4A => simp only [List.getElem?_toArray, List.getElem?_cons_zero, List.getElem?_cons_succ]; rfl
      case hQs4A => exact fun _ _ _ h => h
      case hys4A => refine Or.inl ⟨by rfl, ?_⟩; intro W hSw; (try dsimp only at hSw); go_simp; try with_reducible rfl
      simp only [Act.put, List.setIfInBounds_toArray, List.set_cons_zero, List.set_cons_succ]
      refine wpAnyH_take (i := 5) (oi := ?os5A) (v := ?vs5A) ?his5A (by kernel_rfl) (by kernel_rfl) (by kernel_rfl) ?hQs5A ?hys5A hH0 ?_
      case his5A => simp only [List.getElem?_toArray, List.getElem?_cons_zero, List.getElem?_cons_succ]; rfl
      case hQs5A => exact fun _ _ _ h => h
      case hys5A => refine Or.inl ⟨by rfl, ?_⟩; intro W hSw; (try dsimp only at hSw); go_simp; try with_reducible rfl
      simp only [Act.put, List.setIfInBounds_toArray, List.set_cons_zero, List.set_cons_succ]
      refine wpAnyH_take (i := 6) (oi := ?os6A) (v := ?vs6A) ?his6A (by kernel_rfl) (by kernel_rfl) (by kernel_rfl) ?hQs6A ?hys6A hH0 ?_
      case his6A => simp only [List.getElem?_toArray, List.getElem?_cons_zero, List.getElem?_cons_succ]; rfl
      case hQs6A => exact fun _ _ _ h => h
      case hys6A => refine Or.inl ⟨by rfl, ?_⟩; intro W hSw; (try dsimp only at hSw); go_simp; try with_reducible rfl
      simp only [Act.put, List.setIfInBounds_toArray, List.set_cons_zero, List.set_cons_succ]
      refine wpAnyH_take (i := 7) (oi := ?os7A) (v := ?vs7A) ?his7A (by kernel_rfl) (by kernel_rfl) (by kernel_rfl) ?hQs7A ?hys7A hH0 ?_
      case his7A => simp only [List.getElem?_toArray, List.getElem?_cons_zero, List.getElem?_cons_succ]; rfl
      case hQs7A => exact fun _ _ _ h => h
      case hys7A => refine Or.inl ⟨by rfl, ?_⟩; intro W hSw; (try dsimp only at hSw); go_simp; try with_reducible rfl
      simp only [Act.put, List.setIfInBounds_toArray, List.set_cons_zero, List.set_cons_succ]
      refine wpAnyH_take (i := 8) (oi := ?os8A) (v := ?vs8A) ?his8A (by kernel_rfl) (by kernel_rfl) (by kernel_rfl) ?hQs8A ?hys8A hH0 ?_
      case his8A => simp only [List.getElem?_toArray, List.getElem?_cons_zero, List.getElem?_cons_succ]; rfl
      case hQs8A => exact fun _ _ _ h => h
      case hys8A => refine Or.inl ⟨by rfl, ?_⟩; intro W hSw; (try dsimp only at hSw); go_simp; try with_reducible rfl
      simp only [Act.put, List.setIfInBounds_toArray, List.set_cons_zero, List.set_cons_succ]
      clear hH0
      have ht0 := HT.out.keep (Below.refl _ _).drew
      generalize wr.drew = z0A at *
      have y0A : z0A.cell? ⟨p0, 0, none⟩ = some (.slice ta A.length tc) := by rw [Lib.cell_of_heap ht0.ga]; rfl
      have HT0A := Lib.hid ht0
      clear ht0
      refine wpAnyH_ready (rs := [0]) (by kernel_rfl) (by simp) ?_
      refine AllReadyH.cons (o := ?olA) ?holA (fun K' hK => ?_) AllReadyH.nil
      case holA => simp only [List.getElem?_toArray, List.getElem?_cons_zero]; rfl
      go_simp
      refine hK.out _ _ (MKA.out _ HT0A.out.bl) (fun hHa => ?_)
      clear hK K'
      (try simp only [Act.put, List.setIfInBounds_toArray, List.set_cons_zero, List.set_cons_succ])
      clear hHa y0A
      refine wpAnyH_ready (rs := [9]) (by kernel_rfl) (by simp) ?_
      refine AllReadyH.cons (o := ?ocA) ?hocA (fun K' hK => ?_) AllReadyH.nil
      case hocA => simp only [List.getElem?_toArray, List.getElem?_cons_zero, List.getElem?_cons_succ]; rfl
      go_simp
      refine (CA.out z0A _ _ HT0A.out.oa).mono ?_
      rintro e z1A ⟨a1A, c1A, rfl, ho1, hb1⟩
      have hsz := HT0A.out.size
      have HT1A := Lib.hid (HT0A.out.keep hb1)
      have HO1A := Lib.hid (ho1.less (show p0 + 2 ≤ z0A.heap.size by omega))
      have cx : z1A.cell? ⟨p0, 0, none⟩ = some (.slice ta A.length tc) := by rw [Lib.cell_of_heap HT1A.out.ga]; rfl
      have fx : z1A.frozen? ⟨p0, 0, none⟩ = false := Lib.frozen_of_heap HT1A.out.ga 0
      clear ho1 hb1 hsz
      refine hK.out _ _ (MKA.out _ HT1A.out.bl) (fun hHb => ?_)
      clear hK K'
      (try simp only [Act.put, List.setIfInBounds_toArray, List.set_cons_zero, List.set_cons_succ])
      refine wpAnyH_take (i := 10) (oi := ?ox10A) (v := ?vx10A) ?hix10A (by kernel_rfl) (by kernel_rfl) (by kernel_rfl) ?hQx10A ?hyx10A hHb ?_
      case hix10A => simp only [List.getElem?_toArray, List.getElem?_cons_zero, List.getElem?_cons_succ]; rfl
      case hQx10A => exact fun _ _ _ h => h
      case hyx10A => refine Or.inl ⟨by rfl, ?_⟩; intro W hSw; (try dsimp only at hSw); go_simp; try with_reducible rfl
      simp only [Act.put, List.setIfInBounds_toArray, List.set_cons_zero, List.set_cons_succ]
      refine wpAnyH_take (i := 11) (oi := ?ox11A) (v := ?vx11A) ?hix11A (by kernel_rfl) (by kernel_rfl) (by kernel_rfl) ?hQx11A ?hyx11A hHb ?_
      case hix11A => simp only [List.getElem?_toArray, List.getElem?_cons_zero, List.getElem?_cons_succ]; rfl
      case hQx11A => exact fun _ _ _ h => h
      case hyx11A => refine Or.inl ⟨by rfl, ?_⟩; intro W hSw; (try dsimp only at hSw); go_simp; try with_reducible rfl
      simp only [Act.put, List.setIfInBounds_toArray, List.set_cons_zero, List.set_cons_succ]
      refine wpAnyH_take (i := 12) (oi := ?ox12A) (v := ?vx12A) ?hix12A (by kernel_rfl) (by kernel_rfl) (by kernel_rfl) ?hQx12A ?hyx12A hHb ?_
      case hix12A => simp only [List.getElem?_toArray, List.getElem?_cons_zero, List.getElem?_cons_succ]; rfl
      case hQx12A => exact fun _ _ _ h => h
      case hyx12A => refine Or.inl ⟨by rfl, ?_⟩; intro W hSw; (try dsimp only at hSw); go_simp; try with_reducible rfl
      simp only [Act.put, List.setIfInBounds_toArray, List.set_cons_zero, List.set_cons_succ]
      clear hHb
      refine wpAnyH_ready (rs := [13]) (by kernel_rfl) (by simp) ?_
      refine AllReadyH.cons (o := ?ostA) ?hostA (fun K' hK => ?_) AllReadyH.nil
      case hostA => simp only [List.getElem?_toArray, List.getElem?_cons_zero, List.getElem?_cons_succ]; rfl
      go_simp
      have HT2A := Lib.hid (HT1A.out.setA HO1A.out)
      refine hK.out _ _ (MKA.out _ HT2A.out.bl) (fun hHc => ?_)
      clear hK K'
      (try simp only [Act.put, List.setIfInBounds_toArray, List.set_cons_zero, List.set_cons_succ])
      clear hHc cx fx
      refine wpAnyH_done (by kernel_rfl) ?_ _
      generalize hz : z1A.setCell ⟨p0, 0, none⟩ _ = z2A at *
      clear hz
      go_wp2_with fail
      refine region_begin (S := fun X => X.cell? ⟨bb, of + j, none⟩ = some (.int .i64 x2)) 14 rfl (by kernel_rfl) (MKB.out _ (HT2A.out.keep (Below.refl _ _).drew).bl) (fun hH0 => ?_)
      refine wpAnyH_take (i := 1) (oi := ?os1B) (v := ?vs1B) ?his1B (by kernel_rfl) (by kernel_rfl) (by kernel_rfl) ?hQs1B ?hys1B hH0 ?_
      case his1B => simp only [List.getElem?_toArray, List.getElem?_cons_zero, List.getElem?_cons_succ]; rfl
      case hQs1B => exact fun _ _ _ h => h
      case hys1B => refine Or.inl ⟨by rfl, ?_⟩; intro W hSw; (try dsimp only at hSw); go_simp; try with_reducible rfl
      simp only [Act.put, List.setIfInBounds_toArray, List.set_cons_zero, List.set_cons_succ]
      refine wpAnyH_take (i := 2) (oi := ?os2B) (v := ?vs2B) ?his2B (by kernel_rfl) (by kernel_rfl) (by kernel_rfl) ?hQs2B ?hys2B hH0 ?_
      case his2B => simp only [List.getElem?_toArray, List.getElem?_cons_zero, List.getElem?_cons_succ]; rfl
      case hQs2B => exact fun _ _ _ h => h
      case hys2B => refine Or.inl ⟨by rfl, ?_⟩; intro W hSw; (try dsimp only at hSw); go_simp; try with_reducible rfl
      simp only [Act.put, List.setIfInBounds_toArray, List.set_cons_zero, List.set_cons_succ]
      refine wpAnyH_take (i := 3) (oi := ?os3B) (v := ?vs3B) ?his3B (by kernel_rfl) (by kernel_rfl) (by kernel_rfl) ?hQs3B ?hys3B hH0 ?_
      case his3B => simp only [List.getElem?_toArray, List.getElem?_cons_zero, List.getElem?_cons_succ]; rfl
      case hQs3B => exact fun _ _ _ h => h
      case hys3B => refine Or.inl ⟨by rfl, ?_⟩; intro W hSw; (try dsimp only at hSw); go_simp; try with_reducible rfl
      simp only [Act.put, List.setIfInBounds_toArray, List.set_cons_zero, List.set_cons_succ]
      refine wpAnyH_take (i := 4) (oi := ?os4B) (v := ?vs4B) ?his4B (by kernel_rfl) (by kernel_rfl) (by kernel_rfl) ?hQs4B ?hys4B hH0 ?_
      case his4B => simp only [List.getElem?_toArray, List.getElem?_cons_zero, List.getElem?_cons_succ]; rfl
      case hQs4B => exact fun _ _ _ h => h
      case hys4B => refine Or.inl ⟨by rfl, ?_⟩; intro W hSw; (try dsimp only at hSw); go_simp; try with_reducible rfl
      simp only [Act.put, List.setIfInBounds_toArray, List.set_cons_zero, List.set_cons_succ]
      refine wpAnyH_take (i := 5) (oi := ?os5B) (v := ?vs5B) ?his5B (by kernel_rfl) (by kernel_rfl) (by kernel_rfl) ?hQs5B ?hys5B hH0 ?_
      case his5B => simp only [List.getElem?_toArray, List.getElem?_cons_zero, List.getElem?_cons_succ]; rfl
      case hQs5B => exact fun _ _ _ h => h
      case hys5B => refine Or.inl ⟨by rfl, ?_⟩; intro W hSw; (try dsimp only at hSw); go_simp; try with_reducible rfl
      simp only [Act.put, List.setIfInBounds_toArray, List.set_cons_zero, List.set_cons_succ]
      refine wpAnyH_take (i := 6) (oi := ?os6B) (v := ?vs6B) ?his6B (by kernel_rfl) (by kernel_rfl) (by kernel_rfl) ?hQs6B ?hys6B hH0 ?_
      case his6B => simp only [List.getElem?_toArray, List.getElem?_cons_zero, List.getElem?_cons_succ]; rfl
      case hQs6B => exact fun _ _ _ h => h
      case hys6B => refine Or.inl ⟨by rfl, ?_⟩; intro W hSw; (try dsimp only at hSw); go_simp; try with_reducible rfl
      simp only [Act.put, List.setIfInBounds_toArray, List.set_cons_zero, List.set_cons_succ]
      refine wpAnyH_take (i := 7) (oi := ?os7B) (v := ?vs7B) ?his7B (by kernel_rfl) (by kernel_rfl) (by kernel_rfl) ?hQs7B ?hys7B hH0 ?_
      case his7B => simp only [List.getElem?_toArray, List.getElem?_cons_zero, List.getElem?_cons_succ]; rfl
      case hQs7B => exact fun _ _ _ h => h
      case hys7B => refine Or.inl ⟨by rfl, ?_⟩; intro W hSw; (try dsimp only at hSw); go_simp; try with_reducible rfl
      simp only [Act.put, List.setIfInBounds_toArray, List.set_cons_zero, List.set_cons_succ]
      refine wpAnyH_take (i := 8) (oi := ?os8B) (v := ?vs8B) ?his8B (by kernel_rfl) (by kernel_rfl) (by kernel_rfl) ?hQs8B ?hys8B hH0 ?_
      case his8B => simp only [List.getElem?_toArray, List.getElem?_cons_zero, List.getElem?_cons_succ]; rfl
      case hQs8B => exact fun _ _ _ h => h
      case hys8B => refine Or.inl ⟨by rfl, ?_⟩; intro W hSw; (try dsimp only at hSw); go_simp; try with_reducible rfl
      simp only [Act.put, List.setIfInBounds_toArray, List.set_cons_zero, List.set_cons_succ]
      clear hH0
      have ht0 := HT2A.out.keep (Below.refl _ _).drew
      generalize z2A.drew = z0B at *
      have y0B : z0B.cell? ⟨p0 + 1, 0, none⟩ = some (.slice tb B.length tcb) := by rw [Lib.cell_of_heap ht0.gb]; rfl
      have HT0B := Lib.hid ht0
      clear ht0
      refine wpAnyH_ready (rs := [0]) (by kernel_rfl) (by simp) ?_
      refine AllReadyH.cons (o := ?olB) ?holB (fun K' hK => ?_) AllReadyH.nil
      case holB => simp only [List.getElem?_toArray, List.getElem?_cons_zero]; rfl
      go_simp
      refine hK.out _ _ (MKB.out _ HT0B.out.bl) (fun hHa => ?_)
      clear hK K'
      (try simp only [Act.put, List.setIfInBounds_toArray, List.set_cons_zero, List.set_cons_succ])
      clear hHa y0B
      refine wpAnyH_ready (rs := [9]) (by kernel_rfl) (by simp) ?_
      refine AllReadyH.cons (o := ?ocB) ?hocB (fun K' hK => ?_) AllReadyH.nil
      case hocB => simp only [List.getElem?_toArray, List.getElem?_cons_zero, List.getElem?_cons_succ]; rfl
      go_simp
      refine (CB.out z0B _ _ HT0B.out.ob).mono ?_
      rintro e z1B ⟨a1B, c1B, rfl, ho1, hb1⟩
      have hsz := HT0B.out.size
      have HT1B := Lib.hid (HT0B.out.keep hb1)
      have HO1B := Lib.hid (ho1.less (show p0 + 2 ≤ z0B.heap.size by omega))
      have cx : z1B.cell? ⟨p0 + 1, 0, none⟩ = some (.slice tb B.length tcb) := by rw [Lib.cell_of_heap HT1B.out.gb]; rfl
      have fx : z1B.frozen? ⟨p0 + 1, 0, none⟩ = false := Lib.frozen_of_heap HT1B.out.gb 0
      clear ho1 hb1 hsz
      refine hK.out _ _ (MKB.out _ HT1B.out.bl) (fun hHb => ?_)
      clear hK K'
      (try simp only [Act.put, List.setIfInBounds_toArray, List.set_cons_zero, List.set_cons_succ])
      refine wpAnyH_take (i := 10) (oi := ?ox10B) (v := ?vx10B) ?hix10B (by kernel_rfl) (by kernel_rfl) (by kernel_rfl) ?hQx10B ?hyx10B hHb ?_
      case hix10B => simp only [List.getElem?_toArray, List.getElem?_cons_zero, List.getElem?_cons_succ]; rfl
      case hQx10B => exact fun _ _ _ h => h
      case hyx10B => refine Or.inl ⟨by rfl, ?_⟩; intro W hSw; (try dsimp only at hSw); go_simp; try with_reducible rfl
      simp only [Act.put, List.setIfInBounds_toArray, List.set_cons_zero, List.set_cons_succ]
      refine wpAnyH_take (i := 11) (oi := ?ox11B) (v := ?vx11B) ?hix11B (by kernel_rfl) (by kernel_rfl) (by kernel_rfl) ?hQx11B ?hyx11B hHb ?_
      case hix11B => simp only [List.getElem?_toArray, List.getElem?_cons_zero, List.getElem?_cons_succ]; rfl
      case hQx11B => exact fun _ _ _ h => h
      case hyx11B => refine Or.inl ⟨by rfl, ?_⟩; intro W hSw; (try dsimp only at hSw); go_simp; try with_reducible rfl
      simp only [Act.put, List.setIfInBounds_toArray, List.set_cons_zero, List.set_cons_succ]
      refine wpAnyH_take (i := 12) (oi := ?ox12B) (v := ?vx12B) ?hix12B (by kernel_rfl) (by kernel_rfl) (by kernel_rfl) ?hQx12B ?hyx12B hHb ?_
      case hix12B => simp only [List.getElem?_toArray, List.getElem?_cons_zero, List.getElem?_cons_succ]; rfl
      case hQx12B => exact fun _ _ _ h => h
      case hyx12B => refine Or.inl ⟨by rfl, ?_⟩; intro W hSw; (try dsimp only at hSw); go_simp; try with_reducible rfl
      simp only [Act.put, List.setIfInBounds_toArray, List.set_cons_zero, List.set_cons_succ]
      clear hHb
      refine wpAnyH_ready (rs := [13]) (by kernel_rfl) (by simp) ?_
      refine AllReadyH.cons (o := ?ostB) ?hostB (fun K' hK => ?_) AllReadyH.nil
      case hostB => simp only [List.getElem?_toArray, List.getElem?_cons_zero, List.getElem?_cons_succ]; rfl
      go_simp
      have HT2B := Lib.hid (HT1B.out.setB HO1B.out)
      refine hK.out _ _ (MKB.out _ HT2B.out.bl) (fun hHc => ?_)
      clear hK K'
      (try simp only [Act.put, List.setIfInBounds_toArray, List.set_cons_zero, List.set_cons_succ])
      clear hHc cx fx
      refine wpAnyH_done (by kernel_rfl) ?_ _
      generalize hz : z1B.setCell ⟨p0 + 1, 0, none⟩ _ = z2B at *
      clear hz
      go_wp2_with fail
      go_roundw
      case rel => exact ⟨k + 1, A1, B1, a1A, c1A, a1B, c1B, by omega, by go_num, hRA1, hIA1, HLA.out, hRB1, hIB1, hLB1, HT2B.out⟩
      case measure => simp [intOf]; omega
    · have g : ¬ ((k : Int) < (l.length : Int)) := by omega
      obtain rfl : k = l.length := by omega
      have hab : A = B := in_eq hRA hRB hIA hIB (fun j => turn_all hKn j)
      subst hab
      have gAl : ((A.length : Int) == (l.length : Int)) = true := by rw [beq_iff_eq]; omega
      have hA26 : A.length ≤ 26 := by omega
      have MKS := Lib.hid (fun (X : World) (hX : TwoT wa p0 (.slice ta A.length tc) A (.slice tb A.length tcb) A X) => (show (fun X => X.cell? ⟨p0, 0, none⟩ = some (.slice ta A.length tc) ∧ X.cell? ⟨p0 + 1, 0, none⟩ = some (.slice tb A.length tcb)) X from ⟨by rw [Lib.cell_of_heap hX.ga]; rfl, by rw [Lib.cell_of_heap hX.gb]; rfl⟩))
      clear hIA hIB hLA hLB hRB
      go_wp2_with fail
      refine region_begin (S := fun X => X.cell? ⟨p0, 0, none⟩ = some (.slice ta A.length tc) ∧ X.cell? ⟨p0 + 1, 0, none⟩ = some (.slice tb A.length tcb)) 14 rfl (by kernel_rfl) (MKS.out _ (HT.out.keep (Below.refl _ _).drew)) (fun hH0 => ?_)
      refine wpAnyH_take (i := 0) (oi := ?oe0) (v := ?ve0) ?hie0 (by kernel_rfl) (by kernel_rfl) (by kernel_rfl) ?hQe0 ?hye0 hH0 ?_
      case hie0 => simp only [List.getElem?_toArray, List.getElem?_cons_zero]; rfl
      case hQe0 => exact fun _ _ _ h => h
      case hye0 => refine Or.inl ⟨by rfl, ?_⟩; intro W hSw; (try dsimp only at hSw); go_simp; try with_reducible rfl
      simp only [Act.put, List.setIfInBounds_toArray, List.set_cons_zero, List.set_cons_succ]
      refine wpAnyH_take (i := 2) (oi := ?oe2) (v := ?ve2) ?hie2 (by kernel_rfl) (by kernel_rfl) (by kernel_rfl) ?hQe2 ?hye2 hH0 ?_
      case hie2 => simp only [List.getElem?_toArray, List.getElem?_cons_zero, List.getElem?_cons_succ]; rfl
      case hQe2 => exact fun _ _ _ h => h
      case hye2 => refine Or.inl ⟨by rfl, ?_⟩; intro W hSw; (try dsimp only at hSw); go_simp; try with_reducible rfl
      simp only [Act.put, List.setIfInBounds_toArray, List.set_cons_zero, List.set_cons_succ]
      clear hH0
      have ht0 := HT.out.keep (Below.refl _ _).drew
      generalize wr.drew = z0 at *
      have HT0 := Lib.hid ht0
      clear ht0
      refine wpAnyH_ready (rs := [1]) (by kernel_rfl) (by simp) ?_
      refine AllReadyH.cons (o := ?oe1) ?hoe1 (fun K' hK => ?_) AllReadyH.nil
      case hoe1 => simp only [List.getElem?_toArray, List.getElem?_cons_zero, List.getElem?_cons_succ]; rfl
      go_simp
      refine (as_any z0.heap.size _ A (by omega) z0 (HT0.out.oa.tq (by omega)).tms (Nat.le_refl _)).mono ?_
      rintro e z1 ⟨a7, c7, rfl, ho8, hb8⟩
      have HT1 := Lib.hid (HT0.out.keep hb8)
      have HO1 := Lib.hid ho8
      clear hb8 ho8
      refine hK.out _ _ (MKS.out _ HT1.out) (fun hHa => ?_)
      clear hK K'
      (try simp only [Act.put, List.setIfInBounds_toArray, List.set_cons_zero, List.set_cons_succ])
      clear hHa
      refine wpAnyH_ready (rs := [3]) (by kernel_rfl) (by simp) ?_
      refine AllReadyH.cons (o := ?oe3) ?hoe3 (fun K' hK => ?_) AllReadyH.nil
      case hoe3 => simp only [List.getElem?_toArray, List.getElem?_cons_zero, List.getElem?_cons_succ]; rfl
      go_simp
      refine (as_any z1.heap.size _ A (by omega) z1 (HT1.out.ob.tq (by omega)).tms (Nat.le_refl _)).mono ?_
      rintro e z2 ⟨a8, c8, rfl, ho9, hb9⟩
      have HT2 := Lib.hid (HT1.out.keep hb9)
      have HO2 := Lib.hid (OwnR.tq ho9 (by omega))
      have HO2b := Lib.hid (OwnR.tq (OwnR.keep HO1.out hb9) (by omega))
      clear hb9 ho9
      refine hK.out _ _ (MKS.out _ HT2.out) (fun hHb => ?_)
      clear hK K'
      (try simp only [Act.put, List.setIfInBounds_toArray, List.set_cons_zero, List.set_cons_succ])
      clear hHb
      refine wpAnyH_ready (rs := [4]) (by kernel_rfl) (by simp) ?_
      refine AllReadyH.cons (o := ?oe4) ?hoe4 (fun K' hK => ?_) AllReadyH.nil
      case hoe4 => simp only [List.getElem?_toArray, List.getElem?_cons_zero, List.getElem?_cons_succ]; rfl
      go_simp
      refine (same_any z2.heap.size _ _ A (by omega) z2 HO2b.out.tms HO2.out.tms (Nat.le_refl _)).mono ?_
      rintro e z3 ⟨rfl, hb10⟩
      have HT3 := Lib.hid (HT2.out.keep hb10)
      clear hb10
      refine hK.out _ _ (MKS.out _ HT3.out) (fun hHc => ?_)
      clear hK K'
      (try simp only [Act.put, List.setIfInBounds_toArray, List.set_cons_zero, List.set_cons_succ])
      refine wpAnyH_take (i := 5) (oi := ?oe5) (v := ?ve5) ?hie5 (by kernel_rfl) (by kernel_rfl) (by kernel_rfl) ?hQe5 ?hye5 hHc ?_
      case hie5 => simp only [List.getElem?_toArray, List.getElem?_cons_zero, List.getElem?_cons_succ]; rfl
      case hQe5 => exact fun _ _ _ h => h
      case hye5 => refine Or.inl ⟨by rfl, ?_⟩; intro W hSw; (try dsimp only at hSw); go_simp; try with_reducible rfl
      simp only [Act.put, List.setIfInBounds_toArray, List.set_cons_zero, List.set_cons_succ]
      refine wpAnyH_take (i := 6) (oi := ?oe6) (v := ?ve6) ?hie6 (by kernel_rfl) (by kernel_rfl) (by kernel_rfl) ?hQe6 ?hye6 hHc ?_
      case hie6 => simp only [List.getElem?_toArray, List.getElem?_cons_zero, List.getElem?_cons_succ]; rfl
      case hQe6 => exact fun _ _ _ h => h
      case hye6 => refine Or.inl ⟨by rfl, ?_⟩; intro W hSw; (try dsimp only at hSw); go_simp; try with_reducible rfl
      simp only [Act.put, List.setIfInBounds_toArray, List.set_cons_zero, List.set_cons_succ]
      refine wpAnyH_take (i := 7) (oi := ?oe7) (v := ?ve7) ?hie7 (by kernel_rfl) (by kernel_rfl) (by kernel_rfl) ?hQe7 ?hye7 hHc ?_
      case hie7 => simp only [List.getElem?_toArray, List.getElem?_cons_zero, List.getElem?_cons_succ]; rfl
      case hQe7 => exact fun _ _ _ h => h
      case hye7 => refine Or.inl ⟨by rfl, ?_⟩; intro W hSw; (try dsimp only at hSw); go_simp; try with_reducible rfl
      simp only [Act.put, List.setIfInBounds_toArray, List.set_cons_zero, List.set_cons_succ]
      refine wpAnyH_take (i := 8) (oi := ?oe8) (v := ?ve8) ?hie8 (by kernel_rfl) (by kernel_rfl) (by kernel_rfl) ?hQe8 ?hye8 hHc ?_
      case hie8 => simp only [List.getElem?_toArray, List.getElem?_cons_zero, List.getElem?_cons_succ]; rfl
      case hQe8 => exact fun _ _ _ h => h
      case hye8 => refine Or.inl ⟨by rfl, ?_⟩; intro W hSw; (try dsimp only at hSw); go_simp; try with_reducible rfl
      simp only [Act.put, List.setIfInBounds_toArray, List.set_cons_zero, List.set_cons_succ]
      refine wpAnyH_take (i := 9) (oi := ?oe9) (v := ?ve9) ?hie9 (by kernel_rfl) (by kernel_rfl) (by kernel_rfl) ?hQe9 ?hye9 hHc ?_
      case hie9 => simp only [List.getElem?_toArray, List.getElem?_cons_zero, List.getElem?_cons_succ]; rfl
      case hQe9 => exact fun _ _ _ h => h
      case hye9 => refine Or.inl ⟨by rfl, ?_⟩; intro W hSw; (try dsimp only at hSw); go_simp; try with_reducible rfl
      simp only [Act.put, List.setIfInBounds_toArray, List.set_cons_zero, List.set_cons_succ]
      refine wpAnyH_take (i := 10) (oi := ?oe10) (v := ?ve10) ?hie10 (by kernel_rfl) (by kernel_rfl) (by kernel_rfl) ?hQe10 ?hye10 hHc ?_
      case hie10 => simp only [List.getElem?_toArray, List.getElem?_cons_zero, List.getElem?_cons_succ]; rfl
      case hQe10 => exact fun _ _ _ h => h
      case hye10 => refine Or.inl ⟨by rfl, ?_⟩; intro W hSw; (try dsimp only at hSw); go_simp; try with_reducible rfl
      simp only [Act.put, List.setIfInBounds_toArray, List.set_cons_zero, List.set_cons_succ]
      refine wpAnyH_take (i := 11) (oi := ?oe11) (v := ?ve11) ?hie11 (by kernel_rfl) (by kernel_rfl) (by kernel_rfl) ?hQe11 ?hye11 hHc ?_
      case hie11 => simp only [List.getElem?_toArray, List.getElem?_cons_zero, List.getElem?_cons_succ]; rfl
      case hQe11 => exact fun _ _ _ h => h
      case hye11 => refine Or.inl ⟨by rfl, ?_⟩; intro W hSw; (try dsimp only at hSw); go_simp; try with_reducible rfl
      simp only [Act.put, List.setIfInBounds_toArray, List.set_cons_zero, List.set_cons_succ]
      refine wpAnyH_take (i := 12) (oi := ?oe12) (v := ?ve12) ?hie12 (by kernel_rfl) (by kernel_rfl) (by kernel_rfl) ?hQe12 ?hye12 hHc ?_
      case hie12 => simp only [List.getElem?_toArray, List.getElem?_cons_zero, List.getElem?_cons_succ]; rfl
      case hQe12 => exact fun _ _ _ h => h
      case hye12 => refine Or.inl ⟨by rfl, ?_⟩; intro W hSw; (try dsimp only at hSw); go_simp; try with_reducible rfl
      simp only [Act.put, List.setIfInBounds_toArray, List.set_cons_zero, List.set_cons_succ]
      refine wpAnyH_take (i := 13) (oi := ?oe13) (v := ?ve13) ?hie13 (by kernel_rfl) (by kernel_rfl) (by kernel_rfl) ?hQe13 ?hye13 hHc ?_
      case hie13 => simp only [List.getElem?_toArray, List.getElem?_cons_zero, List.getElem?_cons_succ]; rfl
      case hQe13 => exact fun _ _ _ h => h
      case hye13 => refine Or.inl ⟨by rfl, ?_⟩; intro W hSw; (try dsimp only at hSw); go_simp; try with_reducible rfl
      simp only [Act.put, List.setIfInBounds_toArray, List.set_cons_zero, List.set_cons_succ]
      clear hHc
      refine wpAnyH_done (by kernel_rfl) ?_ _
      go_wp2_with fail
      go_ret
      exact ⟨rfl, HFIN.out _ HT3.out.bl⟩
end Go.Proofs.Ytpadbkplknnopaa
