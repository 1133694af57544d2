/-
  The walks of bucketlineref12's Next, At, before and Right.
-/
import Derived.Test.YtpadbkplknnopaaTmAs
namespace Go.Proofs.Ytpadbkplknnopaa
set_option linter.unusedSimpArgs false
set_option linter.unusedVariables false
open Go.RowKit

set_option maxHeartbeats 800000 in
theorem rnext_any (B : Nat) (v : Value) (l : List TM) (x : Int) (hx : nextT l = x) (w : World) (h : IsTms B w v l) (hB : B ≤ w.heap.size) :
    Calls Try.prog 23 #[v] w fun r w' => r = .returned (.int .i64 x) ∧ Below w.heap.size w w' := by
  obtain ⟨lv, rfl, hl⟩ := h
  obtain ⟨a, cap, rfl⟩ := hl.form
  have bx0 := bx_new (w := w) (.cells #[.slice a l.length cap] 34)
  have BX0 := Lib.hid bx0
  by_cases h0 : l.length = 0
  · have g0 : ((l.length : Int) == 0) = true := by rw [h0]; rfl
    obtain rfl : -1 = x := by rw [← hx, List.eq_nil_of_length_eq_zero h0]; rfl
    clear hx hl bx0 h0
    go_enter Try.func23, Try.ntmps23
    go_wp2_with fail
    go_ret
    exact ⟨rfl, bx_below BX0.out⟩
  · have g0 : ((l.length : Int) == 0) = false := by rw [beq_eq_false_iff_ne]; omega
    obtain ⟨b, off, cap', he, hblk, _, hc1, hc2⟩ := hl.get 0 (by omega)
    obtain ⟨rfl, -, rfl⟩ : a = some ⟨b, off, none⟩ ∧ l.length = l.length ∧ cap = cap' := by injection he with e1 e2 e3; exact ⟨e1, e2, e3⟩
    clear he
    obtain ⟨y, hy⟩ : ∃ y, l[0] = y := ⟨_, rfl⟩
    rw [hy] at hc1 hc2
    obtain rfl : y.at_ = x := by
      rw [← hx, ← hy]
      cases l with
      | nil => simp at h0
      | cons t l => rfl
    rw [Nat.zero_mul, Nat.add_zero] at hc1 hc2
    have hlt : b < w.heap.size := by omega
    have hne : b ≠ w.heap.size := by omega
    have i1 : (0 : Int) < (l.length : Int) := by omega
    clear hx hl bx0 hy h0
    go_enter Try.func23, Try.ntmps23
    go_wp2_with fail
    go_ret
    exact ⟨rfl, bx_below BX0.out⟩


set_option maxHeartbeats 800000 in
theorem rat_any (B : Nat) (v : Value) (l : List TM) (hl64 : l.length ≤ 1000) (n : ByteArray) (x : Int) (q : Bool) (hx : (if 0 ≤ placeT n l then ((l.getD (placeT n l).toNat ⟨⟨#[]⟩, 0⟩).at_, true) else (0, false)) = (x, q)) (w : World) (h : IsTms B w v l) (hB : B ≤ w.heap.size) :
    Calls Try.prog 20 #[v, .string n] w fun r w' => r = .returned (.tuple #[.int .i64 x, .bool q]) ∧ Below w.heap.size w w' := by
  obtain ⟨lv, rfl, hl⟩ := h
  obtain ⟨a, cap, rfl⟩ := hl.form
  have HL := Lib.hid hl
  have HX := Lib.hid hx
  have BX0 := Lib.hid (bx_new (w := w) (.cells #[.slice a l.length cap] 34))
  clear hl hx
  go_enter Try.func20, Try.ntmps20
  go_wp2_with fail
  go_loop [6] (fun t6 => ∃ k : Nat, k ≤ l.length ∧ t6 = .int .i64 k ∧ ∀ i (hi : i < l.length), i < k → l[i].name ≠ n) (fun t6 => l.length - (intOf t6).toNat)
  case atStart => exact ⟨0, Nat.zero_le _, rfl, fun i _ h => absurd h (by omega)⟩
  case round =>
    obtain ⟨k, hk, rfl, hno⟩ := hrel
    have HNO := Lib.hid hno
    clear hno
    by_cases hlt : k < l.length
    · obtain ⟨b, off, q1, he, hbB, _, hc1, hc2⟩ := HL.out.get k hlt
      obtain ⟨rfl, -, rfl⟩ : a = some ⟨b, off, none⟩ ∧ l.length = l.length ∧ cap = q1 := by injection he with e1 e2 e3; exact ⟨e1, e2, e3⟩
      clear he
      obtain ⟨y, hy⟩ : ∃ y, l[k] = y := ⟨_, rfl⟩
      rw [hy] at hc1 hc2
      have Hy := Lib.hid hy
      have i1 : (0 : Int) ≤ (k : Int) := by omega
      have i2 : (k : Int) < (l.length : Int) := by omega
      have hbl : b < w.heap.size := by omega
      have hbn : b ≠ w.heap.size := by omega
      clear hy
      by_cases hyn : (y.name.toList == n.toList) = true
      · have hp := placeT_at hlt (by rw [Hy.out]; exact bytes_eq hyn) HNO.out
        have hxx := HX.out
        have hg : l.getD (k : Int).toNat ⟨⟨#[]⟩, 0⟩ = l[k] := by
          rw [Int.toNat_natCast, List.getD_eq_getElem?_getD, List.getElem?_eq_getElem hlt, Option.getD_some]
        rw [hp, if_pos (by omega), hg, Hy.out] at hxx
        obtain ⟨rfl, rfl⟩ : y.at_ = x ∧ true = q := by simpa using hxx
        clear hxx hp hg
        go_wp2_with fail
        go_ret2
        exact ⟨rfl, bx_below BX0.out⟩
      · have hyf : (y.name.toList == n.toList) = false := by simpa using hyn
        have HYN := Lib.hid hyn
        clear hyn
        go_wp2_with fail
        go_round
        case rel =>
          refine ⟨k + 1, by omega, by go_num, fun i hi hik => ?_⟩
          by_cases e : i = k
          · subst e
            rw [Hy.out]
            intro e2
            exact HYN.out (by rw [e2]; simp)
          · exact HNO.out i hi (by omega)
        case measure => simp [intOf]; omega
    · have g : ¬ ((k : Int) < (l.length : Int)) := by omega
      have hp := placeT_no (fun i hi => HNO.out i hi (by omega))
      have hxx := HX.out
      rw [hp, if_neg (by omega)] at hxx
      obtain ⟨rfl, rfl⟩ : 0 = x ∧ false = q := by simpa using hxx
      clear hxx hp
      go_wp2_with fail
      go_ret2
      exact ⟨rfl, bx_below BX0.out⟩

set_option maxHeartbeats 800000 in
theorem before_any (x y : TM) (q : Bool) (hq : ltT x y = q) (w : World) :
    Calls Try.prog 29 #[.agg #[.string x.name, .int .i64 x.at_], .agg #[.string y.name, .int .i64 y.at_]] w fun r w' => r = .returned (.bool q) ∧ Below w.heap.size w w' := by
  have hb0 : Below w.heap.size w ((w.alloc (.cells #[.string x.name, .int .i64 x.at_] 65)).alloc (.cells #[.string y.name, .int .i64 y.at_] 65)) := ((Below.refl _ _).alloc (Nat.le_refl _) _).alloc (by rw [World.size_alloc]; omega) _
  have HB0 := Lib.hid hb0
  clear hb0
  by_cases h1 : x.at_ < y.at_
  · obtain rfl : true = q := by rw [← hq]; simp [ltT, h1]
    clear hq
    go_enter Try.func29, Try.ntmps29
    go_wp2_with fail
    go_ret
    exact ⟨rfl, HB0.out⟩
  · by_cases h2 : x.at_ = y.at_
    · have h3 : (x.at_ == y.at_) = true := by simpa using h2
      obtain ⟨z, hz⟩ : ∃ z, Op.bytesLess x.name.toList y.name.toList = z := ⟨_, rfl⟩
      obtain rfl : z = q := by rw [← hq, ← hz]; simp [ltT, h2]
      have HZ := Lib.hid hz
      clear hq hz h2
      go_enter Try.func29, Try.ntmps29
      go_wp2_with fail
      go_ret
      exact ⟨ret_bool HZ.out, HB0.out⟩
    · have h3 : (x.at_ == y.at_) = false := by simpa using h2
      obtain rfl : false = q := by rw [← hq]; simp [ltT, h1, h3]
      clear hq h2
      go_enter Try.func29, Try.ntmps29
      go_wp2_with fail
      go_ret
      exact ⟨rfl, HB0.out⟩

set_option maxRecDepth 100000 in
set_option maxHeartbeats 1600000 in
theorem rright_any (B : Nat) (v : Value) (l : List TM) (hl64 : l.length ≤ 64) (hr : RightT l) (w : World) (h : IsTms B w v l) (hB : B ≤ w.heap.size) :
    Calls Try.prog 21 #[v] w fun r w' => r = .returned (.bool true) ∧ Below w.heap.size w w' := by
  obtain ⟨lv, rfl, hl⟩ := h
  obtain ⟨a, cap, rfl⟩ := hl.form
  have HL := Lib.hid hl
  have HR := Lib.hid hr
  have HBB := Lib.hid hB
  have BX0 := Lib.hid (bx_new (w := w) (.cells #[.slice a l.length cap] 34))
  have h65 : (l.length : Int) ≤ 64 := by omega
  clear hl hr hB
  go_enter Try.func21, Try.ntmps21
  go_wp2_with fail
  go_loopw [3] (fun t3 wr => ∃ i : Nat, i ≤ l.length ∧ t3 = .int .i64 i ∧ Below (w.heap.size + 1) (w.alloc (.cells #[.slice a l.length cap] 34)) wr) (fun t3 _ => l.length - (intOf t3).toNat)
  case atStart => exact ⟨0, Nat.zero_le _, rfl, BX0.out⟩
  case round =>
    obtain ⟨i, hi, rfl, hbl⟩ := hrel
    have yb := box1 hbl
    by_cases hlt : i < l.length
    · have i1 : (0 : Int) ≤ (i : Int) := by omega
      have i2 : (i : Int) < (l.length : Int) := by omega
      have HBL0 := Lib.hid hbl
      clear hbl
      go_wp2_with fail
      go_loopw [4] (fun t4 wr => ∃ k : Nat, k ≤ i ∧ t4 = .int .i64 k ∧ Below (w.heap.size + 1) (w.alloc (.cells #[.slice a l.length cap] 34)) wr) (fun t4 _ => i - (intOf t4).toNat)
      case atStart => exact ⟨0, Nat.zero_le _, rfl, HBL0.out⟩
      case round =>
        obtain ⟨k, hk, rfl, hbl⟩ := hrel
        have yb2 := box1 hbl
        have hbw := bx_below hbl
        have hszw := hbl.size
        have HBL := Lib.hid hbl
        clear yb hbl
        by_cases hki : k < i
        · obtain ⟨b, off, q1, he, hbB, _, hc1, hc2⟩ := (HL.out.keep hbw HBB.out).get k (by omega)
          obtain ⟨rfl, -, rfl⟩ : a = some ⟨b, off, none⟩ ∧ l.length = l.length ∧ cap = q1 := by injection he with e1 e2 e3; exact ⟨e1, e2, e3⟩
          clear he
          obtain ⟨b2, off2, q2, he, _, _, hd1, hd2⟩ := (HL.out.keep hbw HBB.out).get i hlt
          injection he with e1 e2 e3
          injection e1 with e1
          injection e1 with e1 e4
          rw [← e1, ← e4] at hd1 hd2
          clear e1 e2 e3 e4
          have hlT : ltT l[k] l[i] = true := List.pairwise_iff_getElem.1 HR.out.sorted k i (by omega) hlt hki
          have hne : l[k].name ≠ l[i].name := List.pairwise_iff_getElem.1 HR.out.names k i (by omega) hlt hki
          obtain ⟨x, hx⟩ : ∃ x, l[k] = x := ⟨_, rfl⟩
          obtain ⟨y, hy⟩ : ∃ y, l[i] = y := ⟨_, rfl⟩
          rw [hx] at hc1 hc2 hlT hne
          rw [hy] at hd1 hd2 hlT hne
          have hnf : (x.name.toList == y.name.toList) = false := by
            cases hh : (x.name.toList == y.name.toList) with
            | false => rfl
            | true => exact absurd (bytes_eq hh) hne
          have CB := Lib.hid (fun (X : World) => before_any x y true hlT X)
          have k1 : (0 : Int) ≤ (k : Int) := by omega
          have k2 : (k : Int) < (i : Int) := by omega
          have k3 : (k : Int) < (l.length : Int) := by omega
          have hBH := HBB.out
          rw [World.size_alloc] at hszw
          have MKS := Lib.hid (fun (X : World) (hX : Below (w.heap.size + 1) wr X) => (show (fun X => X.cell? ⟨w.heap.size, 0, none⟩ = some (.slice (some ⟨b, off, none⟩) l.length cap) ∧ X.cell? ⟨b, off + k * 2, none⟩ = some (.string x.name) ∧ X.cell? ⟨b, off + k * 2 + 1, none⟩ = some (.int .i64 x.at_) ∧ X.cell? ⟨b, off + i * 2, none⟩ = some (.string y.name) ∧ X.cell? ⟨b, off + i * 2 + 1, none⟩ = some (.int .i64 y.at_)) X from ⟨(hX.cell (p := ⟨w.heap.size, 0, none⟩) (by simp only; omega)).trans yb2, (hX.cell (p := ⟨b, off + k * 2, none⟩) (by simp only; omega)).trans hc1, (hX.cell (p := ⟨b, off + k * 2 + 1, none⟩) (by simp only; omega)).trans hc2, (hX.cell (p := ⟨b, off + i * 2, none⟩) (by simp only; omega)).trans hd1, (hX.cell (p := ⟨b, off + i * 2 + 1, none⟩) (by simp only; omega)).trans hd2⟩))
          clear hx hy hlT hne hBH hbw yb2 hc1 hc2 hd1 hd2
          go_wp2_with fail
          refine region_begin (S := fun X => X.cell? ⟨w.heap.size, 0, none⟩ = some (.slice (some ⟨b, off, none⟩) l.length cap) ∧ X.cell? ⟨b, off + k * 2, none⟩ = some (.string x.name) ∧ X.cell? ⟨b, off + k * 2 + 1, none⟩ = some (.int .i64 x.at_) ∧ X.cell? ⟨b, off + i * 2, none⟩ = some (.string y.name) ∧ X.cell? ⟨b, off + i * 2 + 1, none⟩ = some (.int .i64 y.at_)) 27 rfl (by kernel_rfl) (MKS.out _ (Below.refl _ _).drew) (fun hH0 => ?_)
          refine wpAnyH_take (i := 0) (oi := ?os0) (v := ?vs0) ?his0 (by kernel_rfl) (by kernel_rfl) (by kernel_rfl) ?hQs0 ?hys0 hH0 ?_
          case his0 => simp only [List.getElem?_toArray, List.getElem?_cons_zero]; rfl
          case hQs0 => exact fun _ _ _ h => h
          case hys0 => refine Or.inl ⟨by rfl, ?_⟩; intro W hSw; (try dsimp only at hSw); go_simp; try with_reducible rfl
          simp only [Act.put, List.setIfInBounds_toArray, List.set_cons_zero]
          refine wpAnyH_take (i := 1) (oi := ?os1) (v := ?vs1) ?his1 (by kernel_rfl) (by kernel_rfl) (by kernel_rfl) ?hQs1 ?hys1 hH0 ?_
          case his1 => simp only [List.getElem?_toArray, List.getElem?_cons_zero, List.getElem?_cons_succ]; rfl
          case hQs1 => exact fun _ _ _ h => h
          case hys1 => refine Or.inl ⟨by rfl, ?_⟩; intro W hSw; (try dsimp only at hSw); go_simp; try with_reducible rfl
          simp only [Act.put, List.setIfInBounds_toArray, List.set_cons_zero, List.set_cons_succ]
          refine wpAnyH_take (i := 2) (oi := ?os2) (v := ?vs2) ?his2 (by kernel_rfl) (by kernel_rfl) (by kernel_rfl) ?hQs2 ?hys2 hH0 ?_
          case his2 => simp only [List.getElem?_toArray, List.getElem?_cons_zero, List.getElem?_cons_succ]; rfl
          case hQs2 => exact fun _ _ _ h => h
          case hys2 => refine Or.inl ⟨by rfl, ?_⟩; intro W hSw; (try dsimp only at hSw); go_simp; try with_reducible rfl
          simp only [Act.put, List.setIfInBounds_toArray, List.set_cons_zero, List.set_cons_succ]
          refine wpAnyH_take (i := 3) (oi := ?os3) (v := ?vs3) ?his3 (by kernel_rfl) (by kernel_rfl) (by kernel_rfl) ?hQs3 ?hys3 hH0 ?_
          case his3 => simp only [List.getElem?_toArray, List.getElem?_cons_zero, List.getElem?_cons_succ]; rfl
          case hQs3 => exact fun _ _ _ h => h
          case hys3 => refine Or.inl ⟨by rfl, ?_⟩; intro W hSw; (try dsimp only at hSw); go_simp; try with_reducible rfl
          simp only [Act.put, List.setIfInBounds_toArray, List.set_cons_zero, List.set_cons_succ]
          refine wpAnyH_take (i := 4) (oi := ?os4) (v := ?vs4) ?his4 (by kernel_rfl) (by kernel_rfl) (by kernel_rfl) ?hQs4 ?hys4 hH0 ?_
          case his4 => simp only [List.getElem?_toArray, List.getElem?_cons_zero, List.getElem?_cons_succ]; rfl
          case hQs4 => exact fun _ _ _ h => h
          case hys4 => refine Or.inl ⟨by rfl, ?_⟩; intro W hSw; (try dsimp only at hSw); go_simp; try with_reducible rfl
          simp only [Act.put, List.setIfInBounds_toArray, List.set_cons_zero, List.set_cons_succ]
          refine wpAnyH_take (i := 5) (oi := ?os5) (v := ?vs5) ?his5 (by kernel_rfl) (by kernel_rfl) (by kernel_rfl) ?hQs5 ?hys5 hH0 ?_
          case his5 => simp only [List.getElem?_toArray, List.getElem?_cons_zero, List.getElem?_cons_succ]; rfl
          case hQs5 => exact fun _ _ _ h => h
          case hys5 => refine Or.inl ⟨by rfl, ?_⟩; intro W hSw; (try dsimp only at hSw); go_simp; try with_reducible rfl
          simp only [Act.put, List.setIfInBounds_toArray, List.set_cons_zero, List.set_cons_succ]
          refine wpAnyH_take (i := 6) (oi := ?os6) (v := ?vs6) ?his6 (by kernel_rfl) (by kernel_rfl) (by kernel_rfl) ?hQs6 ?hys6 hH0 ?_
          case his6 => simp only [List.getElem?_toArray, List.getElem?_cons_zero, List.getElem?_cons_succ]; rfl
          case hQs6 => exact fun _ _ _ h => h
          case hys6 => refine Or.inl ⟨by rfl, ?_⟩; intro W hSw; (try dsimp only at hSw); go_simp; try with_reducible rfl
          simp only [Act.put, List.setIfInBounds_toArray, List.set_cons_zero, List.set_cons_succ]
          refine wpAnyH_take (i := 7) (oi := ?os7) (v := ?vs7) ?his7 (by kernel_rfl) (by kernel_rfl) (by kernel_rfl) ?hQs7 ?hys7 hH0 ?_
          case his7 => simp only [List.getElem?_toArray, List.getElem?_cons_zero, List.getElem?_cons_succ]; rfl
          case hQs7 => exact fun _ _ _ h => h
          case hys7 => refine Or.inl ⟨by rfl, ?_⟩; intro W hSw; (try dsimp only at hSw); go_simp; try with_reducible rfl
          simp only [Act.put, List.setIfInBounds_toArray, List.set_cons_zero, List.set_cons_succ]
          refine wpAnyH_take (i := 8) (oi := ?os8) (v := ?vs8) ?his8 (by kernel_rfl) (by kernel_rfl) (by kernel_rfl) ?hQs8 ?hys8 hH0 ?_
          case his8 => simp only [List.getElem?_toArray, List.getElem?_cons_zero, List.getElem?_cons_succ]; rfl
          case hQs8 => exact fun _ _ _ h => h
          case hys8 => refine Or.inl ⟨by rfl, ?_⟩; intro W hSw; (try dsimp only at hSw); go_simp; try with_reducible rfl
          simp only [Act.put, List.setIfInBounds_toArray, List.set_cons_zero, List.set_cons_succ]
          refine wpAnyH_take (i := 9) (oi := ?os9) (v := ?vs9) ?his9 (by kernel_rfl) (by kernel_rfl) (by kernel_rfl) ?hQs9 ?hys9 hH0 ?_
          case his9 => simp only [List.getElem?_toArray, List.getElem?_cons_zero, List.getElem?_cons_succ]; rfl
          case hQs9 => exact fun _ _ _ h => h
          case hys9 => refine Or.inl ⟨by rfl, ?_⟩; intro W hSw; (try dsimp only at hSw); go_simp; try with_reducible rfl
          simp only [Act.put, List.setIfInBounds_toArray, List.set_cons_zero, List.set_cons_succ]
          refine wpAnyH_take (i := 10) (oi := ?os10) (v := ?vs10) ?his10 (by kernel_rfl) (by kernel_rfl) (by kernel_rfl) ?hQs10 ?hys10 hH0 ?_
          case his10 => simp only [List.getElem?_toArray, List.getElem?_cons_zero, List.getElem?_cons_succ]; rfl
          case hQs10 => exact fun _ _ _ h => h
          case hys10 => refine Or.inl ⟨by rfl, ?_⟩; intro W hSw; (try dsimp only at hSw); go_simp; try with_reducible rfl
          simp only [Act.put, List.setIfInBounds_toArray, List.set_cons_zero, List.set_cons_succ]
          refine wpAnyH_take (i := 11) (oi := ?os11) (v := ?vs11) ?his11 (by kernel_rfl) (by kernel_rfl) (by kernel_rfl) ?hQs11 ?hys11 hH0 ?_
          case his11 => simp only [List.getElem?_toArray, List.getElem?_cons_zero, List.getElem?_cons_succ]; rfl
          case hQs11 => exact fun _ _ _ h => h
          case hys11 => refine Or.inl ⟨by rfl, ?_⟩; intro W hSw; (try dsimp only at hSw); go_simp; try with_reducible rfl
          simp only [Act.put, List.setIfInBounds_toArray, List.set_cons_zero, List.set_cons_succ]
          refine wpAnyH_take (i := 12) (oi := ?os12) (v := ?vs12) ?his12 (by kernel_rfl) (by kernel_rfl) (by kernel_rfl) ?hQs12 ?hys12 hH0 ?_
          case his12 => simp only [List.getElem?_toArray, List.getElem?_cons_zero, List.getElem?_cons_succ]; rfl
          case hQs12 => exact fun _ _ _ h => h
          case hys12 => refine Or.inl ⟨by rfl, ?_⟩; intro W hSw; (try dsimp only at hSw); go_simp; try with_reducible rfl
          simp only [Act.put, List.setIfInBounds_toArray, List.set_cons_zero, List.set_cons_succ]
          refine wpAnyH_take (i := 13) (oi := ?os13) (v := ?vs13) ?his13 (by kernel_rfl) (by kernel_rfl) (by kernel_rfl) ?hQs13 ?hys13 hH0 ?_
          case his13 => simp only [List.getElem?_toArray, List.getElem?_cons_zero, List.getElem?_cons_succ]; rfl
          case hQs13 => exact fun _ _ _ h => h
          case hys13 => refine Or.inl ⟨by rfl, ?_⟩; intro W hSw; (try dsimp only at hSw); go_simp; try with_reducible rfl
          simp only [Act.put, List.setIfInBounds_toArray, List.set_cons_zero, List.set_cons_succ]
          refine wpAnyH_take (i := 14) (oi := ?os14) (v := ?vs14) ?his14 (by kernel_rfl) (by kernel_rfl) (by kernel_rfl) ?hQs14 ?hys14 hH0 ?_
          case his14 => simp only [List.getElem?_toArray, List.getElem?_cons_zero, List.getElem?_cons_succ]; rfl
          case hQs14 => exact fun _ _ _ h => h
          case hys14 => refine Or.inl ⟨by rfl, ?_⟩; intro W hSw; (try dsimp only at hSw); go_simp; try with_reducible rfl
          simp only [Act.put, List.setIfInBounds_toArray, List.set_cons_zero, List.set_cons_succ]
          refine wpAnyH_take (i := 15) (oi := ?os15) (v := ?vs15) ?his15 (by kernel_rfl) (by kernel_rfl) (by kernel_rfl) ?hQs15 ?hys15 hH0 ?_
          case his15 => simp only [List.getElem?_toArray, List.getElem?_cons_zero, List.getElem?_cons_succ]; rfl
          case hQs15 => exact fun _ _ _ h => h
          case hys15 => refine Or.inl ⟨by rfl, ?_⟩; intro W hSw; (try dsimp only at hSw); go_simp; try with_reducible rfl
          simp only [Act.put, List.setIfInBounds_toArray, List.set_cons_zero, List.set_cons_succ]
          refine wpAnyH_take (i := 16) (oi := ?os16) (v := ?vs16) ?his16 (by kernel_rfl) (by kernel_rfl) (by kernel_rfl) ?hQs16 ?hys16 hH0 ?_
          case his16 => simp only [List.getElem?_toArray, List.getElem?_cons_zero, List.getElem?_cons_succ]; rfl
          case hQs16 => exact fun _ _ _ h => h
          case hys16 => refine Or.inl ⟨by rfl, ?_⟩; intro W hSw; (try dsimp only at hSw); go_simp; try with_reducible rfl
          simp only [Act.put, List.setIfInBounds_toArray, List.set_cons_zero, List.set_cons_succ]
          refine wpAnyH_take (i := 17) (oi := ?os17) (v := ?vs17) ?his17 (by kernel_rfl) (by kernel_rfl) (by kernel_rfl) ?hQs17 ?hys17 hH0 ?_
          case his17 => simp only [List.getElem?_toArray, List.getElem?_cons_zero, List.getElem?_cons_succ]; rfl
          case hQs17 => exact fun _ _ _ h => h
          case hys17 => refine Or.inl ⟨by rfl, ?_⟩; intro W hSw; (try dsimp only at hSw); go_simp; try with_reducible rfl
          simp only [Act.put, List.setIfInBounds_toArray, List.set_cons_zero, List.set_cons_succ]
          refine wpAnyH_take (i := 18) (oi := ?os18) (v := ?vs18) ?his18 (by kernel_rfl) (by kernel_rfl) (by kernel_rfl) ?hQs18 ?hys18 hH0 ?_
          case his18 => simp only [List.getElem?_toArray, List.getElem?_cons_zero, List.getElem?_cons_succ]; rfl
          case hQs18 => exact fun _ _ _ h => h
          case hys18 => refine Or.inl ⟨by rfl, ?_⟩; intro W hSw; (try dsimp only at hSw); go_simp; try with_reducible rfl
          simp only [Act.put, List.setIfInBounds_toArray, List.set_cons_zero, List.set_cons_succ]
          refine wpAnyH_take (i := 19) (oi := ?os19) (v := ?vs19) ?his19 (by kernel_rfl) (by kernel_rfl) (by kernel_rfl) ?hQs19 ?hys19 hH0 ?_
          case his19 => simp only [List.getElem?_toArray, List.getElem?_cons_zero, List.getElem?_cons_succ]; rfl
          case hQs19 => exact fun _ _ _ h => h
          case hys19 => refine Or.inl ⟨by rfl, ?_⟩; intro W hSw; (try dsimp only at hSw); go_simp; try with_reducible rfl
          simp only [Act.put, List.setIfInBounds_toArray, List.set_cons_zero, List.set_cons_succ]
          refine wpAnyH_take (i := 20) (oi := ?os20) (v := ?vs20) ?his20 (by kernel_rfl) (by kernel_rfl) (by kernel_rfl) ?hQs20 ?hys20 hH0 ?_
          case his20 => simp only [List.getElem?_toArray, List.getElem?_cons_zero, List.getElem?_cons_succ]; rfl
          case hQs20 => exact fun _ _ _ h => h
          case hys20 => refine Or.inl ⟨by rfl, ?_⟩; intro W hSw; (try dsimp only at hSw); go_simp; try with_reducible rfl
          simp only [Act.put, List.setIfInBounds_toArray, List.set_cons_zero, List.set_cons_succ]
          refine wpAnyH_take (i := 21) (oi := ?os21) (v := ?vs21) ?his21 (by kernel_rfl) (by kernel_rfl) (by kernel_rfl) ?hQs21 ?hys21 hH0 ?_
          case his21 => simp only [List.getElem?_toArray, List.getElem?_cons_zero, List.getElem?_cons_succ]; rfl
          case hQs21 => exact fun _ _ _ h => h
          case hys21 => refine Or.inl ⟨by rfl, ?_⟩; intro W hSw; (try dsimp only at hSw); go_simp; try with_reducible rfl
          simp only [Act.put, List.setIfInBounds_toArray, List.set_cons_zero, List.set_cons_succ]
          refine wpAnyH_take (i := 22) (oi := ?os22) (v := ?vs22) ?his22 (by kernel_rfl) (by kernel_rfl) (by kernel_rfl) ?hQs22 ?hys22 hH0 ?_
          case his22 => simp only [List.getElem?_toArray, List.getElem?_cons_zero, List.getElem?_cons_succ]; rfl
          case hQs22 => exact fun _ _ _ h => h
          case hys22 => refine Or.inl ⟨by rfl, ?_⟩; intro W hSw; (try dsimp only at hSw); go_simp; try with_reducible rfl
          simp only [Act.put, List.setIfInBounds_toArray, List.set_cons_zero, List.set_cons_succ]
          refine wpAnyH_take (i := 23) (oi := ?os23) (v := ?vs23) ?his23 (by kernel_rfl) (by kernel_rfl) (by kernel_rfl) ?hQs23 ?hys23 hH0 ?_
          case his23 => simp only [List.getElem?_toArray, List.getElem?_cons_zero, List.getElem?_cons_succ]; rfl
          case hQs23 => exact fun _ _ _ h => h
          case hys23 => refine Or.inl ⟨by rfl, ?_⟩; intro W hSw; (try dsimp only at hSw); go_simp; try with_reducible rfl
          simp only [Act.put, List.setIfInBounds_toArray, List.set_cons_zero, List.set_cons_succ]
          clear hH0
          have hwd : Below wr.heap.size wr wr.drew := (Below.refl _ _).drew
          have HWD := Lib.hid hwd
          generalize wr.drew = w0 at *
          clear hwd
          refine wpAnyH_ready (rs := [24]) (by kernel_rfl) (by simp) ?_
          refine AllReadyH.cons (o := ?oca) ?hoca (fun K' hK => ?_) AllReadyH.nil
          case hoca => simp only [List.getElem?_toArray, List.getElem?_cons_zero, List.getElem?_cons_succ]; rfl
          go_simp
          refine (CB.out w0).mono ?_
          rintro e w1 ⟨rfl, hb1⟩
          have HB1 := Lib.hid (bstep HWD.out hb1)
          clear hb1
          refine hK.out _ _ (MKS.out _ (HB1.out.mono (by omega))) (fun hHa => ?_)
          clear hK K'
          (try simp only [Act.put, List.setIfInBounds_toArray, List.set_cons_zero, List.set_cons_succ])
          refine wpAnyH_take (i := 25) (oi := ?os25) (v := ?vs25) ?his25 (by kernel_rfl) (by kernel_rfl) (by kernel_rfl) ?hQs25 ?hys25 hHa ?_
          case his25 => simp only [List.getElem?_toArray, List.getElem?_cons_zero, List.getElem?_cons_succ]; rfl
          case hQs25 => exact fun _ _ _ h => h
          case hys25 => refine Or.inl ⟨by rfl, ?_⟩; intro W hSw; (try dsimp only at hSw); go_simp; try with_reducible rfl
          simp only [Act.put, List.setIfInBounds_toArray, List.set_cons_zero, List.set_cons_succ]
          refine wpAnyH_take (i := 26) (oi := ?os26) (v := ?vs26) ?his26 (by kernel_rfl) (by kernel_rfl) (by kernel_rfl) ?hQs26 ?hys26 hHa ?_
          case his26 => simp only [List.getElem?_toArray, List.getElem?_cons_zero, List.getElem?_cons_succ]; rfl
          case hQs26 => exact fun _ _ _ h => h
          case hys26 => refine Or.inl ⟨by rfl, ?_⟩; intro W hSw; (try dsimp only at hSw); go_simp; try with_reducible rfl
          simp only [Act.put, List.setIfInBounds_toArray, List.set_cons_zero, List.set_cons_succ]
          clear hHa
          refine wpAnyH_done (by kernel_rfl) ?_ _
          go_wp2_with fail
          go_roundw
          case rel => exact ⟨k + 1, by omega, by go_num, HBL.out.trans (HB1.out.mono (by omega))⟩
          case measure => simp [intOf]; omega
        · have g2 : ¬ ((k : Int) < (i : Int)) := by omega
          clear hbw
          go_wp2_with fail
          go_roundw
          case rel => exact ⟨i + 1, by omega, by go_num, HBL.out⟩
          case measure => simp [intOf]; omega
    · have g : ¬ ((i : Int) < (l.length : Int)) := by omega
      have HBL := Lib.hid hbl
      clear hbl
      go_wp2_with fail
      go_ret
      exact ⟨rfl, bx_below HBL.out⟩
end Go.Proofs.Ytpadbkplknnopaa
