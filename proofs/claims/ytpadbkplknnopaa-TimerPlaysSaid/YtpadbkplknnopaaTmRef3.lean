/-
  The walk of bucketlineref12.Set.
-/
import Derived.Test.YtpadbkplknnopaaTmRef2
import Derived.Test.YtpadbkplknnopaaTmOnce
import Derived.Deep.DeepCutAuto
namespace Go.Proofs.Ytpadbkplknnopaa
set_option linter.unusedSimpArgs false
set_option linter.unusedVariables false
open Go.RowKit

theorem rat_ok {B : Nat} {v : Value} {l : List TM} (n : ByteArray) (hl : l.length ≤ 64) {w : World} (h : IsTms B w v l) (hB : B ≤ w.heap.size) :
    Calls Try.prog 20 #[v, .string n] w fun r w' => ∃ x, r = .returned (.tuple #[.int .i64 x, .bool (hasT n l)]) ∧ Below w.heap.size w w' := by
  by_cases hp : 0 ≤ placeT n l
  · have hh : hasT n l = true := by
      cases hh : hasT n l with
      | true => rfl
      | false => have := (has_place n l).2 hh; omega
    rw [hh]
    exact (rat_any B _ l (by omega) n _ true (by rw [if_pos hp]) w h hB).mono (fun r w' h => ⟨_, h.1, h.2⟩)
  · have hh : hasT n l = false := (has_place n l).1 (by omega)
    rw [hh]
    exact (rat_any B _ l (by omega) n _ false (by rw [if_neg hp]) w h hB).mono (fun r w' h => ⟨_, h.1, h.2⟩)

/-- What stands in the new row ahead of place k. -/
def outT (p : Nat) (x : TM) (r : List TM) (k : Nat) : List TM := if p < k then insT p x (r.take k) else r.take k
theorem out_lo {p : Nat} {x : TM} {r : List TM} {k : Nat} (hk : k < r.length) (h : k < p) : outT p x r (k + 1) = outT p x r k ++ [r[k]] := by
  rw [outT, if_neg (by omega), outT, if_neg (by omega), List.take_succ_eq_append_getElem hk]
theorem out_at {x : TM} {r : List TM} {k : Nat} (hk : k < r.length) : outT k x r (k + 1) = (outT k x r k ++ [x]) ++ [r[k]] := by
  rw [outT, if_pos (by omega), outT, if_neg (by omega), insT, List.take_succ_eq_append_getElem hk]
  have h1 : (r.take k).length = k := by rw [List.length_take]; omega
  rw [List.take_append_of_le_length (by omega), List.take_of_length_le (by omega), List.drop_append_of_le_length (by omega), List.drop_of_length_le (by omega)]
  simp
theorem out_hi {p : Nat} {x : TM} {r : List TM} {k : Nat} (hk : k < r.length) (h : p < k) : outT p x r (k + 1) = outT p x r k ++ [r[k]] := by
  rw [outT, if_pos (by omega), outT, if_pos h, insT, insT, List.take_succ_eq_append_getElem hk]
  have h1 : (r.take k).length = k := by rw [List.length_take]; omega
  rw [List.take_append_of_le_length (by omega), List.drop_append_of_le_length (by omega)]
  simp
theorem out_len {p : Nat} {x : TM} {r : List TM} {k : Nat} : (outT p x r k).length ≤ r.length + 1 := by
  have h1 : (r.take k).length ≤ r.length := by rw [List.length_take]; omega
  unfold outT
  split
  · rw [insT, List.length_append, List.length_cons, List.length_take, List.length_drop]
    omega
  · omega

set_option maxRecDepth 100000 in
set_option maxHeartbeats 1600000 in
theorem rset_any (B : Nat) (v : Value) (l : List TM) (n : ByteArray) (t : Int) (hrt : RightT l) (hl64 : l.length ≤ 64) (w : World) (h : IsTms B w v l) (hB : B ≤ w.heap.size) :
    Calls Try.prog 15 #[v, .string n, .int .i64 t] w fun e w' => ∃ ra rc, e = .returned (.tuple #[.agg #[.slice ra (setOf n t l).length rc], .int .i64 (setErr n l)]) ∧ OwnR w' w.heap.size (.slice ra (setOf n t l).length rc) (setOf n t l) ∧ Below w.heap.size w w' := by
  obtain ⟨i0, hi0, hzz0, hzz1, hzz2⟩ := info_parts Try.rinfo
  have HV := Lib.hid h
  obtain ⟨lv, rfl, h⟩ := h
  have HL := Lib.hid h
  obtain ⟨a, cap, rfl⟩ := h.form
  have HB := Lib.hid hB
  obtain ⟨hs, hhs⟩ : ∃ q, hasT n l = q := ⟨_, rfl⟩
  have CA := Lib.hid (fun (X : World) (hX : IsTms B X (.agg #[.slice a l.length cap]) l) (hb : B ≤ X.heap.size) => (by have h2 := rat_ok n hl64 hX hb; rw [hhs] at h2; exact h2))
  have hk2 : Below w.heap.size w ((w.alloc (.cells #[.slice a l.length cap] 34)).alloc (.cells #[.slice none 0 0] 34)) := ((Below.refl _ _).alloc (Nat.le_refl _) _).alloc (by rw [World.size_alloc]; omega) _
  have hg0 : ((w.alloc (.cells #[.slice a l.length cap] 34)).alloc (.cells #[.slice none 0 0] 34)).heap[w.heap.size]? = some (.cells #[.slice a l.length cap] 34) := by
    rw [heap_alloc_old _ _ (by rw [World.size_alloc]; omega)]
    exact heap_alloc_new w _
  have hg1 : ((w.alloc (.cells #[.slice a l.length cap] 34)).alloc (.cells #[.slice none 0 0] 34)).heap[w.heap.size + 1]? = some (.cells #[.slice none 0 0] 34) := heap_alloc2_new w _ _
  have hsz : ((w.alloc (.cells #[.slice a l.length cap] 34)).alloc (.cells #[.slice none 0 0] 34)).heap.size = w.heap.size + 2 := by simp
  have HK2 := Lib.hid hk2
  have HG0 := Lib.hid hg0
  have HG1 := Lib.hid hg1
  have HSZ2 := Lib.hid hsz
  have HHS := Lib.hid hhs
  clear h hB hhs hk2 hg0 hg1 hsz
  go_enter Try.func15, Try.ntmps15
  go_wp2_with fail
  refine (CA.out _ (HV.out.keep HK2.out HB.out) (by have := HSZ2.out; have := HB.out; omega)).mono ?_
  rintro e w1 ⟨x1, rfl, hb1⟩
  have hb1w := bstep HK2.out hb1
  have G0 := Lib.hid ((hb1.block w.heap.size (by have := HSZ2.out; omega)).trans HG0.out)
  have G1 := Lib.hid ((hb1.block (w.heap.size + 1) (by have := HSZ2.out; omega)).trans HG1.out)
  have hs1 : w.heap.size + 2 ≤ w1.heap.size := by have := hb1.size; have := HSZ2.out; omega
  have HB1W := Lib.hid hb1w
  have y0 : w1.cell? ⟨w.heap.size, 0, none⟩ = some (.slice a l.length cap) := by rw [Lib.cell_of_heap G0.out]; rfl
  have y1 : w1.cell? ⟨w.heap.size + 1, 0, none⟩ = some (.slice none 0 0) := by rw [Lib.cell_of_heap G1.out]; rfl
  have f1 : w1.frozen? ⟨w.heap.size + 1, 0, none⟩ = false := Lib.frozen_of_heap G1.out 0
  clear hb1 hb1w
  by_cases hf : fullT n l = true
  · have hff := hf
    simp only [fullT, Bool.and_eq_true, decide_eq_true_eq, Bool.not_eq_true'] at hff
    obtain rfl : hs = false := by rw [← HHS.out]; exact hff.2
    have h64 : (64 : Int) ≤ (l.length : Int) := by omega
    have e1 : setOf n t l = [] := by rw [setOf, if_pos hf]
    have e2 : setErr n l = 4 := by rw [setErr, if_pos hf]
    have E1 := Lib.hid e1
    have E2 := Lib.hid e2
    clear hf hff e1 e2
    go_wp2_with fail
    (try simp only [Exit.inBlock, Exit.then])
    refine bodyPost_ret (ret_row1t rfl _ _ _ _ _ _ _ (by rfl) G1.out Try.underlying34 rfl rsize) rfl ?_
    rw [E1.out, E2.out]
    exact ⟨none, 0, rfl, ownr_nil _ _, HB1W.out.setCell (p := ⟨w.heap.size + 1, 0, none⟩) (by simp only; omega) _⟩
  · have hf2 : fullT n l = false := by simpa using hf
    have hgo : hs = true ∨ ¬ (64 : Int) ≤ (l.length : Int) := by
      rw [← HHS.out]
      simp only [fullT, Bool.and_eq_false_iff, decide_eq_false_iff_not, Bool.not_eq_false'] at hf2
      rcases hf2 with h | h
      · exact .inr (by omega)
      · exact .inl h
    obtain ⟨r, hr⟩ : ∃ r, clearR n l = r := ⟨_, rfl⟩
    have hrr : RightT r := by rw [← hr]; exact clear_right hrt n
    have hrl : r.length ≤ 64 := by rw [← hr]; exact Nat.le_trans (clear_len_le _ _) hl64
    have hrn : ∀ y ∈ r, y.name ≠ n := by rw [← hr]; exact fun y hy => (clear_mem.1 hy).2
    obtain ⟨p, hp⟩ : ∃ p, posT ⟨n, t⟩ r = p := ⟨_, rfl⟩
    have hpl : p ≤ r.length := by rw [← hp]; exact posT_le _ _
    have hU : setOf n t l = insT p ⟨n, t⟩ r := by rw [setOf, if_neg hf, setR, hr, ← hp, insT_pos hrr]
    have hUe : setErr n l = 0 := by rw [setErr, if_neg hf]
    have hlo : ∀ j (hj : j < r.length), j < p → ltT ⟨n, t⟩ r[j] = false := fun j hj h => lt_asymm ((order_neg _ _).1 (pos_lo hrr ⟨n, t⟩ j hj (by rw [hp]; exact h)))
    have hhi : ∀ j (hj : j < r.length), p ≤ j → ltT ⟨n, t⟩ r[j] = true := fun j hj h => lt_total (hrn _ (List.getElem_mem hj)) (by
      have h1 := pos_hi hrr ⟨n, t⟩ j hj (by rw [hp]; exact h)
      cases hh : ltT r[j] ⟨n, t⟩ with
      | false => rfl
      | true => have := (order_neg _ _).2 hh; omega)
    have CC := Lib.hid (fun (X : World) (hX : IsTms B X (.agg #[.slice a l.length cap]) l) (hb : B ≤ X.heap.size) => (by have h2 := rclear_any B _ l n (by omega) X hX hb; rw [hr] at h2; exact h2))
    have HU := Lib.hid hU
    have HUE := Lib.hid hUe
    have HLO := Lib.hid hlo
    have HHI := Lib.hid hhi
    clear hf hf2 hr hrr hrn hp hU hUe hlo hhi hrt
    go_upto_region 2 with fail
    go_cut [28] from 21 (fun s28 wx => s28 = .bool false ∧ wx = w1)
    case first =>
      rcases hgo with rfl | hgo
      · go_wp2_with fail
        go_meet
        case rel => exact ⟨rfl, rfl⟩
      · have hgf : decide (64 ≤ (l.length : Int)) = false := decide_eq_false (by omega)
        cases hs with
        | true =>
          go_wp2_with fail
          go_meet
          case rel => exact ⟨rfl, rfl⟩
        | false =>
          go_wp2_with fail
          go_meet
          case rel => exact ⟨by first | rfl | rw [hgf], rfl⟩
    case rest =>
    obtain ⟨rfl, rfl⟩ := hcut
    clear hgo
    go_wp2_with fail
    refine (CC.out _ (HV.out.keep HB1W.out HB.out) (by have := HB.out; omega)).mono ?_
    rintro e w2 ⟨ra, rc, rfl, ho2, hb2⟩
    have HR2 := Lib.hid (show IsTimers w2.heap.size w2 (.slice ra r.length rc) r by
      obtain ⟨lv, he, h1, _⟩ := ho2.tq (show r.length ≤ 1000 by omega)
      simp only [Value.agg.injEq, Array.mk.injEq, List.cons.injEq, and_true] at he
      subst he
      exact h1)
    have HB2 := Lib.hid (bstep HB1W.out hb2)
    have G12 := Lib.hid ((hb2.block (w.heap.size + 1) (by omega)).trans G1.out)
    have hs2 : w.heap.size + 2 ≤ w2.heap.size := by have := hb2.size; omega
    have ha1 : (w2.alloc (.cells #[.slice ra r.length rc] 34)).heap.size = w2.heap.size + 1 := by simp
    have ha2 : ((w2.alloc (.cells #[.slice ra r.length rc] 34)).alloc (.cells #[.string n, .int .i64 t] 65)).heap.size = w2.heap.size + 2 := by simp
    have hq0 := heap_alloc_new w2 (.cells #[.slice ra r.length rc] 34)
    have hq1 := heap_alloc_new (w2.alloc (.cells #[.slice ra r.length rc] 34)) (.cells #[.string n, .int .i64 t] 65)
    have hq2 := heap_alloc_new ((w2.alloc (.cells #[.slice ra r.length rc] 34)).alloc (.cells #[.string n, .int .i64 t] 65)) (.cells #[.slice none 0 0] 34)
    rw [ha1] at hq1
    rw [ha2] at hq2
    have hk1 : Below w2.heap.size w2 (w2.alloc (.cells #[.slice ra r.length rc] 34)) := (Below.refl _ _).alloc (Nat.le_refl _) _
    have hk2 : Below (w2.heap.size + 1) (w2.alloc (.cells #[.slice ra r.length rc] 34)) ((w2.alloc (.cells #[.slice ra r.length rc] 34)).alloc (.cells #[.string n, .int .i64 t] 65)) := (Below.refl _ _).alloc (by rw [ha1]; exact Nat.le_refl _) _
    have hk3 : Below (w2.heap.size + 2) ((w2.alloc (.cells #[.slice ra r.length rc] 34)).alloc (.cells #[.string n, .int .i64 t] 65)) (((w2.alloc (.cells #[.slice ra r.length rc] 34)).alloc (.cells #[.string n, .int .i64 t] 65)).alloc (.cells #[.slice none 0 0] 34)) := (Below.refl _ _).alloc (by rw [ha2]; exact Nat.le_refl _) _
    have HQ0 := Lib.hid ((hk3.block w2.heap.size (by omega)).trans ((hk2.block w2.heap.size (by omega)).trans hq0))
    have HQ1 := Lib.hid ((hk3.block (w2.heap.size + 1) (by omega)).trans hq1)
    have HQ2 := Lib.hid hq2
    have HK3 := Lib.hid (hk1.trans ((hk2.mono (by omega)).trans (hk3.mono (by omega))))
    clear ho2 hb2 y0 y1 f1 ha1 ha2 hq0 hq1 hq2 hk1 hk2 hk3
    go_wp2_with fail
    generalize hz : ((w2.alloc (.cells #[.slice ra r.length rc] 34)).alloc (.cells #[.string n, .int .i64 t] 65)).alloc (.cells #[.slice none 0 0] 34) = w3 at *
    clear hz
    generalize hg : w2.heap.size = g at *
    have HG := Lib.hid hg
    clear hg
    go_loopw [13, 14] (fun t13 t14 wr => ∃ (k : Nat) (na : Option Addr) (nc : Nat) (cur : List TM) (m : Nat), k ≤ r.length ∧ t14 = .int .i64 k ∧ t13 = .bool (decide (p < k)) ∧ outT p ⟨n, t⟩ r k = cur ∧ cur.length = m ∧ OwnR wr (g + 3) (.slice na m nc) cur ∧ wr.heap[g]? = some (.cells #[.slice ra r.length rc] 34) ∧ wr.heap[g + 1]? = some (.cells #[.string n, .int .i64 t] 65) ∧ wr.heap[g + 2]? = some (.cells #[.slice na m nc] 34) ∧ Below g w2 wr) (fun _ t14 _ => r.length - (intOf t14).toNat)
    case atStart => exact ⟨0, none, 0, [], 0, Nat.zero_le _, rfl, by rw [decide_eq_false (by omega)], by rw [outT, if_neg (by omega)]; rfl, rfl, ownr_nil _ _, HQ0.out, HQ1.out, HQ2.out, HK3.out⟩
    case round =>
      obtain ⟨k, na, nc, cur, m, hk, rfl, hd, hcur, hm, hown, hg0, hg1, hg2, hbl⟩ := hrel
      have hz2 : g + 2 < wr.heap.size := (Array.getElem?_eq_some_iff.1 hg2).1
      have hbs : g + 3 ≤ wr.heap.size := hz2
      have hml : m ≤ 65 := by rw [← hm, ← hcur]; exact Nat.le_trans out_len (by omega)
      have y0 : wr.cell? ⟨g, 0, none⟩ = some (.slice ra r.length rc) := by rw [Lib.cell_of_heap hg0]; rfl
      have HOWN := Lib.hid hown
      have HBL := Lib.hid hbl
      have GX0 := Lib.hid hg0
      have GX := Lib.hid hg1
      have GD := Lib.hid hg2
      have HLEN := Lib.hid hm
      have HCUR := Lib.hid hcur
      clear hown hbl hg0 hg1 hg2 hm hcur
      by_cases hlt : k < r.length
      · obtain ⟨b, off, q1, he, hbB, _, hc1, hd1⟩ := (HR2.out.keep HBL.out (by have := HG.out; omega)).get k hlt
        obtain ⟨rfl, -, rfl⟩ : ra = some ⟨b, off, none⟩ ∧ r.length = r.length ∧ rc = q1 := by injection he with e1 e2 e3; exact ⟨e1, e2, e3⟩
        clear he
        have hbg : b < g := by have := HG.out; omega
        have hLO := HLO.out k hlt
        have hHI := HHI.out k hlt
        have hsl := out_lo (p := p) (x := ⟨n, t⟩) hlt
        have hsa := out_at (x := ⟨n, t⟩) hlt
        have hsh := out_hi (p := p) (x := ⟨n, t⟩) hlt
        obtain ⟨y, hy⟩ : ∃ y, r[k] = y := ⟨_, rfl⟩
        rw [hy] at hc1 hd1 hLO hHI hsl hsa hsh
        have i1 : (0 : Int) ≤ (k : Int) := by omega
        have i2 : (k : Int) < (r.length : Int) := by omega
        have yx0 : wr.cell? ⟨g + 1, 0, none⟩ = some (.string n) := by rw [Lib.cell_of_heap GX.out]; rfl
        have yx1 : wr.cell? ⟨g + 1, 1, none⟩ = some (.int .i64 t) := by rw [Lib.cell_of_heap GX.out]; rfl
        have MK11 := Lib.hid (fun (X : World) (hX : Below (g + 2) wr X) => (show (fun X => X.cell? ⟨g, 0, none⟩ = some (.slice (some ⟨b, off, none⟩) r.length rc) ∧ X.cell? ⟨g + 1, 0, none⟩ = some (.string n) ∧ X.cell? ⟨g + 1, 1, none⟩ = some (.int .i64 t) ∧ X.cell? ⟨b, off + k * 2, none⟩ = some (.string y.name) ∧ X.cell? ⟨b, off + k * 2 + 1, none⟩ = some (.int .i64 y.at_)) X from ⟨(hX.cell (p := ⟨g, 0, none⟩) (by simp only; omega)).trans y0, (hX.cell (p := ⟨g + 1, 0, none⟩) (by simp only; omega)).trans yx0, (hX.cell (p := ⟨g + 1, 1, none⟩) (by simp only; omega)).trans yx1, (hX.cell (p := ⟨b, off + k * 2, none⟩) (by simp only; omega)).trans hc1, (hX.cell (p := ⟨b, off + k * 2 + 1, none⟩) (by simp only; omega)).trans hd1⟩))
        have MK14 := Lib.hid (fun (X : World) (hX : Below (g + 2) wr X) => (show (fun X => X.cell? ⟨g, 0, none⟩ = some (.slice (some ⟨b, off, none⟩) r.length rc) ∧ X.cell? ⟨b, off + k * 2, none⟩ = some (.string y.name) ∧ X.cell? ⟨b, off + k * 2 + 1, none⟩ = some (.int .i64 y.at_)) X from ⟨(hX.cell (p := ⟨g, 0, none⟩) (by simp only; omega)).trans y0, (hX.cell (p := ⟨b, off + k * 2, none⟩) (by simp only; omega)).trans hc1, (hX.cell (p := ⟨b, off + k * 2 + 1, none⟩) (by simp only; omega)).trans hd1⟩))
        clear hc1 hd1 yx0 yx1 hy
        have HCUR2 := HCUR
        rcases Nat.lt_trichotomy k p with h | h | h
        · have CB := Lib.hid (fun (X : World) => before_any ⟨n, t⟩ y false (hLO h) X)
          have HST := Lib.hid ((hsl h).trans (by rw [HCUR2.out]))
          rw [decide_eq_false (by omega)] at hd
          subst hd
          clear hLO hHI hsl hsa hsh
          go_wp2_with fail
          refine region_begin (S := fun X => X.cell? ⟨g, 0, none⟩ = some (.slice (some ⟨b, off, none⟩) r.length rc) ∧ X.cell? ⟨g + 1, 0, none⟩ = some (.string n) ∧ X.cell? ⟨g + 1, 1, none⟩ = some (.int .i64 t) ∧ X.cell? ⟨b, off + k * 2, none⟩ = some (.string y.name) ∧ X.cell? ⟨b, off + k * 2 + 1, none⟩ = some (.int .i64 y.at_)) 11 rfl (by kernel_rfl) (MK11.out _ (Below.refl _ _).drew) (fun hH0 => ?_)
          refine wpAnyH_take (i := 0) (oi := ?oq0L) (v := ?vq0L) ?hiq0L (by kernel_rfl) (by kernel_rfl) (by kernel_rfl) ?hQq0L ?hyq0L hH0 ?_
          case hiq0L => simp only [List.getElem?_toArray, List.getElem?_cons_zero]; rfl
          case hQq0L => exact fun _ _ _ h => h
          case hyq0L => refine Or.inl ⟨by rfl, ?_⟩; intro W hSw; (try dsimp only at hSw); go_simp; try with_reducible rfl
          simp only [Act.put, List.setIfInBounds_toArray, List.set_cons_zero]
          refine wpAnyH_take (i := 1) (oi := ?oq1L) (v := ?vq1L) ?hiq1L (by kernel_rfl) (by kernel_rfl) (by kernel_rfl) ?hQq1L ?hyq1L hH0 ?_
          case hiq1L => simp only [List.getElem?_toArray, List.getElem?_cons_zero, List.getElem?_cons_succ]; rfl
          case hQq1L => exact fun _ _ _ h => h
          case hyq1L => refine Or.inl ⟨by rfl, ?_⟩; intro W hSw; (try dsimp only at hSw); go_simp; try with_reducible rfl
          simp only [Act.put, List.setIfInBounds_toArray, List.set_cons_zero, List.set_cons_succ]
          refine wpAnyH_take (i := 2) (oi := ?oq2L) (v := ?vq2L) ?hiq2L (by kernel_rfl) (by kernel_rfl) (by kernel_rfl) ?hQq2L ?hyq2L hH0 ?_
          case hiq2L => simp only [List.getElem?_toArray, List.getElem?_cons_zero, List.getElem?_cons_succ]; rfl
          case hQq2L => exact fun _ _ _ h => h
          case hyq2L => refine Or.inl ⟨by rfl, ?_⟩; intro W hSw; (try dsimp only at hSw); go_simp; try with_reducible rfl
          simp only [Act.put, List.setIfInBounds_toArray, List.set_cons_zero, List.set_cons_succ]
          refine wpAnyH_take (i := 3) (oi := ?oq3L) (v := ?vq3L) ?hiq3L (by kernel_rfl) (by kernel_rfl) (by kernel_rfl) ?hQq3L ?hyq3L hH0 ?_
          case hiq3L => simp only [List.getElem?_toArray, List.getElem?_cons_zero, List.getElem?_cons_succ]; rfl
          case hQq3L => exact fun _ _ _ h => h
          case hyq3L => refine Or.inl ⟨by rfl, ?_⟩; intro W hSw; (try dsimp only at hSw); go_simp; try with_reducible rfl
          simp only [Act.put, List.setIfInBounds_toArray, List.set_cons_zero, List.set_cons_succ]
          refine wpAnyH_take (i := 4) (oi := ?oq4L) (v := ?vq4L) ?hiq4L (by kernel_rfl) (by kernel_rfl) (by kernel_rfl) ?hQq4L ?hyq4L hH0 ?_
          case hiq4L => simp only [List.getElem?_toArray, List.getElem?_cons_zero, List.getElem?_cons_succ]; rfl
          case hQq4L => exact fun _ _ _ h => h
          case hyq4L => refine Or.inl ⟨by rfl, ?_⟩; intro W hSw; (try dsimp only at hSw); go_simp; try with_reducible rfl
          simp only [Act.put, List.setIfInBounds_toArray, List.set_cons_zero, List.set_cons_succ]
          refine wpAnyH_take (i := 5) (oi := ?oq5L) (v := ?vq5L) ?hiq5L (by kernel_rfl) (by kernel_rfl) (by kernel_rfl) ?hQq5L ?hyq5L hH0 ?_
          case hiq5L => simp only [List.getElem?_toArray, List.getElem?_cons_zero, List.getElem?_cons_succ]; rfl
          case hQq5L => exact fun _ _ _ h => h
          case hyq5L => refine Or.inl ⟨by rfl, ?_⟩; intro W hSw; (try dsimp only at hSw); go_simp; try with_reducible rfl
          simp only [Act.put, List.setIfInBounds_toArray, List.set_cons_zero, List.set_cons_succ]
          refine wpAnyH_take (i := 6) (oi := ?oq6L) (v := ?vq6L) ?hiq6L (by kernel_rfl) (by kernel_rfl) (by kernel_rfl) ?hQq6L ?hyq6L hH0 ?_
          case hiq6L => simp only [List.getElem?_toArray, List.getElem?_cons_zero, List.getElem?_cons_succ]; rfl
          case hQq6L => exact fun _ _ _ h => h
          case hyq6L => refine Or.inl ⟨by rfl, ?_⟩; intro W hSw; (try dsimp only at hSw); go_simp; try with_reducible rfl
          simp only [Act.put, List.setIfInBounds_toArray, List.set_cons_zero, List.set_cons_succ]
          refine wpAnyH_take (i := 7) (oi := ?oq7L) (v := ?vq7L) ?hiq7L (by kernel_rfl) (by kernel_rfl) (by kernel_rfl) ?hQq7L ?hyq7L hH0 ?_
          case hiq7L => simp only [List.getElem?_toArray, List.getElem?_cons_zero, List.getElem?_cons_succ]; rfl
          case hQq7L => exact fun _ _ _ h => h
          case hyq7L => refine Or.inl ⟨by rfl, ?_⟩; intro W hSw; (try dsimp only at hSw); go_simp; try with_reducible rfl
          simp only [Act.put, List.setIfInBounds_toArray, List.set_cons_zero, List.set_cons_succ]
          refine wpAnyH_take (i := 8) (oi := ?oq8L) (v := ?vq8L) ?hiq8L (by kernel_rfl) (by kernel_rfl) (by kernel_rfl) ?hQq8L ?hyq8L hH0 ?_
          case hiq8L => simp only [List.getElem?_toArray, List.getElem?_cons_zero, List.getElem?_cons_succ]; rfl
          case hQq8L => exact fun _ _ _ h => h
          case hyq8L => refine Or.inl ⟨by rfl, ?_⟩; intro W hSw; (try dsimp only at hSw); go_simp; try with_reducible rfl
          simp only [Act.put, List.setIfInBounds_toArray, List.set_cons_zero, List.set_cons_succ]
          clear hH0
          have HWD := Lib.hid (show Below wr.heap.size wr wr.drew from (Below.refl _ _).drew)
          generalize wr.drew = w0 at *
          refine wpAnyH_ready (rs := [9]) (by kernel_rfl) (by simp) ?_
          refine AllReadyH.cons (o := ?ocaL) ?hocaL (fun K' hK => ?_) AllReadyH.nil
          case hocaL => simp only [List.getElem?_toArray, List.getElem?_cons_zero, List.getElem?_cons_succ]; rfl
          go_simp
          refine (CB.out w0).mono ?_
          rintro e x1 ⟨rfl, hb1⟩
          have HB1 := Lib.hid (bstep HWD.out hb1)
          clear hb1
          refine hK.out _ _ (MK11.out _ (HB1.out.mono (by omega))) (fun hHa => ?_)
          clear hK K'
          (try simp only [Act.put, List.setIfInBounds_toArray, List.set_cons_zero, List.set_cons_succ])
          refine wpAnyH_take (i := 10) (oi := ?oq10L) (v := ?vq10L) ?hiq10L (by kernel_rfl) (by kernel_rfl) (by kernel_rfl) ?hQq10L ?hyq10L hHa ?_
          case hiq10L => simp only [List.getElem?_toArray, List.getElem?_cons_zero, List.getElem?_cons_succ]; rfl
          case hQq10L => exact fun _ _ _ h => h
          case hyq10L => refine Or.inl ⟨by rfl, ?_⟩; intro W hSw; (try dsimp only at hSw); go_simp; try with_reducible rfl
          simp only [Act.put, List.setIfInBounds_toArray, List.set_cons_zero, List.set_cons_succ]
          clear hHa
          refine wpAnyH_done (by kernel_rfl) ?_ _
          have HOWN1 := Lib.hid (HOWN.out.keep HB1.out)
          have GD1 := Lib.hid ((HB1.out.block (g + 2) (by omega)).trans GD.out)
          have GX1 := Lib.hid ((HB1.out.block (g + 1) (by omega)).trans GX.out)
          have hbs1 : g + 3 ≤ x1.heap.size := by have := HB1.out.size; omega
          have MKS := Lib.hid (fun (X : World) (hX : Below (g + 2) x1 X) => MK14.out X ((HB1.out.mono (by omega)).trans hX))
          go_wp2_with fail
          have ydd : x1.cell? ⟨g + 2, 0, none⟩ = some (.slice na m nc) := by rw [Lib.cell_of_heap GD1.out]; rfl
          refine region_begin (S := fun X => X.cell? ⟨g, 0, none⟩ = some (.slice (some ⟨b, off, none⟩) r.length rc) ∧ X.cell? ⟨b, off + k * 2, none⟩ = some (.string y.name) ∧ X.cell? ⟨b, off + k * 2 + 1, none⟩ = some (.int .i64 y.at_)) 11 rfl (by kernel_rfl) (MKS.out _ (Below.refl _ _).drew) (fun hH0 => ?_)
          refine wpAnyH_take (i := 0) (oi := ?op0L2) (v := ?vp0L2) ?hip0L2 (by kernel_rfl) (by kernel_rfl) (by kernel_rfl) ?hQp0L2 ?hyp0L2 hH0 ?_
          case hip0L2 => simp only [List.getElem?_toArray, List.getElem?_cons_zero]; rfl
          case hQp0L2 => exact fun _ _ _ h => h
          case hyp0L2 => refine Or.inl ⟨by rfl, ?_⟩; intro W hSw; (try dsimp only at hSw); go_simp; try with_reducible rfl
          simp only [Act.put, List.setIfInBounds_toArray, List.set_cons_zero]
          refine wpAnyH_take (i := 2) (oi := ?op2L2) (v := ?vp2L2) ?hip2L2 (by kernel_rfl) (by kernel_rfl) (by kernel_rfl) ?hQp2L2 ?hyp2L2 hH0 ?_
          case hip2L2 => simp only [List.getElem?_toArray, List.getElem?_cons_zero, List.getElem?_cons_succ]; rfl
          case hQp2L2 => exact fun _ _ _ h => h
          case hyp2L2 => refine Or.inl ⟨by rfl, ?_⟩; intro W hSw; (try dsimp only at hSw); go_simp; try with_reducible rfl
          simp only [Act.put, List.setIfInBounds_toArray, List.set_cons_zero, List.set_cons_succ]
          refine wpAnyH_take (i := 3) (oi := ?op3L2) (v := ?vp3L2) ?hip3L2 (by kernel_rfl) (by kernel_rfl) (by kernel_rfl) ?hQp3L2 ?hyp3L2 hH0 ?_
          case hip3L2 => simp only [List.getElem?_toArray, List.getElem?_cons_zero, List.getElem?_cons_succ]; rfl
          case hQp3L2 => exact fun _ _ _ h => h
          case hyp3L2 => refine Or.inl ⟨by rfl, ?_⟩; intro W hSw; (try dsimp only at hSw); go_simp; try with_reducible rfl
          simp only [Act.put, List.setIfInBounds_toArray, List.set_cons_zero, List.set_cons_succ]
          refine wpAnyH_take (i := 4) (oi := ?op4L2) (v := ?vp4L2) ?hip4L2 (by kernel_rfl) (by kernel_rfl) (by kernel_rfl) ?hQp4L2 ?hyp4L2 hH0 ?_
          case hip4L2 => simp only [List.getElem?_toArray, List.getElem?_cons_zero, List.getElem?_cons_succ]; rfl
          case hQp4L2 => exact fun _ _ _ h => h
          case hyp4L2 => refine Or.inl ⟨by rfl, ?_⟩; intro W hSw; (try dsimp only at hSw); go_simp; try with_reducible rfl
          simp only [Act.put, List.setIfInBounds_toArray, List.set_cons_zero, List.set_cons_succ]
          refine wpAnyH_take (i := 5) (oi := ?op5L2) (v := ?vp5L2) ?hip5L2 (by kernel_rfl) (by kernel_rfl) (by kernel_rfl) ?hQp5L2 ?hyp5L2 hH0 ?_
          case hip5L2 => simp only [List.getElem?_toArray, List.getElem?_cons_zero, List.getElem?_cons_succ]; rfl
          case hQp5L2 => exact fun _ _ _ h => h
          case hyp5L2 => refine Or.inl ⟨by rfl, ?_⟩; intro W hSw; (try dsimp only at hSw); go_simp; try with_reducible rfl
          simp only [Act.put, List.setIfInBounds_toArray, List.set_cons_zero, List.set_cons_succ]
          refine wpAnyH_take (i := 6) (oi := ?op6L2) (v := ?vp6L2) ?hip6L2 (by kernel_rfl) (by kernel_rfl) (by kernel_rfl) ?hQp6L2 ?hyp6L2 hH0 ?_
          case hip6L2 => simp only [List.getElem?_toArray, List.getElem?_cons_zero, List.getElem?_cons_succ]; rfl
          case hQp6L2 => exact fun _ _ _ h => h
          case hyp6L2 => refine Or.inl ⟨by rfl, ?_⟩; intro W hSw; (try dsimp only at hSw); go_simp; try with_reducible rfl
          simp only [Act.put, List.setIfInBounds_toArray, List.set_cons_zero, List.set_cons_succ]
          clear hH0
          have hwd : Below x1.heap.size x1 x1.drew := (Below.refl _ _).drew
          have hy2 : x1.drew.cell? ⟨g + 2, 0, none⟩ = some (.slice na m nc) := ydd
          have hsw : x1.drew.heap.size = x1.heap.size := rfl
          have HSW := Lib.hid hsw
          generalize x1.drew = w0 at *
          clear ydd
          have hw1 : Below x1.heap.size x1 (w0.alloc (.cells #[.string y.name, .int .i64 y.at_] 65)) := hwd.alloc (by omega) _
          have hx1 : (w0.alloc (.cells #[.string y.name, .int .i64 y.at_] 65)).heap[w0.heap.size]? = some (.cells #[.string y.name, .int .i64 y.at_] 65) := heap_alloc_new _ _
          have hy3 : (w0.alloc (.cells #[.string y.name, .int .i64 y.at_] 65)).cell? ⟨g + 2, 0, none⟩ = some (.slice na m nc) := (((Below.refl w0.heap.size w0).alloc (Nat.le_refl _) (.cells #[.string y.name, .int .i64 y.at_] 65)).cell (p := ⟨g + 2, 0, none⟩) (by simp only; omega)).trans hy2
          have hs1 : (w0.alloc (.cells #[.string y.name, .int .i64 y.at_] 65)).heap.size = w0.heap.size + 1 := by rw [World.size_alloc]
          have HX1 := Lib.hid hx1
          have HW1 := Lib.hid hw1
          have HWD := Lib.hid hwd
          have HS1 := Lib.hid hs1
          have HO1 := Lib.hid (show (w0.alloc (.cells #[.string y.name, .int .i64 y.at_] 65)).ownsRow (g + 3) 65 2 (.slice na m nc) m (tcells cur) by
            have h1 := HOWN1.out.keep hw1
            unfold OwnR at h1
            rw [HLEN.out] at h1
            exact h1)
          clear hx1 hw1 hwd hs1 hsw
          refine wpAnyH_ready (rs := [1, 7]) (by kernel_rfl) (by simp) ?_
          refine AllReadyH.cons (o := ?otwL2a) ?hotwL2a (fun K' hK => ?_) (AllReadyH.cons (o := ?otwL2b) ?hotwL2b (fun K' hK => ?_) AllReadyH.nil)
          case hotwL2a => simp only [List.getElem?_toArray, List.getElem?_cons_zero, List.getElem?_cons_succ]; rfl
          case hotwL2b => simp only [List.getElem?_toArray, List.getElem?_cons_zero, List.getElem?_cons_succ]; rfl
          · go_simp
            refine hK.out _ _ (MKS.out _ (HWD.out.mono (by omega))) (fun hHa => ?_)
            clear hK K'
            (try simp only [Act.put, List.setIfInBounds_toArray, List.set_cons_zero, List.set_cons_succ])
            clear hHa
            refine wpAnyH_ready (rs := [7]) (by kernel_rfl) (by simp) ?_
            refine AllReadyH.cons (o := ?obsaL2) ?hobsaL2 (fun K' hK => ?_) AllReadyH.nil
            case hobsaL2 => simp only [List.getElem?_toArray, List.getElem?_cons_zero, List.getElem?_cons_succ]; rfl
            go_simp
            refine hK.out _ _ (MKS.out _ (HW1.out.mono (by omega))) (fun hHb => ?_)
            clear hK K'
            (try simp only [Act.put, List.setIfInBounds_toArray, List.set_cons_zero, List.set_cons_succ])
            clear hHb
            generalize w0.alloc (.cells #[.string y.name, .int .i64 y.at_] 65) = w1 at *
            refine wpAnyH_ready (rs := [8]) (by kernel_rfl) (by simp) ?_
            refine AllReadyH.cons (o := ?oapaL2) ?hoapaL2 (fun K' hK => ?_) AllReadyH.nil
            case hoapaL2 => simp only [List.getElem?_toArray, List.getElem?_cons_zero, List.getElem?_cons_succ]; rfl
            refine step_append_lies _ (by rfl) _ _ _ (by rfl) (g + 3) 65 i0 _ 2 24 Try.underlying32 hi0 hzz0 hzz1 hzz2 rfl (by omega) _ _ _ (by rfl) HO1.out ⟨w0.heap.size, 0, none⟩ 1 1 [.string y.name, .int .i64 y.at_] (by rfl) (by rfl) (World.news_of_block HX1.out) (by simp [Value.oneCell']) (by omega) (by unfold maxLen; omega) (by omega) (by have := HS1.out; have := HSW.out; omega) _ rfl ?_
            intro gg cap2 w8 hown8 hgrow hat hlt8
            have hsz1 : x1.heap.size < w1.heap.size := by have := HS1.out; have := HSW.out; omega
            have hob : ∀ q, (Value.slice na m nc).ownBlock = some q → g + 3 ≤ q := fun q hq => (World.ownsRow.lt HO1.out q hq).1
            have hg82 := (hgrow.block (g + 2) (by omega) (fun e => by have := hob _ e.symm; omega)).trans ((HW1.out.block (g + 2) (by omega)).trans GD1.out)
            have hb8 : Below (g + 2) x1 w8 := (HW1.out.mono (by omega)).trans ⟨hgrow.os, hgrow.tape, hgrow.output, hgrow.size, fun q hq => hgrow.block q (by omega) (fun e => by have := hob q e.symm; omega)⟩
            have c8 : w8.cell? ⟨g + 2, 0, none⟩ = some (.slice na m nc) := by rw [Lib.cell_of_heap hg82]; rfl
            have f8 : w8.frozen? ⟨g + 2, 0, none⟩ = false := Lib.frozen_of_heap hg82 0
            have HAT := Lib.hid (show (Value.slice na m nc).ownBlock = some gg ∨ x1.heap.size ≤ gg from hat.imp id (fun e => by omega))
            have HG8 := Lib.hid (fun (q : Nat) (hq : q < x1.heap.size) (hne : some q ≠ (Value.slice na m nc).ownBlock) => (show w8.heap[q]? = x1.heap[q]? from (hgrow.block q (by omega) hne).trans (HW1.out.block q hq)))
            have HGG := Lib.hid (show g + 3 ≤ gg from (World.ownsRow.lt hown8 gg rfl).1)
            have HGZ := Lib.hid (show gg < w8.heap.size from hlt8)
            have HB8 := Lib.hid hb8
            have H82 := Lib.hid hg82
            have HO8 := Lib.hid hown8
            clear hg82 hb8 hown8 hgrow hat hob hsz1 hlt8
            refine hK.out _ _ (MKS.out _ HB8.out) (fun hH8 => ?_)
            clear hK K'
            (try simp only [Act.put, List.setIfInBounds_toArray, List.set_cons_zero, List.set_cons_succ])
            refine wpAnyH_take (i := 9) (oi := ?ofaaL2) (v := ?vfaaL2) ?hifaaL2 (by kernel_rfl) (by kernel_rfl) (by kernel_rfl) ?hQfaaL2 ?hyfaaL2 hH8 ?_
            case hifaaL2 => simp only [List.getElem?_toArray, List.getElem?_cons_zero, List.getElem?_cons_succ]; rfl
            case hQfaaL2 => exact fun _ _ _ h => h
            case hyfaaL2 => refine Or.inl ⟨by rfl, ?_⟩; intro W hSw; (try dsimp only at hSw); go_simp; try with_reducible rfl
            simp only [Act.put, List.setIfInBounds_toArray, List.set_cons_zero, List.set_cons_succ]
            refine wpAnyH_ready (rs := [10]) (by kernel_rfl) (by simp) ?_
            refine AllReadyH.cons (o := ?ostaL2) ?hostaL2 (fun K' hK => ?_) AllReadyH.nil
            case hostaL2 => simp only [List.getElem?_toArray, List.getElem?_cons_zero, List.getElem?_cons_succ]; rfl
            go_simp
            have HBS := Lib.hid (show Below (g + 2) x1 (w8.setCell ⟨g + 2, 0, none⟩ (.slice (some ⟨gg, 0, none⟩) (m + 1) cap2)) from HB8.out.setCell (p := ⟨g + 2, 0, none⟩) (by simp only; omega) _)
            refine hK.out _ _ (MKS.out _ HBS.out) (fun hH9 => ?_)
            clear hK K'
            (try simp only [Act.put, List.setIfInBounds_toArray, List.set_cons_zero, List.set_cons_succ])
            clear hH9 hH8
            refine wpAnyH_done (by kernel_rfl) ?_ _
            have H9 := Lib.hid (blk_set H82.out 0 (.slice (some ⟨gg, 0, none⟩) (m + 1) cap2))
            have HO9 := Lib.hid (show OwnR (w8.setCell ⟨g + 2, 0, none⟩ (.slice (some ⟨gg, 0, none⟩) (m + 1) cap2)) (g + 3) (.slice (some ⟨gg, 0, none⟩) (m + 1) cap2) (cur ++ [y]) by
              refine OwnR.set ?_ (by omega)
              unfold OwnR
              rw [tcells_append, List.length_append, HLEN.out]
              exact HO8.out)
            have HGR := Lib.hid (fun (q : Nat) (hq : q < x1.heap.size) (hqd : q ≠ g + 2) (hne : some q ≠ (Value.slice na m nc).ownBlock) => (show (w8.setCell ⟨g + 2, 0, none⟩ (.slice (some ⟨gg, 0, none⟩) (m + 1) cap2)).heap[q]? = x1.heap[q]? from by
              simp only [World.setCell]
              rw [Array.getElem?_modify, if_neg (fun e => hqd e.symm)]
              exact HG8.out q hq hne))
            clear c8 f8
            generalize w8.setCell ⟨g + 2, 0, none⟩ (.slice (some ⟨gg, 0, none⟩) (m + 1) cap2) = w9 at *
            go_wp2_with fail
            have HBT := Lib.hid (show Below (g + 2) wr w9 from (HB1.out.mono (by omega)).trans HBS.out)
            go_roundw
            case rel => exact ⟨k + 1, _, _, cur ++ [y], m + 1, by omega, by go_num, by rw [decide_eq_false (by omega)], HST.out, by rw [List.length_append, HLEN.out]; rfl, HO9.out, (HBT.out.block g (by omega)).trans GX0.out, (HBT.out.block (g + 1) (by omega)).trans GX.out, H9.out, HBL.out.trans (HBT.out.mono (by omega))⟩
            case measure => simp [intOf]; omega
          · go_simp
            refine hK.out _ _ (MKS.out _ (HW1.out.mono (by omega))) (fun hHa => ?_)
            clear hK K'
            (try simp only [Act.put, List.setIfInBounds_toArray, List.set_cons_zero, List.set_cons_succ])
            clear hHa
            refine wpAnyH_ready (rs := [1]) (by kernel_rfl) (by simp) ?_
            refine AllReadyH.cons (o := ?ol1bL2) ?hol1bL2 (fun K' hK => ?_) AllReadyH.nil
            case hol1bL2 => simp only [List.getElem?_toArray, List.getElem?_cons_zero, List.getElem?_cons_succ]; rfl
            go_simp
            refine hK.out _ _ (MKS.out _ (HW1.out.mono (by omega))) (fun hHb => ?_)
            clear hK K'
            (try simp only [Act.put, List.setIfInBounds_toArray, List.set_cons_zero, List.set_cons_succ])
            clear hHb
            generalize w0.alloc (.cells #[.string y.name, .int .i64 y.at_] 65) = w1 at *
            refine wpAnyH_ready (rs := [8]) (by kernel_rfl) (by simp) ?_
            refine AllReadyH.cons (o := ?oapbL2) ?hoapbL2 (fun K' hK => ?_) AllReadyH.nil
            case hoapbL2 => simp only [List.getElem?_toArray, List.getElem?_cons_zero, List.getElem?_cons_succ]; rfl
            refine step_append_lies _ (by rfl) _ _ _ (by rfl) (g + 3) 65 i0 _ 2 24 Try.underlying32 hi0 hzz0 hzz1 hzz2 rfl (by omega) _ _ _ (by rfl) HO1.out ⟨w0.heap.size, 0, none⟩ 1 1 [.string y.name, .int .i64 y.at_] (by rfl) (by rfl) (World.news_of_block HX1.out) (by simp [Value.oneCell']) (by omega) (by unfold maxLen; omega) (by omega) (by have := HS1.out; have := HSW.out; omega) _ rfl ?_
            intro gg cap2 w8 hown8 hgrow hat hlt8
            have hsz1 : x1.heap.size < w1.heap.size := by have := HS1.out; have := HSW.out; omega
            have hob : ∀ q, (Value.slice na m nc).ownBlock = some q → g + 3 ≤ q := fun q hq => (World.ownsRow.lt HO1.out q hq).1
            have hg82 := (hgrow.block (g + 2) (by omega) (fun e => by have := hob _ e.symm; omega)).trans ((HW1.out.block (g + 2) (by omega)).trans GD1.out)
            have hb8 : Below (g + 2) x1 w8 := (HW1.out.mono (by omega)).trans ⟨hgrow.os, hgrow.tape, hgrow.output, hgrow.size, fun q hq => hgrow.block q (by omega) (fun e => by have := hob q e.symm; omega)⟩
            have c8 : w8.cell? ⟨g + 2, 0, none⟩ = some (.slice na m nc) := by rw [Lib.cell_of_heap hg82]; rfl
            have f8 : w8.frozen? ⟨g + 2, 0, none⟩ = false := Lib.frozen_of_heap hg82 0
            have HAT := Lib.hid (show (Value.slice na m nc).ownBlock = some gg ∨ x1.heap.size ≤ gg from hat.imp id (fun e => by omega))
            have HG8 := Lib.hid (fun (q : Nat) (hq : q < x1.heap.size) (hne : some q ≠ (Value.slice na m nc).ownBlock) => (show w8.heap[q]? = x1.heap[q]? from (hgrow.block q (by omega) hne).trans (HW1.out.block q hq)))
            have HGG := Lib.hid (show g + 3 ≤ gg from (World.ownsRow.lt hown8 gg rfl).1)
            have HGZ := Lib.hid (show gg < w8.heap.size from hlt8)
            have HB8 := Lib.hid hb8
            have H82 := Lib.hid hg82
            have HO8 := Lib.hid hown8
            clear hg82 hb8 hown8 hgrow hat hob hsz1 hlt8
            refine hK.out _ _ (MKS.out _ HB8.out) (fun hH8 => ?_)
            clear hK K'
            (try simp only [Act.put, List.setIfInBounds_toArray, List.set_cons_zero, List.set_cons_succ])
            refine wpAnyH_take (i := 9) (oi := ?ofabL2) (v := ?vfabL2) ?hifabL2 (by kernel_rfl) (by kernel_rfl) (by kernel_rfl) ?hQfabL2 ?hyfabL2 hH8 ?_
            case hifabL2 => simp only [List.getElem?_toArray, List.getElem?_cons_zero, List.getElem?_cons_succ]; rfl
            case hQfabL2 => exact fun _ _ _ h => h
            case hyfabL2 => refine Or.inl ⟨by rfl, ?_⟩; intro W hSw; (try dsimp only at hSw); go_simp; try with_reducible rfl
            simp only [Act.put, List.setIfInBounds_toArray, List.set_cons_zero, List.set_cons_succ]
            refine wpAnyH_ready (rs := [10]) (by kernel_rfl) (by simp) ?_
            refine AllReadyH.cons (o := ?ostbL2) ?hostbL2 (fun K' hK => ?_) AllReadyH.nil
            case hostbL2 => simp only [List.getElem?_toArray, List.getElem?_cons_zero, List.getElem?_cons_succ]; rfl
            go_simp
            have HBS := Lib.hid (show Below (g + 2) x1 (w8.setCell ⟨g + 2, 0, none⟩ (.slice (some ⟨gg, 0, none⟩) (m + 1) cap2)) from HB8.out.setCell (p := ⟨g + 2, 0, none⟩) (by simp only; omega) _)
            refine hK.out _ _ (MKS.out _ HBS.out) (fun hH9 => ?_)
            clear hK K'
            (try simp only [Act.put, List.setIfInBounds_toArray, List.set_cons_zero, List.set_cons_succ])
            clear hH9 hH8
            refine wpAnyH_done (by kernel_rfl) ?_ _
            have H9 := Lib.hid (blk_set H82.out 0 (.slice (some ⟨gg, 0, none⟩) (m + 1) cap2))
            have HO9 := Lib.hid (show OwnR (w8.setCell ⟨g + 2, 0, none⟩ (.slice (some ⟨gg, 0, none⟩) (m + 1) cap2)) (g + 3) (.slice (some ⟨gg, 0, none⟩) (m + 1) cap2) (cur ++ [y]) by
              refine OwnR.set ?_ (by omega)
              unfold OwnR
              rw [tcells_append, List.length_append, HLEN.out]
              exact HO8.out)
            have HGR := Lib.hid (fun (q : Nat) (hq : q < x1.heap.size) (hqd : q ≠ g + 2) (hne : some q ≠ (Value.slice na m nc).ownBlock) => (show (w8.setCell ⟨g + 2, 0, none⟩ (.slice (some ⟨gg, 0, none⟩) (m + 1) cap2)).heap[q]? = x1.heap[q]? from by
              simp only [World.setCell]
              rw [Array.getElem?_modify, if_neg (fun e => hqd e.symm)]
              exact HG8.out q hq hne))
            clear c8 f8
            generalize w8.setCell ⟨g + 2, 0, none⟩ (.slice (some ⟨gg, 0, none⟩) (m + 1) cap2) = w9 at *
            go_wp2_with fail
            have HBT := Lib.hid (show Below (g + 2) wr w9 from (HB1.out.mono (by omega)).trans HBS.out)
            go_roundw
            case rel => exact ⟨k + 1, _, _, cur ++ [y], m + 1, by omega, by go_num, by rw [decide_eq_false (by omega)], HST.out, by rw [List.length_append, HLEN.out]; rfl, HO9.out, (HBT.out.block g (by omega)).trans GX0.out, (HBT.out.block (g + 1) (by omega)).trans GX.out, H9.out, HBL.out.trans (HBT.out.mono (by omega))⟩
            case measure => simp [intOf]; omega
        · subst h
          have CB := Lib.hid (fun (X : World) => before_any ⟨n, t⟩ y true (hHI (Nat.le_refl _)) X)
          have HST := Lib.hid (hsa.trans (by rw [HCUR2.out]))
          rw [decide_eq_false (by omega)] at hd
          subst hd
          clear hLO hHI hsl hsa hsh
          go_wp2_with fail
          refine region_begin (S := fun X => X.cell? ⟨g, 0, none⟩ = some (.slice (some ⟨b, off, none⟩) r.length rc) ∧ X.cell? ⟨g + 1, 0, none⟩ = some (.string n) ∧ X.cell? ⟨g + 1, 1, none⟩ = some (.int .i64 t) ∧ X.cell? ⟨b, off + k * 2, none⟩ = some (.string y.name) ∧ X.cell? ⟨b, off + k * 2 + 1, none⟩ = some (.int .i64 y.at_)) 11 rfl (by kernel_rfl) (MK11.out _ (Below.refl _ _).drew) (fun hH0 => ?_)
          refine wpAnyH_take (i := 0) (oi := ?oq0M) (v := ?vq0M) ?hiq0M (by kernel_rfl) (by kernel_rfl) (by kernel_rfl) ?hQq0M ?hyq0M hH0 ?_
          case hiq0M => simp only [List.getElem?_toArray, List.getElem?_cons_zero]; rfl
          case hQq0M => exact fun _ _ _ h => h
          case hyq0M => refine Or.inl ⟨by rfl, ?_⟩; intro W hSw; (try dsimp only at hSw); go_simp; try with_reducible rfl
          simp only [Act.put, List.setIfInBounds_toArray, List.set_cons_zero]
          refine wpAnyH_take (i := 1) (oi := ?oq1M) (v := ?vq1M) ?hiq1M (by kernel_rfl) (by kernel_rfl) (by kernel_rfl) ?hQq1M ?hyq1M hH0 ?_
          case hiq1M => simp only [List.getElem?_toArray, List.getElem?_cons_zero, List.getElem?_cons_succ]; rfl
          case hQq1M => exact fun _ _ _ h => h
          case hyq1M => refine Or.inl ⟨by rfl, ?_⟩; intro W hSw; (try dsimp only at hSw); go_simp; try with_reducible rfl
          simp only [Act.put, List.setIfInBounds_toArray, List.set_cons_zero, List.set_cons_succ]
          refine wpAnyH_take (i := 2) (oi := ?oq2M) (v := ?vq2M) ?hiq2M (by kernel_rfl) (by kernel_rfl) (by kernel_rfl) ?hQq2M ?hyq2M hH0 ?_
          case hiq2M => simp only [List.getElem?_toArray, List.getElem?_cons_zero, List.getElem?_cons_succ]; rfl
          case hQq2M => exact fun _ _ _ h => h
          case hyq2M => refine Or.inl ⟨by rfl, ?_⟩; intro W hSw; (try dsimp only at hSw); go_simp; try with_reducible rfl
          simp only [Act.put, List.setIfInBounds_toArray, List.set_cons_zero, List.set_cons_succ]
          refine wpAnyH_take (i := 3) (oi := ?oq3M) (v := ?vq3M) ?hiq3M (by kernel_rfl) (by kernel_rfl) (by kernel_rfl) ?hQq3M ?hyq3M hH0 ?_
          case hiq3M => simp only [List.getElem?_toArray, List.getElem?_cons_zero, List.getElem?_cons_succ]; rfl
          case hQq3M => exact fun _ _ _ h => h
          case hyq3M => refine Or.inl ⟨by rfl, ?_⟩; intro W hSw; (try dsimp only at hSw); go_simp; try with_reducible rfl
          simp only [Act.put, List.setIfInBounds_toArray, List.set_cons_zero, List.set_cons_succ]
          refine wpAnyH_take (i := 4) (oi := ?oq4M) (v := ?vq4M) ?hiq4M (by kernel_rfl) (by kernel_rfl) (by kernel_rfl) ?hQq4M ?hyq4M hH0 ?_
          case hiq4M => simp only [List.getElem?_toArray, List.getElem?_cons_zero, List.getElem?_cons_succ]; rfl
          case hQq4M => exact fun _ _ _ h => h
          case hyq4M => refine Or.inl ⟨by rfl, ?_⟩; intro W hSw; (try dsimp only at hSw); go_simp; try with_reducible rfl
          simp only [Act.put, List.setIfInBounds_toArray, List.set_cons_zero, List.set_cons_succ]
          refine wpAnyH_take (i := 5) (oi := ?oq5M) (v := ?vq5M) ?hiq5M (by kernel_rfl) (by kernel_rfl) (by kernel_rfl) ?hQq5M ?hyq5M hH0 ?_
          case hiq5M => simp only [List.getElem?_toArray, List.getElem?_cons_zero, List.getElem?_cons_succ]; rfl
          case hQq5M => exact fun _ _ _ h => h
          case hyq5M => refine Or.inl ⟨by rfl, ?_⟩; intro W hSw; (try dsimp only at hSw); go_simp; try with_reducible rfl
          simp only [Act.put, List.setIfInBounds_toArray, List.set_cons_zero, List.set_cons_succ]
          refine wpAnyH_take (i := 6) (oi := ?oq6M) (v := ?vq6M) ?hiq6M (by kernel_rfl) (by kernel_rfl) (by kernel_rfl) ?hQq6M ?hyq6M hH0 ?_
          case hiq6M => simp only [List.getElem?_toArray, List.getElem?_cons_zero, List.getElem?_cons_succ]; rfl
          case hQq6M => exact fun _ _ _ h => h
          case hyq6M => refine Or.inl ⟨by rfl, ?_⟩; intro W hSw; (try dsimp only at hSw); go_simp; try with_reducible rfl
          simp only [Act.put, List.setIfInBounds_toArray, List.set_cons_zero, List.set_cons_succ]
          refine wpAnyH_take (i := 7) (oi := ?oq7M) (v := ?vq7M) ?hiq7M (by kernel_rfl) (by kernel_rfl) (by kernel_rfl) ?hQq7M ?hyq7M hH0 ?_
          case hiq7M => simp only [List.getElem?_toArray, List.getElem?_cons_zero, List.getElem?_cons_succ]; rfl
          case hQq7M => exact fun _ _ _ h => h
          case hyq7M => refine Or.inl ⟨by rfl, ?_⟩; intro W hSw; (try dsimp only at hSw); go_simp; try with_reducible rfl
          simp only [Act.put, List.setIfInBounds_toArray, List.set_cons_zero, List.set_cons_succ]
          refine wpAnyH_take (i := 8) (oi := ?oq8M) (v := ?vq8M) ?hiq8M (by kernel_rfl) (by kernel_rfl) (by kernel_rfl) ?hQq8M ?hyq8M hH0 ?_
          case hiq8M => simp only [List.getElem?_toArray, List.getElem?_cons_zero, List.getElem?_cons_succ]; rfl
          case hQq8M => exact fun _ _ _ h => h
          case hyq8M => refine Or.inl ⟨by rfl, ?_⟩; intro W hSw; (try dsimp only at hSw); go_simp; try with_reducible rfl
          simp only [Act.put, List.setIfInBounds_toArray, List.set_cons_zero, List.set_cons_succ]
          clear hH0
          have HWD := Lib.hid (show Below wr.heap.size wr wr.drew from (Below.refl _ _).drew)
          generalize wr.drew = w0 at *
          refine wpAnyH_ready (rs := [9]) (by kernel_rfl) (by simp) ?_
          refine AllReadyH.cons (o := ?ocaM) ?hocaM (fun K' hK => ?_) AllReadyH.nil
          case hocaM => simp only [List.getElem?_toArray, List.getElem?_cons_zero, List.getElem?_cons_succ]; rfl
          go_simp
          refine (CB.out w0).mono ?_
          rintro e x1 ⟨rfl, hb1⟩
          have HB1 := Lib.hid (bstep HWD.out hb1)
          clear hb1
          refine hK.out _ _ (MK11.out _ (HB1.out.mono (by omega))) (fun hHa => ?_)
          clear hK K'
          (try simp only [Act.put, List.setIfInBounds_toArray, List.set_cons_zero, List.set_cons_succ])
          refine wpAnyH_take (i := 10) (oi := ?oq10M) (v := ?vq10M) ?hiq10M (by kernel_rfl) (by kernel_rfl) (by kernel_rfl) ?hQq10M ?hyq10M hHa ?_
          case hiq10M => simp only [List.getElem?_toArray, List.getElem?_cons_zero, List.getElem?_cons_succ]; rfl
          case hQq10M => exact fun _ _ _ h => h
          case hyq10M => refine Or.inl ⟨by rfl, ?_⟩; intro W hSw; (try dsimp only at hSw); go_simp; try with_reducible rfl
          simp only [Act.put, List.setIfInBounds_toArray, List.set_cons_zero, List.set_cons_succ]
          clear hHa
          refine wpAnyH_done (by kernel_rfl) ?_ _
          have HOWN1 := Lib.hid (HOWN.out.keep HB1.out)
          have GD1 := Lib.hid ((HB1.out.block (g + 2) (by omega)).trans GD.out)
          have GX1 := Lib.hid ((HB1.out.block (g + 1) (by omega)).trans GX.out)
          have hbs1 : g + 3 ≤ x1.heap.size := by have := HB1.out.size; omega
          have MKS := Lib.hid (fun (X : World) (hX : Below (g + 2) x1 X) => MK14.out X ((HB1.out.mono (by omega)).trans hX))
          have hk1 := (Below.refl x1.heap.size x1).alloc (Nat.le_refl _) (.cells #[.string n, .int .i64 t] 65)
          have ydx : x1.cell? ⟨g + 2, 0, none⟩ = some (.slice na m nc) := by rw [Lib.cell_of_heap GD1.out]; rfl
          have yx : x1.cell? ⟨g + 1, 0, none⟩ = some (.string n) ∧ x1.cell? ⟨g + 1, 1, none⟩ = some (.int .i64 t) := ⟨by rw [Lib.cell_of_heap GX1.out]; rfl, by rw [Lib.cell_of_heap GX1.out]; rfl⟩
          obtain ⟨yx0, yx1⟩ := yx
          have HO2 := Lib.hid (show (x1.alloc (.cells #[.string n, .int .i64 t] 65)).ownsRow (g + 3) 65 2 (.slice na m nc) m (tcells cur) by
            have h1 := HOWN1.out.keep hk1
            unfold OwnR at h1
            rw [HLEN.out] at h1
            exact h1)
          have HK1 := Lib.hid hk1
          have HA := Lib.hid (heap_alloc_new x1 (.cells #[.string n, .int .i64 t] 65))
          have HSZ := Lib.hid (World.size_alloc x1 (.cells #[.string n, .int .i64 t] 65))
          have HOB := Lib.hid (fun (q : Nat) (hq : (Value.slice na m nc).ownBlock = some q) => (show g + 3 ≤ q from (World.ownsRow.lt HO2.out q hq).1))
          have FC := Lib.hid (fun (W8 : World) (hg : (x1.alloc (.cells #[.string n, .int .i64 t] 65)).grownBy W8 (Value.slice na m nc).ownBlock) => (show W8.heap[g + 2]? = some (.cells #[.slice na m nc] 34) from (hg.block (g + 2) (by have := HSZ.out; omega) (fun e => by have := HOB.out _ e.symm; omega)).trans ((HK1.out.block (g + 2) (by omega)).trans GD1.out)))
          have FB := Lib.hid (fun (W8 : World) (hg : (x1.alloc (.cells #[.string n, .int .i64 t] 65)).grownBy W8 (Value.slice na m nc).ownBlock) => (show Below (g + 2) x1 W8 from (HK1.out.mono (by omega)).trans ⟨hg.os, hg.tape, hg.output, hg.size, fun q hq => hg.block q (by have := HSZ.out; omega) (fun e => by have := HOB.out q e.symm; omega)⟩))
          clear hk1
          go_upto_region 14 with (at_builtin; refine wpList_append_lies _ rfl _ _ 32 rfl (g + 3) 65 i0 _ 2 24 Try.underlying32 hi0 hzz0 hzz1 hzz2 rfl (by omega) _ _ _ rfl HO2.out ⟨x1.heap.size, 0, none⟩ 1 1 [.string n, .int .i64 t] rfl rfl (World.news_of_block HA.out) (by simp [Value.oneCell']) (by omega) (by unfold maxLen; omega) (by omega) (by have := HSZ.out; omega) _ rfl ?_; intro gg cap2 w8 hown8 hgrow hat hlt8; have c8 : w8.cell? ⟨g + 2, 0, none⟩ = some (.slice na m nc) := (by rw [Lib.cell_of_heap (FC.out w8 hgrow)]; rfl); have f8 : w8.frozen? ⟨g + 2, 0, none⟩ = false := Lib.frozen_of_heap (FC.out w8 hgrow) 0; have HG8 := Lib.hid hgrow; have HO8 := Lib.hid hown8; clear hown8 hgrow hat hlt8)
          have HBZ := Lib.hid (show Below (g + 2) x1 (w8.setCell ⟨g + 2, 0, none⟩ (.slice (some ⟨gg, 0, none⟩) (m + 1) cap2)) from (FB.out w8 HG8.out).setCell (p := ⟨g + 2, 0, none⟩) (by simp only; omega) _)
          have GDZ := Lib.hid (blk_set (FC.out w8 HG8.out) 0 (.slice (some ⟨gg, 0, none⟩) (m + 1) cap2))
          have HOZ := Lib.hid (show OwnR (w8.setCell ⟨g + 2, 0, none⟩ (.slice (some ⟨gg, 0, none⟩) (m + 1) cap2)) (g + 3) (.slice (some ⟨gg, 0, none⟩) (m + 1) cap2) (cur ++ [⟨n, t⟩]) by
            refine OwnR.set ?_ (by omega)
            unfold OwnR
            rw [tcells_append, List.length_append, HLEN.out]
            exact HO8.out)
          have HSZ8 := Lib.hid (show g + 3 ≤ (w8.setCell ⟨g + 2, 0, none⟩ (.slice (some ⟨gg, 0, none⟩) (m + 1) cap2)).heap.size by rw [World.size_setCell]; have := (FB.out w8 HG8.out).size; omega)
          have HLZ := Lib.hid (show (cur ++ [(⟨n, t⟩ : TM)]).length = m + 1 by rw [List.length_append, HLEN.out]; rfl)
          clear c8 f8 ydx yx0 yx1
          generalize w8.setCell ⟨g + 2, 0, none⟩ (.slice (some ⟨gg, 0, none⟩) (m + 1) cap2) = wz at *
          have MKS := Lib.hid (fun (X : World) (hX : Below (g + 2) wz X) => MK14.out X (((HB1.out.mono (by omega)).trans HBZ.out).trans hX))
          generalize hzna : (some (⟨gg, 0, none⟩ : Addr)) = zna at *
          clear hzna
          generalize cap2 = znc at *
          have hsz8 : g + 3 ≤ wz.heap.size := HSZ8.out
          have ydd : wz.cell? ⟨g + 2, 0, none⟩ = some (.slice zna (m + 1) znc) := by rw [Lib.cell_of_heap GDZ.out]; rfl
          refine region_begin (S := fun X => X.cell? ⟨g, 0, none⟩ = some (.slice (some ⟨b, off, none⟩) r.length rc) ∧ X.cell? ⟨b, off + k * 2, none⟩ = some (.string y.name) ∧ X.cell? ⟨b, off + k * 2 + 1, none⟩ = some (.int .i64 y.at_)) 11 rfl (by kernel_rfl) (MKS.out _ (Below.refl _ _).drew) (fun hH0 => ?_)
          refine wpAnyH_take (i := 0) (oi := ?op0M2) (v := ?vp0M2) ?hip0M2 (by kernel_rfl) (by kernel_rfl) (by kernel_rfl) ?hQp0M2 ?hyp0M2 hH0 ?_
          case hip0M2 => simp only [List.getElem?_toArray, List.getElem?_cons_zero]; rfl
          case hQp0M2 => exact fun _ _ _ h => h
          case hyp0M2 => refine Or.inl ⟨by rfl, ?_⟩; intro W hSw; (try dsimp only at hSw); go_simp; try with_reducible rfl
          simp only [Act.put, List.setIfInBounds_toArray, List.set_cons_zero]
          refine wpAnyH_take (i := 2) (oi := ?op2M2) (v := ?vp2M2) ?hip2M2 (by kernel_rfl) (by kernel_rfl) (by kernel_rfl) ?hQp2M2 ?hyp2M2 hH0 ?_
          case hip2M2 => simp only [List.getElem?_toArray, List.getElem?_cons_zero, List.getElem?_cons_succ]; rfl
          case hQp2M2 => exact fun _ _ _ h => h
          case hyp2M2 => refine Or.inl ⟨by rfl, ?_⟩; intro W hSw; (try dsimp only at hSw); go_simp; try with_reducible rfl
          simp only [Act.put, List.setIfInBounds_toArray, List.set_cons_zero, List.set_cons_succ]
          refine wpAnyH_take (i := 3) (oi := ?op3M2) (v := ?vp3M2) ?hip3M2 (by kernel_rfl) (by kernel_rfl) (by kernel_rfl) ?hQp3M2 ?hyp3M2 hH0 ?_
          case hip3M2 => simp only [List.getElem?_toArray, List.getElem?_cons_zero, List.getElem?_cons_succ]; rfl
          case hQp3M2 => exact fun _ _ _ h => h
          case hyp3M2 => refine Or.inl ⟨by rfl, ?_⟩; intro W hSw; (try dsimp only at hSw); go_simp; try with_reducible rfl
          simp only [Act.put, List.setIfInBounds_toArray, List.set_cons_zero, List.set_cons_succ]
          refine wpAnyH_take (i := 4) (oi := ?op4M2) (v := ?vp4M2) ?hip4M2 (by kernel_rfl) (by kernel_rfl) (by kernel_rfl) ?hQp4M2 ?hyp4M2 hH0 ?_
          case hip4M2 => simp only [List.getElem?_toArray, List.getElem?_cons_zero, List.getElem?_cons_succ]; rfl
          case hQp4M2 => exact fun _ _ _ h => h
          case hyp4M2 => refine Or.inl ⟨by rfl, ?_⟩; intro W hSw; (try dsimp only at hSw); go_simp; try with_reducible rfl
          simp only [Act.put, List.setIfInBounds_toArray, List.set_cons_zero, List.set_cons_succ]
          refine wpAnyH_take (i := 5) (oi := ?op5M2) (v := ?vp5M2) ?hip5M2 (by kernel_rfl) (by kernel_rfl) (by kernel_rfl) ?hQp5M2 ?hyp5M2 hH0 ?_
          case hip5M2 => simp only [List.getElem?_toArray, List.getElem?_cons_zero, List.getElem?_cons_succ]; rfl
          case hQp5M2 => exact fun _ _ _ h => h
          case hyp5M2 => refine Or.inl ⟨by rfl, ?_⟩; intro W hSw; (try dsimp only at hSw); go_simp; try with_reducible rfl
          simp only [Act.put, List.setIfInBounds_toArray, List.set_cons_zero, List.set_cons_succ]
          refine wpAnyH_take (i := 6) (oi := ?op6M2) (v := ?vp6M2) ?hip6M2 (by kernel_rfl) (by kernel_rfl) (by kernel_rfl) ?hQp6M2 ?hyp6M2 hH0 ?_
          case hip6M2 => simp only [List.getElem?_toArray, List.getElem?_cons_zero, List.getElem?_cons_succ]; rfl
          case hQp6M2 => exact fun _ _ _ h => h
          case hyp6M2 => refine Or.inl ⟨by rfl, ?_⟩; intro W hSw; (try dsimp only at hSw); go_simp; try with_reducible rfl
          simp only [Act.put, List.setIfInBounds_toArray, List.set_cons_zero, List.set_cons_succ]
          clear hH0
          have hwd : Below wz.heap.size wz wz.drew := (Below.refl _ _).drew
          have hy2 : wz.drew.cell? ⟨g + 2, 0, none⟩ = some (.slice zna (m + 1) znc) := ydd
          have hsw : wz.drew.heap.size = wz.heap.size := rfl
          have HSW := Lib.hid hsw
          generalize wz.drew = w0 at *
          clear ydd
          have hw1 : Below wz.heap.size wz (w0.alloc (.cells #[.string y.name, .int .i64 y.at_] 65)) := hwd.alloc (by omega) _
          have hx1 : (w0.alloc (.cells #[.string y.name, .int .i64 y.at_] 65)).heap[w0.heap.size]? = some (.cells #[.string y.name, .int .i64 y.at_] 65) := heap_alloc_new _ _
          have hy3 : (w0.alloc (.cells #[.string y.name, .int .i64 y.at_] 65)).cell? ⟨g + 2, 0, none⟩ = some (.slice zna (m + 1) znc) := (((Below.refl w0.heap.size w0).alloc (Nat.le_refl _) (.cells #[.string y.name, .int .i64 y.at_] 65)).cell (p := ⟨g + 2, 0, none⟩) (by simp only; omega)).trans hy2
          have hs1 : (w0.alloc (.cells #[.string y.name, .int .i64 y.at_] 65)).heap.size = w0.heap.size + 1 := by rw [World.size_alloc]
          have HX1 := Lib.hid hx1
          have HW1 := Lib.hid hw1
          have HWD := Lib.hid hwd
          have HS1 := Lib.hid hs1
          have HO1 := Lib.hid (show (w0.alloc (.cells #[.string y.name, .int .i64 y.at_] 65)).ownsRow (g + 3) 65 2 (.slice zna (m + 1) znc) (m + 1) (tcells (cur ++ [⟨n, t⟩])) by
            have h1 := HOZ.out.keep hw1
            unfold OwnR at h1
            rw [HLZ.out] at h1
            exact h1)
          clear hx1 hw1 hwd hs1 hsw
          refine wpAnyH_ready (rs := [1, 7]) (by kernel_rfl) (by simp) ?_
          refine AllReadyH.cons (o := ?otwM2a) ?hotwM2a (fun K' hK => ?_) (AllReadyH.cons (o := ?otwM2b) ?hotwM2b (fun K' hK => ?_) AllReadyH.nil)
          case hotwM2a => simp only [List.getElem?_toArray, List.getElem?_cons_zero, List.getElem?_cons_succ]; rfl
          case hotwM2b => simp only [List.getElem?_toArray, List.getElem?_cons_zero, List.getElem?_cons_succ]; rfl
          · go_simp
            refine hK.out _ _ (MKS.out _ (HWD.out.mono (by omega))) (fun hHa => ?_)
            clear hK K'
            (try simp only [Act.put, List.setIfInBounds_toArray, List.set_cons_zero, List.set_cons_succ])
            clear hHa
            refine wpAnyH_ready (rs := [7]) (by kernel_rfl) (by simp) ?_
            refine AllReadyH.cons (o := ?obsaM2) ?hobsaM2 (fun K' hK => ?_) AllReadyH.nil
            case hobsaM2 => simp only [List.getElem?_toArray, List.getElem?_cons_zero, List.getElem?_cons_succ]; rfl
            go_simp
            refine hK.out _ _ (MKS.out _ (HW1.out.mono (by omega))) (fun hHb => ?_)
            clear hK K'
            (try simp only [Act.put, List.setIfInBounds_toArray, List.set_cons_zero, List.set_cons_succ])
            clear hHb
            generalize w0.alloc (.cells #[.string y.name, .int .i64 y.at_] 65) = w1 at *
            refine wpAnyH_ready (rs := [8]) (by kernel_rfl) (by simp) ?_
            refine AllReadyH.cons (o := ?oapaM2) ?hoapaM2 (fun K' hK => ?_) AllReadyH.nil
            case hoapaM2 => simp only [List.getElem?_toArray, List.getElem?_cons_zero, List.getElem?_cons_succ]; rfl
            refine step_append_lies _ (by rfl) _ _ _ (by rfl) (g + 3) 65 i0 _ 2 24 Try.underlying32 hi0 hzz0 hzz1 hzz2 rfl (by omega) _ _ _ (by rfl) HO1.out ⟨w0.heap.size, 0, none⟩ 1 1 [.string y.name, .int .i64 y.at_] (by rfl) (by rfl) (World.news_of_block HX1.out) (by simp [Value.oneCell']) (by omega) (by unfold maxLen; omega) (by omega) (by have := HS1.out; have := HSW.out; omega) _ rfl ?_
            intro gg cap2 w8 hown8 hgrow hat hlt8
            have hsz1 : wz.heap.size < w1.heap.size := by have := HS1.out; have := HSW.out; omega
            have hob : ∀ q, (Value.slice zna (m + 1) znc).ownBlock = some q → g + 3 ≤ q := fun q hq => (World.ownsRow.lt HO1.out q hq).1
            have hg82 := (hgrow.block (g + 2) (by omega) (fun e => by have := hob _ e.symm; omega)).trans ((HW1.out.block (g + 2) (by omega)).trans GDZ.out)
            have hb8 : Below (g + 2) wz w8 := (HW1.out.mono (by omega)).trans ⟨hgrow.os, hgrow.tape, hgrow.output, hgrow.size, fun q hq => hgrow.block q (by omega) (fun e => by have := hob q e.symm; omega)⟩
            have c8 : w8.cell? ⟨g + 2, 0, none⟩ = some (.slice zna (m + 1) znc) := by rw [Lib.cell_of_heap hg82]; rfl
            have f8 : w8.frozen? ⟨g + 2, 0, none⟩ = false := Lib.frozen_of_heap hg82 0
            have HAT := Lib.hid (show (Value.slice zna (m + 1) znc).ownBlock = some gg ∨ wz.heap.size ≤ gg from hat.imp id (fun e => by omega))
            have HG8 := Lib.hid (fun (q : Nat) (hq : q < wz.heap.size) (hne : some q ≠ (Value.slice zna (m + 1) znc).ownBlock) => (show w8.heap[q]? = wz.heap[q]? from (hgrow.block q (by omega) hne).trans (HW1.out.block q hq)))
            have HGG := Lib.hid (show g + 3 ≤ gg from (World.ownsRow.lt hown8 gg rfl).1)
            have HGZ := Lib.hid (show gg < w8.heap.size from hlt8)
            have HB8 := Lib.hid hb8
            have H82 := Lib.hid hg82
            have HO8 := Lib.hid hown8
            clear hg82 hb8 hown8 hgrow hat hob hsz1 hlt8
            refine hK.out _ _ (MKS.out _ HB8.out) (fun hH8 => ?_)
            clear hK K'
            (try simp only [Act.put, List.setIfInBounds_toArray, List.set_cons_zero, List.set_cons_succ])
            refine wpAnyH_take (i := 9) (oi := ?ofaaM2) (v := ?vfaaM2) ?hifaaM2 (by kernel_rfl) (by kernel_rfl) (by kernel_rfl) ?hQfaaM2 ?hyfaaM2 hH8 ?_
            case hifaaM2 => simp only [List.getElem?_toArray, List.getElem?_cons_zero, List.getElem?_cons_succ]; rfl
            case hQfaaM2 => exact fun _ _ _ h => h
            case hyfaaM2 => refine Or.inl ⟨by rfl, ?_⟩; intro W hSw; (try dsimp only at hSw); go_simp; try with_reducible rfl
            simp only [Act.put, List.setIfInBounds_toArray, List.set_cons_zero, List.set_cons_succ]
            refine wpAnyH_ready (rs := [10]) (by kernel_rfl) (by simp) ?_
            refine AllReadyH.cons (o := ?ostaM2) ?hostaM2 (fun K' hK => ?_) AllReadyH.nil
            case hostaM2 => simp only [List.getElem?_toArray, List.getElem?_cons_zero, List.getElem?_cons_succ]; rfl
            go_simp
            have HBS := Lib.hid (show Below (g + 2) wz (w8.setCell ⟨g + 2, 0, none⟩ (.slice (some ⟨gg, 0, none⟩) ((m + 1) + 1) cap2)) from HB8.out.setCell (p := ⟨g + 2, 0, none⟩) (by simp only; omega) _)
            refine hK.out _ _ (MKS.out _ HBS.out) (fun hH9 => ?_)
            clear hK K'
            (try simp only [Act.put, List.setIfInBounds_toArray, List.set_cons_zero, List.set_cons_succ])
            clear hH9 hH8
            refine wpAnyH_done (by kernel_rfl) ?_ _
            have H9 := Lib.hid (blk_set H82.out 0 (.slice (some ⟨gg, 0, none⟩) ((m + 1) + 1) cap2))
            have HO9 := Lib.hid (show OwnR (w8.setCell ⟨g + 2, 0, none⟩ (.slice (some ⟨gg, 0, none⟩) ((m + 1) + 1) cap2)) (g + 3) (.slice (some ⟨gg, 0, none⟩) ((m + 1) + 1) cap2) ((cur ++ [⟨n, t⟩]) ++ [y]) by
              refine OwnR.set ?_ (by omega)
              unfold OwnR
              rw [tcells_append, List.length_append, HLZ.out]
              exact HO8.out)
            have HGR := Lib.hid (fun (q : Nat) (hq : q < wz.heap.size) (hqd : q ≠ g + 2) (hne : some q ≠ (Value.slice zna (m + 1) znc).ownBlock) => (show (w8.setCell ⟨g + 2, 0, none⟩ (.slice (some ⟨gg, 0, none⟩) ((m + 1) + 1) cap2)).heap[q]? = wz.heap[q]? from by
              simp only [World.setCell]
              rw [Array.getElem?_modify, if_neg (fun e => hqd e.symm)]
              exact HG8.out q hq hne))
            clear c8 f8
            generalize w8.setCell ⟨g + 2, 0, none⟩ (.slice (some ⟨gg, 0, none⟩) ((m + 1) + 1) cap2) = w9 at *
            go_wp2_with fail
            have HBT := Lib.hid (show Below (g + 2) wr w9 from ((HB1.out.mono (by omega)).trans HBZ.out).trans HBS.out)
            go_roundw
            case rel => exact ⟨k + 1, _, _, (cur ++ [⟨n, t⟩]) ++ [y], (m + 1) + 1, by omega, by go_num, by rw [decide_eq_true (by omega)], HST.out, by rw [List.length_append, HLZ.out]; rfl, HO9.out, (HBT.out.block g (by omega)).trans GX0.out, (HBT.out.block (g + 1) (by omega)).trans GX.out, H9.out, HBL.out.trans (HBT.out.mono (by omega))⟩
            case measure => simp [intOf]; omega
          · go_simp
            refine hK.out _ _ (MKS.out _ (HW1.out.mono (by omega))) (fun hHa => ?_)
            clear hK K'
            (try simp only [Act.put, List.setIfInBounds_toArray, List.set_cons_zero, List.set_cons_succ])
            clear hHa
            refine wpAnyH_ready (rs := [1]) (by kernel_rfl) (by simp) ?_
            refine AllReadyH.cons (o := ?ol1bM2) ?hol1bM2 (fun K' hK => ?_) AllReadyH.nil
            case hol1bM2 => simp only [List.getElem?_toArray, List.getElem?_cons_zero, List.getElem?_cons_succ]; rfl
            go_simp
            refine hK.out _ _ (MKS.out _ (HW1.out.mono (by omega))) (fun hHb => ?_)
            clear hK K'
            (try simp only [Act.put, List.setIfInBounds_toArray, List.set_cons_zero, List.set_cons_succ])
            clear hHb
            generalize w0.alloc (.cells #[.string y.name, .int .i64 y.at_] 65) = w1 at *
            refine wpAnyH_ready (rs := [8]) (by kernel_rfl) (by simp) ?_
            refine AllReadyH.cons (o := ?oapbM2) ?hoapbM2 (fun K' hK => ?_) AllReadyH.nil
            case hoapbM2 => simp only [List.getElem?_toArray, List.getElem?_cons_zero, List.getElem?_cons_succ]; rfl
            refine step_append_lies _ (by rfl) _ _ _ (by rfl) (g + 3) 65 i0 _ 2 24 Try.underlying32 hi0 hzz0 hzz1 hzz2 rfl (by omega) _ _ _ (by rfl) HO1.out ⟨w0.heap.size, 0, none⟩ 1 1 [.string y.name, .int .i64 y.at_] (by rfl) (by rfl) (World.news_of_block HX1.out) (by simp [Value.oneCell']) (by omega) (by unfold maxLen; omega) (by omega) (by have := HS1.out; have := HSW.out; omega) _ rfl ?_
            intro gg cap2 w8 hown8 hgrow hat hlt8
            have hsz1 : wz.heap.size < w1.heap.size := by have := HS1.out; have := HSW.out; omega
            have hob : ∀ q, (Value.slice zna (m + 1) znc).ownBlock = some q → g + 3 ≤ q := fun q hq => (World.ownsRow.lt HO1.out q hq).1
            have hg82 := (hgrow.block (g + 2) (by omega) (fun e => by have := hob _ e.symm; omega)).trans ((HW1.out.block (g + 2) (by omega)).trans GDZ.out)
            have hb8 : Below (g + 2) wz w8 := (HW1.out.mono (by omega)).trans ⟨hgrow.os, hgrow.tape, hgrow.output, hgrow.size, fun q hq => hgrow.block q (by omega) (fun e => by have := hob q e.symm; omega)⟩
            have c8 : w8.cell? ⟨g + 2, 0, none⟩ = some (.slice zna (m + 1) znc) := by rw [Lib.cell_of_heap hg82]; rfl
            have f8 : w8.frozen? ⟨g + 2, 0, none⟩ = false := Lib.frozen_of_heap hg82 0
            have HAT := Lib.hid (show (Value.slice zna (m + 1) znc).ownBlock = some gg ∨ wz.heap.size ≤ gg from hat.imp id (fun e => by omega))
            have HG8 := Lib.hid (fun (q : Nat) (hq : q < wz.heap.size) (hne : some q ≠ (Value.slice zna (m + 1) znc).ownBlock) => (show w8.heap[q]? = wz.heap[q]? from (hgrow.block q (by omega) hne).trans (HW1.out.block q hq)))
            have HGG := Lib.hid (show g + 3 ≤ gg from (World.ownsRow.lt hown8 gg rfl).1)
            have HGZ := Lib.hid (show gg < w8.heap.size from hlt8)
            have HB8 := Lib.hid hb8
            have H82 := Lib.hid hg82
            have HO8 := Lib.hid hown8
            clear hg82 hb8 hown8 hgrow hat hob hsz1 hlt8
            refine hK.out _ _ (MKS.out _ HB8.out) (fun hH8 => ?_)
            clear hK K'
            (try simp only [Act.put, List.setIfInBounds_toArray, List.set_cons_zero, List.set_cons_succ])
            refine wpAnyH_take (i := 9) (oi := ?ofabM2) (v := ?vfabM2) ?hifabM2 (by kernel_rfl) (by kernel_rfl) (by kernel_rfl) ?hQfabM2 ?hyfabM2 hH8 ?_
            case hifabM2 => simp only [List.getElem?_toArray, List.getElem?_cons_zero, List.getElem?_cons_succ]; rfl
            case hQfabM2 => exact fun _ _ _ h => h
            case hyfabM2 => refine Or.inl ⟨by rfl, ?_⟩; intro W hSw; (try dsimp only at hSw); go_simp; try with_reducible rfl
            simp only [Act.put, List.setIfInBounds_toArray, List.set_cons_zero, List.set_cons_succ]
            refine wpAnyH_ready (rs := [10]) (by kernel_rfl) (by simp) ?_
            refine AllReadyH.cons (o := ?ostbM2) ?hostbM2 (fun K' hK => ?_) AllReadyH.nil
            case hostbM2 => simp only [List.getElem?_toArray, List.getElem?_cons_zero, List.getElem?_cons_succ]; rfl
            go_simp
            have HBS := Lib.hid (show Below (g + 2) wz (w8.setCell ⟨g + 2, 0, none⟩ (.slice (some ⟨gg, 0, none⟩) ((m + 1) + 1) cap2)) from HB8.out.setCell (p := ⟨g + 2, 0, none⟩) (by simp only; omega) _)
            refine hK.out _ _ (MKS.out _ HBS.out) (fun hH9 => ?_)
            clear hK K'
            (try simp only [Act.put, List.setIfInBounds_toArray, List.set_cons_zero, List.set_cons_succ])
            clear hH9 hH8
            refine wpAnyH_done (by kernel_rfl) ?_ _
            have H9 := Lib.hid (blk_set H82.out 0 (.slice (some ⟨gg, 0, none⟩) ((m + 1) + 1) cap2))
            have HO9 := Lib.hid (show OwnR (w8.setCell ⟨g + 2, 0, none⟩ (.slice (some ⟨gg, 0, none⟩) ((m + 1) + 1) cap2)) (g + 3) (.slice (some ⟨gg, 0, none⟩) ((m + 1) + 1) cap2) ((cur ++ [⟨n, t⟩]) ++ [y]) by
              refine OwnR.set ?_ (by omega)
              unfold OwnR
              rw [tcells_append, List.length_append, HLZ.out]
              exact HO8.out)
            have HGR := Lib.hid (fun (q : Nat) (hq : q < wz.heap.size) (hqd : q ≠ g + 2) (hne : some q ≠ (Value.slice zna (m + 1) znc).ownBlock) => (show (w8.setCell ⟨g + 2, 0, none⟩ (.slice (some ⟨gg, 0, none⟩) ((m + 1) + 1) cap2)).heap[q]? = wz.heap[q]? from by
              simp only [World.setCell]
              rw [Array.getElem?_modify, if_neg (fun e => hqd e.symm)]
              exact HG8.out q hq hne))
            clear c8 f8
            generalize w8.setCell ⟨g + 2, 0, none⟩ (.slice (some ⟨gg, 0, none⟩) ((m + 1) + 1) cap2) = w9 at *
            go_wp2_with fail
            have HBT := Lib.hid (show Below (g + 2) wr w9 from ((HB1.out.mono (by omega)).trans HBZ.out).trans HBS.out)
            go_roundw
            case rel => exact ⟨k + 1, _, _, (cur ++ [⟨n, t⟩]) ++ [y], (m + 1) + 1, by omega, by go_num, by rw [decide_eq_true (by omega)], HST.out, by rw [List.length_append, HLZ.out]; rfl, HO9.out, (HBT.out.block g (by omega)).trans GX0.out, (HBT.out.block (g + 1) (by omega)).trans GX.out, H9.out, HBL.out.trans (HBT.out.mono (by omega))⟩
            case measure => simp [intOf]; omega
        · have HST := Lib.hid ((hsh h).trans (by rw [HCUR2.out]))
          rw [decide_eq_true (by omega)] at hd
          subst hd
          clear hLO hHI hsl hsa hsh
          go_wp2_with fail
          refine region_begin (S := fun X => X.cell? ⟨g, 0, none⟩ = some (.slice (some ⟨b, off, none⟩) r.length rc) ∧ X.cell? ⟨g + 1, 0, none⟩ = some (.string n) ∧ X.cell? ⟨g + 1, 1, none⟩ = some (.int .i64 t) ∧ X.cell? ⟨b, off + k * 2, none⟩ = some (.string y.name) ∧ X.cell? ⟨b, off + k * 2 + 1, none⟩ = some (.int .i64 y.at_)) 11 rfl (by kernel_rfl) (MK11.out _ (Below.refl _ _).drew) (fun hH0 => ?_)
          refine wpAnyH_take (i := 0) (oi := ?oq0H) (v := ?vq0H) ?hiq0H (by kernel_rfl) (by kernel_rfl) (by kernel_rfl) ?hQq0H ?hyq0H hH0 ?_
          case hiq0H => simp only [List.getElem?_toArray, List.getElem?_cons_zero]; rfl
          case hQq0H => exact fun _ _ _ h => h
          case hyq0H => refine Or.inl ⟨by rfl, ?_⟩; intro W hSw; (try dsimp only at hSw); go_simp; try with_reducible rfl
          simp only [Act.put, List.setIfInBounds_toArray, List.set_cons_zero]
          refine wpAnyH_take (i := 1) (oi := ?oq1H) (v := ?vq1H) ?hiq1H (by kernel_rfl) (by kernel_rfl) (by kernel_rfl) ?hQq1H ?hyq1H hH0 ?_
          case hiq1H => simp only [List.getElem?_toArray, List.getElem?_cons_zero, List.getElem?_cons_succ]; rfl
          case hQq1H => exact fun _ _ _ h => h
          case hyq1H => refine Or.inl ⟨by rfl, ?_⟩; intro W hSw; (try dsimp only at hSw); go_simp; try with_reducible rfl
          simp only [Act.put, List.setIfInBounds_toArray, List.set_cons_zero, List.set_cons_succ]
          refine wpAnyH_take (i := 2) (oi := ?oq2H) (v := ?vq2H) ?hiq2H (by kernel_rfl) (by kernel_rfl) (by kernel_rfl) ?hQq2H ?hyq2H hH0 ?_
          case hiq2H => simp only [List.getElem?_toArray, List.getElem?_cons_zero, List.getElem?_cons_succ]; rfl
          case hQq2H => exact fun _ _ _ h => h
          case hyq2H => refine Or.inl ⟨by rfl, ?_⟩; intro W hSw; (try dsimp only at hSw); go_simp; try with_reducible rfl
          simp only [Act.put, List.setIfInBounds_toArray, List.set_cons_zero, List.set_cons_succ]
          refine wpAnyH_take (i := 3) (oi := ?oq3H) (v := undef) ?hiq3H (by kernel_rfl) (by kernel_rfl) (by kernel_rfl) ?hQq3H ?hyq3H hH0 ?_
          case hiq3H => simp only [List.getElem?_toArray, List.getElem?_cons_zero, List.getElem?_cons_succ]; rfl
          case hQq3H => exact fun _ _ _ h => h
          case hyq3H => exact Or.inr ⟨by rfl, rfl⟩
          simp only [Act.put, List.setIfInBounds_toArray, List.set_cons_zero, List.set_cons_succ]
          refine wpAnyH_take (i := 4) (oi := ?oq4H) (v := undef) ?hiq4H (by kernel_rfl) (by kernel_rfl) (by kernel_rfl) ?hQq4H ?hyq4H hH0 ?_
          case hiq4H => simp only [List.getElem?_toArray, List.getElem?_cons_zero, List.getElem?_cons_succ]; rfl
          case hQq4H => exact fun _ _ _ h => h
          case hyq4H => exact Or.inr ⟨by rfl, rfl⟩
          simp only [Act.put, List.setIfInBounds_toArray, List.set_cons_zero, List.set_cons_succ]
          refine wpAnyH_take (i := 5) (oi := ?oq5H) (v := undef) ?hiq5H (by kernel_rfl) (by kernel_rfl) (by kernel_rfl) ?hQq5H ?hyq5H hH0 ?_
          case hiq5H => simp only [List.getElem?_toArray, List.getElem?_cons_zero, List.getElem?_cons_succ]; rfl
          case hQq5H => exact fun _ _ _ h => h
          case hyq5H => exact Or.inr ⟨by rfl, rfl⟩
          simp only [Act.put, List.setIfInBounds_toArray, List.set_cons_zero, List.set_cons_succ]
          refine wpAnyH_take (i := 6) (oi := ?oq6H) (v := undef) ?hiq6H (by kernel_rfl) (by kernel_rfl) (by kernel_rfl) ?hQq6H ?hyq6H hH0 ?_
          case hiq6H => simp only [List.getElem?_toArray, List.getElem?_cons_zero, List.getElem?_cons_succ]; rfl
          case hQq6H => exact fun _ _ _ h => h
          case hyq6H => exact Or.inr ⟨by rfl, rfl⟩
          simp only [Act.put, List.setIfInBounds_toArray, List.set_cons_zero, List.set_cons_succ]
          refine wpAnyH_take (i := 7) (oi := ?oq7H) (v := undef) ?hiq7H (by kernel_rfl) (by kernel_rfl) (by kernel_rfl) ?hQq7H ?hyq7H hH0 ?_
          case hiq7H => simp only [List.getElem?_toArray, List.getElem?_cons_zero, List.getElem?_cons_succ]; rfl
          case hQq7H => exact fun _ _ _ h => h
          case hyq7H => exact Or.inr ⟨by rfl, rfl⟩
          simp only [Act.put, List.setIfInBounds_toArray, List.set_cons_zero, List.set_cons_succ]
          refine wpAnyH_take (i := 8) (oi := ?oq8H) (v := undef) ?hiq8H (by kernel_rfl) (by kernel_rfl) (by kernel_rfl) ?hQq8H ?hyq8H hH0 ?_
          case hiq8H => simp only [List.getElem?_toArray, List.getElem?_cons_zero, List.getElem?_cons_succ]; rfl
          case hQq8H => exact fun _ _ _ h => h
          case hyq8H => exact Or.inr ⟨by rfl, rfl⟩
          simp only [Act.put, List.setIfInBounds_toArray, List.set_cons_zero, List.set_cons_succ]
          refine wpAnyH_take (i := 9) (oi := ?oq9H) (v := undef) ?hiq9H (by kernel_rfl) (by kernel_rfl) (by kernel_rfl) ?hQq9H ?hyq9H hH0 ?_
          case hiq9H => simp only [List.getElem?_toArray, List.getElem?_cons_zero, List.getElem?_cons_succ]; rfl
          case hQq9H => exact fun _ _ _ h => h
          case hyq9H => exact Or.inr ⟨by rfl, rfl⟩
          simp only [Act.put, List.setIfInBounds_toArray, List.set_cons_zero, List.set_cons_succ]
          refine wpAnyH_take (i := 10) (oi := ?oq10H) (v := ?vq10H) ?hiq10H (by kernel_rfl) (by kernel_rfl) (by kernel_rfl) ?hQq10H ?hyq10H hH0 ?_
          case hiq10H => simp only [List.getElem?_toArray, List.getElem?_cons_zero, List.getElem?_cons_succ]; rfl
          case hQq10H => exact fun _ _ _ h => h
          case hyq10H => refine Or.inl ⟨by rfl, ?_⟩; intro W hSw; (try dsimp only at hSw); go_simp; try with_reducible rfl
          simp only [Act.put, List.setIfInBounds_toArray, List.set_cons_zero, List.set_cons_succ]
          clear hH0
          have HB1 := Lib.hid (show Below wr.heap.size wr wr.drew from (Below.refl _ _).drew)
          generalize wr.drew = x1 at *
          refine wpAnyH_done (by kernel_rfl) ?_ _
          have HOWN1 := Lib.hid (HOWN.out.keep HB1.out)
          have GD1 := Lib.hid ((HB1.out.block (g + 2) (by omega)).trans GD.out)
          have GX1 := Lib.hid ((HB1.out.block (g + 1) (by omega)).trans GX.out)
          have hbs1 : g + 3 ≤ x1.heap.size := by have := HB1.out.size; omega
          have MKS := Lib.hid (fun (X : World) (hX : Below (g + 2) x1 X) => MK14.out X ((HB1.out.mono (by omega)).trans hX))
          go_wp2_with fail
          have ydd : x1.cell? ⟨g + 2, 0, none⟩ = some (.slice na m nc) := by rw [Lib.cell_of_heap GD1.out]; rfl
          refine region_begin (S := fun X => X.cell? ⟨g, 0, none⟩ = some (.slice (some ⟨b, off, none⟩) r.length rc) ∧ X.cell? ⟨b, off + k * 2, none⟩ = some (.string y.name) ∧ X.cell? ⟨b, off + k * 2 + 1, none⟩ = some (.int .i64 y.at_)) 11 rfl (by kernel_rfl) (MKS.out _ (Below.refl _ _).drew) (fun hH0 => ?_)
          refine wpAnyH_take (i := 0) (oi := ?op0H2) (v := ?vp0H2) ?hip0H2 (by kernel_rfl) (by kernel_rfl) (by kernel_rfl) ?hQp0H2 ?hyp0H2 hH0 ?_
          case hip0H2 => simp only [List.getElem?_toArray, List.getElem?_cons_zero]; rfl
          case hQp0H2 => exact fun _ _ _ h => h
          case hyp0H2 => refine Or.inl ⟨by rfl, ?_⟩; intro W hSw; (try dsimp only at hSw); go_simp; try with_reducible rfl
          simp only [Act.put, List.setIfInBounds_toArray, List.set_cons_zero]
          refine wpAnyH_take (i := 2) (oi := ?op2H2) (v := ?vp2H2) ?hip2H2 (by kernel_rfl) (by kernel_rfl) (by kernel_rfl) ?hQp2H2 ?hyp2H2 hH0 ?_
          case hip2H2 => simp only [List.getElem?_toArray, List.getElem?_cons_zero, List.getElem?_cons_succ]; rfl
          case hQp2H2 => exact fun _ _ _ h => h
          case hyp2H2 => refine Or.inl ⟨by rfl, ?_⟩; intro W hSw; (try dsimp only at hSw); go_simp; try with_reducible rfl
          simp only [Act.put, List.setIfInBounds_toArray, List.set_cons_zero, List.set_cons_succ]
          refine wpAnyH_take (i := 3) (oi := ?op3H2) (v := ?vp3H2) ?hip3H2 (by kernel_rfl) (by kernel_rfl) (by kernel_rfl) ?hQp3H2 ?hyp3H2 hH0 ?_
          case hip3H2 => simp only [List.getElem?_toArray, List.getElem?_cons_zero, List.getElem?_cons_succ]; rfl
          case hQp3H2 => exact fun _ _ _ h => h
          case hyp3H2 => refine Or.inl ⟨by rfl, ?_⟩; intro W hSw; (try dsimp only at hSw); go_simp; try with_reducible rfl
          simp only [Act.put, List.setIfInBounds_toArray, List.set_cons_zero, List.set_cons_succ]
          refine wpAnyH_take (i := 4) (oi := ?op4H2) (v := ?vp4H2) ?hip4H2 (by kernel_rfl) (by kernel_rfl) (by kernel_rfl) ?hQp4H2 ?hyp4H2 hH0 ?_
          case hip4H2 => simp only [List.getElem?_toArray, List.getElem?_cons_zero, List.getElem?_cons_succ]; rfl
          case hQp4H2 => exact fun _ _ _ h => h
          case hyp4H2 => refine Or.inl ⟨by rfl, ?_⟩; intro W hSw; (try dsimp only at hSw); go_simp; try with_reducible rfl
          simp only [Act.put, List.setIfInBounds_toArray, List.set_cons_zero, List.set_cons_succ]
          refine wpAnyH_take (i := 5) (oi := ?op5H2) (v := ?vp5H2) ?hip5H2 (by kernel_rfl) (by kernel_rfl) (by kernel_rfl) ?hQp5H2 ?hyp5H2 hH0 ?_
          case hip5H2 => simp only [List.getElem?_toArray, List.getElem?_cons_zero, List.getElem?_cons_succ]; rfl
          case hQp5H2 => exact fun _ _ _ h => h
          case hyp5H2 => refine Or.inl ⟨by rfl, ?_⟩; intro W hSw; (try dsimp only at hSw); go_simp; try with_reducible rfl
          simp only [Act.put, List.setIfInBounds_toArray, List.set_cons_zero, List.set_cons_succ]
          refine wpAnyH_take (i := 6) (oi := ?op6H2) (v := ?vp6H2) ?hip6H2 (by kernel_rfl) (by kernel_rfl) (by kernel_rfl) ?hQp6H2 ?hyp6H2 hH0 ?_
          case hip6H2 => simp only [List.getElem?_toArray, List.getElem?_cons_zero, List.getElem?_cons_succ]; rfl
          case hQp6H2 => exact fun _ _ _ h => h
          case hyp6H2 => refine Or.inl ⟨by rfl, ?_⟩; intro W hSw; (try dsimp only at hSw); go_simp; try with_reducible rfl
          simp only [Act.put, List.setIfInBounds_toArray, List.set_cons_zero, List.set_cons_succ]
          clear hH0
          have hwd : Below x1.heap.size x1 x1.drew := (Below.refl _ _).drew
          have hy2 : x1.drew.cell? ⟨g + 2, 0, none⟩ = some (.slice na m nc) := ydd
          have hsw : x1.drew.heap.size = x1.heap.size := rfl
          have HSW := Lib.hid hsw
          generalize x1.drew = w0 at *
          clear ydd
          have hw1 : Below x1.heap.size x1 (w0.alloc (.cells #[.string y.name, .int .i64 y.at_] 65)) := hwd.alloc (by omega) _
          have hx1 : (w0.alloc (.cells #[.string y.name, .int .i64 y.at_] 65)).heap[w0.heap.size]? = some (.cells #[.string y.name, .int .i64 y.at_] 65) := heap_alloc_new _ _
          have hy3 : (w0.alloc (.cells #[.string y.name, .int .i64 y.at_] 65)).cell? ⟨g + 2, 0, none⟩ = some (.slice na m nc) := (((Below.refl w0.heap.size w0).alloc (Nat.le_refl _) (.cells #[.string y.name, .int .i64 y.at_] 65)).cell (p := ⟨g + 2, 0, none⟩) (by simp only; omega)).trans hy2
          have hs1 : (w0.alloc (.cells #[.string y.name, .int .i64 y.at_] 65)).heap.size = w0.heap.size + 1 := by rw [World.size_alloc]
          have HX1 := Lib.hid hx1
          have HW1 := Lib.hid hw1
          have HWD := Lib.hid hwd
          have HS1 := Lib.hid hs1
          have HO1 := Lib.hid (show (w0.alloc (.cells #[.string y.name, .int .i64 y.at_] 65)).ownsRow (g + 3) 65 2 (.slice na m nc) m (tcells cur) by
            have h1 := HOWN1.out.keep hw1
            unfold OwnR at h1
            rw [HLEN.out] at h1
            exact h1)
          clear hx1 hw1 hwd hs1 hsw
          refine wpAnyH_ready (rs := [1, 7]) (by kernel_rfl) (by simp) ?_
          refine AllReadyH.cons (o := ?otwH2a) ?hotwH2a (fun K' hK => ?_) (AllReadyH.cons (o := ?otwH2b) ?hotwH2b (fun K' hK => ?_) AllReadyH.nil)
          case hotwH2a => simp only [List.getElem?_toArray, List.getElem?_cons_zero, List.getElem?_cons_succ]; rfl
          case hotwH2b => simp only [List.getElem?_toArray, List.getElem?_cons_zero, List.getElem?_cons_succ]; rfl
          · go_simp
            refine hK.out _ _ (MKS.out _ (HWD.out.mono (by omega))) (fun hHa => ?_)
            clear hK K'
            (try simp only [Act.put, List.setIfInBounds_toArray, List.set_cons_zero, List.set_cons_succ])
            clear hHa
            refine wpAnyH_ready (rs := [7]) (by kernel_rfl) (by simp) ?_
            refine AllReadyH.cons (o := ?obsaH2) ?hobsaH2 (fun K' hK => ?_) AllReadyH.nil
            case hobsaH2 => simp only [List.getElem?_toArray, List.getElem?_cons_zero, List.getElem?_cons_succ]; rfl
            go_simp
            refine hK.out _ _ (MKS.out _ (HW1.out.mono (by omega))) (fun hHb => ?_)
            clear hK K'
            (try simp only [Act.put, List.setIfInBounds_toArray, List.set_cons_zero, List.set_cons_succ])
            clear hHb
            generalize w0.alloc (.cells #[.string y.name, .int .i64 y.at_] 65) = w1 at *
            refine wpAnyH_ready (rs := [8]) (by kernel_rfl) (by simp) ?_
            refine AllReadyH.cons (o := ?oapaH2) ?hoapaH2 (fun K' hK => ?_) AllReadyH.nil
            case hoapaH2 => simp only [List.getElem?_toArray, List.getElem?_cons_zero, List.getElem?_cons_succ]; rfl
            refine step_append_lies _ (by rfl) _ _ _ (by rfl) (g + 3) 65 i0 _ 2 24 Try.underlying32 hi0 hzz0 hzz1 hzz2 rfl (by omega) _ _ _ (by rfl) HO1.out ⟨w0.heap.size, 0, none⟩ 1 1 [.string y.name, .int .i64 y.at_] (by rfl) (by rfl) (World.news_of_block HX1.out) (by simp [Value.oneCell']) (by omega) (by unfold maxLen; omega) (by omega) (by have := HS1.out; have := HSW.out; omega) _ rfl ?_
            intro gg cap2 w8 hown8 hgrow hat hlt8
            have hsz1 : x1.heap.size < w1.heap.size := by have := HS1.out; have := HSW.out; omega
            have hob : ∀ q, (Value.slice na m nc).ownBlock = some q → g + 3 ≤ q := fun q hq => (World.ownsRow.lt HO1.out q hq).1
            have hg82 := (hgrow.block (g + 2) (by omega) (fun e => by have := hob _ e.symm; omega)).trans ((HW1.out.block (g + 2) (by omega)).trans GD1.out)
            have hb8 : Below (g + 2) x1 w8 := (HW1.out.mono (by omega)).trans ⟨hgrow.os, hgrow.tape, hgrow.output, hgrow.size, fun q hq => hgrow.block q (by omega) (fun e => by have := hob q e.symm; omega)⟩
            have c8 : w8.cell? ⟨g + 2, 0, none⟩ = some (.slice na m nc) := by rw [Lib.cell_of_heap hg82]; rfl
            have f8 : w8.frozen? ⟨g + 2, 0, none⟩ = false := Lib.frozen_of_heap hg82 0
            have HAT := Lib.hid (show (Value.slice na m nc).ownBlock = some gg ∨ x1.heap.size ≤ gg from hat.imp id (fun e => by omega))
            have HG8 := Lib.hid (fun (q : Nat) (hq : q < x1.heap.size) (hne : some q ≠ (Value.slice na m nc).ownBlock) => (show w8.heap[q]? = x1.heap[q]? from (hgrow.block q (by omega) hne).trans (HW1.out.block q hq)))
            have HGG := Lib.hid (show g + 3 ≤ gg from (World.ownsRow.lt hown8 gg rfl).1)
            have HGZ := Lib.hid (show gg < w8.heap.size from hlt8)
            have HB8 := Lib.hid hb8
            have H82 := Lib.hid hg82
            have HO8 := Lib.hid hown8
            clear hg82 hb8 hown8 hgrow hat hob hsz1 hlt8
            refine hK.out _ _ (MKS.out _ HB8.out) (fun hH8 => ?_)
            clear hK K'
            (try simp only [Act.put, List.setIfInBounds_toArray, List.set_cons_zero, List.set_cons_succ])
            refine wpAnyH_take (i := 9) (oi := ?ofaaH2) (v := ?vfaaH2) ?hifaaH2 (by kernel_rfl) (by kernel_rfl) (by kernel_rfl) ?hQfaaH2 ?hyfaaH2 hH8 ?_
            case hifaaH2 => simp only [List.getElem?_toArray, List.getElem?_cons_zero, List.getElem?_cons_succ]; rfl
            case hQfaaH2 => exact fun _ _ _ h => h
            case hyfaaH2 => refine Or.inl ⟨by rfl, ?_⟩; intro W hSw; (try dsimp only at hSw); go_simp; try with_reducible rfl
            simp only [Act.put, List.setIfInBounds_toArray, List.set_cons_zero, List.set_cons_succ]
            refine wpAnyH_ready (rs := [10]) (by kernel_rfl) (by simp) ?_
            refine AllReadyH.cons (o := ?ostaH2) ?hostaH2 (fun K' hK => ?_) AllReadyH.nil
            case hostaH2 => simp only [List.getElem?_toArray, List.getElem?_cons_zero, List.getElem?_cons_succ]; rfl
            go_simp
            have HBS := Lib.hid (show Below (g + 2) x1 (w8.setCell ⟨g + 2, 0, none⟩ (.slice (some ⟨gg, 0, none⟩) (m + 1) cap2)) from HB8.out.setCell (p := ⟨g + 2, 0, none⟩) (by simp only; omega) _)
            refine hK.out _ _ (MKS.out _ HBS.out) (fun hH9 => ?_)
            clear hK K'
            (try simp only [Act.put, List.setIfInBounds_toArray, List.set_cons_zero, List.set_cons_succ])
            clear hH9 hH8
            refine wpAnyH_done (by kernel_rfl) ?_ _
            have H9 := Lib.hid (blk_set H82.out 0 (.slice (some ⟨gg, 0, none⟩) (m + 1) cap2))
            have HO9 := Lib.hid (show OwnR (w8.setCell ⟨g + 2, 0, none⟩ (.slice (some ⟨gg, 0, none⟩) (m + 1) cap2)) (g + 3) (.slice (some ⟨gg, 0, none⟩) (m + 1) cap2) (cur ++ [y]) by
              refine OwnR.set ?_ (by omega)
              unfold OwnR
              rw [tcells_append, List.length_append, HLEN.out]
              exact HO8.out)
            have HGR := Lib.hid (fun (q : Nat) (hq : q < x1.heap.size) (hqd : q ≠ g + 2) (hne : some q ≠ (Value.slice na m nc).ownBlock) => (show (w8.setCell ⟨g + 2, 0, none⟩ (.slice (some ⟨gg, 0, none⟩) (m + 1) cap2)).heap[q]? = x1.heap[q]? from by
              simp only [World.setCell]
              rw [Array.getElem?_modify, if_neg (fun e => hqd e.symm)]
              exact HG8.out q hq hne))
            clear c8 f8
            generalize w8.setCell ⟨g + 2, 0, none⟩ (.slice (some ⟨gg, 0, none⟩) (m + 1) cap2) = w9 at *
            go_wp2_with fail
            have HBT := Lib.hid (show Below (g + 2) wr w9 from (HB1.out.mono (by omega)).trans HBS.out)
            go_roundw
            case rel => exact ⟨k + 1, _, _, cur ++ [y], m + 1, by omega, by go_num, by rw [decide_eq_true (by omega)], HST.out, by rw [List.length_append, HLEN.out]; rfl, HO9.out, (HBT.out.block g (by omega)).trans GX0.out, (HBT.out.block (g + 1) (by omega)).trans GX.out, H9.out, HBL.out.trans (HBT.out.mono (by omega))⟩
            case measure => simp [intOf]; omega
          · go_simp
            refine hK.out _ _ (MKS.out _ (HW1.out.mono (by omega))) (fun hHa => ?_)
            clear hK K'
            (try simp only [Act.put, List.setIfInBounds_toArray, List.set_cons_zero, List.set_cons_succ])
            clear hHa
            refine wpAnyH_ready (rs := [1]) (by kernel_rfl) (by simp) ?_
            refine AllReadyH.cons (o := ?ol1bH2) ?hol1bH2 (fun K' hK => ?_) AllReadyH.nil
            case hol1bH2 => simp only [List.getElem?_toArray, List.getElem?_cons_zero, List.getElem?_cons_succ]; rfl
            go_simp
            refine hK.out _ _ (MKS.out _ (HW1.out.mono (by omega))) (fun hHb => ?_)
            clear hK K'
            (try simp only [Act.put, List.setIfInBounds_toArray, List.set_cons_zero, List.set_cons_succ])
            clear hHb
            generalize w0.alloc (.cells #[.string y.name, .int .i64 y.at_] 65) = w1 at *
            refine wpAnyH_ready (rs := [8]) (by kernel_rfl) (by simp) ?_
            refine AllReadyH.cons (o := ?oapbH2) ?hoapbH2 (fun K' hK => ?_) AllReadyH.nil
            case hoapbH2 => simp only [List.getElem?_toArray, List.getElem?_cons_zero, List.getElem?_cons_succ]; rfl
            refine step_append_lies _ (by rfl) _ _ _ (by rfl) (g + 3) 65 i0 _ 2 24 Try.underlying32 hi0 hzz0 hzz1 hzz2 rfl (by omega) _ _ _ (by rfl) HO1.out ⟨w0.heap.size, 0, none⟩ 1 1 [.string y.name, .int .i64 y.at_] (by rfl) (by rfl) (World.news_of_block HX1.out) (by simp [Value.oneCell']) (by omega) (by unfold maxLen; omega) (by omega) (by have := HS1.out; have := HSW.out; omega) _ rfl ?_
            intro gg cap2 w8 hown8 hgrow hat hlt8
            have hsz1 : x1.heap.size < w1.heap.size := by have := HS1.out; have := HSW.out; omega
            have hob : ∀ q, (Value.slice na m nc).ownBlock = some q → g + 3 ≤ q := fun q hq => (World.ownsRow.lt HO1.out q hq).1
            have hg82 := (hgrow.block (g + 2) (by omega) (fun e => by have := hob _ e.symm; omega)).trans ((HW1.out.block (g + 2) (by omega)).trans GD1.out)
            have hb8 : Below (g + 2) x1 w8 := (HW1.out.mono (by omega)).trans ⟨hgrow.os, hgrow.tape, hgrow.output, hgrow.size, fun q hq => hgrow.block q (by omega) (fun e => by have := hob q e.symm; omega)⟩
            have c8 : w8.cell? ⟨g + 2, 0, none⟩ = some (.slice na m nc) := by rw [Lib.cell_of_heap hg82]; rfl
            have f8 : w8.frozen? ⟨g + 2, 0, none⟩ = false := Lib.frozen_of_heap hg82 0
            have HAT := Lib.hid (show (Value.slice na m nc).ownBlock = some gg ∨ x1.heap.size ≤ gg from hat.imp id (fun e => by omega))
            have HG8 := Lib.hid (fun (q : Nat) (hq : q < x1.heap.size) (hne : some q ≠ (Value.slice na m nc).ownBlock) => (show w8.heap[q]? = x1.heap[q]? from (hgrow.block q (by omega) hne).trans (HW1.out.block q hq)))
            have HGG := Lib.hid (show g + 3 ≤ gg from (World.ownsRow.lt hown8 gg rfl).1)
            have HGZ := Lib.hid (show gg < w8.heap.size from hlt8)
            have HB8 := Lib.hid hb8
            have H82 := Lib.hid hg82
            have HO8 := Lib.hid hown8
            clear hg82 hb8 hown8 hgrow hat hob hsz1 hlt8
            refine hK.out _ _ (MKS.out _ HB8.out) (fun hH8 => ?_)
            clear hK K'
            (try simp only [Act.put, List.setIfInBounds_toArray, List.set_cons_zero, List.set_cons_succ])
            refine wpAnyH_take (i := 9) (oi := ?ofabH2) (v := ?vfabH2) ?hifabH2 (by kernel_rfl) (by kernel_rfl) (by kernel_rfl) ?hQfabH2 ?hyfabH2 hH8 ?_
            case hifabH2 => simp only [List.getElem?_toArray, List.getElem?_cons_zero, List.getElem?_cons_succ]; rfl
            case hQfabH2 => exact fun _ _ _ h => h
            case hyfabH2 => refine Or.inl ⟨by rfl, ?_⟩; intro W hSw; (try dsimp only at hSw); go_simp; try with_reducible rfl
            simp only [Act.put, List.setIfInBounds_toArray, List.set_cons_zero, List.set_cons_succ]
            refine wpAnyH_ready (rs := [10]) (by kernel_rfl) (by simp) ?_
            refine AllReadyH.cons (o := ?ostbH2) ?hostbH2 (fun K' hK => ?_) AllReadyH.nil
            case hostbH2 => simp only [List.getElem?_toArray, List.getElem?_cons_zero, List.getElem?_cons_succ]; rfl
            go_simp
            have HBS := Lib.hid (show Below (g + 2) x1 (w8.setCell ⟨g + 2, 0, none⟩ (.slice (some ⟨gg, 0, none⟩) (m + 1) cap2)) from HB8.out.setCell (p := ⟨g + 2, 0, none⟩) (by simp only; omega) _)
            refine hK.out _ _ (MKS.out _ HBS.out) (fun hH9 => ?_)
            clear hK K'
            (try simp only [Act.put, List.setIfInBounds_toArray, List.set_cons_zero, List.set_cons_succ])
            clear hH9 hH8
            refine wpAnyH_done (by kernel_rfl) ?_ _
            have H9 := Lib.hid (blk_set H82.out 0 (.slice (some ⟨gg, 0, none⟩) (m + 1) cap2))
            have HO9 := Lib.hid (show OwnR (w8.setCell ⟨g + 2, 0, none⟩ (.slice (some ⟨gg, 0, none⟩) (m + 1) cap2)) (g + 3) (.slice (some ⟨gg, 0, none⟩) (m + 1) cap2) (cur ++ [y]) by
              refine OwnR.set ?_ (by omega)
              unfold OwnR
              rw [tcells_append, List.length_append, HLEN.out]
              exact HO8.out)
            have HGR := Lib.hid (fun (q : Nat) (hq : q < x1.heap.size) (hqd : q ≠ g + 2) (hne : some q ≠ (Value.slice na m nc).ownBlock) => (show (w8.setCell ⟨g + 2, 0, none⟩ (.slice (some ⟨gg, 0, none⟩) (m + 1) cap2)).heap[q]? = x1.heap[q]? from by
              simp only [World.setCell]
              rw [Array.getElem?_modify, if_neg (fun e => hqd e.symm)]
              exact HG8.out q hq hne))
            clear c8 f8
            generalize w8.setCell ⟨g + 2, 0, none⟩ (.slice (some ⟨gg, 0, none⟩) (m + 1) cap2) = w9 at *
            go_wp2_with fail
            have HBT := Lib.hid (show Below (g + 2) wr w9 from (HB1.out.mono (by omega)).trans HBS.out)
            go_roundw
            case rel => exact ⟨k + 1, _, _, cur ++ [y], m + 1, by omega, by go_num, by rw [decide_eq_true (by omega)], HST.out, by rw [List.length_append, HLEN.out]; rfl, HO9.out, (HBT.out.block g (by omega)).trans GX0.out, (HBT.out.block (g + 1) (by omega)).trans GX.out, H9.out, HBL.out.trans (HBT.out.mono (by omega))⟩
            case measure => simp [intOf]; omega
      · have gn : ¬ ((k : Int) < (r.length : Int)) := by omega
        have hkl : k = r.length := by omega
        have HKL := Lib.hid hkl
        have GR := Lib.hid ((HBL.out.block (w.heap.size + 1) (by omega)).trans G12.out)
        clear hkl
        by_cases hpr : p < r.length
        · rw [decide_eq_true (by omega)] at hd
          subst hd
          have yd : wr.cell? ⟨g + 2, 0, none⟩ = some (.slice na m nc) := by rw [Lib.cell_of_heap GD.out]; rfl
          have c1 : wr.cell? ⟨w.heap.size + 1, 0, none⟩ = some (.slice none 0 0) := by rw [Lib.cell_of_heap GR.out]; rfl
          have f1 : wr.frozen? ⟨w.heap.size + 1, 0, none⟩ = false := Lib.frozen_of_heap GR.out 0
          go_wp2_with fail
          (try simp only [Exit.inBlock, Exit.then])
          refine bodyPost_ret (ret_row1t rfl _ _ _ _ _ _ _ (by rfl) GR.out Try.underlying34 rfl rsize) rfl ?_
          have hcur := HCUR.out
          rw [HKL.out, outT, if_pos hpr, List.take_length] at hcur
          rw [HU.out, HUE.out, hcur, HLEN.out]
          exact ⟨na, nc, rfl, (HOWN.out.set (by omega)).less (by omega), (HB2.out.trans (HBL.out.mono (by omega))).setCell (p := ⟨w.heap.size + 1, 0, none⟩) (by simp only; omega) _⟩
        · rw [decide_eq_false (by omega)] at hd
          subst hd
          have hk1 := (Below.refl wr.heap.size wr).alloc (Nat.le_refl _) (.cells #[.string n, .int .i64 t] 65)
          have ydx : wr.cell? ⟨g + 2, 0, none⟩ = some (.slice na m nc) := by rw [Lib.cell_of_heap GD.out]; rfl
          have yx : wr.cell? ⟨g + 1, 0, none⟩ = some (.string n) ∧ wr.cell? ⟨g + 1, 1, none⟩ = some (.int .i64 t) := ⟨by rw [Lib.cell_of_heap GX.out]; rfl, by rw [Lib.cell_of_heap GX.out]; rfl⟩
          obtain ⟨yx0, yx1⟩ := yx
          have HO2 := Lib.hid (show (wr.alloc (.cells #[.string n, .int .i64 t] 65)).ownsRow (g + 3) 65 2 (.slice na m nc) m (tcells cur) by
            have h1 := HOWN.out.keep hk1
            unfold OwnR at h1
            rw [HLEN.out] at h1
            exact h1)
          have HK1 := Lib.hid hk1
          have HA := Lib.hid (heap_alloc_new wr (.cells #[.string n, .int .i64 t] 65))
          have HSZ := Lib.hid (World.size_alloc wr (.cells #[.string n, .int .i64 t] 65))
          have HOB := Lib.hid (fun (q : Nat) (hq : (Value.slice na m nc).ownBlock = some q) => (show g + 3 ≤ q from (World.ownsRow.lt HO2.out q hq).1))
          have FC := Lib.hid (fun (W8 : World) (hg : (wr.alloc (.cells #[.string n, .int .i64 t] 65)).grownBy W8 (Value.slice na m nc).ownBlock) => (show W8.heap[g + 2]? = some (.cells #[.slice na m nc] 34) from (hg.block (g + 2) (by have := HSZ.out; omega) (fun e => by have := HOB.out _ e.symm; omega)).trans ((HK1.out.block (g + 2) (by omega)).trans GD.out)))
          have FB := Lib.hid (fun (W8 : World) (hg : (wr.alloc (.cells #[.string n, .int .i64 t] 65)).grownBy W8 (Value.slice na m nc).ownBlock) => (show Below (g + 2) wr W8 from (HK1.out.mono (by omega)).trans ⟨hg.os, hg.tape, hg.output, hg.size, fun q hq => hg.block q (by have := HSZ.out; omega) (fun e => by have := HOB.out q e.symm; omega)⟩))
          clear hk1
          go_upto_region 17 with (at_builtin; refine wpList_append_lies _ rfl _ _ 32 rfl (g + 3) 65 i0 _ 2 24 Try.underlying32 hi0 hzz0 hzz1 hzz2 rfl (by omega) _ _ _ rfl HO2.out ⟨wr.heap.size, 0, none⟩ 1 1 [.string n, .int .i64 t] rfl rfl (World.news_of_block HA.out) (by simp [Value.oneCell']) (by omega) (by unfold maxLen; omega) (by omega) (by have := HSZ.out; omega) _ rfl ?_; intro gg cap2 w8 hown8 hgrow hat hlt8; have c8 : w8.cell? ⟨g + 2, 0, none⟩ = some (.slice na m nc) := (by rw [Lib.cell_of_heap (FC.out w8 hgrow)]; rfl); have f8 : w8.frozen? ⟨g + 2, 0, none⟩ = false := Lib.frozen_of_heap (FC.out w8 hgrow) 0; have HG8 := Lib.hid hgrow; have HO8 := Lib.hid hown8; clear hown8 hgrow hat hlt8)
          have HBZ := Lib.hid (show Below (g + 2) wr (w8.setCell ⟨g + 2, 0, none⟩ (.slice (some ⟨gg, 0, none⟩) (m + 1) cap2)) from (FB.out w8 HG8.out).setCell (p := ⟨g + 2, 0, none⟩) (by simp only; omega) _)
          have GDZ := Lib.hid (blk_set (FC.out w8 HG8.out) 0 (.slice (some ⟨gg, 0, none⟩) (m + 1) cap2))
          have HOZ := Lib.hid (show OwnR (w8.setCell ⟨g + 2, 0, none⟩ (.slice (some ⟨gg, 0, none⟩) (m + 1) cap2)) (g + 3) (.slice (some ⟨gg, 0, none⟩) (m + 1) cap2) (cur ++ [⟨n, t⟩]) by
            refine OwnR.set ?_ (by omega)
            unfold OwnR
            rw [tcells_append, List.length_append, HLEN.out]
            exact HO8.out)
          have HSZ8 := Lib.hid (show g + 3 ≤ (w8.setCell ⟨g + 2, 0, none⟩ (.slice (some ⟨gg, 0, none⟩) (m + 1) cap2)).heap.size by rw [World.size_setCell]; have := (FB.out w8 HG8.out).size; omega)
          have HLZ := Lib.hid (show (cur ++ [(⟨n, t⟩ : TM)]).length = m + 1 by rw [List.length_append, HLEN.out]; rfl)
          clear c8 f8 ydx yx0 yx1
          generalize w8.setCell ⟨g + 2, 0, none⟩ (.slice (some ⟨gg, 0, none⟩) (m + 1) cap2) = wz at *
          have GRZ := Lib.hid ((HBZ.out.block (w.heap.size + 1) (by omega)).trans GR.out)
          have yd : wz.cell? ⟨g + 2, 0, none⟩ = some (.slice (some ⟨gg, 0, none⟩) (m + 1) cap2) := by rw [Lib.cell_of_heap GDZ.out]; rfl
          have c1 : wz.cell? ⟨w.heap.size + 1, 0, none⟩ = some (.slice none 0 0) := by rw [Lib.cell_of_heap GRZ.out]; rfl
          have f1 : wz.frozen? ⟨w.heap.size + 1, 0, none⟩ = false := Lib.frozen_of_heap GRZ.out 0
          go_wp2_with fail
          (try simp only [Exit.inBlock, Exit.then])
          refine bodyPost_ret (ret_row1t rfl _ _ _ _ _ _ _ (by rfl) GRZ.out Try.underlying34 rfl rsize) rfl ?_
          have hcur := HCUR.out
          have hpe : p = r.length := by omega
          rw [HKL.out, outT, if_neg hpr, List.take_length] at hcur
          have hfin : insT p ⟨n, t⟩ r = cur ++ [⟨n, t⟩] := by rw [← hcur, hpe, insT, List.take_length, List.drop_length]
          have hl2 := HLZ.out
          rw [HU.out, HUE.out, hfin, hl2]
          exact ⟨_, _, rfl, (HOZ.out.set (by omega)).less (by omega), (HB2.out.trans ((HBL.out.mono (by omega)).trans (HBZ.out.mono (by omega)))).setCell (p := ⟨w.heap.size + 1, 0, none⟩) (by simp only; omega) _⟩
end Go.Proofs.Ytpadbkplknnopaa
