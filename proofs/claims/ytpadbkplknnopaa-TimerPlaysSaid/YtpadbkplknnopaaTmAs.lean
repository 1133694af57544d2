/-
  The walk of bucketlinelaw12.as.
-/
import Derived.Test.YtpadbkplknnopaaTmSame
import Derived.Test.YtpadbkplknnopaaRegInv
namespace Go.Proofs.Ytpadbkplknnopaa
set_option linter.unusedSimpArgs false
open Go.RowKit

theorem Try.rinfo : (Try.prog.info? 65).map (fun i => (i.zero, i.size, i.bytes)) = some (some (.agg #[.string ByteArray.empty, .int .i64 0]), 2, 24) := by kernel_rfl
theorem rsize : (Try.prog.info? 34).map (·.size) = some 1 := by kernel_rfl
/-- A row of the reference's timers that the call made. -/
def OwnR (w : World) (base : Nat) (v : Value) (l : List TM) : Prop := w.ownsRow base 65 2 v l.length (tcells l)
theorem OwnR.form {w : World} {base : Nat} {v : Value} {l : List TM} (h : OwnR w base v l) : ∃ a cap, v = .slice a l.length cap := by
  rcases h.2 with ⟨rfl, h0⟩ | ⟨g, cap, cur, rfl, _⟩
  · exact ⟨none, 0, by rw [h0]⟩
  · exact ⟨_, _, rfl⟩
theorem OwnR.keep {w w' : World} {b : Nat} {v : Value} {l : List TM} (h : OwnR w b v l) (k : Below w.heap.size w w') : OwnR w' b v l := own_below k h
theorem OwnR.less {w : World} {b b' : Nat} {v : Value} {l : List TM} (hb : b ≤ b') (h : OwnR w b' v l) : OwnR w b v l := own_less hb h
theorem OwnR.set {w : World} {b g o : Nat} {v x : Value} {l : List TM} (h : OwnR w b v l) (hg : g < b) : OwnR (w.setCell ⟨g, o, none⟩ x) b v l := by
  refine World.ownsRow.kept h (row := some g) ⟨rfl, rfl, rfl, by rw [World.size_setCell]; exact Nat.le_refl _, fun k _ hne => ?_⟩ ?_
  · simp only [World.setCell]
    rw [Array.getElem?_modify, if_neg (fun e => hne (by rw [e]))]
  · rcases h.2 with ⟨rfl, _⟩ | ⟨b2, cap, cur, rfl, h1, _⟩
    · exact .inl rfl
    · refine .inr ?_
      simp only [Value.ownBlock, ne_eq, Option.some.injEq]
      omega
theorem ownr_nil (w : World) (b : Nat) : OwnR w b (.slice none 0 0) [] := ⟨rfl, .inl ⟨rfl, rfl⟩⟩
theorem OwnR.tq {w : World} {base : Nat} {v : Value} {l : List TM} (h : OwnR w base v l) (hz : l.length ≤ 1000) : IsTq w.heap.size w (.agg #[v]) l := by
  rcases h.2 with ⟨rfl, h0⟩ | ⟨g, cap, cur, rfl, hb, hg, hn, hc, hsz, htk⟩
  · have : l = [] := List.eq_nil_of_length_eq_zero h0
    subst this
    exact tq_nil _ _
  · refine ⟨_, rfl, ⟨_, _, rfl, hn, hc, fun e => (by cases e), fun hp => ⟨g, 0, rfl, (Array.getElem?_eq_some_iff.1 hg).1, fun i hi => ?_⟩⟩, .inr ⟨g, 0, cap, rfl⟩⟩
    have key : ∀ j u, (tcells l)[j]? = some u → w.cell? ⟨g, 0 + j, none⟩ = some u := fun j u hu => by
      have hj : j < l.length * 2 := by
        have := (List.getElem?_eq_some_iff.1 hu).1
        rwa [tcells_len] at this
      rw [Nat.zero_add, cell_of_row w g j cur _ _ hg, ← Array.getElem?_toList]
      rw [← htk, List.getElem?_take_of_lt hj] at hu
      exact hu
    have h6 := tcells_at l i hi
    exact ⟨key _ _ h6.1, by rw [Nat.zero_add]; have := key _ _ h6.2; rwa [Nat.zero_add] at this⟩

theorem blk_old {w : World} {g k : Nat} {x : Value} {o : Obj} (hne : k ≠ g) (h : w.heap[k]? = some o) : (w.setCell ⟨g, 0, none⟩ x).heap[k]? = some o := by
  simp only [World.setCell]
  rw [Array.getElem?_modify, if_neg (fun e => hne e.symm)]
  exact h

set_option maxRecDepth 100000 in
set_option maxHeartbeats 1600000 in
theorem as_any (B : Nat) (v : Value) (l : List TM) (hl64 : l.length ≤ 1000) (w : World) (h : IsTms B w v l) (hB : B ≤ w.heap.size) :
    Calls Try.prog 11 #[v] w fun r w' => ∃ a c, r = .returned (.agg #[.slice a l.length c]) ∧ OwnR w' w.heap.size (.slice a l.length c) l ∧ Below w.heap.size w w' := by
  obtain ⟨i0, hi0, hzz0, hzz1, hzz2⟩ := info_parts Try.rinfo
  obtain ⟨lv, rfl, h⟩ := h
  have HL := Lib.hid h
  obtain ⟨a, cap, rfl⟩ := h.form
  have HB := Lib.hid hB
  clear h hB
  go_enter Try.func11, Try.ntmps11
  go_wp2_with fail
  go_loopw [4] (fun t4 wr => ∃ (k : Nat) (na : Option Addr) (nc : Nat), k ≤ l.length ∧ t4 = .int .i64 k ∧ OwnR wr (w.heap.size + 3) (.slice na k nc) (l.take k) ∧ wr.heap[w.heap.size]? = some (.cells #[.slice a l.length cap] 26) ∧ wr.heap[w.heap.size + 1]? = some (.cells #[.slice none 0 0] 34) ∧
    wr.heap[w.heap.size + 2]? = some (.cells #[.slice na k nc] 34) ∧ Below w.heap.size w wr) (fun t4 _ => l.length - (intOf t4).toNat)
  case atStart =>
    refine ⟨0, none, 0, Nat.zero_le _, rfl, by simpa using ownr_nil _ _, ?_, ?_, ?_, (((Below.refl _ _).alloc (Nat.le_refl _) _).alloc (by rw [World.size_alloc]; omega) _).alloc (by rw [World.size_alloc, World.size_alloc]; omega) _⟩
    · rw [heap_alloc_old _ _ (by rw [World.size_alloc, World.size_alloc]; omega), heap_alloc_old _ _ (by rw [World.size_alloc]; omega)]
      exact heap_alloc_new w _
    · rw [heap_alloc_old _ _ (by rw [World.size_alloc, World.size_alloc]; omega)]
      exact heap_alloc2_new w _ _
    · have h5 := heap_alloc_new ((w.alloc (.cells #[.slice a l.length cap] 26)).alloc (.cells #[.slice none 0 0] 34)) (.cells #[.slice none 0 0] 34)
      rwa [World.size_alloc, World.size_alloc] at h5
  case round =>
    obtain ⟨k, na, nc, hk, rfl, hown, hg0, hg1, hg2, hbl⟩ := hrel
    have hz2 : w.heap.size + 2 < wr.heap.size := (Array.getElem?_eq_some_iff.1 hg2).1
    have y0 : wr.cell? ⟨w.heap.size, 0, none⟩ = some (.slice a l.length cap) := by rw [Lib.cell_of_heap hg0]; rfl
    have y2 : wr.cell? ⟨w.heap.size + 2, 0, none⟩ = some (.slice na k nc) := by rw [Lib.cell_of_heap hg2]; rfl
    have HOWN := Lib.hid hown
    have HBL := Lib.hid hbl
    have G0 := Lib.hid hg0
    have G1 := Lib.hid hg1
    have G2 := Lib.hid hg2
    clear hown hbl hg0 hg1 hg2
    by_cases hlt : k < l.length
    · obtain ⟨b, off, q1, he, hbB, _, hc1, hd1⟩ := (HL.out.keep HBL.out HB.out).get k hlt
      obtain ⟨rfl, -, rfl⟩ : a = some ⟨b, off, none⟩ ∧ l.length = l.length ∧ cap = q1 := by injection he with e1 e2 e3; exact ⟨e1, e2, e3⟩
      clear he
      obtain ⟨y, hy⟩ : ∃ y, l[k] = y := ⟨_, rfl⟩
      rw [hy] at hc1 hd1
      have Hy := Lib.hid hy
      have i1 : (0 : Int) ≤ (k : Int) := by omega
      have i2 : (k : Int) < (l.length : Int) := by omega
      clear hy
      have hBH := HB.out
      have MKS := Lib.hid (fun (X : World) (hX : Below (w.heap.size + 1) wr X) => (show (fun X => X.cell? ⟨w.heap.size, 0, none⟩ = some (.slice (some ⟨b, off, none⟩) l.length cap) ∧ X.cell? ⟨b, off + k * 2, none⟩ = some (.string y.name) ∧ X.cell? ⟨b, off + k * 2 + 1, none⟩ = some (.int .i64 y.at_)) X from ⟨(hX.cell (p := ⟨w.heap.size, 0, none⟩) (by simp only; omega)).trans y0, (hX.cell (p := ⟨b, off + k * 2, none⟩) (by simp only; omega)).trans hc1, (hX.cell (p := ⟨b, off + k * 2 + 1, none⟩) (by simp only; omega)).trans hd1⟩))
      clear hBH
      go_wp2_with fail
      refine region_begin (S := fun X => X.cell? ⟨w.heap.size, 0, none⟩ = some (.slice (some ⟨b, off, none⟩) l.length cap) ∧ X.cell? ⟨b, off + k * 2, none⟩ = some (.string y.name) ∧ X.cell? ⟨b, off + k * 2 + 1, none⟩ = some (.int .i64 y.at_)) 19 rfl (by kernel_rfl) (MKS.out _ (Below.refl _ _).drew) (fun hH0 => ?_)
      refine wpAnyH_take (i := 0) (oi := ?os0) (v := ?vs0) ?his0 (by kernel_rfl) (by kernel_rfl) (by kernel_rfl) ?hQs0 ?hys0 hH0 ?_
      case his0 => simp only [List.getElem?_toArray, List.getElem?_cons_zero]; rfl
      case hQs0 => exact fun _ _ _ h => h
      case hys0 => refine Or.inl ⟨by rfl, ?_⟩; intro W hSw; (try dsimp only at hSw); go_simp; try with_reducible rfl
      simp only [Act.put, List.setIfInBounds_toArray, List.set_cons_zero]
      refine wpAnyH_take (i := 2) (oi := ?os2) (v := ?vs2) ?his2 (by kernel_rfl) (by kernel_rfl) (by kernel_rfl) ?hQs2 ?hys2 hH0 ?_
      case his2 => simp only [List.getElem?_toArray, List.getElem?_cons_zero, List.getElem?_cons_succ]; rfl
      case hQs2 => exact fun _ _ _ h => h
      case hys2 => refine Or.inl ⟨by rfl, ?_⟩; intro W hSw; (try dsimp only at hSw); go_simp; try with_reducible rfl
      simp only [Act.put, List.setIfInBounds_toArray, List.set_cons_zero, List.set_cons_succ]
      refine wpAnyH_take (i := 3) (oi := ?os3) (v := ?vs3) ?his3 (by kernel_rfl) (by kernel_rfl) (by kernel_rfl) ?hQs3 ?hys3 hH0 ?_
      case his3 => simp only [List.getElem?_toArray, List.getElem?_cons_zero, List.getElem?_cons_succ]; rfl
      case hQs3 => exact fun _ _ _ h => h
      case hys3 => refine Or.inl ⟨by rfl, ?_⟩; intro W hSw; (try dsimp only at hSw); go_simp; try with_reducible rfl
      simp only [Act.put, List.setIfInBounds_toArray, List.set_cons_zero, List.set_cons_succ]
      refine wpAnyH_take (i := 4) (oi := ?os4) (v := ?vs4) ?his4 (by kernel_rfl) (by kernel_rfl) (by kernel_rfl) ?hQs4 ?hys4 hH0 ?_
      case his4 => simp only [List.getElem?_toArray, List.getElem?_cons_zero, List.getElem?_cons_succ]; rfl
      case hQs4 => exact fun _ _ _ h => h
      case hys4 => refine Or.inl ⟨by rfl, ?_⟩; intro W hSw; (try dsimp only at hSw); go_simp; try with_reducible rfl
      simp only [Act.put, List.setIfInBounds_toArray, List.set_cons_zero, List.set_cons_succ]
      refine wpAnyH_take (i := 5) (oi := ?os5) (v := ?vs5) ?his5 (by kernel_rfl) (by kernel_rfl) (by kernel_rfl) ?hQs5 ?hys5 hH0 ?_
      case his5 => simp only [List.getElem?_toArray, List.getElem?_cons_zero, List.getElem?_cons_succ]; rfl
      case hQs5 => exact fun _ _ _ h => h
      case hys5 => refine Or.inl ⟨by rfl, ?_⟩; intro W hSw; (try dsimp only at hSw); go_simp; try with_reducible rfl
      simp only [Act.put, List.setIfInBounds_toArray, List.set_cons_zero, List.set_cons_succ]
      refine wpAnyH_take (i := 6) (oi := ?os6) (v := ?vs6) ?his6 (by kernel_rfl) (by kernel_rfl) (by kernel_rfl) ?hQs6 ?hys6 hH0 ?_
      case his6 => simp only [List.getElem?_toArray, List.getElem?_cons_zero, List.getElem?_cons_succ]; rfl
      case hQs6 => exact fun _ _ _ h => h
      case hys6 => refine Or.inl ⟨by rfl, ?_⟩; intro W hSw; (try dsimp only at hSw); go_simp; try with_reducible rfl
      simp only [Act.put, List.setIfInBounds_toArray, List.set_cons_zero, List.set_cons_succ]
      refine wpAnyH_take (i := 7) (oi := ?os7) (v := ?vs7) ?his7 (by kernel_rfl) (by kernel_rfl) (by kernel_rfl) ?hQs7 ?hys7 hH0 ?_
      case his7 => simp only [List.getElem?_toArray, List.getElem?_cons_zero, List.getElem?_cons_succ]; rfl
      case hQs7 => exact fun _ _ _ h => h
      case hys7 => refine Or.inl ⟨by rfl, ?_⟩; intro W hSw; (try dsimp only at hSw); go_simp; try with_reducible rfl
      simp only [Act.put, List.setIfInBounds_toArray, List.set_cons_zero, List.set_cons_succ]
      refine wpAnyH_take (i := 8) (oi := ?os8) (v := ?vs8) ?his8 (by kernel_rfl) (by kernel_rfl) (by kernel_rfl) ?hQs8 ?hys8 hH0 ?_
      case his8 => simp only [List.getElem?_toArray, List.getElem?_cons_zero, List.getElem?_cons_succ]; rfl
      case hQs8 => exact fun _ _ _ h => h
      case hys8 => refine Or.inl ⟨by rfl, ?_⟩; intro W hSw; (try dsimp only at hSw); go_simp; try with_reducible rfl
      simp only [Act.put, List.setIfInBounds_toArray, List.set_cons_zero, List.set_cons_succ]
      refine wpAnyH_take (i := 9) (oi := ?os9) (v := ?vs9) ?his9 (by kernel_rfl) (by kernel_rfl) (by kernel_rfl) ?hQs9 ?hys9 hH0 ?_
      case his9 => simp only [List.getElem?_toArray, List.getElem?_cons_zero, List.getElem?_cons_succ]; rfl
      case hQs9 => exact fun _ _ _ h => h
      case hys9 => refine Or.inl ⟨by rfl, ?_⟩; intro W hSw; (try dsimp only at hSw); go_simp; try with_reducible rfl
      simp only [Act.put, List.setIfInBounds_toArray, List.set_cons_zero, List.set_cons_succ]
      refine wpAnyH_take (i := 10) (oi := ?os10) (v := ?vs10) ?his10 (by kernel_rfl) (by kernel_rfl) (by kernel_rfl) ?hQs10 ?hys10 hH0 ?_
      case his10 => simp only [List.getElem?_toArray, List.getElem?_cons_zero, List.getElem?_cons_succ]; rfl
      case hQs10 => exact fun _ _ _ h => h
      case hys10 => refine Or.inl ⟨by rfl, ?_⟩; intro W hSw; (try dsimp only at hSw); go_simp; try with_reducible rfl
      simp only [Act.put, List.setIfInBounds_toArray, List.set_cons_zero, List.set_cons_succ]
      refine wpAnyH_take (i := 11) (oi := ?os11) (v := ?vs11) ?his11 (by kernel_rfl) (by kernel_rfl) (by kernel_rfl) ?hQs11 ?hys11 hH0 ?_
      case his11 => simp only [List.getElem?_toArray, List.getElem?_cons_zero, List.getElem?_cons_succ]; rfl
      case hQs11 => exact fun _ _ _ h => h
      case hys11 => refine Or.inl ⟨by rfl, ?_⟩; intro W hSw; (try dsimp only at hSw); go_simp; try with_reducible rfl
      simp only [Act.put, List.setIfInBounds_toArray, List.set_cons_zero, List.set_cons_succ]
      refine wpAnyH_take (i := 12) (oi := ?os12) (v := ?vs12) ?his12 (by kernel_rfl) (by kernel_rfl) (by kernel_rfl) ?hQs12 ?hys12 hH0 ?_
      case his12 => simp only [List.getElem?_toArray, List.getElem?_cons_zero, List.getElem?_cons_succ]; rfl
      case hQs12 => exact fun _ _ _ h => h
      case hys12 => refine Or.inl ⟨by rfl, ?_⟩; intro W hSw; (try dsimp only at hSw); go_simp; try with_reducible rfl
      simp only [Act.put, List.setIfInBounds_toArray, List.set_cons_zero, List.set_cons_succ]
      refine wpAnyH_take (i := 13) (oi := ?os13) (v := ?vs13) ?his13 (by kernel_rfl) (by kernel_rfl) (by kernel_rfl) ?hQs13 ?hys13 hH0 ?_
      case his13 => simp only [List.getElem?_toArray, List.getElem?_cons_zero, List.getElem?_cons_succ]; rfl
      case hQs13 => exact fun _ _ _ h => h
      case hys13 => refine Or.inl ⟨by rfl, ?_⟩; intro W hSw; (try dsimp only at hSw); go_simp; try with_reducible rfl
      simp only [Act.put, List.setIfInBounds_toArray, List.set_cons_zero, List.set_cons_succ]
      refine wpAnyH_take (i := 14) (oi := ?os14) (v := ?vs14) ?his14 (by kernel_rfl) (by kernel_rfl) (by kernel_rfl) ?hQs14 ?hys14 hH0 ?_
      case his14 => simp only [List.getElem?_toArray, List.getElem?_cons_zero, List.getElem?_cons_succ]; rfl
      case hQs14 => exact fun _ _ _ h => h
      case hys14 => refine Or.inl ⟨by rfl, ?_⟩; intro W hSw; (try dsimp only at hSw); go_simp; try with_reducible rfl
      simp only [Act.put, List.setIfInBounds_toArray, List.set_cons_zero, List.set_cons_succ]
      clear hH0
      have hwd : Below wr.heap.size wr wr.drew := (Below.refl _ _).drew
      have hy2 : wr.drew.cell? ⟨w.heap.size + 2, 0, none⟩ = some (.slice na k nc) := y2
      have hsw : wr.drew.heap.size = wr.heap.size := rfl
      generalize wr.drew = w0 at *
      clear y0 y2 hc1 hd1
      have hw1 : Below wr.heap.size wr (w0.alloc (.cells #[.string y.name, .int .i64 y.at_] 65)) := hwd.alloc (by omega) _
      have hx1 : (w0.alloc (.cells #[.string y.name, .int .i64 y.at_] 65)).heap[w0.heap.size]? = some (.cells #[.string y.name, .int .i64 y.at_] 65) := heap_alloc_new _ _
      have hy3 : (w0.alloc (.cells #[.string y.name, .int .i64 y.at_] 65)).cell? ⟨w.heap.size + 2, 0, none⟩ = some (.slice na k nc) := (((Below.refl w0.heap.size w0).alloc (Nat.le_refl _) (.cells #[.string y.name, .int .i64 y.at_] 65)).cell (p := ⟨w.heap.size + 2, 0, none⟩) (by simp only; omega)).trans hy2
      have hs1 : (w0.alloc (.cells #[.string y.name, .int .i64 y.at_] 65)).heap.size = w0.heap.size + 1 := by rw [World.size_alloc]
      have HX1 := Lib.hid hx1
      have HW1 := Lib.hid hw1
      have HWD := Lib.hid hwd
      have HS1 := Lib.hid hs1
      have HSW := Lib.hid hsw
      have HO1 := Lib.hid (show (w0.alloc (.cells #[.string y.name, .int .i64 y.at_] 65)).ownsRow (w.heap.size + 3) 65 2 (.slice na k nc) k (tcells (l.take k)) by
        have h1 := HOWN.out.keep hw1
        unfold OwnR at h1
        rw [List.length_take, Nat.min_eq_left (by omega)] at h1
        exact h1)
      clear hx1 hw1 hwd hs1 hsw
      refine wpAnyH_ready (rs := [1, 15]) (by kernel_rfl) (by simp) ?_
      refine AllReadyH.cons (o := ?otwa) ?hotwa (fun K' hK => ?_) (AllReadyH.cons (o := ?otwb) ?hotwb (fun K' hK => ?_) AllReadyH.nil)
      case hotwa => simp only [List.getElem?_toArray, List.getElem?_cons_zero, List.getElem?_cons_succ]; rfl
      case hotwb => simp only [List.getElem?_toArray, List.getElem?_cons_zero, List.getElem?_cons_succ]; rfl
      · go_simp
        refine hK.out _ _ (MKS.out _ (HWD.out.mono (by omega))) (fun hHa => ?_)
        clear hK K'
        (try simp only [Act.put, List.setIfInBounds_toArray, List.set_cons_zero, List.set_cons_succ])
        clear hHa
        refine wpAnyH_ready (rs := [15]) (by kernel_rfl) (by simp) ?_
        refine AllReadyH.cons (o := ?obsa) ?hobsa (fun K' hK => ?_) AllReadyH.nil
        case hobsa => simp only [List.getElem?_toArray, List.getElem?_cons_zero, List.getElem?_cons_succ]; rfl
        go_simp
        refine hK.out _ _ (MKS.out _ (HW1.out.mono (by omega))) (fun hHb => ?_)
        clear hK K'
        (try simp only [Act.put, List.setIfInBounds_toArray, List.set_cons_zero, List.set_cons_succ])
        clear hHb
        generalize w0.alloc (.cells #[.string y.name, .int .i64 y.at_] 65) = w1 at *
        refine wpAnyH_ready (rs := [16]) (by kernel_rfl) (by simp) ?_
        refine AllReadyH.cons (o := ?oapa) ?hoapa (fun K' hK => ?_) AllReadyH.nil
        case hoapa => simp only [List.getElem?_toArray, List.getElem?_cons_zero, List.getElem?_cons_succ]; rfl
        refine step_append_lies _ (by rfl) _ _ _ (by rfl) (w.heap.size + 3) 65 i0 _ 2 24 Try.underlying32 hi0 hzz0 hzz1 hzz2 rfl (by omega) _ _ _ (by rfl) HO1.out ⟨w0.heap.size, 0, none⟩ 1 1 [.string y.name, .int .i64 y.at_] (by rfl) (by rfl) (World.news_of_block HX1.out) (by simp [Value.oneCell']) (by omega) (by unfold maxLen; omega) (by omega) (by have := HS1.out; have := HSW.out; omega) _ rfl ?_
        intro gg cap2 w8 hown8 hgrow hat hlt8
        have hsz1 : wr.heap.size < w1.heap.size := by have := HS1.out; have := HSW.out; omega
        have hob : ∀ q, (Value.slice na k nc).ownBlock = some q → w.heap.size + 3 ≤ q := fun q hq => (World.ownsRow.lt HO1.out q hq).1
        have hg80 := (hgrow.block w.heap.size (by omega) (fun e => by have := hob _ e.symm; omega)).trans ((HW1.out.block w.heap.size (by omega)).trans G0.out)
        have hg81 := (hgrow.block (w.heap.size + 1) (by omega) (fun e => by have := hob _ e.symm; omega)).trans ((HW1.out.block (w.heap.size + 1) (by omega)).trans G1.out)
        have hg82 := (hgrow.block (w.heap.size + 2) (by omega) (fun e => by have := hob _ e.symm; omega)).trans ((HW1.out.block (w.heap.size + 2) (by omega)).trans G2.out)
        have hb8 : Below (w.heap.size + 1) wr w8 := (HW1.out.mono (by omega)).trans ⟨hgrow.os, hgrow.tape, hgrow.output, hgrow.size, fun q hq => hgrow.block q (by omega) (fun e => by have := hob q e.symm; omega)⟩
        have c8 : w8.cell? ⟨w.heap.size + 2, 0, none⟩ = some (.slice na k nc) := by rw [Lib.cell_of_heap hg82]; rfl
        have f8 : w8.frozen? ⟨w.heap.size + 2, 0, none⟩ = false := Lib.frozen_of_heap hg82 0
        have HB8 := Lib.hid hb8
        have H80 := Lib.hid hg80
        have H81 := Lib.hid hg81
        have H82 := Lib.hid hg82
        have HO8 := Lib.hid hown8
        clear hg80 hg81 hg82 hb8 hown8 hgrow hat hob hsz1
        refine hK.out _ _ (MKS.out _ HB8.out) (fun hH8 => ?_)
        clear hK K'
        (try simp only [Act.put, List.setIfInBounds_toArray, List.set_cons_zero, List.set_cons_succ])
        refine wpAnyH_take (i := 17) (oi := ?ofaa) (v := ?vfaa) ?hifaa (by kernel_rfl) (by kernel_rfl) (by kernel_rfl) ?hQfaa ?hyfaa hH8 ?_
        case hifaa => simp only [List.getElem?_toArray, List.getElem?_cons_zero, List.getElem?_cons_succ]; rfl
        case hQfaa => exact fun _ _ _ h => h
        case hyfaa => refine Or.inl ⟨by rfl, ?_⟩; intro W hSw; (try dsimp only at hSw); go_simp; try with_reducible rfl
        simp only [Act.put, List.setIfInBounds_toArray, List.set_cons_zero, List.set_cons_succ]
        refine wpAnyH_ready (rs := [18]) (by kernel_rfl) (by simp) ?_
        refine AllReadyH.cons (o := ?osta) ?hosta (fun K' hK => ?_) AllReadyH.nil
        case hosta => simp only [List.getElem?_toArray, List.getElem?_cons_zero, List.getElem?_cons_succ]; rfl
        go_simp
        have hbs : Below (w.heap.size + 1) wr (w8.setCell ⟨w.heap.size + 2, 0, none⟩ (.slice (some ⟨gg, 0, none⟩) (k + 1) cap2)) := HB8.out.setCell (p := ⟨w.heap.size + 2, 0, none⟩) (by simp only; omega) _
        have HBS := Lib.hid hbs
        clear hbs
        refine hK.out _ _ (MKS.out _ HBS.out) (fun hH9 => ?_)
        clear hK K'
        (try simp only [Act.put, List.setIfInBounds_toArray, List.set_cons_zero, List.set_cons_succ])
        clear hH9
        refine wpAnyH_done (by kernel_rfl) ?_ _
        have h90 := blk_old (g := w.heap.size + 2) (x := .slice (some ⟨gg, 0, none⟩) (k + 1) cap2) (by omega) H80.out
        have h91 := blk_old (g := w.heap.size + 2) (x := .slice (some ⟨gg, 0, none⟩) (k + 1) cap2) (by omega) H81.out
        have h92 := blk_set H82.out 0 (.slice (some ⟨gg, 0, none⟩) (k + 1) cap2)
        have ho9 : OwnR (w8.setCell ⟨w.heap.size + 2, 0, none⟩ (.slice (some ⟨gg, 0, none⟩) (k + 1) cap2)) (w.heap.size + 3) (.slice (some ⟨gg, 0, none⟩) (k + 1) cap2) (l.take (k + 1)) := by
          refine OwnR.set ?_ (by omega)
          unfold OwnR
          rw [List.take_succ_eq_append_getElem hlt, Hy.out, tcells_append, List.length_append, List.length_take, Nat.min_eq_left (by omega)]
          exact HO8.out
        have H90 := Lib.hid h90
        have H91 := Lib.hid h91
        have H92 := Lib.hid h92
        have HO9 := Lib.hid ho9
        clear h90 h91 h92 ho9 c8 f8
        generalize w8.setCell ⟨w.heap.size + 2, 0, none⟩ (.slice (some ⟨gg, 0, none⟩) (k + 1) cap2) = w9 at *
        go_wp2_with fail
        go_roundw
        case rel => exact ⟨k + 1, _, _, by omega, by go_num, HO9.out, H90.out, H91.out, H92.out, HBL.out.trans (HBS.out.mono (by omega))⟩
        case measure => simp [intOf]; omega
      · go_simp
        refine hK.out _ _ (MKS.out _ (HW1.out.mono (by omega))) (fun hHa => ?_)
        clear hK K'
        (try simp only [Act.put, List.setIfInBounds_toArray, List.set_cons_zero, List.set_cons_succ])
        clear hHa
        refine wpAnyH_ready (rs := [1]) (by kernel_rfl) (by simp) ?_
        refine AllReadyH.cons (o := ?ol1b) ?hol1b (fun K' hK => ?_) AllReadyH.nil
        case hol1b => simp only [List.getElem?_toArray, List.getElem?_cons_zero, List.getElem?_cons_succ]; rfl
        go_simp
        refine hK.out _ _ (MKS.out _ (HW1.out.mono (by omega))) (fun hHb => ?_)
        clear hK K'
        (try simp only [Act.put, List.setIfInBounds_toArray, List.set_cons_zero, List.set_cons_succ])
        clear hHb
        generalize w0.alloc (.cells #[.string y.name, .int .i64 y.at_] 65) = w1 at *
        refine wpAnyH_ready (rs := [16]) (by kernel_rfl) (by simp) ?_
        refine AllReadyH.cons (o := ?oapb) ?hoapb (fun K' hK => ?_) AllReadyH.nil
        case hoapb => simp only [List.getElem?_toArray, List.getElem?_cons_zero, List.getElem?_cons_succ]; rfl
        refine step_append_lies _ (by rfl) _ _ _ (by rfl) (w.heap.size + 3) 65 i0 _ 2 24 Try.underlying32 hi0 hzz0 hzz1 hzz2 rfl (by omega) _ _ _ (by rfl) HO1.out ⟨w0.heap.size, 0, none⟩ 1 1 [.string y.name, .int .i64 y.at_] (by rfl) (by rfl) (World.news_of_block HX1.out) (by simp [Value.oneCell']) (by omega) (by unfold maxLen; omega) (by omega) (by have := HS1.out; have := HSW.out; omega) _ rfl ?_
        intro gg cap2 w8 hown8 hgrow hat hlt8
        have hsz1 : wr.heap.size < w1.heap.size := by have := HS1.out; have := HSW.out; omega
        have hob : ∀ q, (Value.slice na k nc).ownBlock = some q → w.heap.size + 3 ≤ q := fun q hq => (World.ownsRow.lt HO1.out q hq).1
        have hg80 := (hgrow.block w.heap.size (by omega) (fun e => by have := hob _ e.symm; omega)).trans ((HW1.out.block w.heap.size (by omega)).trans G0.out)
        have hg81 := (hgrow.block (w.heap.size + 1) (by omega) (fun e => by have := hob _ e.symm; omega)).trans ((HW1.out.block (w.heap.size + 1) (by omega)).trans G1.out)
        have hg82 := (hgrow.block (w.heap.size + 2) (by omega) (fun e => by have := hob _ e.symm; omega)).trans ((HW1.out.block (w.heap.size + 2) (by omega)).trans G2.out)
        have hb8 : Below (w.heap.size + 1) wr w8 := (HW1.out.mono (by omega)).trans ⟨hgrow.os, hgrow.tape, hgrow.output, hgrow.size, fun q hq => hgrow.block q (by omega) (fun e => by have := hob q e.symm; omega)⟩
        have c8 : w8.cell? ⟨w.heap.size + 2, 0, none⟩ = some (.slice na k nc) := by rw [Lib.cell_of_heap hg82]; rfl
        have f8 : w8.frozen? ⟨w.heap.size + 2, 0, none⟩ = false := Lib.frozen_of_heap hg82 0
        have HB8 := Lib.hid hb8
        have H80 := Lib.hid hg80
        have H81 := Lib.hid hg81
        have H82 := Lib.hid hg82
        have HO8 := Lib.hid hown8
        clear hg80 hg81 hg82 hb8 hown8 hgrow hat hob hsz1
        refine hK.out _ _ (MKS.out _ HB8.out) (fun hH8 => ?_)
        clear hK K'
        (try simp only [Act.put, List.setIfInBounds_toArray, List.set_cons_zero, List.set_cons_succ])
        refine wpAnyH_take (i := 17) (oi := ?ofab) (v := ?vfab) ?hifab (by kernel_rfl) (by kernel_rfl) (by kernel_rfl) ?hQfab ?hyfab hH8 ?_
        case hifab => simp only [List.getElem?_toArray, List.getElem?_cons_zero, List.getElem?_cons_succ]; rfl
        case hQfab => exact fun _ _ _ h => h
        case hyfab => refine Or.inl ⟨by rfl, ?_⟩; intro W hSw; (try dsimp only at hSw); go_simp; try with_reducible rfl
        simp only [Act.put, List.setIfInBounds_toArray, List.set_cons_zero, List.set_cons_succ]
        refine wpAnyH_ready (rs := [18]) (by kernel_rfl) (by simp) ?_
        refine AllReadyH.cons (o := ?ostb) ?hostb (fun K' hK => ?_) AllReadyH.nil
        case hostb => simp only [List.getElem?_toArray, List.getElem?_cons_zero, List.getElem?_cons_succ]; rfl
        go_simp
        have hbs : Below (w.heap.size + 1) wr (w8.setCell ⟨w.heap.size + 2, 0, none⟩ (.slice (some ⟨gg, 0, none⟩) (k + 1) cap2)) := HB8.out.setCell (p := ⟨w.heap.size + 2, 0, none⟩) (by simp only; omega) _
        have HBS := Lib.hid hbs
        clear hbs
        refine hK.out _ _ (MKS.out _ HBS.out) (fun hH9 => ?_)
        clear hK K'
        (try simp only [Act.put, List.setIfInBounds_toArray, List.set_cons_zero, List.set_cons_succ])
        clear hH9
        refine wpAnyH_done (by kernel_rfl) ?_ _
        have h90 := blk_old (g := w.heap.size + 2) (x := .slice (some ⟨gg, 0, none⟩) (k + 1) cap2) (by omega) H80.out
        have h91 := blk_old (g := w.heap.size + 2) (x := .slice (some ⟨gg, 0, none⟩) (k + 1) cap2) (by omega) H81.out
        have h92 := blk_set H82.out 0 (.slice (some ⟨gg, 0, none⟩) (k + 1) cap2)
        have ho9 : OwnR (w8.setCell ⟨w.heap.size + 2, 0, none⟩ (.slice (some ⟨gg, 0, none⟩) (k + 1) cap2)) (w.heap.size + 3) (.slice (some ⟨gg, 0, none⟩) (k + 1) cap2) (l.take (k + 1)) := by
          refine OwnR.set ?_ (by omega)
          unfold OwnR
          rw [List.take_succ_eq_append_getElem hlt, Hy.out, tcells_append, List.length_append, List.length_take, Nat.min_eq_left (by omega)]
          exact HO8.out
        have H90 := Lib.hid h90
        have H91 := Lib.hid h91
        have H92 := Lib.hid h92
        have HO9 := Lib.hid ho9
        clear h90 h91 h92 ho9 c8 f8
        generalize w8.setCell ⟨w.heap.size + 2, 0, none⟩ (.slice (some ⟨gg, 0, none⟩) (k + 1) cap2) = w9 at *
        go_wp2_with fail
        go_roundw
        case rel => exact ⟨k + 1, _, _, by omega, by go_num, HO9.out, H90.out, H91.out, H92.out, HBL.out.trans (HBS.out.mono (by omega))⟩
        case measure => simp [intOf]; omega
    · have g : ¬ ((k : Int) < (l.length : Int)) := by omega
      have hkl : k = l.length := by omega
      have HKL := Lib.hid hkl
      have c1 : wr.cell? ⟨w.heap.size + 1, 0, none⟩ = some (.slice none 0 0) := by rw [Lib.cell_of_heap G1.out]; rfl
      have f1 : wr.frozen? ⟨w.heap.size + 1, 0, none⟩ = false := Lib.frozen_of_heap G1.out 0
      clear hkl
      go_wp2_with fail
      (try simp only [Exit.inBlock, Exit.then])
      refine bodyPost_ret (ret_row1 rfl _ _ _ _ _ _ _ (by rfl) G1.out Try.underlying34 rfl rsize) rfl ?_
      have ho := HOWN.out
      have hkl := HKL.out
      subst hkl
      rw [List.take_length] at ho
      exact ⟨_, _, rfl, (ho.set (by omega)).less (by omega), HBL.out.setCell (p := ⟨w.heap.size + 1, 0, none⟩) (by simp only; omega) _⟩
end Go.Proofs.Ytpadbkplknnopaa
