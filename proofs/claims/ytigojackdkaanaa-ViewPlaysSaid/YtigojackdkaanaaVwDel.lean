/-
  The walks of slices.Delete on a row of the call's own, of view.cut and of view.at.
-/
import Derived.Test.YtigojackdkaanaaVwSlices
namespace Go.Proofs.Ytigojackdkaanaa
open Go.RowKit

theorem below_cells {B : Nat} {a : World} (b : Nat) (hb : B ≤ b) : ∀ (vs : List Value) (o : Nat) {w : World}, Below B a w → Below B a (w.setCells b o vs)
  | [], _, _, h => h
  | v :: vs, o, _, h => below_cells b hb vs (o + 1) (h.setCell (p := ⟨b, o, none⟩) hb v)

theorem setCells_block (g : Nat) (e : TypeId) (fz : Nat × Nat) : ∀ (vs : List Value) (o : Nat) (w : World) (cur : Array Value), w.heap[g]? = some (.cells cur e fz) → o + vs.length ≤ cur.size →
    ∃ cur' : Array Value, (w.setCells g o vs).heap[g]? = some (.cells cur' e fz) ∧ cur'.toList = cur.toList.take o ++ vs ++ cur.toList.drop (o + vs.length)
  | [], o, w, cur, h, _ => ⟨cur, h, by simp⟩
  | v :: vs, o, w, cur, h, hl => by
    have hl' : o + 1 + vs.length ≤ cur.size := by simp at hl; omega
    have h1 : (w.setCell ⟨g, o, none⟩ v).heap[g]? = some (.cells (cur.setIfInBounds o v) e fz) := by
      simp [World.setCell, Array.getElem?_modify, h]
    obtain ⟨cur', h2, h3⟩ := setCells_block g e fz vs (o + 1) _ _ h1 (by simpa using hl')
    refine ⟨cur', h2, ?_⟩
    have ho : o < cur.toList.length := by simp; omega
    rw [h3, Array.toList_setIfInBounds, List.set_eq_take_append_cons_drop, if_pos ho, List.length_cons]
    have e1 : (List.take o cur.toList ++ v :: List.drop (o + 1) cur.toList).take (o + 1) = List.take o cur.toList ++ [v] := by
      rw [List.take_append, List.take_of_length_le (by simp; omega), List.length_take, Nat.min_eq_left (by omega), show o + 1 - o = 1 by omega]
      rfl
    have e2 : (List.take o cur.toList ++ v :: List.drop (o + 1) cur.toList).drop (o + 1 + vs.length) = List.drop (o + (vs.length + 1)) cur.toList := by
      rw [List.drop_append, List.drop_of_length_le (by simp; omega), List.length_take, Nat.min_eq_left (by omega), show o + 1 + vs.length - o = vs.length + 1 by omega, List.drop_succ_cons, List.drop_drop, List.nil_append,
        show o + 1 + vs.length = o + (vs.length + 1) by omega]
    rw [e1, e2]
    simp

set_option maxHeartbeats 800000 in
theorem delete_own (base : Nat) (v : Value) (l : List Int) (i : Nat) (w : World) (h : w.ownsRow base 3 1 v l.length (icells l)) (hi : i < l.length) :
    Calls Try.prog 73 #[v, .int .i64 (i : Int), .int .i64 ((i : Int) + 1)] w fun e w' => ∃ v', e = .returned v' ∧ w'.ownsRow base 3 1 v' (l.length - 1) (icells (l.eraseIdx i)) ∧ Below base w w' := by
  obtain ⟨h1, h2⟩ := h
  rcases h2 with ⟨rfl, h0⟩ | ⟨g, cap, cur, rfl, hbase, hg, hcap, hmax, hsz, hcur⟩
  · omega
  · have hcell : ∀ j, j < l.length → w.cell? ⟨g, 0 + j, none⟩ = some (.int .i64 (l.getD j 0)) := by
      intro j hj
      rw [Nat.zero_add, cell_of_row w g j cur _ _ hg]
      have := congrArg (fun x => x[j]?) hcur
      simp only [Nat.mul_one, icells, List.getElem?_map, List.getElem?_eq_getElem hj, List.getElem?_take, if_pos hj, Option.map_some] at this
      rw [← Array.getElem?_toList, this]
      simp [List.getD, List.getElem?_eq_getElem hj]
    have hfro : ∀ j, j < l.length → w.frozen? ⟨g, 0 + j, none⟩ = false := by
      intro j hj
      simp [World.frozen?, hg]
    have c := Try.slices_Delete_int_cells g 0 l.length cap i (i + 1) l w (Nat.le_refl _) hcap (by simpa [maxLen] using hmax) (by omega) (by omega) hcell hfro
    have e1 : (((i + 1 : Nat) : Int)) = (i : Int) + 1 := by omega
    rw [e1] at c
    refine c.mono ?_
    rintro e w' ⟨rfl, q, rfl⟩
    have e2 : l.length - (i + 1 - i) = l.length - 1 := by omega
    rw [e2]
    refine ⟨_, rfl, ?_, ?_⟩
    · have hlen : (((l.take l.length).take i ++ (l.take l.length).drop (i + 1) ++ List.replicate (i + 1 - i) 0).map (Value.int .i64)).length = l.length := by
        simp; omega
      obtain ⟨cur', k1, k2⟩ := setCells_block g _ _ _ 0 (w.drewN q) cur hg (by rw [hlen, hsz]; omega)
      refine ⟨by simp [icells_len, List.length_eraseIdx, hi], .inr ⟨g, cap, cur', rfl, hbase, k1, by omega, hmax, ?_, ?_⟩⟩
      · have := congrArg List.length k2
        rw [List.length_append, List.length_append, hlen, List.length_drop] at this
        simp at this
        omega
      · rw [k2, List.take_zero, List.nil_append, List.take_length, Nat.mul_one, show i + 1 - i = 1 by omega, List.map_append, List.append_assoc, List.take_append_of_le_length (by simp; omega), List.take_of_length_le (by simp; omega), icells, List.eraseIdx_eq_take_drop_succ]
    · exact below_cells g hbase _ 0 (below_drewN (Below.refl _ _) q)

set_option maxHeartbeats 400000 in
theorem cut_any (B : Nat) (v : Value) (l : List Int) (i : Nat) (w : World) (h : IsInts B w v l) (hB : B ≤ w.heap.size) (hi : i < l.length) (hn : l.length ≤ 1000000) :
    Calls Try.prog 58 #[v, .int .i64 (i : Int)] w fun e w' => ∃ v', e = .returned v' ∧ w'.ownsRow w.heap.size 3 1 v' (l.length - 1) (icells (l.eraseIdx i)) ∧ Below w.heap.size w w' := by
  have c1 := Lib.hid (clone_any B v l w h hB hn)
  have c2 := Lib.hid (fun v' w' h => delete_own w.heap.size v' l i w' h hi)
  go_enter Try.func58, Try.ntmps58
  go_wp2_with fail
  refine c1.out.mono ?_
  rintro e w1 ⟨v1, rfl, o1, h1⟩
  go_wp2_with fail
  refine (c2.out v1 w1 o1).mono ?_
  rintro e w2 ⟨v2, rfl, o2, h2⟩
  go_wp2_with fail
  go_ret
  exact ⟨v2, rfl, o2, h1.trans h2⟩

def atI (l : List Int) (i : Int) : Int := if i < 0 then 0 else l.getD i.toNat 0

set_option maxHeartbeats 400000 in
theorem at_any (B : Nat) (v : Value) (l : List Int) (i r : Int) (hr : atI l i = r) (w : World) (h : IsInts B w v l) :
    Calls Try.prog 61 #[v, .int .i64 i] w fun e w' => e = .returned (.int .i64 r) ∧ Below w.heap.size w w' := by
  have H := Lib.hid h
  obtain ⟨a, cap, rfl⟩ := h.form
  have Hr := Lib.hid hr
  clear hr
  by_cases hin : 0 ≤ i ∧ i < l.length
  · obtain ⟨h1, h2⟩ := hin
    obtain ⟨k, rfl⟩ := Int.eq_ofNat_of_zero_le h1
    have hk : k < l.length := by omega
    obtain ⟨b, off, cap', he, hblk, _, hcell⟩ := H.out.get k hk
    obtain ⟨rfl, -, rfl⟩ : a = some ⟨b, off, none⟩ ∧ l.length = l.length ∧ cap = cap' := by injection he with e1 e2 e3; exact ⟨e1, e2, e3⟩
    clear he
    have e : l[k] = r := by rw [← Hr.out, atI, if_neg (by omega)]; simp [hk]
    rw [e] at hcell
    have HeHide := Lib.hid e
    clear e
    have g1 : ¬ ((k : Int) < 0) := by omega
    have g2 : ¬ ((l.length : Int) ≤ (k : Int)) := by omega
    go_enter Try.func61, Try.ntmps61
    go_wp2_with fail
    go_ret
    exact ⟨rfl, Below.refl _ _⟩
  · have hr0 : r = 0 := by
      rw [← Hr.out, atI]
      by_cases h1 : i < 0
      · rw [if_pos h1]
      · rw [if_neg h1]; simp [List.getD, List.getElem?_eq_none (show l.length ≤ i.toNat by omega)]
    subst hr0
    by_cases h1 : i < 0
    · go_enter Try.func61, Try.ntmps61
      go_wp2_with fail
      go_ret
      exact ⟨rfl, (Below.refl _ _).alloc (Nat.le_refl _) _⟩
    · have g2 : (l.length : Int) ≤ i := by omega
      go_enter Try.func61, Try.ntmps61
      go_wp2_with fail
      go_ret
      exact ⟨rfl, (Below.refl _ _).alloc (Nat.le_refl _) _⟩
end Go.Proofs.Ytigojackdkaanaa
