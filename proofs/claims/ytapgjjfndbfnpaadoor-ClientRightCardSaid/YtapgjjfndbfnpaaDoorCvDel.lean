/-
  The walks of slices.Delete on a row of the call's own, of view.cut and of view.at.
-/
import Derived.Test.YtapgjjfndbfnpaaDoorCvSlices
namespace Go.Proofs.YtapgjjfndbfnpaaDoor.Vw
open Go.RowKit

theorem below_cells {B : Nat} {a : World} (b : Nat) (hb : B ≤ b) : ∀ (vs : List Value) (o : Nat) {w : World}, Below B a w → Below B a (w.setCells b o vs)
  | [], _, _, h => h
  | v :: vs, o, _, h => below_cells b hb vs (o + 1) (h.setCell (p := ⟨b, o, none⟩) hb v)

theorem setCells_block (g : Nat) (e : TypeId) (fz : Nat × Nat) : ∀ (vs : List Value) (o : Nat) (w : World) (cur : Array Value), w.heap[g]? = some (.cells cur e fz) → o + vs.length ≤ cur.size →
    ∃ cur' : Array Value, (w.setCells g o vs).heap[g]? = some (.cells cur' e fz) ∧ cur'.toList = cur.toList.take o ++ vs ++ cur.toList.drop (o + vs.length)
  | [], o, w, cur, h, _ => ⟨cur, h, by simp⟩
  | v :: vs, o, w, cur, h, hl => by
    have hl' : o + 1 + vs.length ≤ cur.size := by simp at hl; omega
    have h1 : (w.setCell ⟨g, o, none⟩ v).heap[g]? = some (.cells (cur.setIfInBounds o v) e fz) := by
      simp [World.setCell, Array.getElem?_modify, h]
    obtain ⟨cur', h2, h3⟩ := setCells_block g e fz vs (o + 1) _ _ h1 (by simpa using hl')
    refine ⟨cur', h2, ?_⟩
    have ho : o < cur.toList.length := by simp; omega
    rw [h3, Array.toList_setIfInBounds, List.set_eq_take_append_cons_drop, if_pos ho, List.length_cons]
    have e1 : (List.take o cur.toList ++ v :: List.drop (o + 1) cur.toList).take (o + 1) = List.take o cur.toList ++ [v] := by
      rw [List.take_append, List.take_of_length_le (by simp; omega), List.length_take, Nat.min_eq_left (by omega), show o + 1 - o = 1 by omega]
      rfl
    have e2 : (List.take o cur.toList ++ v :: List.drop (o + 1) cur.toList).drop (o + 1 + vs.length) = List.drop (o + (vs.length + 1)) cur.toList := by
      rw [List.drop_append, List.drop_of_length_le (by simp; omega), List.length_take, Nat.min_eq_left (by omega), show o + 1 + vs.length - o = vs.length + 1 by omega, List.drop_succ_cons, List.drop_drop, List.nil_append,
        show o + 1 + vs.length = o + (vs.length + 1) by omega]
    rw [e1, e2]
    simp

def atI (l : List Int) (i : Int) : Int := if i < 0 then 0 else l.getD i.toNat 0

set_option maxHeartbeats 400000 in
theorem at_any (B : Nat) (v : Value) (l : List Int) (i r : Int) (hr : atI l i = r) (w : World) (h : IsInts B w v l) :
    Calls Tryd.prog 57 #[v, .int .i64 i] w fun e w' => e = .returned (.int .i64 r) ∧ Below w.heap.size w w' := by
  have H := Lib.hid h
  obtain ⟨a, cap, rfl⟩ := h.form
  have Hr := Lib.hid hr
  clear hr
  by_cases hin : 0 ≤ i ∧ i < l.length
  · obtain ⟨h1, h2⟩ := hin
    obtain ⟨k, rfl⟩ := Int.eq_ofNat_of_zero_le h1
    have hk : k < l.length := by omega
    obtain ⟨b, off, cap', he, hblk, _, hcell⟩ := H.out.get k hk
    obtain ⟨rfl, -, rfl⟩ : a = some ⟨b, off, none⟩ ∧ l.length = l.length ∧ cap = cap' := by injection he with e1 e2 e3; exact ⟨e1, e2, e3⟩
    clear he
    have e : l[k] = r := by rw [← Hr.out, atI, if_neg (by omega)]; simp [hk]
    rw [e] at hcell
    have HeHide := Lib.hid e
    clear e
    have g1 : ¬ ((k : Int) < 0) := by omega
    have g2 : ¬ ((l.length : Int) ≤ (k : Int)) := by omega
    go_enter Tryd.func57, Tryd.ntmps57
    go_wp2_with fail
    go_ret
    exact ⟨rfl, Below.refl _ _⟩
  · have hr0 : r = 0 := by
      rw [← Hr.out, atI]
      by_cases h1 : i < 0
      · rw [if_pos h1]
      · rw [if_neg h1]; simp [List.getD, List.getElem?_eq_none (show l.length ≤ i.toNat by omega)]
    subst hr0
    by_cases h1 : i < 0
    · go_enter Tryd.func57, Tryd.ntmps57
      go_wp2_with fail
      go_ret
      exact ⟨rfl, (Below.refl _ _).alloc (Nat.le_refl _) _⟩
    · have g2 : (l.length : Int) ≤ i := by omega
      go_enter Tryd.func57, Tryd.ntmps57
      go_wp2_with fail
      go_ret
      exact ⟨rfl, (Below.refl _ _).alloc (Nat.le_refl _) _⟩
end Go.Proofs.YtapgjjfndbfnpaaDoor.Vw
