/-
  The walk of bucketlinelaw18.shown: the chapter's examples.
-/
import Derived.Test.YtigojackdkaanaaVwWithout
import Derived.Test.YtigojackdkaanaaVwWith
import Derived.Test.YtigojackdkaanaaVwSame
namespace Go.Proofs.Ytigojackdkaanaa
open Go.RowKit

/-- A literal of ints. -/
theorem lit_ints (w : World) (l : List Int) (t : TypeId) (hl : ∀ n ∈ l, I64 n) (hm : l.length ≤ maxLen) : IsInts (w.heap.size + 1) (w.alloc (.cells (icells l).toArray t)) (.slice (some ⟨w.heap.size, 0, none⟩) l.length l.length) l :=
  ⟨_, _, rfl, Nat.le_refl _, hm, fun h => (by cases h), hl, fun _ => ⟨w.heap.size, 0, rfl, by omega, fun i hi => by simp [icells, hi]⟩⟩

def V0 : VW := ⟨5, [1, 2, 3], [1, 1, 4], [0, 0, 8]⟩
def V1 : VW := ⟨6, [1, 3], [1, 4], [0, 8]⟩
def V2 : VW := ⟨7, [1, 3, 2], [1, 4, 7], [0, 8, 9]⟩

theorem right0 : RightV V0 := RightL.right ⟨by decide, by decide, by decide, by decide, by decide, by decide, by decide, by decide, by decide, by decide, by decide⟩
theorem right1 : RightV V1 := RightL.right ⟨by decide, by decide, by decide, by decide, by decide, by decide, by decide, by decide, by decide, by decide, by decide⟩
theorem right2 : RightV V2 := RightL.right ⟨by decide, by decide, by decide, by decide, by decide, by decide, by decide, by decide, by decide, by decide, by decide⟩
theorem small0 : SmallV V0 := by decide
theorem small1 : SmallV V1 := by decide
theorem small2 : SmallV V2 := by decide
theorem shown1 : withoutV V0 2 = (V1, 0) := withoutV_ok (i := 1) right0 (placeV_at (i := 1) right0 (by decide)) (by decide) (by decide)
theorem shown2 : withV V1 2 9 = (V2, 0) := withV_ok right1 (by decide) (by decide) (by decide) (by decide) (by decide) (by decide) (by decide)
theorem shown3 : tailV V2 = 2 := tail_snoc (l := [1, 3]) right2 rfl
theorem shown4 : sinceV V2 2 = 7 := since_snoc (l := [1, 3]) (m := [1, 4]) right2 rfl rfl
theorem shown5 : bootV V2 2 = 9 := boot_snoc (l := [1, 3]) (m := [0, 8]) right2 rfl rfl

theorem box4 {w W : World} {a0 a1 a2 a3 : Value} {t : TypeId} (hb : Below (w.heap.size + 1) (w.alloc (.cells #[a0, a1, a2, a3] t)) W) :
    W.cell? ⟨w.heap.size, 0, none⟩ = some a0 ∧ W.cell? ⟨w.heap.size, 1, none⟩ = some a1 ∧ W.cell? ⟨w.heap.size, 2, none⟩ = some a2 ∧ W.cell? ⟨w.heap.size, 3, none⟩ = some a3 := box_cells1 hb

theorem lit3 (w : World) (E : Int) (l1 l2 l3 : List Int) (t : TypeId) (hE : I64 E) (h1 : ∀ n ∈ l1, I64 n) (h2 : ∀ n ∈ l2, I64 n) (h3 : ∀ n ∈ l3, I64 n) (m1 : l1.length ≤ maxLen) (m2 : l2.length ≤ maxLen) (m3 : l3.length ≤ maxLen) :
    IsView (w.heap.size + 3) (((w.alloc (.cells (icells l1).toArray t)).alloc (.cells (icells l2).toArray t)).alloc (.cells (icells l3).toArray t))
      (.agg #[.int .i64 E, .slice (some ⟨w.heap.size, 0, none⟩) l1.length l1.length, .slice (some ⟨w.heap.size + 1, 0, none⟩) l2.length l2.length, .slice (some ⟨w.heap.size + 1 + 1, 0, none⟩) l3.length l3.length]) ⟨E, l1, l2, l3⟩ := by
  refine ⟨hE, _, _, _, rfl, ?_, ?_, ?_⟩
  · have k := lit_ints w l1 t h1 m1
    refine IsInts.up (B := w.heap.size + 1) (k.keep (B' := w.heap.size + 1) (((Below.refl _ _).alloc (by simp) _).alloc (by simp) _) (Nat.le_refl _)) (by omega)
  · have k := lit_ints (w.alloc (.cells (icells l1).toArray t)) l2 t h2 m2
    rw [World.size_alloc] at k
    refine IsInts.up (B := w.heap.size + 1 + 1) (k.keep (B' := w.heap.size + 1 + 1) ((Below.refl _ _).alloc (by simp) _) (Nat.le_refl _)) (by omega)
  · have k := lit_ints ((w.alloc (.cells (icells l1).toArray t)).alloc (.cells (icells l2).toArray t)) l3 t h3 m3
    rw [World.size_alloc, World.size_alloc] at k
    exact k.up (by omega)

theorem below_three {w : World} (o o' o'' : Obj) : Below w.heap.size w (((w.alloc o).alloc o').alloc o'') := (((Below.refl _ _).alloc (Nat.le_refl _) _).alloc (by simp) _).alloc (by simp; omega) _

theorem IsView.form {B : Nat} {w : World} {v : Value} {V : VW} (h : IsView B w v V) : ∃ a1 k1 a2 k2 a3 k3, v = .agg #[.int .i64 V.epoch, .slice a1 V.chain.length k1, .slice a2 V.since.length k2, .slice a3 V.boot.length k3] := by
  obtain ⟨_, c, s, b, rfl, h1, h2, h3⟩ := h
  obtain ⟨a1, k1, rfl⟩ := h1.form
  obtain ⟨a2, k2, rfl⟩ := h2.form
  obtain ⟨a3, k3, rfl⟩ := h3.form
  exact ⟨_, _, _, _, _, _, rfl⟩

set_option maxRecDepth 100000 in
set_option maxHeartbeats 3200000 in
theorem shown_any (w : World) : Calls Try.prog 12 #[] w fun e w' => e = .returned (.bool true) ∧ Below w.heap.size w w' := by
  have q1 := lit3 w 5 [1, 2, 3] [1, 1, 4] [0, 0, 8] 3 (by constructor <;> decide) (by simp [I64]) (by simp [I64]) (by simp [I64]) (by decide) (by decide) (by decide)
  have b0 : Below w.heap.size w (((w.alloc (.cells (icells [1, 2, 3]).toArray 3)).alloc (.cells (icells [1, 1, 4]).toArray 3)).alloc (.cells (icells [0, 0, 8]).toArray 3)) := below_three _ _ _
  have Q1 := Lib.hid q1
  have B0 := Lib.hid b0
  clear q1 b0
  go_enter Try.func12, Try.ntmps12
  go_wp2_with fail
  refine (without_any (w.heap.size + 3) _ V0 2 V1 0 shown1 _ (view_alloc Q1.out (by simp) _) (by simp) small0).mono ?_
  rintro e w1 ⟨va, rfl, hva, hb1⟩
  obtain ⟨a1, k1, a2, k2, a3, k3, rfl⟩ := hva.form
  have HVA := Lib.hid hva
  have bw1 : Below w.heap.size w w1 := bstep (B0.out.alloc (by simp; omega) _) hb1
  have BW1 := Lib.hid bw1
  clear hva hb1 bw1
  go_wp2_with fail
  refine (with_any w1.heap.size _ V1 2 9 V2 0 shown2 _ (view_alloc HVA.out (Nat.le_refl _) _) (le_alloc (Nat.le_refl _) _) small1 (by constructor <;> decide) (by constructor <;> decide)).mono ?_
  rintro e w2 ⟨vb, rfl, hvb, hb2⟩
  obtain ⟨c1, m1, c2, m2, c3, m3, rfl⟩ := hvb.form
  have HVB := Lib.hid hvb
  have hb2' : Below (w1.heap.size + 1) _ w2 := hb2.mono (by simp)
  have HB2 := Lib.hid hb2'
  clear hvb hb2 hb2'
  have hb3 := HB2.out.alloc (by have := HB2.out.size; simpa using this) (.cells #[.int .i64 V2.epoch, .slice c1 V2.chain.length m1, .slice c2 V2.since.length m2, .slice c3 V2.boot.length m3] 24)
  obtain ⟨y0, y1, y2, y3⟩ := box4 hb3
  have HB3 := Lib.hid hb3
  clear hb3
  have q3 := lit3 (w2.alloc (.cells #[.int .i64 V2.epoch, .slice c1 V2.chain.length m1, .slice c2 V2.since.length m2, .slice c3 V2.boot.length m3] 24)) 6 [1, 3] [1, 4] [0, 8] 3 (by constructor <;> decide) (by simp [I64]) (by simp [I64]) (by simp [I64]) (by decide) (by decide) (by decide)
  have b3 := (Below.refl w2.heap.size w2).alloc (Nat.le_refl _) (.cells #[.int .i64 V2.epoch, .slice c1 V2.chain.length m1, .slice c2 V2.since.length m2, .slice c3 V2.boot.length m3] 24)
  have b4 := below_three (w := w2.alloc (.cells #[.int .i64 V2.epoch, .slice c1 V2.chain.length m1, .slice c2 V2.since.length m2, .slice c3 V2.boot.length m3] 24)) (.cells (icells [1, 3]).toArray 3) (.cells (icells [1, 4]).toArray 3) (.cells (icells [0, 8]).toArray 3)
  have b5 : Below (w2.heap.size + 1) _ _ := b4.mono (by simp)
  rw [World.size_alloc] at q3
  have Q3 := Lib.hid q3
  have B3 := Lib.hid (bstep b3 b4)
  have B5 := Lib.hid b5
  clear q3 b3 b4 b5
  go_wp2_with fail
  have bw2 := below_one' HB2.out
  have hz2 := bw2.size
  refine (same_any w1.heap.size (w2.heap.size + 1 + 3) _ _ V1 ⟨6, [1, 3], [1, 4], [0, 8]⟩ _ (HVA.out.keep (bw2.trans (B3.out.mono hz2)) (Nat.le_refl _)) Q3.out (by simp; omega) (by simp) small1 true rfl).mono ?_
  rintro e w4 ⟨rfl, hb4⟩
  have bx4 : Below (w2.heap.size + 1) _ w4 := B5.out.trans (hb4.mono (by simp))
  obtain ⟨z0, z1, z2, z3⟩ := box4 bx4
  have bv4 := below_one' bx4
  have hz4 := bv4.size
  go_wp2_with fail
  refine (tail_any w2.heap.size _ V2 2 shown3 _ (HVB.out.keep bv4 (Nat.le_refl _)) hz4 small2).mono ?_
  rintro e w5 ⟨rfl, hb5⟩
  have bx5 := below_more bx4 (by have := bx4.size; simpa using this) hb5
  obtain ⟨z0, z1, z2, z3⟩ := box4 bx5
  have bv5 := below_one' bx5
  have hz5 := bv5.size
  go_wp2_with fail
  refine (since_any w2.heap.size _ V2 2 7 shown4 _ (HVB.out.keep bv5 (Nat.le_refl _)) hz5 small2).mono ?_
  rintro e w6 ⟨rfl, hb6⟩
  have bx6 := below_more bx5 (by have := bx5.size; simpa using this) hb6
  obtain ⟨z0, z1, z2, z3⟩ := box4 bx6
  have bv6 := below_one' bx6
  have hz6 := bv6.size
  go_wp2_with fail
  refine (boot_any w2.heap.size _ V2 2 9 shown5 _ (HVB.out.keep bv6 (Nat.le_refl _)) hz6 small2).mono ?_
  rintro e w7 ⟨rfl, hb7⟩
  have bv7 := below_more bv6 hz6 hb7
  go_wp2_with fail
  go_ret
  exact ⟨rfl, bstep BW1.out (bw2.trans (bv7.mono hz2))⟩
end Go.Proofs.Ytigojackdkaanaa
