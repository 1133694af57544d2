/-
  The walks of bucketlinelaw12.small and shown.
-/
import Derived.Test.YtpadbkplknnopaaTmAs
namespace Go.Proofs.Ytpadbkplknnopaa
open Go.RowKit

/-- An act. -/
structure AC where
  op : Int
  at_ : Int
  name : ByteArray
/-- A slice of acts. -/
def IsActs (B : Nat) (w : World) (v : Value) (l : List AC) : Prop :=
  ∃ (a : Option Addr) (cap : Nat), v = .slice a l.length cap ∧ l.length ≤ cap ∧ cap ≤ maxLen ∧ (0 < l.length → ∃ b off, a = some ⟨b, off, none⟩ ∧ b < B ∧ ∀ i, (h : i < l.length) →
    w.cell? ⟨b, off + i * 3, none⟩ = some (.int .i64 l[i].op) ∧ w.cell? ⟨b, off + i * 3 + 1, none⟩ = some (.int .i64 l[i].at_) ∧ w.cell? ⟨b, off + i * 3 + 2, none⟩ = some (.string l[i].name))
theorem IsActs.keep {B B' : Nat} {w w' : World} {v : Value} {l : List AC} (h : IsActs B w v l) (hb : Below B' w w') (hB : B ≤ B') : IsActs B w' v l := by
  obtain ⟨a, cap, rfl, h1, h2, h5⟩ := h
  refine ⟨a, cap, rfl, h1, h2, fun hp => ?_⟩
  obtain ⟨b, off, rfl, hlt, hc⟩ := h5 hp
  exact ⟨b, off, rfl, hlt, fun i hi => ⟨by rw [hb.cell (p := ⟨b, off + i * 3, none⟩) (Nat.lt_of_lt_of_le hlt hB)]; exact (hc i hi).1, by rw [hb.cell (p := ⟨b, off + i * 3 + 1, none⟩) (Nat.lt_of_lt_of_le hlt hB)]; exact (hc i hi).2.1,
    by rw [hb.cell (p := ⟨b, off + i * 3 + 2, none⟩) (Nat.lt_of_lt_of_le hlt hB)]; exact (hc i hi).2.2⟩⟩
theorem IsActs.form {B : Nat} {w : World} {v : Value} {l : List AC} (h : IsActs B w v l) : ∃ a cap, v = .slice a l.length cap := by
  obtain ⟨a, cap, rfl, _⟩ := h
  exact ⟨a, cap, rfl⟩
theorem IsActs.get {B : Nat} {w : World} {v : Value} {l : List AC} (h : IsActs B w v l) (i : Nat) (hi : i < l.length) : ∃ b off cap, v = .slice (some ⟨b, off, none⟩) l.length cap ∧ b < B ∧
    w.cell? ⟨b, off + i * 3, none⟩ = some (.int .i64 l[i].op) ∧ w.cell? ⟨b, off + i * 3 + 1, none⟩ = some (.int .i64 l[i].at_) ∧ w.cell? ⟨b, off + i * 3 + 2, none⟩ = some (.string l[i].name) := by
  obtain ⟨a, cap, rfl, h1, h2, h5⟩ := h
  obtain ⟨b, off, rfl, hlt, hc⟩ := h5 (by omega)
  exact ⟨b, off, cap, rfl, hlt, hc i hi⟩

def SmallA (l : List AC) : Prop := l.length ≤ 120 ∧ ∀ i (h : i < l.length), l[i].name.size ≤ 100

set_option maxRecDepth 100000 in
set_option maxHeartbeats 1600000 in
theorem small_any (B : Nat) (v : Value) (l : List AC) (w : World) (h : IsActs B w v l) :
    Calls Try.prog 12 #[v] w fun r w' => (r = .returned (.bool false) ∨ r = .returned (.bool true) ∧ SmallA l) ∧ w' = w := by
  have HL := Lib.hid h
  obtain ⟨a, cap, rfl⟩ := h.form
  have hmax : l.length ≤ 9223372036854775807 := by obtain ⟨_, _, he, h1, h2, _⟩ := h; unfold maxLen at h2; omega
  clear h
  by_cases h120 : l.length ≤ 120
  · have g0 : ¬ (120 : Int) < (l.length : Int) := by omega
    go_enter Try.func12, Try.ntmps12
    go_wp2_with fail
    go_loop [2, 3] (fun _ t3 => ∃ k : Nat, k ≤ l.length ∧ t3 = .int .i64 k ∧ ∀ i (h : i < l.length), i < k → l[i].name.size ≤ 100) (fun _ t3 => l.length - (intOf t3).toNat)
    case atStart => exact ⟨0, Nat.zero_le _, rfl, fun i _ h => absurd h (by omega)⟩
    case round =>
      obtain ⟨k, hk, rfl, hno⟩ := hrel
      have HNO := Lib.hid hno
      clear hno
      by_cases hlt : k < l.length
      · obtain ⟨b, off, cap', he, hblk, _, _, hc3⟩ := HL.out.get k hlt
        obtain ⟨rfl, -, rfl⟩ : a = some ⟨b, off, none⟩ ∧ l.length = l.length ∧ cap = cap' := by injection he with e1 e2 e3; exact ⟨e1, e2, e3⟩
        clear he
        obtain ⟨y, hy⟩ : ∃ y, l[k] = y := ⟨_, rfl⟩
        rw [hy] at hc3
        have i1 : (0 : Int) ≤ (k : Int) := by omega
        have i2 : (k : Int) < (l.length : Int) := by omega
        have Hy := Lib.hid hy
        clear hy
        by_cases hs : y.name.size ≤ 100
        · have g1 : ¬ (100 : Int) < (y.name.size : Int) := by omega
          go_wp2_with fail
          go_round
          case rel =>
            refine ⟨k + 1, by omega, by go_num, fun i hi hik => ?_⟩
            by_cases e : i = k
            · subst e
              rw [Hy.out]
              exact hs
            · exact HNO.out i hi (by omega)
          case measure => simp [intOf]; omega
        · have g1 : (100 : Int) < (y.name.size : Int) := by omega
          go_wp2_with fail
          go_ret
          exact ⟨.inl rfl, rfl⟩
      · have g : ¬ ((k : Int) < (l.length : Int)) := by omega
        go_wp2_with fail
        go_ret
        exact ⟨.inr ⟨rfl, h120, fun i hi => HNO.out i hi (by omega)⟩, rfl⟩
  · have g0 : (120 : Int) < (l.length : Int) := by omega
    go_enter Try.func12, Try.ntmps12
    go_wp2_with fail
    go_ret
    exact ⟨.inl rfl, rfl⟩

/-! ### the examples -/
abbrev nA : ByteArray := ⟨#[97]⟩
abbrev nB : ByteArray := ⟨#[98]⟩
abbrev nC : ByteArray := ⟨#[99]⟩
theorem shown_1 : setOf nB 5 [] = [⟨nB, 5⟩] := by simp [setOf, fullT, setR, insR, clearR, hasT]
theorem shown_2 : setOf nA 5 [⟨nB, 5⟩] = [⟨nA, 5⟩, ⟨nB, 5⟩] := by
  simp [setOf, fullT, setR, insR, clearR, hasT, ltT, ByteArray.toList_eq, Op.bytesLess]
theorem shown_3 : setOf nC 3 [⟨nA, 5⟩, ⟨nB, 5⟩] = [⟨nC, 3⟩, ⟨nA, 5⟩, ⟨nB, 5⟩] := by
  simp [setOf, fullT, setR, insR, clearR, hasT, ltT, ByteArray.toList_eq, Op.bytesLess]

set_option maxRecDepth 100000 in
set_option maxHeartbeats 1600000 in
theorem shown_any (w : World) : Calls Try.prog 7 #[] w fun r w' => r = .returned (.bool true) ∧ Below w.heap.size w w' := by
  obtain ⟨l1, hl1⟩ : ∃ l1, setOf nB 5 [] = l1 := ⟨_, rfl⟩
  obtain ⟨l2, hl2⟩ : ∃ l2, setOf nA 5 l1 = l2 := ⟨_, rfl⟩
  obtain ⟨l3, hl3⟩ : ∃ l3, setOf nC 3 l2 = l3 := ⟨_, rfl⟩
  have hr1 : RightT l1 := by rw [← hl1]; exact setOf_right right_nil
  have hr2 : RightT l2 := by rw [← hl2]; exact setOf_right hr1
  have hr3 : RightT l3 := by rw [← hl3]; exact setOf_right hr2
  have hz1 : l1.length ≤ 64 := by rw [← hl1]; exact setOf_len (by simp)
  have hz2 : l2.length ≤ 64 := by rw [← hl2]; exact setOf_len hz1
  have hz3 : l3.length ≤ 64 := by rw [← hl3]; exact setOf_len hz2
  have e3 : l3 = [⟨nC, 3⟩, ⟨nA, 5⟩, ⟨nB, 5⟩] := by rw [← hl3, ← hl2, ← hl1, shown_1, shown_2, shown_3]
  obtain ⟨d, hd⟩ : ∃ d, dueR 5 l3 = d := ⟨_, rfl⟩
  obtain ⟨r, hr⟩ : ∃ r, restR 5 l3 = r := ⟨_, rfl⟩
  have hdn : d.map (·.name) = [nC, nA, nB] := by rw [← hd, e3]; simp [dueR]
  have hrn : r = [] := by rw [← hr, e3]; simp [restR]
  have hnx : nextT l3 = 3 := by rw [e3]; rfl
  have hny : nextT r = -1 := by rw [hrn]; rfl
  have hrl : r.length = 0 := by rw [hrn]; rfl
  have S1 := Lib.hid (fun (X : World) (b : Nat) (v : Value) (h : OwnT X b v []) => (by have h2 := set_any nB 5 right_nil (by simp) h; rw [hl1] at h2; exact h2))
  have S2 := Lib.hid (fun (X : World) (b : Nat) (v : Value) (h : OwnT X b v l1) => (by have h2 := set_any nA 5 hr1 hz1 h; rw [hl2] at h2; exact h2))
  have S3 := Lib.hid (fun (X : World) (b : Nat) (v : Value) (h : OwnT X b v l2) => (by have h2 := set_any nC 3 hr2 hz2 h; rw [hl3] at h2; exact h2))
  have SD := Lib.hid (fun (X : World) (b : Nat) (v : Value) (h : OwnT X b v l3) => (by have h2 := due_ok 5 hr3 hz3 h; rw [hd, hr] at h2; exact h2))
  have SN := Lib.hid (fun (X : World) (b : Nat) (v : Value) (h : OwnT X b v l3) => (by have h2 := next_ok hz3 h; rw [hnx] at h2; exact h2))
  have SM := Lib.hid (fun (X : World) (b : Nat) (v : Value) (h : OwnT X b v r) => (by have h2 := next_ok (by omega) h; rw [hny] at h2; exact h2))
  have HD := Lib.hid hdn
  have HR := Lib.hid hrl
  clear hl1 hl2 hl3 hr1 hr2 hr3 e3 hd hr hdn hrn hnx hny hrl hz1 hz2 hz3
  obtain ⟨e1, hE1⟩ : ∃ e1, setErr nB [] = e1 := ⟨_, rfl⟩
  obtain ⟨e2, hE2⟩ : ∃ e2, setErr nA l1 = e2 := ⟨_, rfl⟩
  obtain ⟨e3, hE3⟩ : ∃ e3, setErr nC l2 = e3 := ⟨_, rfl⟩
  rw [hE1] at S1
  rw [hE2] at S2
  rw [hE3] at S3
  clear hE1 hE2 hE3
  go_enter Try.func7, Try.ntmps7
  go_wp2_with fail
  refine (S1.out w _ _ (ownt_nil w w.heap.size)).mono ?_
  rintro e w1 ⟨a1, c1, rfl, ho1, hb1⟩
  have HB1 := Lib.hid (hb1.alloc (show w.heap.size ≤ w1.heap.size from hb1.size) (.cells #[.slice a1 l1.length c1] 26))
  have G1 := Lib.hid (heap_alloc_new w1 (.cells #[.slice a1 l1.length c1] 26))
  have HO1 := Lib.hid (ho1.keep ((Below.refl w1.heap.size w1).alloc (Nat.le_refl _) (.cells #[.slice a1 l1.length c1] 26)))
  have hp := hb1.size
  clear ho1 hb1
  go_wp2_with fail
  refine (S2.out _ _ _ HO1.out).mono ?_
  rintro e w2 ⟨a2, c2, rfl, ho2, hb2⟩
  have hpl : w1.heap.size < w2.heap.size := by have := hb2.size; rw [World.size_alloc] at this; omega
  have g2 := (hb2.block w1.heap.size (by rw [World.size_alloc]; omega)).trans G1.out
  have y2 : w2.cell? ⟨w1.heap.size, 0, none⟩ = some (.slice a1 l1.length c1) := by rw [Lib.cell_of_heap g2]; rfl
  have f2 : w2.frozen? ⟨w1.heap.size, 0, none⟩ = false := Lib.frozen_of_heap g2 0
  have HB2 := Lib.hid ((bstep HB1.out hb2).setCell (p := ⟨w1.heap.size, 0, none⟩) (by simp only; omega) (.slice a2 l2.length c2))
  have G2 := Lib.hid (blk_set g2 0 (.slice a2 l2.length c2))
  have HO2 := Lib.hid (ho2.set (g := w1.heap.size) (o := 0) (x := .slice a2 l2.length c2) (by rw [World.size_alloc]; omega))
  have HZ2 := Lib.hid hb2.size
  clear ho2 hb2 g2
  go_wp2_with fail
  refine (S3.out _ _ _ HO2.out).mono ?_
  rintro e w3 ⟨a3, c3, rfl, ho3, hb3⟩
  have hpl3 : w1.heap.size < w3.heap.size := by have := hb3.size; rw [World.size_setCell] at this; omega
  have g3 := (hb3.block w1.heap.size (by rw [World.size_setCell]; omega)).trans G2.out
  have y3 : w3.cell? ⟨w1.heap.size, 0, none⟩ = some (.slice a2 l2.length c2) := by rw [Lib.cell_of_heap g3]; rfl
  have f3 : w3.frozen? ⟨w1.heap.size, 0, none⟩ = false := Lib.frozen_of_heap g3 0
  have HB3 := Lib.hid ((bstep HB2.out hb3).setCell (p := ⟨w1.heap.size, 0, none⟩) (by simp only; omega) (.slice a3 l3.length c3))
  have G3 := Lib.hid (blk_set g3 0 (.slice a3 l3.length c3))
  have HO3 := Lib.hid (ho3.set (g := w1.heap.size) (o := 0) (x := .slice a3 l3.length c3) (by rw [World.size_setCell]; omega))
  clear ho3 hb3 g3 y2 f2
  go_wp2_with fail
  refine (SD.out _ _ _ HO3.out).mono ?_
  rintro e w4 ⟨a4, c4, na, nc, rfl, ho4, hn4, hb4⟩
  have hpl4 : w1.heap.size < w4.heap.size := by have := hb4.size; rw [World.size_setCell] at this; omega
  have g4 := (hb4.block w1.heap.size (by rw [World.size_setCell]; omega)).trans G3.out
  have ho34 := OwnT.keep HO3.out hb4
  have hpn : w1.heap.size ≠ w4.heap.size := by omega
  -- behind the two allocs: the cell of u, the texts
  have hk1 : Below w4.heap.size w4 (w4.alloc (.cells #[.slice a4 r.length c4] 26)) := (Below.refl _ _).alloc (Nat.le_refl _) _
  have hk2 : Below (w4.alloc (.cells #[.slice a4 r.length c4] 26)).heap.size (w4.alloc (.cells #[.slice a4 r.length c4] 26)) ((w4.alloc (.cells #[.slice a4 r.length c4] 26)).alloc (.cells #[.string nC, .string nA, .string nB] 9)) := (Below.refl _ _).alloc (Nat.le_refl _) _
  have g5 := heap_alloc_new w4 (.cells #[.slice a4 r.length c4] 26)
  have hT := heap_alloc2_new w4 (.cells #[.slice a4 r.length c4] 26) (.cells #[.string nC, .string nA, .string nB] 9)
  have hsz6 : ((w4.alloc (.cells #[.slice a4 r.length c4] 26)).alloc (.cells #[.string nC, .string nA, .string nB] 9)).heap.size = w4.heap.size + 2 := by simp
  have hs6 : IsStrs (w4.heap.size + 2) ((w4.alloc (.cells #[.slice a4 r.length c4] 26)).alloc (.cells #[.string nC, .string nA, .string nB] 9)) (.slice (some ⟨w4.heap.size + 1, 0, none⟩) 3 3) [nC, nA, nB] := by
    refine ⟨_, 3, rfl, fun _ => ⟨_, 0, rfl, by omega, fun i hi => ?_⟩⟩
    rw [Lib.cell_of_heap hT]
    match i, hi with
    | 0, _ => rfl
    | 1, _ => rfl
    | 2, _ => rfl
  have hs7 : IsStrs (w4.heap.size + 2) ((w4.alloc (.cells #[.slice a4 r.length c4] 26)).alloc (.cells #[.string nC, .string nA, .string nB] 9)) (.slice na d.length nc) [nC, nA, nB] := by
    have h1 := (hn4.strs.keep (hk1.trans (hk2.mono (by rw [World.size_alloc]; omega))) (Nat.le_refl _)).up (show w4.heap.size ≤ w4.heap.size + 2 by omega)
    rw [HD.out] at h1
    exact h1
  have C6 := Lib.hid (sameTexts_any _ _ _ _ (by simp) _ hs7 hs6 (by rw [hsz6]; omega))
  have HB6 := Lib.hid ((bstep HB3.out hb4).trans ((hk1.trans (hk2.mono (by rw [World.size_alloc]; omega))).mono (show w.heap.size ≤ w4.heap.size by have := hb4.size; rw [World.size_setCell] at this; have := HB3.out.size; rw [World.size_setCell] at this; omega)))
  have HO6 := Lib.hid ((OwnT.keep ho34 hk1).keep hk2)
  have HR6 := Lib.hid ((ho4.keep hk1).keep hk2)
  have G6 := Lib.hid ((hk2.block w1.heap.size (by rw [World.size_alloc]; omega)).trans ((hk1.block w1.heap.size (by omega)).trans g4))
  have GU6 := Lib.hid ((hk2.block w4.heap.size (by rw [World.size_alloc]; omega)).trans g5)
  have HS6 := Lib.hid hsz6
  clear ho4 hn4 hb4 g4 ho34 hk1 hk2 g5 hT hsz6 hs6 hs7 y3 f3
  go_wp2_with fail
  refine C6.out.mono ?_
  rintro e w7 ⟨rfl, hb7⟩
  have g7 := (hb7.block w1.heap.size (by rw [HS6.out]; omega)).trans G6.out
  have u7 := (hb7.block w4.heap.size (by rw [HS6.out]; omega)).trans GU6.out
  have y7 : w7.cell? ⟨w1.heap.size, 0, none⟩ = some (.slice a3 l3.length c3) := by rw [Lib.cell_of_heap g7]; rfl
  have z7 : w7.cell? ⟨w4.heap.size, 0, none⟩ = some (.slice a4 r.length c4) := by rw [Lib.cell_of_heap u7]; rfl
  have HO7 := Lib.hid (OwnT.keep HO6.out hb7)
  have HR7 := Lib.hid (OwnT.keep HR6.out hb7)
  have HB7 := Lib.hid (bstep HB6.out hb7)
  have g1 : ((r.length : Int) == 0) = true := by rw [HR.out]; rfl
  have hz7 := hb7.size
  have hz7a : w1.heap.size < w7.heap.size := by have := HS6.out; omega
  have hz7b : w4.heap.size < w7.heap.size := by have := HS6.out; omega
  have U7 := Lib.hid u7
  clear g7 u7 hb7 hz7
  go_wp2_with fail
  refine (SN.out _ _ _ HO7.out).mono ?_
  rintro e w8 ⟨rfl, hb8⟩
  have u8 := (hb8.block w4.heap.size hz7b).trans U7.out
  have z8 : w8.cell? ⟨w4.heap.size, 0, none⟩ = some (.slice a4 r.length c4) := by rw [Lib.cell_of_heap u8]; rfl
  have HR8 := Lib.hid (OwnT.keep HR7.out hb8)
  have HB8 := Lib.hid (bstep HB7.out hb8)
  clear u8 hb8 y7 z7
  go_wp2_with fail
  refine (SM.out _ _ _ HR8.out).mono ?_
  rintro e w9 ⟨rfl, hb9⟩
  go_wp2_with fail
  go_ret
  exact ⟨rfl, bstep HB8.out hb9⟩
end Go.Proofs.Ytpadbkplknnopaa
