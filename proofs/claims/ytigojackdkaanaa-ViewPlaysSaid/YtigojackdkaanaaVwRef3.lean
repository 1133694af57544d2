/-
  The walk of bucketlineref18.Without. Printed by gen_vwref3.py of this claim's writer.
-/
import Derived.Test.YtigojackdkaanaaVwRef2
import Derived.Test.YtigojackdkaanaaVwFollows
import Derived.Deep.DeepCutAuto
import Derived.IntWalk
namespace Go.Proofs.Ytigojackdkaanaa
open Go.RowKit

theorem rvinfo : (Try.prog.info? 41).map (·.size) = some 4 := by kernel_rfl

theorem take_erase_ne {l : List Int} {i k : Nat} (hk : k < l.length) (h : k ≠ i) : (l.take (k + 1)).eraseIdx i = (l.take k).eraseIdx i ++ [l[k]] := by
  have hlen : (l.take k).length = k := by rw [List.length_take]; omega
  rw [List.take_succ_eq_append_getElem hk]
  rcases Nat.lt_or_ge i k with h1 | h1
  · rw [List.eraseIdx_append_of_lt_length (by omega)]
  · rw [List.eraseIdx_of_length_le (by simp only [List.length_append, List.length_singleton]; omega), List.eraseIdx_of_length_le (by omega)]
theorem take_erase_eq {l : List Int} {i : Nat} : (l.take (i + 1)).eraseIdx i = (l.take i).eraseIdx i := by
  rcases Nat.lt_or_ge i l.length with h | h
  · have hlen : (l.take i).length = i := by rw [List.length_take]; omega
    rw [List.take_succ_eq_append_getElem h, List.eraseIdx_append_of_length_le (by omega), hlen]
    simp [List.eraseIdx_of_length_le (Nat.le_of_eq hlen)]
  · rw [List.take_of_length_le (by omega), List.take_of_length_le (by omega)]

/-- Two values lie in no block both. -/
def ApartV (u v : Value) : Prop := ∀ g, u.ownBlock = some g → v.ownBlock ≠ some g

structure Rows3 (w : World) (B0 : Nat) (e : TypeId) (v1 v2 v3 : Value) (l1 l2 l3 : List Int) : Prop where
  o1 : w.ownsRow B0 e 1 v1 l1.length (icells l1)
  o2 : w.ownsRow B0 e 1 v2 l2.length (icells l2)
  o3 : w.ownsRow B0 e 1 v3 l3.length (icells l3)
  a12 : ApartV v1 v2
  a13 : ApartV v1 v3
  a23 : ApartV v2 v3

theorem ApartV.symm {u v : Value} (h : ApartV u v) : ApartV v u := fun g hv hu => h g hu hv
/-- A row that was appended to lies in its old block, or in a new one. -/
theorem apart_new {u v v' : Value} {w : World} {base : Nat} {e : TypeId} {n : Nat} {xs : List Value} {g : Nat} (hu : w.ownsRow base e 1 u n xs) (h : ApartV u v) (hv' : v'.ownBlock = some g) (hat : v.ownBlock = some g ∨ g = w.heap.size) : ApartV u v' := by
  intro j hj hj2
  rw [hv'] at hj2
  injection hj2 with e
  subst e
  rcases hat with h1 | h1
  · exact h _ hj h1
  · have := (hu.lt _ hj).2
    omega
theorem ne_of_apart {u v : Value} (h : ApartV u v) : ∀ g, u.ownBlock = some g → v.ownBlock ≠ some g := h

theorem Rows3.app1 {w w' : World} {B0 : Nat} {e : TypeId} {v1 v2 v3 : Value} {l1 l2 l3 : List Int} {y : Int} {g cap n : Nat} (h : Rows3 w B0 e v1 v2 v3 l1 l2 l3) (hn : n = l1.length + 1)
    (ho : w'.ownsRow B0 e 1 (.slice (some ⟨g, 0, none⟩) n cap) n (icells (l1 ++ [y]))) (hg : w.grownBy w' v1.ownBlock) (hat : v1.ownBlock = some g ∨ g = w.heap.size) :
    Rows3 w' B0 e (.slice (some ⟨g, 0, none⟩) n cap) v2 v3 (l1 ++ [y]) l2 l3 := by
  subst hn
  exact ⟨by simpa using ho, own_grow hg h.o2 h.a12.symm, own_grow hg h.o3 h.a13.symm, (apart_new h.o2 h.a12.symm rfl hat).symm, (apart_new h.o3 h.a13.symm rfl hat).symm, h.a23⟩
theorem Rows3.app2 {w w' : World} {B0 : Nat} {e : TypeId} {v1 v2 v3 : Value} {l1 l2 l3 : List Int} {y : Int} {g cap n : Nat} (h : Rows3 w B0 e v1 v2 v3 l1 l2 l3) (hn : n = l2.length + 1)
    (ho : w'.ownsRow B0 e 1 (.slice (some ⟨g, 0, none⟩) n cap) n (icells (l2 ++ [y]))) (hg : w.grownBy w' v2.ownBlock) (hat : v2.ownBlock = some g ∨ g = w.heap.size) :
    Rows3 w' B0 e v1 (.slice (some ⟨g, 0, none⟩) n cap) v3 l1 (l2 ++ [y]) l3 := by
  subst hn
  exact ⟨own_grow hg h.o1 h.a12, by simpa using ho, own_grow hg h.o3 h.a23.symm, apart_new h.o1 h.a12 rfl hat, h.a13, (apart_new h.o3 h.a23.symm rfl hat).symm⟩
theorem Rows3.app3 {w w' : World} {B0 : Nat} {e : TypeId} {v1 v2 v3 : Value} {l1 l2 l3 : List Int} {y : Int} {g cap n : Nat} (h : Rows3 w B0 e v1 v2 v3 l1 l2 l3) (hn : n = l3.length + 1)
    (ho : w'.ownsRow B0 e 1 (.slice (some ⟨g, 0, none⟩) n cap) n (icells (l3 ++ [y]))) (hg : w.grownBy w' v3.ownBlock) (hat : v3.ownBlock = some g ∨ g = w.heap.size) :
    Rows3 w' B0 e v1 v2 (.slice (some ⟨g, 0, none⟩) n cap) l1 l2 (l3 ++ [y]) := by
  subst hn
  exact ⟨own_grow hg h.o1 h.a13, own_grow hg h.o2 h.a23, by simpa using ho, h.a12, apart_new h.o1 h.a13 rfl hat, apart_new h.o2 h.a23 rfl hat⟩
theorem Rows3.set {w : World} {B0 : Nat} {e : TypeId} {v1 v2 v3 : Value} {l1 l2 l3 : List Int} (h : Rows3 w B0 e v1 v2 v3 l1 l2 l3) (b o : Nat) (hb : b < B0) (x : Value) : Rows3 (w.setCell ⟨b, o, none⟩ x) B0 e v1 v2 v3 l1 l2 l3 :=
  ⟨own_set h.o1 b o hb x, own_set h.o2 b o hb x, own_set h.o3 b o hb x, h.a12, h.a13, h.a23⟩
theorem Rows3.below {w w' : World} {B0 : Nat} {e : TypeId} {v1 v2 v3 : Value} {l1 l2 l3 : List Int} (h : Rows3 w B0 e v1 v2 v3 l1 l2 l3) (hb : Below w.heap.size w w') : Rows3 w' B0 e v1 v2 v3 l1 l2 l3 :=
  ⟨own_below hb h.o1, own_below hb h.o2, own_below hb h.o3, h.a12, h.a13, h.a23⟩

/-- What is held through such a region. -/
theorem hold_alloc {W wr : World} {g0 : Nat} {x1 x2 : Addr} {v1 v2 : Value} (l1 : x1.block < g0) (l2 : x2.block < g0) (h : W.cell? x1 = some v1 ∧ W.cell? x2 = some v2 ∧ g0 + 1 ≤ W.heap.size ∧ Below g0 wr W) (o : Obj) : (W.alloc o).cell? x1 = some v1 ∧ (W.alloc o).cell? x2 = some v2 ∧ g0 + 1 ≤ (W.alloc o).heap.size ∧ Below g0 wr (W.alloc o) := by
  obtain ⟨h1, h2, h3, h4⟩ := h
  have hb : Below W.heap.size W (W.alloc o) := (Below.refl _ _).alloc (Nat.le_refl _) o
  exact ⟨(hb.cell (p := x1) (by omega)).trans h1, (hb.cell (p := x2) (by omega)).trans h2, by rw [World.size_alloc]; omega, h4.trans (hb.mono (by omega))⟩
theorem hold_grow {W W' wr : World} {g0 : Nat} {x1 x2 : Addr} {v1 v2 : Value} {row : Option Nat} (l1 : x1.block < g0) (l2 : x2.block < g0) (h : W.cell? x1 = some v1 ∧ W.cell? x2 = some v2 ∧ g0 + 1 ≤ W.heap.size ∧ Below g0 wr W) (hg : W.grownBy W' row) (hr : ∀ j, row = some j → g0 + 1 ≤ j) : W'.cell? x1 = some v1 ∧ W'.cell? x2 = some v2 ∧ g0 + 1 ≤ W'.heap.size ∧ Below g0 wr W' := by
  obtain ⟨h1, h2, h3, h4⟩ := h
  exact ⟨(hg.cell_far x1 (by omega) (fun e => by have := hr _ e.symm; omega)).trans h1, (hg.cell_far x2 (by omega) (fun e => by have := hr _ e.symm; omega)).trans h2, Nat.le_trans h3 hg.size, h4.grown hg (by omega) (fun j hj => by have := hr j hj; omega)⟩
theorem hold_set {W wr : World} {g0 : Nat} {x1 x2 : Addr} {v1 v2 : Value} (l1 : x1.block < g0) (l2 : x2.block < g0) (h : W.cell? x1 = some v1 ∧ W.cell? x2 = some v2 ∧ g0 + 1 ≤ W.heap.size ∧ Below g0 wr W) (o : Nat) (x : Value) : (W.setCell ⟨g0, o, none⟩ x).cell? x1 = some v1 ∧ (W.setCell ⟨g0, o, none⟩ x).cell? x2 = some v2 ∧ g0 + 1 ≤ (W.setCell ⟨g0, o, none⟩ x).heap.size ∧ Below g0 wr (W.setCell ⟨g0, o, none⟩ x) := by
  obtain ⟨h1, h2, h3, h4⟩ := h
  refine ⟨?_, ?_, by rw [World.size_setCell]; exact h3, h4.setCell (p := ⟨g0, o, none⟩) (Nat.le_refl _) x⟩
  · rw [World.cell?_setCell_other _ _ _ _ (fun e => by subst e; simp only at l1; omega)]; exact h1
  · rw [World.cell?_setCell_other _ _ _ _ (fun e => by subst e; simp only at l2; omega)]; exact h2

set_option maxRecDepth 100000 in
set_option maxHeartbeats 3200000 in
theorem refWithout_any (B : Nat) (v : Value) (V : VW) (x : Int) (A : VW) (c : Nat) (hA : withoutV V x = (A, c)) (w : World) (h : IsView B w v V) (hB : B ≤ w.heap.size) (hsm : SmallV V) :
    Calls Try.prog 36 #[v, .int .i64 x] w fun e w' => ∃ va, e = .returned (.tuple #[va, .int .i64 c]) ∧ IsView w'.heap.size w' va A ∧ Below w.heap.size w w' := by
  have hv := Lib.hid h
  obtain ⟨he, cc, s, bt, rfl, h1, h2, h3⟩ := h
  have H1 := Lib.hid h1
  have H2 := Lib.hid h2
  have H3 := Lib.hid h3
  obtain ⟨a1, k1, rfl⟩ := h1.form
  obtain ⟨a2, k2, rfl⟩ := h2.form
  obtain ⟨a3, k3, rfl⟩ := h3.form
  have hs1 := hsm.1
  have hC1 := fun (p : Int) (hp : placeV V x = p) (w1 : World) (hb1 : Below w.heap.size w w1) => refPlace_any B _ V x p hp w1 (hv.out.keep hb1 hB) (Nat.le_trans hB hb1.size) hsm
  have C2 := Lib.hid (fun (b' : Bool) (hb : b' = rightB V) (w1 : World) (hb1 : Below w.heap.size w w1) => refRight_any B _ V w1 (hv.out.keep hb1 hB) (Nat.le_trans hB hb1.size) hsm b' hb)
  clear h1 h2 h3
  cases hr : rightB V with
  | false =>
    have C2' := Lib.hid (C2.out false hr.symm)
    obtain ⟨rfl, rfl⟩ : zeroV = A ∧ 1 = c := by
      rw [withoutV, if_pos hr] at hA
      injection hA with e1 e2
      exact ⟨e1, e2⟩
    clear hC1 hr hA C2
    go_enter Try.func36, Try.ntmps36
    go_wp2_with fail
    refine (C2'.out _ ?_).mono ?_
    · exact below_two _ _
    rintro e w1 ⟨rfl, hb1⟩
    have hb12 : Below (w.heap.size + 2) _ w1 := hb1.mono (by simp)
    obtain ⟨y0, y1, y2, y3⟩ := box_cells hb12
    obtain ⟨z0, z1, z2, z3⟩ := res_cells hb12
    have f0 := res_frozen hb12 0
    have f1 := res_frozen hb12 1
    have f2 := res_frozen hb12 2
    have f3 := res_frozen hb12 3
    go_wp2_with fail
    all_goals
      (try simp only [Exit.inBlock, Exit.then])
      first
        | (exfalso; omega)
        | (refine bodyPost_ret (ret_cell4 rfl _ _ _ _ _ _ _ _ _ _ _ _ _ (by rfl) (res_block hb12) Try.underlying41 rfl rvinfo) rfl ?_
           refine ⟨_, rfl, view_nil _ _, below_set4 (below_two' hb12) _ (by omega) _ _ _ _⟩)
  | true =>
    have C2' := Lib.hid (C2.out true hr.symm)
    rcases placeV_spec V x with ⟨hp, _⟩ | ⟨hR, i, hi, hp, hix⟩
    · have C1 := Lib.hid (hC1 _ hp)
      obtain ⟨rfl, rfl⟩ : zeroV = A ∧ 6 = c := by
        rw [withoutV, if_neg (by rw [hr]; decide), if_pos (by omega)] at hA
        injection hA with e1 e2
        exact ⟨e1, e2⟩
      clear hC1 hr hA C2 hp
      go_enter Try.func36, Try.ntmps36
      go_wp2_with fail
      refine (C2'.out _ ?_).mono ?_
      · exact below_two _ _
      rintro e w1 ⟨rfl, hb1⟩
      have hb12 : Below (w.heap.size + 2) _ w1 := hb1.mono (by simp)
      obtain ⟨y0, y1, y2, y3⟩ := box_cells hb12
      obtain ⟨z0, z1, z2, z3⟩ := res_cells hb12
      have f0 := res_frozen hb12 0
      have f1 := res_frozen hb12 1
      have f2 := res_frozen hb12 2
      have f3 := res_frozen hb12 3
      go_wp2_with fail
      refine (C1.out _ (below_two' hb12)).mono ?_
      rintro e w2 ⟨rfl, hb2⟩
      replace hb12 := below_more hb12 (size_two hb12) hb2
      obtain ⟨y0, y1, y2, y3⟩ := box_cells hb12
      obtain ⟨z0, z1, z2, z3⟩ := res_cells hb12
      have f0 := res_frozen hb12 0
      have f1 := res_frozen hb12 1
      have f2 := res_frozen hb12 2
      have f3 := res_frozen hb12 3
      go_wp2_with fail
      all_goals
        (try simp only [Exit.inBlock, Exit.then])
        first
          | (exfalso; omega)
          | (refine bodyPost_ret (ret_cell4 rfl _ _ _ _ _ _ _ _ _ _ _ _ _ (by rfl) (res_block hb12) Try.underlying41 rfl rvinfo) rfl ?_
             refine ⟨_, rfl, view_nil _ _, below_set4 (below_two' hb12) _ (by omega) _ _ _ _⟩)
    · have g1 : ¬ ((i : Int) < 0) := by omega
      have Hi := Lib.hid hi
      have Hix := Lib.hid hix
      have C1 := Lib.hid (hC1 _ hp)
      by_cases hn1 : V.chain.length = 1
      · have g2 : ((V.chain.length : Int) == 1) = true := by rw [hn1]; rfl
        obtain ⟨rfl, rfl⟩ : zeroV = A ∧ 9 = c := by
          rw [withoutV, if_neg (by rw [hr]; decide), if_neg (by omega), if_pos hn1] at hA
          injection hA with e1 e2
          exact ⟨e1, e2⟩
        clear hn1 hC1 hr hA C2 hp hix
        go_enter Try.func36, Try.ntmps36
        go_wp2_with fail
        refine (C2'.out _ ?_).mono ?_
        · exact below_two _ _
        rintro e w1 ⟨rfl, hb1⟩
        have hb12 : Below (w.heap.size + 2) _ w1 := hb1.mono (by simp)
        obtain ⟨y0, y1, y2, y3⟩ := box_cells hb12
        obtain ⟨z0, z1, z2, z3⟩ := res_cells hb12
        have f0 := res_frozen hb12 0
        have f1 := res_frozen hb12 1
        have f2 := res_frozen hb12 2
        have f3 := res_frozen hb12 3
        go_wp2_with fail
        refine (C1.out _ (below_two' hb12)).mono ?_
        rintro e w2 ⟨rfl, hb2⟩
        replace hb12 := below_more hb12 (size_two hb12) hb2
        obtain ⟨y0, y1, y2, y3⟩ := box_cells hb12
        obtain ⟨z0, z1, z2, z3⟩ := res_cells hb12
        have f0 := res_frozen hb12 0
        have f1 := res_frozen hb12 1
        have f2 := res_frozen hb12 2
        have f3 := res_frozen hb12 3
        go_wp2_with fail
        all_goals
          (try simp only [Exit.inBlock, Exit.then])
          first
            | (exfalso; omega)
            | (refine bodyPost_ret (ret_cell4 rfl _ _ _ _ _ _ _ _ _ _ _ _ _ (by rfl) (res_block hb12) Try.underlying41 rfl rvinfo) rfl ?_
               refine ⟨_, rfl, view_nil _ _, below_set4 (below_two' hb12) _ (by omega) _ _ _ _⟩)
      · have g2 : ((V.chain.length : Int) == 1) = false := by rw [beq_eq_false_iff_ne]; omega
        by_cases he1 : V.epoch = 274877906944
        · have g3 : (V.epoch == 274877906944) = true := by rw [he1]; rfl
          obtain ⟨rfl, rfl⟩ : zeroV = A ∧ 4 = c := by
            rw [withoutV, if_neg (by rw [hr]; decide), if_neg (by omega), if_neg hn1, if_pos he1] at hA
            injection hA with e1 e2
            exact ⟨e1, e2⟩
          clear he1 hC1 hr hA C2 hp hix
          go_enter Try.func36, Try.ntmps36
          go_wp2_with fail
          refine (C2'.out _ ?_).mono ?_
          · exact below_two _ _
          rintro e w1 ⟨rfl, hb1⟩
          have hb12 : Below (w.heap.size + 2) _ w1 := hb1.mono (by simp)
          obtain ⟨y0, y1, y2, y3⟩ := box_cells hb12
          obtain ⟨z0, z1, z2, z3⟩ := res_cells hb12
          have f0 := res_frozen hb12 0
          have f1 := res_frozen hb12 1
          have f2 := res_frozen hb12 2
          have f3 := res_frozen hb12 3
          go_wp2_with fail
          refine (C1.out _ (below_two' hb12)).mono ?_
          rintro e w2 ⟨rfl, hb2⟩
          replace hb12 := below_more hb12 (size_two hb12) hb2
          obtain ⟨y0, y1, y2, y3⟩ := box_cells hb12
          obtain ⟨z0, z1, z2, z3⟩ := res_cells hb12
          have f0 := res_frozen hb12 0
          have f1 := res_frozen hb12 1
          have f2 := res_frozen hb12 2
          have f3 := res_frozen hb12 3
          go_wp2_with fail
          all_goals
            (try simp only [Exit.inBlock, Exit.then])
            first
              | (exfalso; omega)
              | (refine bodyPost_ret (ret_cell4 rfl _ _ _ _ _ _ _ _ _ _ _ _ _ (by rfl) (res_block hb12) Try.underlying41 rfl rvinfo) rfl ?_
                 refine ⟨_, rfl, view_nil _ _, below_set4 (below_two' hb12) _ (by omega) _ _ _ _⟩)
        · have g3 : (V.epoch == 274877906944) = false := by rw [beq_eq_false_iff_ne]; omega
          obtain ⟨rfl, rfl⟩ : ⟨V.epoch + 1, V.chain.eraseIdx i, V.since.eraseIdx i, V.boot.eraseIdx i⟩ = A ∧ 0 = c := by
            rw [withoutV_ok hR hp hn1 he1] at hA
            injection hA with e1 e2
            exact ⟨e1, e2⟩
          have g4 : 1 ≤ V.epoch := hR.e1
          have g5 : V.epoch ≤ 274877906944 := hR.e2
          have gw : IntKind.i64.wrap (V.epoch + 1) = V.epoch + 1 := IntWalk.i64_in _ (by omega)
          have HR := Lib.hid hR
          have hn6 : V.chain.length ≤ 6 := hR.n2
          have hls : V.since.length = V.chain.length := hR.s
          have hlb : V.boot.length = V.chain.length := hR.b
          have Hls := Lib.hid hls
          have Hlb := Lib.hid hlb
          obtain ⟨i0, hi0, hz0, hz1, hz2⟩ := info_parts iinfo
          clear hC1 hp hr hA C2 hR hls hlb hix
          go_enter Try.func36, Try.ntmps36
          go_wp2_with fail
          refine (C2'.out _ ?_).mono ?_
          · exact below_two _ _
          rintro e w1 ⟨rfl, hb1⟩
          have hb12 : Below (w.heap.size + 2) _ w1 := hb1.mono (by simp)
          obtain ⟨y0, y1, y2, y3⟩ := box_cells hb12
          obtain ⟨z0, z1, z2, z3⟩ := res_cells hb12
          have f0 := res_frozen hb12 0
          have f1 := res_frozen hb12 1
          have f2 := res_frozen hb12 2
          have f3 := res_frozen hb12 3
          go_wp2_with fail
          refine (C1.out _ (below_two' hb12)).mono ?_
          rintro e w2 ⟨rfl, hb2⟩
          replace hb12 := below_more hb12 (size_two hb12) hb2
          obtain ⟨y0, y1, y2, y3⟩ := box_cells hb12
          obtain ⟨z0, z1, z2, z3⟩ := res_cells hb12
          have f0 := res_frozen hb12 0
          have f1 := res_frozen hb12 1
          have f2 := res_frozen hb12 2
          have f3 := res_frozen hb12 3
          go_wp2_with fail
          obtain ⟨g0, hg0e⟩ : ∃ n, w2.heap.size = n := ⟨_, rfl⟩
          have hg0 : w.heap.size + 2 ≤ g0 := by rw [← hg0e]; exact size_two hb12
          rw [hg0e]
          go_loopw [8] (fun t8 wr => ∃ (k : Nat) (r1 r2 r3 : Value), k ≤ V.chain.length ∧ t8 = .int .i64 k ∧ wr.heap[g0]? = some (.cells #[.int .i64 (V.epoch + 1), r1, r2, r3] 41) ∧ Rows3 wr (g0 + 1) 3 r1 r2 r3 ((V.chain.take k).eraseIdx i) ((V.since.take k).eraseIdx i) ((V.boot.take k).eraseIdx i) ∧ Below g0 w2 wr ∧ g0 + 1 ≤ wr.heap.size) (fun t8 _ => V.chain.length - (intOf t8).toNat)
          case atStart =>
            have e0 : ∀ l : List Int, (l.take 0).eraseIdx i = [] := fun l => by simp
            refine ⟨0, .slice none 0 0, .slice none 0 0, .slice none 0 0, Nat.zero_le _, rfl, by rw [← hg0e]; exact heap_alloc_new _ _, ?_, (Below.refl _ _).alloc (by omega) _, by rw [World.size_alloc]; omega⟩
            rw [e0, e0, e0]
            exact ⟨World.ownsRow_nil _ _ _ _, World.ownsRow_nil _ _ _ _, World.ownsRow_nil _ _ _ _, (fun g hg => by simp [Value.ownBlock] at hg), (fun g hg => by simp [Value.ownBlock] at hg), (fun g hg => by simp [Value.ownBlock] at hg)⟩
          case round =>
            obtain ⟨k, r1, r2, r3, hk, rfl, hblk, hrows, hbl, hsz⟩ := hrel
            by_cases hlt : k < V.chain.length
            · have hks : k < V.since.length := by have := Hls.out; omega
              have hkb : k < V.boot.length := by have := Hlb.out; omega
              obtain ⟨yc, hyc⟩ : ∃ z, V.chain[k] = z := ⟨_, rfl⟩
              obtain ⟨ys, hys⟩ : ∃ z, V.since[k] = z := ⟨_, rfl⟩
              obtain ⟨yb, hyb⟩ : ∃ z, V.boot[k] = z := ⟨_, rfl⟩
              have E1 := Lib.hid hyc
              have E2 := Lib.hid hys
              have E3 := Lib.hid hyb
              clear hyc hys hyb
              have hbw1 : Below w.heap.size w wr := (below_two' hb12).trans (hbl.mono (by omega))
              obtain ⟨b1, o1, q1, he1, hl1, _, hc1⟩ := (H1.out.keep hbw1 hB).get k hlt
              obtain ⟨rfl, -, rfl⟩ : a1 = some ⟨b1, o1, none⟩ ∧ V.chain.length = V.chain.length ∧ k1 = q1 := by injection he1 with e1 e2 e3; exact ⟨e1, e2, e3⟩
              clear he1
              rw [E1.out] at hc1
              have yw1 := (hbl.cell (p := ⟨w.heap.size, 1, none⟩) (by simp only; omega)).trans y1
              have i1 : (0 : Int) ≤ (k : Int) := by omega
              have i2 : (k : Int) < (V.chain.length : Int) := by omega
              have i3 : (k : Int) < (V.since.length : Int) := by omega
              have i4 : (k : Int) < (V.boot.length : Int) := by omega
              by_cases hki : k = i
              · have g : (yc != x) = false := by
                  subst hki
                  rw [bne_eq_false_iff_eq, ← E1.out, Hix.out]
                have Hki := Lib.hid hki
                clear hki
                go_wp2_with fail
                go_roundw
                case rel =>
                  refine ⟨k + 1, r1, r2, r3, by omega, by go_num, hblk, ?_, hbl, hsz⟩
                  have hki := Hki.out
                  subst hki
                  rw [take_erase_eq, take_erase_eq, take_erase_eq]
                  exact hrows
                case measure => simp [intOf]; omega
              · have g : (yc != x) = true := by
                  rw [bne_iff_ne, ← E1.out]
                  intro e
                  have nd := HR.out.list.nd
                  rw [List.nodup_iff_pairwise_ne, List.pairwise_iff_getElem] at nd
                  have e' : V.chain[k] = V.chain[i]'Hi.out := e.trans Hix.out.symm
                  rcases Nat.lt_trichotomy k i with h | h | h
                  · exact nd k i hlt Hi.out h e'
                  · exact hki h
                  · exact nd i k Hi.out hlt h e'.symm
                go_upto_region 15 with fail
                go_cut [] (fun wx => ∃ r', wx.heap[g0]? = some (.cells #[.int .i64 (V.epoch + 1), r', r2, r3] 41) ∧ Rows3 wx (g0 + 1) 3 r' r2 r3 ((V.chain.take (k + 1)).eraseIdx i) ((V.since.take k).eraseIdx i) ((V.boot.take k).eraseIdx i) ∧ Below g0 w2 wx ∧ g0 + 1 ≤ wx.heap.size)
                case first => as_aux_lemma =>
                  have hyb1 : wr.cell? ⟨w.heap.size, 1, none⟩ = some (.slice (some ⟨b1, o1, none⟩) V.chain.length k1) := (hbl.cell (p := ⟨w.heap.size, 1, none⟩) (by simp only; omega)).trans y1
                  obtain ⟨u0, u1, u2, u3⟩ := block_cells hblk
                  obtain ⟨fz0, fz1, fz2, fz3⟩ := block_frozen hblk
                  have lt1 : (⟨w.heap.size, 1, none⟩ : Addr).block < g0 := by simp only; omega
                  have lt2 : (⟨b1, o1 + k, none⟩ : Addr).block < g0 := by simp only; omega
                  have hnw1 : wr.heap.size ≠ g0 := by omega
                  have hlt0 : g0 < wr.heap.size := by omega
                  have hrow : ∀ j, r1.ownBlock = some j → g0 + 1 ≤ j := fun j hj => (hrows.o1.lt j hj).1
                  have hn : ((V.chain.take k).eraseIdx i).length ≤ 6 := by
                    have h1 := List.length_eraseIdx_le (V.chain.take k) i
                    rw [List.length_take] at h1
                    omega
                  have hba : Below wr.heap.size wr (wr.drew.alloc (.cells #[.int .i64 yc] 3)) := ((Below.refl _ _).drew).alloc (by simp) _
                  have hra := hrows.below hba
                  have hca : (wr.drew.alloc (.cells #[.int .i64 yc] 3)).cell? ⟨g0, 1, none⟩ = some r1 := (hba.cell (p := ⟨g0, 1, none⟩) (by simp only; omega)).trans u1
                  have hfa : (wr.drew.alloc (.cells #[.int .i64 yc] 3)).frozen? ⟨g0, 1, none⟩ = false := (hba.frozen (p := ⟨g0, 1, none⟩) (by simp only; omega)).trans fz1
                  have hga := (hba.block g0 (by omega)).trans hblk
                  have hra1 := hra.o1
                  have HRA := Lib.hid hra
                  have HGA := Lib.hid hga
                  have HBA := Lib.hid hba
                  clear hra hga hba
                  have hh : wr.drew.cell? ⟨w.heap.size, 1, none⟩ = some (.slice (some ⟨b1, o1, none⟩) V.chain.length k1) ∧ wr.drew.cell? ⟨b1, o1 + k, none⟩ = some (.int .i64 yc) ∧ g0 + 1 ≤ wr.drew.heap.size ∧ Below g0 wr wr.drew := ⟨hyb1, hc1, hsz, (Below.refl _ _).drew⟩
                  refine region_begin (S := fun W => W.cell? ⟨w.heap.size, 1, none⟩ = some (.slice (some ⟨b1, o1, none⟩) V.chain.length k1) ∧ W.cell? ⟨b1, o1 + k, none⟩ = some (.int .i64 yc) ∧ g0 + 1 ≤ W.heap.size ∧ Below g0 wr W) 11 rfl (by kernel_rfl) hh (fun hH0 => ?_)
                  refine wpAnyH_take (i := 0) (oi := ?ot1_0) (v := ?vt1_0) ?hit1_0 (by kernel_rfl) (by kernel_rfl) (by kernel_rfl) ?hQt1_0 ?hyt1_0 hH0 ?_
                  case hit1_0 => simp only [List.getElem?_toArray, List.getElem?_cons_zero]; rfl
                  case hQt1_0 => exact fun _ _ _ h => h
                  case hyt1_0 => refine Or.inl ⟨by rfl, ?_⟩; intro W hSw; (try dsimp only at hSw); go_simp; try with_reducible rfl
                  simp only [Act.put, List.setIfInBounds_toArray, List.set_cons_zero, List.set_cons_succ]
                  refine wpAnyH_take (i := 2) (oi := ?ot1_2) (v := ?vt1_2) ?hit1_2 (by kernel_rfl) (by kernel_rfl) (by kernel_rfl) ?hQt1_2 ?hyt1_2 hH0 ?_
                  case hit1_2 => simp only [List.getElem?_toArray, List.getElem?_cons_zero, List.getElem?_cons_succ]; rfl
                  case hQt1_2 => exact fun _ _ _ h => h
                  case hyt1_2 => refine Or.inl ⟨by rfl, ?_⟩; intro W hSw; (try dsimp only at hSw); go_simp; try with_reducible rfl
                  simp only [Act.put, List.setIfInBounds_toArray, List.set_cons_zero, List.set_cons_succ]
                  refine wpAnyH_take (i := 3) (oi := ?ot1_3) (v := ?vt1_3) ?hit1_3 (by kernel_rfl) (by kernel_rfl) (by kernel_rfl) ?hQt1_3 ?hyt1_3 hH0 ?_
                  case hit1_3 => simp only [List.getElem?_toArray, List.getElem?_cons_zero, List.getElem?_cons_succ]; rfl
                  case hQt1_3 => exact fun _ _ _ h => h
                  case hyt1_3 => refine Or.inl ⟨by rfl, ?_⟩; intro W hSw; (try dsimp only at hSw); go_simp; try with_reducible rfl
                  simp only [Act.put, List.setIfInBounds_toArray, List.set_cons_zero, List.set_cons_succ]
                  refine wpAnyH_take (i := 4) (oi := ?ot1_4) (v := ?vt1_4) ?hit1_4 (by kernel_rfl) (by kernel_rfl) (by kernel_rfl) ?hQt1_4 ?hyt1_4 hH0 ?_
                  case hit1_4 => simp only [List.getElem?_toArray, List.getElem?_cons_zero, List.getElem?_cons_succ]; rfl
                  case hQt1_4 => exact fun _ _ _ h => h
                  case hyt1_4 => refine Or.inl ⟨by rfl, ?_⟩; intro W hSw; (try dsimp only at hSw); go_simp; try with_reducible rfl
                  simp only [Act.put, List.setIfInBounds_toArray, List.set_cons_zero, List.set_cons_succ]
                  refine wpAnyH_take (i := 5) (oi := ?ot1_5) (v := ?vt1_5) ?hit1_5 (by kernel_rfl) (by kernel_rfl) (by kernel_rfl) ?hQt1_5 ?hyt1_5 hH0 ?_
                  case hit1_5 => simp only [List.getElem?_toArray, List.getElem?_cons_zero, List.getElem?_cons_succ]; rfl
                  case hQt1_5 => exact fun _ _ _ h => h
                  case hyt1_5 => refine Or.inl ⟨by rfl, ?_⟩; intro W hSw; (try dsimp only at hSw); go_simp; try with_reducible rfl
                  simp only [Act.put, List.setIfInBounds_toArray, List.set_cons_zero, List.set_cons_succ]
                  refine wpAnyH_take (i := 6) (oi := ?ot1_6) (v := ?vt1_6) ?hit1_6 (by kernel_rfl) (by kernel_rfl) (by kernel_rfl) ?hQt1_6 ?hyt1_6 hH0 ?_
                  case hit1_6 => simp only [List.getElem?_toArray, List.getElem?_cons_zero, List.getElem?_cons_succ]; rfl
                  case hQt1_6 => exact fun _ _ _ h => h
                  case hyt1_6 => refine Or.inl ⟨by rfl, ?_⟩; intro W hSw; (try dsimp only at hSw); go_simp; try with_reducible rfl
                  simp only [Act.put, List.setIfInBounds_toArray, List.set_cons_zero, List.set_cons_succ]
                  refine wpAnyH_ready (rs := [1, 7]) (by kernel_rfl) (by simp) ?_
                  refine AllReadyH.cons (o := ?ow1a) ?how1a (fun K' hK => ?_) (AllReadyH.cons (o := ?ow1b) ?how1b (fun K' hK => ?_) AllReadyH.nil)
                  case how1a => simp only [List.getElem?_toArray, List.getElem?_cons_zero, List.getElem?_cons_succ]; rfl
                  case how1b => simp only [List.getElem?_toArray, List.getElem?_cons_zero, List.getElem?_cons_succ]; rfl
                  · go_simp
                    refine hK.out _ _ hH0 (fun hH1 => ?_)
                    clear hK K'
                    (try simp only [Act.put, List.setIfInBounds_toArray, List.set_cons_zero, List.set_cons_succ])
                    refine wpAnyH_ready (rs := [7]) (by kernel_rfl) (by simp) ?_
                    refine AllReadyH.cons (o := ?ob1x) ?hob1x (fun K' hK => ?_) AllReadyH.nil
                    case hob1x => simp only [List.getElem?_toArray, List.getElem?_cons_zero, List.getElem?_cons_succ]; rfl
                    go_simp
                    refine hK.out _ _ (hold_alloc lt1 lt2 hH1 _) (fun hH2 => ?_)
                    clear hK K'
                    (try simp only [Act.put, List.setIfInBounds_toArray, List.set_cons_zero, List.set_cons_succ])
                    refine wpAnyH_ready (rs := [8]) (by kernel_rfl) (by simp) ?_
                    refine AllReadyH.cons (o := ?oc1x) ?hoc1x (fun K' hK => ?_) AllReadyH.nil
                    case hoc1x => simp only [List.getElem?_toArray, List.getElem?_cons_zero, List.getElem?_cons_succ]; rfl
                    refine step_append_lies _ (by rfl) _ _ _ (by rfl) (g0 + 1) 3 i0 _ 1 8 Try.underlying22 hi0 hz0 hz1 hz2 rfl (by omega) r1 _ _ (by rfl) hra1 ⟨wr.heap.size, 0, none⟩ 1 1 [.int .i64 yc] (by rfl) (by rfl) (news_one (by simp)) (by simp [Value.oneCell']) (by omega) (by unfold maxLen; omega) (by omega) (by simp; omega) _ rfl ?_
                    intro gg cap W' hown hgrow hat hlt2
                    rw [← icells_snoc] at hown
                    have hc' := (hgrow.cell_far ⟨g0, 1, none⟩ (by simp; omega) (fun e => by have := hrow _ e.symm; simp only at this; omega)).trans hca
                    have hf' := (hgrow.frozen_far ⟨g0, 1, none⟩ (by simp; omega) (fun e => by have := hrow _ e.symm; simp only at this; omega)).trans hfa
                    have HOWN := Lib.hid hown
                    have HAT := Lib.hid hat
                    clear hown hat
                    refine hK.out _ _ (hold_grow lt1 lt2 hH2 hgrow hrow) (fun hH3 => ?_)
                    clear hK K'
                    (try simp only [Act.put, List.setIfInBounds_toArray, List.set_cons_zero, List.set_cons_succ])
                    refine wpAnyH_take (i := 9) (oi := ?oe1x) (v := ?ve1x) ?hie1x (by kernel_rfl) (by kernel_rfl) (by kernel_rfl) ?hQe1x ?hye1x hH3 ?_
                    case hie1x => simp only [List.getElem?_toArray, List.getElem?_cons_zero, List.getElem?_cons_succ]; rfl
                    case hQe1x => exact fun _ _ _ h => h
                    case hye1x => refine Or.inl ⟨by rfl, ?_⟩; intro W hSw; (try dsimp only at hSw); go_simp; try with_reducible rfl
                    simp only [Act.put, List.setIfInBounds_toArray, List.set_cons_zero, List.set_cons_succ]
                    refine wpAnyH_ready (rs := [10]) (by kernel_rfl) (by simp) ?_
                    refine AllReadyH.cons (o := ?og1x) ?hog1x (fun K' hK => ?_) AllReadyH.nil
                    case hog1x => simp only [List.getElem?_toArray, List.getElem?_cons_zero, List.getElem?_cons_succ]; rfl
                    go_simp
                    refine hK.out _ _ (hold_set lt1 lt2 hH3 _ _) (fun hH4 => ?_)
                    clear hK K'
                    (try simp only [Act.put, List.setIfInBounds_toArray, List.set_cons_zero, List.set_cons_succ])
                    refine wpAnyH_done (by kernel_rfl) ?_ _
                    go_wp2
                    go_meet
                    case rel =>
                      refine ⟨.slice (some ⟨gg, 0, none⟩) (((V.chain.take k).eraseIdx i).length + 1) cap, ?_, ?_, ?_, ?_⟩
                      rotate_left
                      · have k1 := (HRA.out.app1 rfl HOWN.out hgrow HAT.out).set g0 1 (by omega) (.slice (some ⟨gg, 0, none⟩) (((V.chain.take k).eraseIdx i).length + 1) cap)
                        rw [← E1.out, ← take_erase_ne hlt hki] at k1
                        exact k1
                      · exact hbl.trans (((HBA.out.mono (show g0 ≤ wr.heap.size by omega)).grown hgrow (by simp; omega) (fun j hj => show g0 ≤ j by have := hrow j hj; omega)).setCell (p := ⟨g0, 1, none⟩) (Nat.le_refl _) _)
                      · have k1 := hgrow.size
                        simp only [World.size_alloc, World.size_drew, World.size_setCell] at k1 ⊢
                        omega
                      · have k1 := block_set ((hgrow.block g0 (by simp; omega) (fun e => by have := hrow _ e.symm; omega)).trans HGA.out) 1 (.slice (some ⟨gg, 0, none⟩) (((V.chain.take k).eraseIdx i).length + 1) cap)
                        simpa using k1
                  · go_simp
                    refine hK.out _ _ (hold_alloc lt1 lt2 hH0 _) (fun hH2 => ?_)
                    clear hK K'
                    (try simp only [Act.put, List.setIfInBounds_toArray, List.set_cons_zero, List.set_cons_succ])
                    refine wpAnyH_ready (rs := [1]) (by kernel_rfl) (by simp) ?_
                    refine AllReadyH.cons (o := ?ob1y) ?hob1y (fun K' hK => ?_) AllReadyH.nil
                    case hob1y => simp only [List.getElem?_toArray, List.getElem?_cons_zero, List.getElem?_cons_succ]; rfl
                    go_simp
                    refine hK.out _ _ hH2 (fun hH5 => ?_)
                    clear hK K'
                    (try simp only [Act.put, List.setIfInBounds_toArray, List.set_cons_zero, List.set_cons_succ])
                    refine wpAnyH_ready (rs := [8]) (by kernel_rfl) (by simp) ?_
                    refine AllReadyH.cons (o := ?oc1y) ?hoc1y (fun K' hK => ?_) AllReadyH.nil
                    case hoc1y => simp only [List.getElem?_toArray, List.getElem?_cons_zero, List.getElem?_cons_succ]; rfl
                    refine step_append_lies _ (by rfl) _ _ _ (by rfl) (g0 + 1) 3 i0 _ 1 8 Try.underlying22 hi0 hz0 hz1 hz2 rfl (by omega) r1 _ _ (by rfl) hra1 ⟨wr.heap.size, 0, none⟩ 1 1 [.int .i64 yc] (by rfl) (by rfl) (news_one (by simp)) (by simp [Value.oneCell']) (by omega) (by unfold maxLen; omega) (by omega) (by simp; omega) _ rfl ?_
                    intro gg cap W' hown hgrow hat hlt2
                    rw [← icells_snoc] at hown
                    have hc' := (hgrow.cell_far ⟨g0, 1, none⟩ (by simp; omega) (fun e => by have := hrow _ e.symm; simp only at this; omega)).trans hca
                    have hf' := (hgrow.frozen_far ⟨g0, 1, none⟩ (by simp; omega) (fun e => by have := hrow _ e.symm; simp only at this; omega)).trans hfa
                    have HOWN := Lib.hid hown
                    have HAT := Lib.hid hat
                    clear hown hat
                    refine hK.out _ _ (hold_grow lt1 lt2 hH2 hgrow hrow) (fun hH3 => ?_)
                    clear hK K'
                    (try simp only [Act.put, List.setIfInBounds_toArray, List.set_cons_zero, List.set_cons_succ])
                    refine wpAnyH_take (i := 9) (oi := ?oe1y) (v := ?ve1y) ?hie1y (by kernel_rfl) (by kernel_rfl) (by kernel_rfl) ?hQe1y ?hye1y hH3 ?_
                    case hie1y => simp only [List.getElem?_toArray, List.getElem?_cons_zero, List.getElem?_cons_succ]; rfl
                    case hQe1y => exact fun _ _ _ h => h
                    case hye1y => refine Or.inl ⟨by rfl, ?_⟩; intro W hSw; (try dsimp only at hSw); go_simp; try with_reducible rfl
                    simp only [Act.put, List.setIfInBounds_toArray, List.set_cons_zero, List.set_cons_succ]
                    refine wpAnyH_ready (rs := [10]) (by kernel_rfl) (by simp) ?_
                    refine AllReadyH.cons (o := ?og1y) ?hog1y (fun K' hK => ?_) AllReadyH.nil
                    case hog1y => simp only [List.getElem?_toArray, List.getElem?_cons_zero, List.getElem?_cons_succ]; rfl
                    go_simp
                    refine hK.out _ _ (hold_set lt1 lt2 hH3 _ _) (fun hH4 => ?_)
                    clear hK K'
                    (try simp only [Act.put, List.setIfInBounds_toArray, List.set_cons_zero, List.set_cons_succ])
                    refine wpAnyH_done (by kernel_rfl) ?_ _
                    go_wp2
                    go_meet
                    case rel =>
                      refine ⟨.slice (some ⟨gg, 0, none⟩) (((V.chain.take k).eraseIdx i).length + 1) cap, ?_, ?_, ?_, ?_⟩
                      rotate_left
                      · have k1 := (HRA.out.app1 rfl HOWN.out hgrow HAT.out).set g0 1 (by omega) (.slice (some ⟨gg, 0, none⟩) (((V.chain.take k).eraseIdx i).length + 1) cap)
                        rw [← E1.out, ← take_erase_ne hlt hki] at k1
                        exact k1
                      · exact hbl.trans (((HBA.out.mono (show g0 ≤ wr.heap.size by omega)).grown hgrow (by simp; omega) (fun j hj => show g0 ≤ j by have := hrow j hj; omega)).setCell (p := ⟨g0, 1, none⟩) (Nat.le_refl _) _)
                      · have k1 := hgrow.size
                        simp only [World.size_alloc, World.size_drew, World.size_setCell] at k1 ⊢
                        omega
                      · have k1 := block_set ((hgrow.block g0 (by simp; omega) (fun e => by have := hrow _ e.symm; omega)).trans HGA.out) 1 (.slice (some ⟨gg, 0, none⟩) (((V.chain.take k).eraseIdx i).length + 1) cap)
                        simpa using k1
                case rest =>
                  clear hblk hrows hbl hsz
                  obtain ⟨r1, hblk, hrows, hbl, hsz⟩ := hcut
                  obtain ⟨wx1, hwx⟩ : ∃ z, z = wc := ⟨wc, rfl⟩
                  subst hwx
                  go_upto_region 16 with fail
                  go_cut [] (fun wx => ∃ r', wx.heap[g0]? = some (.cells #[.int .i64 (V.epoch + 1), r1, r', r3] 41) ∧ Rows3 wx (g0 + 1) 3 r1 r' r3 ((V.chain.take (k + 1)).eraseIdx i) ((V.since.take (k + 1)).eraseIdx i) ((V.boot.take k).eraseIdx i) ∧ Below g0 w2 wx ∧ g0 + 1 ≤ wx.heap.size)
                  case first => as_aux_lemma =>
                    have hbw2 : Below w.heap.size w wx1 := (below_two' hb12).trans (hbl.mono (by omega))
                    obtain ⟨b2, o2, q2, he2, hl2, _, hc2⟩ := (H2.out.keep hbw2 hB).get k hks
                    obtain ⟨rfl, -, rfl⟩ : a2 = some ⟨b2, o2, none⟩ ∧ V.since.length = V.since.length ∧ k2 = q2 := by injection he2 with e1 e2 e3; exact ⟨e1, e2, e3⟩
                    clear he2
                    rw [E2.out] at hc2
                    have hyb2 : wx1.cell? ⟨w.heap.size, 2, none⟩ = some (.slice (some ⟨b2, o2, none⟩) V.since.length k2) := (hbl.cell (p := ⟨w.heap.size, 2, none⟩) (by simp only; omega)).trans y2
                    obtain ⟨u0, u1, u2, u3⟩ := block_cells hblk
                    obtain ⟨fz0, fz1, fz2, fz3⟩ := block_frozen hblk
                    have lt1 : (⟨w.heap.size, 2, none⟩ : Addr).block < g0 := by simp only; omega
                    have lt2 : (⟨b2, o2 + k, none⟩ : Addr).block < g0 := by simp only; omega
                    have hnw1 : wx1.heap.size ≠ g0 := by omega
                    have hlt0 : g0 < wx1.heap.size := by omega
                    have hrow : ∀ j, r2.ownBlock = some j → g0 + 1 ≤ j := fun j hj => (hrows.o2.lt j hj).1
                    have hn : ((V.since.take k).eraseIdx i).length ≤ 6 := by
                      have h1 := List.length_eraseIdx_le (V.since.take k) i
                      rw [List.length_take] at h1
                      omega
                    have hba : Below wx1.heap.size wx1 (wx1.drew.alloc (.cells #[.int .i64 ys] 3)) := ((Below.refl _ _).drew).alloc (by simp) _
                    have hra := hrows.below hba
                    have hca : (wx1.drew.alloc (.cells #[.int .i64 ys] 3)).cell? ⟨g0, 2, none⟩ = some r2 := (hba.cell (p := ⟨g0, 2, none⟩) (by simp only; omega)).trans u2
                    have hfa : (wx1.drew.alloc (.cells #[.int .i64 ys] 3)).frozen? ⟨g0, 2, none⟩ = false := (hba.frozen (p := ⟨g0, 2, none⟩) (by simp only; omega)).trans fz2
                    have hga := (hba.block g0 (by omega)).trans hblk
                    have hra1 := hra.o2
                    have HRA := Lib.hid hra
                    have HGA := Lib.hid hga
                    have HBA := Lib.hid hba
                    clear hra hga hba
                    have hh : wx1.drew.cell? ⟨w.heap.size, 2, none⟩ = some (.slice (some ⟨b2, o2, none⟩) V.since.length k2) ∧ wx1.drew.cell? ⟨b2, o2 + k, none⟩ = some (.int .i64 ys) ∧ g0 + 1 ≤ wx1.drew.heap.size ∧ Below g0 wx1 wx1.drew := ⟨hyb2, hc2, hsz, (Below.refl _ _).drew⟩
                    refine region_begin (S := fun W => W.cell? ⟨w.heap.size, 2, none⟩ = some (.slice (some ⟨b2, o2, none⟩) V.since.length k2) ∧ W.cell? ⟨b2, o2 + k, none⟩ = some (.int .i64 ys) ∧ g0 + 1 ≤ W.heap.size ∧ Below g0 wx1 W) 11 rfl (by kernel_rfl) hh (fun hH0 => ?_)
                    refine wpAnyH_take (i := 0) (oi := ?ot2_0) (v := ?vt2_0) ?hit2_0 (by kernel_rfl) (by kernel_rfl) (by kernel_rfl) ?hQt2_0 ?hyt2_0 hH0 ?_
                    case hit2_0 => simp only [List.getElem?_toArray, List.getElem?_cons_zero]; rfl
                    case hQt2_0 => exact fun _ _ _ h => h
                    case hyt2_0 => refine Or.inl ⟨by rfl, ?_⟩; intro W hSw; (try dsimp only at hSw); go_simp; try with_reducible rfl
                    simp only [Act.put, List.setIfInBounds_toArray, List.set_cons_zero, List.set_cons_succ]
                    refine wpAnyH_take (i := 2) (oi := ?ot2_2) (v := ?vt2_2) ?hit2_2 (by kernel_rfl) (by kernel_rfl) (by kernel_rfl) ?hQt2_2 ?hyt2_2 hH0 ?_
                    case hit2_2 => simp only [List.getElem?_toArray, List.getElem?_cons_zero, List.getElem?_cons_succ]; rfl
                    case hQt2_2 => exact fun _ _ _ h => h
                    case hyt2_2 => refine Or.inl ⟨by rfl, ?_⟩; intro W hSw; (try dsimp only at hSw); go_simp; try with_reducible rfl
                    simp only [Act.put, List.setIfInBounds_toArray, List.set_cons_zero, List.set_cons_succ]
                    refine wpAnyH_take (i := 3) (oi := ?ot2_3) (v := ?vt2_3) ?hit2_3 (by kernel_rfl) (by kernel_rfl) (by kernel_rfl) ?hQt2_3 ?hyt2_3 hH0 ?_
                    case hit2_3 => simp only [List.getElem?_toArray, List.getElem?_cons_zero, List.getElem?_cons_succ]; rfl
                    case hQt2_3 => exact fun _ _ _ h => h
                    case hyt2_3 => refine Or.inl ⟨by rfl, ?_⟩; intro W hSw; (try dsimp only at hSw); go_simp; try with_reducible rfl
                    simp only [Act.put, List.setIfInBounds_toArray, List.set_cons_zero, List.set_cons_succ]
                    refine wpAnyH_take (i := 4) (oi := ?ot2_4) (v := ?vt2_4) ?hit2_4 (by kernel_rfl) (by kernel_rfl) (by kernel_rfl) ?hQt2_4 ?hyt2_4 hH0 ?_
                    case hit2_4 => simp only [List.getElem?_toArray, List.getElem?_cons_zero, List.getElem?_cons_succ]; rfl
                    case hQt2_4 => exact fun _ _ _ h => h
                    case hyt2_4 => refine Or.inl ⟨by rfl, ?_⟩; intro W hSw; (try dsimp only at hSw); go_simp; try with_reducible rfl
                    simp only [Act.put, List.setIfInBounds_toArray, List.set_cons_zero, List.set_cons_succ]
                    refine wpAnyH_take (i := 5) (oi := ?ot2_5) (v := ?vt2_5) ?hit2_5 (by kernel_rfl) (by kernel_rfl) (by kernel_rfl) ?hQt2_5 ?hyt2_5 hH0 ?_
                    case hit2_5 => simp only [List.getElem?_toArray, List.getElem?_cons_zero, List.getElem?_cons_succ]; rfl
                    case hQt2_5 => exact fun _ _ _ h => h
                    case hyt2_5 => refine Or.inl ⟨by rfl, ?_⟩; intro W hSw; (try dsimp only at hSw); go_simp; try with_reducible rfl
                    simp only [Act.put, List.setIfInBounds_toArray, List.set_cons_zero, List.set_cons_succ]
                    refine wpAnyH_take (i := 6) (oi := ?ot2_6) (v := ?vt2_6) ?hit2_6 (by kernel_rfl) (by kernel_rfl) (by kernel_rfl) ?hQt2_6 ?hyt2_6 hH0 ?_
                    case hit2_6 => simp only [List.getElem?_toArray, List.getElem?_cons_zero, List.getElem?_cons_succ]; rfl
                    case hQt2_6 => exact fun _ _ _ h => h
                    case hyt2_6 => refine Or.inl ⟨by rfl, ?_⟩; intro W hSw; (try dsimp only at hSw); go_simp; try with_reducible rfl
                    simp only [Act.put, List.setIfInBounds_toArray, List.set_cons_zero, List.set_cons_succ]
                    refine wpAnyH_ready (rs := [1, 7]) (by kernel_rfl) (by simp) ?_
                    refine AllReadyH.cons (o := ?ow2a) ?how2a (fun K' hK => ?_) (AllReadyH.cons (o := ?ow2b) ?how2b (fun K' hK => ?_) AllReadyH.nil)
                    case how2a => simp only [List.getElem?_toArray, List.getElem?_cons_zero, List.getElem?_cons_succ]; rfl
                    case how2b => simp only [List.getElem?_toArray, List.getElem?_cons_zero, List.getElem?_cons_succ]; rfl
                    · go_simp
                      refine hK.out _ _ hH0 (fun hH1 => ?_)
                      clear hK K'
                      (try simp only [Act.put, List.setIfInBounds_toArray, List.set_cons_zero, List.set_cons_succ])
                      refine wpAnyH_ready (rs := [7]) (by kernel_rfl) (by simp) ?_
                      refine AllReadyH.cons (o := ?ob2x) ?hob2x (fun K' hK => ?_) AllReadyH.nil
                      case hob2x => simp only [List.getElem?_toArray, List.getElem?_cons_zero, List.getElem?_cons_succ]; rfl
                      go_simp
                      refine hK.out _ _ (hold_alloc lt1 lt2 hH1 _) (fun hH2 => ?_)
                      clear hK K'
                      (try simp only [Act.put, List.setIfInBounds_toArray, List.set_cons_zero, List.set_cons_succ])
                      refine wpAnyH_ready (rs := [8]) (by kernel_rfl) (by simp) ?_
                      refine AllReadyH.cons (o := ?oc2x) ?hoc2x (fun K' hK => ?_) AllReadyH.nil
                      case hoc2x => simp only [List.getElem?_toArray, List.getElem?_cons_zero, List.getElem?_cons_succ]; rfl
                      refine step_append_lies _ (by rfl) _ _ _ (by rfl) (g0 + 1) 3 i0 _ 1 8 Try.underlying22 hi0 hz0 hz1 hz2 rfl (by omega) r2 _ _ (by rfl) hra1 ⟨wx1.heap.size, 0, none⟩ 1 1 [.int .i64 ys] (by rfl) (by rfl) (news_one (by simp)) (by simp [Value.oneCell']) (by omega) (by unfold maxLen; omega) (by omega) (by simp; omega) _ rfl ?_
                      intro gg cap W' hown hgrow hat hlt2
                      rw [← icells_snoc] at hown
                      have hc' := (hgrow.cell_far ⟨g0, 2, none⟩ (by simp; omega) (fun e => by have := hrow _ e.symm; simp only at this; omega)).trans hca
                      have hf' := (hgrow.frozen_far ⟨g0, 2, none⟩ (by simp; omega) (fun e => by have := hrow _ e.symm; simp only at this; omega)).trans hfa
                      have HOWN := Lib.hid hown
                      have HAT := Lib.hid hat
                      clear hown hat
                      refine hK.out _ _ (hold_grow lt1 lt2 hH2 hgrow hrow) (fun hH3 => ?_)
                      clear hK K'
                      (try simp only [Act.put, List.setIfInBounds_toArray, List.set_cons_zero, List.set_cons_succ])
                      refine wpAnyH_take (i := 9) (oi := ?oe2x) (v := ?ve2x) ?hie2x (by kernel_rfl) (by kernel_rfl) (by kernel_rfl) ?hQe2x ?hye2x hH3 ?_
                      case hie2x => simp only [List.getElem?_toArray, List.getElem?_cons_zero, List.getElem?_cons_succ]; rfl
                      case hQe2x => exact fun _ _ _ h => h
                      case hye2x => refine Or.inl ⟨by rfl, ?_⟩; intro W hSw; (try dsimp only at hSw); go_simp; try with_reducible rfl
                      simp only [Act.put, List.setIfInBounds_toArray, List.set_cons_zero, List.set_cons_succ]
                      refine wpAnyH_ready (rs := [10]) (by kernel_rfl) (by simp) ?_
                      refine AllReadyH.cons (o := ?og2x) ?hog2x (fun K' hK => ?_) AllReadyH.nil
                      case hog2x => simp only [List.getElem?_toArray, List.getElem?_cons_zero, List.getElem?_cons_succ]; rfl
                      go_simp
                      refine hK.out _ _ (hold_set lt1 lt2 hH3 _ _) (fun hH4 => ?_)
                      clear hK K'
                      (try simp only [Act.put, List.setIfInBounds_toArray, List.set_cons_zero, List.set_cons_succ])
                      refine wpAnyH_done (by kernel_rfl) ?_ _
                      go_wp2
                      go_meet
                      case rel =>
                        refine ⟨.slice (some ⟨gg, 0, none⟩) (((V.since.take k).eraseIdx i).length + 1) cap, ?_, ?_, ?_, ?_⟩
                        rotate_left
                        · have k1 := (HRA.out.app2 rfl HOWN.out hgrow HAT.out).set g0 2 (by omega) (.slice (some ⟨gg, 0, none⟩) (((V.since.take k).eraseIdx i).length + 1) cap)
                          rw [← E2.out, ← take_erase_ne hks hki] at k1
                          exact k1
                        · exact hbl.trans (((HBA.out.mono (show g0 ≤ wx1.heap.size by omega)).grown hgrow (by simp; omega) (fun j hj => show g0 ≤ j by have := hrow j hj; omega)).setCell (p := ⟨g0, 2, none⟩) (Nat.le_refl _) _)
                        · have k1 := hgrow.size
                          simp only [World.size_alloc, World.size_drew, World.size_setCell] at k1 ⊢
                          omega
                        · have k1 := block_set ((hgrow.block g0 (by simp; omega) (fun e => by have := hrow _ e.symm; omega)).trans HGA.out) 2 (.slice (some ⟨gg, 0, none⟩) (((V.since.take k).eraseIdx i).length + 1) cap)
                          simpa using k1
                    · go_simp
                      refine hK.out _ _ (hold_alloc lt1 lt2 hH0 _) (fun hH2 => ?_)
                      clear hK K'
                      (try simp only [Act.put, List.setIfInBounds_toArray, List.set_cons_zero, List.set_cons_succ])
                      refine wpAnyH_ready (rs := [1]) (by kernel_rfl) (by simp) ?_
                      refine AllReadyH.cons (o := ?ob2y) ?hob2y (fun K' hK => ?_) AllReadyH.nil
                      case hob2y => simp only [List.getElem?_toArray, List.getElem?_cons_zero, List.getElem?_cons_succ]; rfl
                      go_simp
                      refine hK.out _ _ hH2 (fun hH5 => ?_)
                      clear hK K'
                      (try simp only [Act.put, List.setIfInBounds_toArray, List.set_cons_zero, List.set_cons_succ])
                      refine wpAnyH_ready (rs := [8]) (by kernel_rfl) (by simp) ?_
                      refine AllReadyH.cons (o := ?oc2y) ?hoc2y (fun K' hK => ?_) AllReadyH.nil
                      case hoc2y => simp only [List.getElem?_toArray, List.getElem?_cons_zero, List.getElem?_cons_succ]; rfl
                      refine step_append_lies _ (by rfl) _ _ _ (by rfl) (g0 + 1) 3 i0 _ 1 8 Try.underlying22 hi0 hz0 hz1 hz2 rfl (by omega) r2 _ _ (by rfl) hra1 ⟨wx1.heap.size, 0, none⟩ 1 1 [.int .i64 ys] (by rfl) (by rfl) (news_one (by simp)) (by simp [Value.oneCell']) (by omega) (by unfold maxLen; omega) (by omega) (by simp; omega) _ rfl ?_
                      intro gg cap W' hown hgrow hat hlt2
                      rw [← icells_snoc] at hown
                      have hc' := (hgrow.cell_far ⟨g0, 2, none⟩ (by simp; omega) (fun e => by have := hrow _ e.symm; simp only at this; omega)).trans hca
                      have hf' := (hgrow.frozen_far ⟨g0, 2, none⟩ (by simp; omega) (fun e => by have := hrow _ e.symm; simp only at this; omega)).trans hfa
                      have HOWN := Lib.hid hown
                      have HAT := Lib.hid hat
                      clear hown hat
                      refine hK.out _ _ (hold_grow lt1 lt2 hH2 hgrow hrow) (fun hH3 => ?_)
                      clear hK K'
                      (try simp only [Act.put, List.setIfInBounds_toArray, List.set_cons_zero, List.set_cons_succ])
                      refine wpAnyH_take (i := 9) (oi := ?oe2y) (v := ?ve2y) ?hie2y (by kernel_rfl) (by kernel_rfl) (by kernel_rfl) ?hQe2y ?hye2y hH3 ?_
                      case hie2y => simp only [List.getElem?_toArray, List.getElem?_cons_zero, List.getElem?_cons_succ]; rfl
                      case hQe2y => exact fun _ _ _ h => h
                      case hye2y => refine Or.inl ⟨by rfl, ?_⟩; intro W hSw; (try dsimp only at hSw); go_simp; try with_reducible rfl
                      simp only [Act.put, List.setIfInBounds_toArray, List.set_cons_zero, List.set_cons_succ]
                      refine wpAnyH_ready (rs := [10]) (by kernel_rfl) (by simp) ?_
                      refine AllReadyH.cons (o := ?og2y) ?hog2y (fun K' hK => ?_) AllReadyH.nil
                      case hog2y => simp only [List.getElem?_toArray, List.getElem?_cons_zero, List.getElem?_cons_succ]; rfl
                      go_simp
                      refine hK.out _ _ (hold_set lt1 lt2 hH3 _ _) (fun hH4 => ?_)
                      clear hK K'
                      (try simp only [Act.put, List.setIfInBounds_toArray, List.set_cons_zero, List.set_cons_succ])
                      refine wpAnyH_done (by kernel_rfl) ?_ _
                      go_wp2
                      go_meet
                      case rel =>
                        refine ⟨.slice (some ⟨gg, 0, none⟩) (((V.since.take k).eraseIdx i).length + 1) cap, ?_, ?_, ?_, ?_⟩
                        rotate_left
                        · have k1 := (HRA.out.app2 rfl HOWN.out hgrow HAT.out).set g0 2 (by omega) (.slice (some ⟨gg, 0, none⟩) (((V.since.take k).eraseIdx i).length + 1) cap)
                          rw [← E2.out, ← take_erase_ne hks hki] at k1
                          exact k1
                        · exact hbl.trans (((HBA.out.mono (show g0 ≤ wx1.heap.size by omega)).grown hgrow (by simp; omega) (fun j hj => show g0 ≤ j by have := hrow j hj; omega)).setCell (p := ⟨g0, 2, none⟩) (Nat.le_refl _) _)
                        · have k1 := hgrow.size
                          simp only [World.size_alloc, World.size_drew, World.size_setCell] at k1 ⊢
                          omega
                        · have k1 := block_set ((hgrow.block g0 (by simp; omega) (fun e => by have := hrow _ e.symm; omega)).trans HGA.out) 2 (.slice (some ⟨gg, 0, none⟩) (((V.since.take k).eraseIdx i).length + 1) cap)
                          simpa using k1
                  case rest =>
                    clear hblk hrows hbl hsz
                    obtain ⟨r2, hblk, hrows, hbl, hsz⟩ := hcut
                    obtain ⟨wx2, hwx⟩ : ∃ z, z = wc := ⟨wc, rfl⟩
                    subst hwx
                    go_upto_region 17 with fail
                    have hbw3 : Below w.heap.size w wx2 := (below_two' hb12).trans (hbl.mono (by omega))
                    obtain ⟨b3, o3, q3, he3, hl3, _, hc3⟩ := (H3.out.keep hbw3 hB).get k hkb
                    obtain ⟨rfl, -, rfl⟩ : a3 = some ⟨b3, o3, none⟩ ∧ V.boot.length = V.boot.length ∧ k3 = q3 := by injection he3 with e1 e2 e3; exact ⟨e1, e2, e3⟩
                    clear he3
                    rw [E3.out] at hc3
                    have hyb3 : wx2.cell? ⟨w.heap.size, 3, none⟩ = some (.slice (some ⟨b3, o3, none⟩) V.boot.length k3) := (hbl.cell (p := ⟨w.heap.size, 3, none⟩) (by simp only; omega)).trans y3
                    obtain ⟨u0, u1, u2, u3⟩ := block_cells hblk
                    obtain ⟨fz0, fz1, fz2, fz3⟩ := block_frozen hblk
                    have lt1 : (⟨w.heap.size, 3, none⟩ : Addr).block < g0 := by simp only; omega
                    have lt2 : (⟨b3, o3 + k, none⟩ : Addr).block < g0 := by simp only; omega
                    have hnw1 : wx2.heap.size ≠ g0 := by omega
                    have hlt0 : g0 < wx2.heap.size := by omega
                    have hrow : ∀ j, r3.ownBlock = some j → g0 + 1 ≤ j := fun j hj => (hrows.o3.lt j hj).1
                    have hn : ((V.boot.take k).eraseIdx i).length ≤ 6 := by
                      have h1 := List.length_eraseIdx_le (V.boot.take k) i
                      rw [List.length_take] at h1
                      omega
                    have hba : Below wx2.heap.size wx2 (wx2.drew.alloc (.cells #[.int .i64 yb] 3)) := ((Below.refl _ _).drew).alloc (by simp) _
                    have hra := hrows.below hba
                    have hca : (wx2.drew.alloc (.cells #[.int .i64 yb] 3)).cell? ⟨g0, 3, none⟩ = some r3 := (hba.cell (p := ⟨g0, 3, none⟩) (by simp only; omega)).trans u3
                    have hfa : (wx2.drew.alloc (.cells #[.int .i64 yb] 3)).frozen? ⟨g0, 3, none⟩ = false := (hba.frozen (p := ⟨g0, 3, none⟩) (by simp only; omega)).trans fz3
                    have hga := (hba.block g0 (by omega)).trans hblk
                    have hra1 := hra.o3
                    have HRA := Lib.hid hra
                    have HGA := Lib.hid hga
                    have HBA := Lib.hid hba
                    clear hra hga hba
                    have hh : wx2.drew.cell? ⟨w.heap.size, 3, none⟩ = some (.slice (some ⟨b3, o3, none⟩) V.boot.length k3) ∧ wx2.drew.cell? ⟨b3, o3 + k, none⟩ = some (.int .i64 yb) ∧ g0 + 1 ≤ wx2.drew.heap.size ∧ Below g0 wx2 wx2.drew := ⟨hyb3, hc3, hsz, (Below.refl _ _).drew⟩
                    refine region_begin (S := fun W => W.cell? ⟨w.heap.size, 3, none⟩ = some (.slice (some ⟨b3, o3, none⟩) V.boot.length k3) ∧ W.cell? ⟨b3, o3 + k, none⟩ = some (.int .i64 yb) ∧ g0 + 1 ≤ W.heap.size ∧ Below g0 wx2 W) 11 rfl (by kernel_rfl) hh (fun hH0 => ?_)
                    refine wpAnyH_take (i := 0) (oi := ?ot3_0) (v := ?vt3_0) ?hit3_0 (by kernel_rfl) (by kernel_rfl) (by kernel_rfl) ?hQt3_0 ?hyt3_0 hH0 ?_
                    case hit3_0 => simp only [List.getElem?_toArray, List.getElem?_cons_zero]; rfl
                    case hQt3_0 => exact fun _ _ _ h => h
                    case hyt3_0 => refine Or.inl ⟨by rfl, ?_⟩; intro W hSw; (try dsimp only at hSw); go_simp; try with_reducible rfl
                    simp only [Act.put, List.setIfInBounds_toArray, List.set_cons_zero, List.set_cons_succ]
                    refine wpAnyH_take (i := 2) (oi := ?ot3_2) (v := ?vt3_2) ?hit3_2 (by kernel_rfl) (by kernel_rfl) (by kernel_rfl) ?hQt3_2 ?hyt3_2 hH0 ?_
                    case hit3_2 => simp only [List.getElem?_toArray, List.getElem?_cons_zero, List.getElem?_cons_succ]; rfl
                    case hQt3_2 => exact fun _ _ _ h => h
                    case hyt3_2 => refine Or.inl ⟨by rfl, ?_⟩; intro W hSw; (try dsimp only at hSw); go_simp; try with_reducible rfl
                    simp only [Act.put, List.setIfInBounds_toArray, List.set_cons_zero, List.set_cons_succ]
                    refine wpAnyH_take (i := 3) (oi := ?ot3_3) (v := ?vt3_3) ?hit3_3 (by kernel_rfl) (by kernel_rfl) (by kernel_rfl) ?hQt3_3 ?hyt3_3 hH0 ?_
                    case hit3_3 => simp only [List.getElem?_toArray, List.getElem?_cons_zero, List.getElem?_cons_succ]; rfl
                    case hQt3_3 => exact fun _ _ _ h => h
                    case hyt3_3 => refine Or.inl ⟨by rfl, ?_⟩; intro W hSw; (try dsimp only at hSw); go_simp; try with_reducible rfl
                    simp only [Act.put, List.setIfInBounds_toArray, List.set_cons_zero, List.set_cons_succ]
                    refine wpAnyH_take (i := 4) (oi := ?ot3_4) (v := ?vt3_4) ?hit3_4 (by kernel_rfl) (by kernel_rfl) (by kernel_rfl) ?hQt3_4 ?hyt3_4 hH0 ?_
                    case hit3_4 => simp only [List.getElem?_toArray, List.getElem?_cons_zero, List.getElem?_cons_succ]; rfl
                    case hQt3_4 => exact fun _ _ _ h => h
                    case hyt3_4 => refine Or.inl ⟨by rfl, ?_⟩; intro W hSw; (try dsimp only at hSw); go_simp; try with_reducible rfl
                    simp only [Act.put, List.setIfInBounds_toArray, List.set_cons_zero, List.set_cons_succ]
                    refine wpAnyH_take (i := 5) (oi := ?ot3_5) (v := ?vt3_5) ?hit3_5 (by kernel_rfl) (by kernel_rfl) (by kernel_rfl) ?hQt3_5 ?hyt3_5 hH0 ?_
                    case hit3_5 => simp only [List.getElem?_toArray, List.getElem?_cons_zero, List.getElem?_cons_succ]; rfl
                    case hQt3_5 => exact fun _ _ _ h => h
                    case hyt3_5 => refine Or.inl ⟨by rfl, ?_⟩; intro W hSw; (try dsimp only at hSw); go_simp; try with_reducible rfl
                    simp only [Act.put, List.setIfInBounds_toArray, List.set_cons_zero, List.set_cons_succ]
                    refine wpAnyH_take (i := 6) (oi := ?ot3_6) (v := ?vt3_6) ?hit3_6 (by kernel_rfl) (by kernel_rfl) (by kernel_rfl) ?hQt3_6 ?hyt3_6 hH0 ?_
                    case hit3_6 => simp only [List.getElem?_toArray, List.getElem?_cons_zero, List.getElem?_cons_succ]; rfl
                    case hQt3_6 => exact fun _ _ _ h => h
                    case hyt3_6 => refine Or.inl ⟨by rfl, ?_⟩; intro W hSw; (try dsimp only at hSw); go_simp; try with_reducible rfl
                    simp only [Act.put, List.setIfInBounds_toArray, List.set_cons_zero, List.set_cons_succ]
                    refine wpAnyH_ready (rs := [1, 7]) (by kernel_rfl) (by simp) ?_
                    refine AllReadyH.cons (o := ?ow3a) ?how3a (fun K' hK => ?_) (AllReadyH.cons (o := ?ow3b) ?how3b (fun K' hK => ?_) AllReadyH.nil)
                    case how3a => simp only [List.getElem?_toArray, List.getElem?_cons_zero, List.getElem?_cons_succ]; rfl
                    case how3b => simp only [List.getElem?_toArray, List.getElem?_cons_zero, List.getElem?_cons_succ]; rfl
                    · go_simp
                      refine hK.out _ _ hH0 (fun hH1 => ?_)
                      clear hK K'
                      (try simp only [Act.put, List.setIfInBounds_toArray, List.set_cons_zero, List.set_cons_succ])
                      refine wpAnyH_ready (rs := [7]) (by kernel_rfl) (by simp) ?_
                      refine AllReadyH.cons (o := ?ob3x) ?hob3x (fun K' hK => ?_) AllReadyH.nil
                      case hob3x => simp only [List.getElem?_toArray, List.getElem?_cons_zero, List.getElem?_cons_succ]; rfl
                      go_simp
                      refine hK.out _ _ (hold_alloc lt1 lt2 hH1 _) (fun hH2 => ?_)
                      clear hK K'
                      (try simp only [Act.put, List.setIfInBounds_toArray, List.set_cons_zero, List.set_cons_succ])
                      refine wpAnyH_ready (rs := [8]) (by kernel_rfl) (by simp) ?_
                      refine AllReadyH.cons (o := ?oc3x) ?hoc3x (fun K' hK => ?_) AllReadyH.nil
                      case hoc3x => simp only [List.getElem?_toArray, List.getElem?_cons_zero, List.getElem?_cons_succ]; rfl
                      refine step_append_lies _ (by rfl) _ _ _ (by rfl) (g0 + 1) 3 i0 _ 1 8 Try.underlying22 hi0 hz0 hz1 hz2 rfl (by omega) r3 _ _ (by rfl) hra1 ⟨wx2.heap.size, 0, none⟩ 1 1 [.int .i64 yb] (by rfl) (by rfl) (news_one (by simp)) (by simp [Value.oneCell']) (by omega) (by unfold maxLen; omega) (by omega) (by simp; omega) _ rfl ?_
                      intro gg cap W' hown hgrow hat hlt2
                      rw [← icells_snoc] at hown
                      have hc' := (hgrow.cell_far ⟨g0, 3, none⟩ (by simp; omega) (fun e => by have := hrow _ e.symm; simp only at this; omega)).trans hca
                      have hf' := (hgrow.frozen_far ⟨g0, 3, none⟩ (by simp; omega) (fun e => by have := hrow _ e.symm; simp only at this; omega)).trans hfa
                      have HOWN := Lib.hid hown
                      have HAT := Lib.hid hat
                      clear hown hat
                      refine hK.out _ _ (hold_grow lt1 lt2 hH2 hgrow hrow) (fun hH3 => ?_)
                      clear hK K'
                      (try simp only [Act.put, List.setIfInBounds_toArray, List.set_cons_zero, List.set_cons_succ])
                      refine wpAnyH_take (i := 9) (oi := ?oe3x) (v := ?ve3x) ?hie3x (by kernel_rfl) (by kernel_rfl) (by kernel_rfl) ?hQe3x ?hye3x hH3 ?_
                      case hie3x => simp only [List.getElem?_toArray, List.getElem?_cons_zero, List.getElem?_cons_succ]; rfl
                      case hQe3x => exact fun _ _ _ h => h
                      case hye3x => refine Or.inl ⟨by rfl, ?_⟩; intro W hSw; (try dsimp only at hSw); go_simp; try with_reducible rfl
                      simp only [Act.put, List.setIfInBounds_toArray, List.set_cons_zero, List.set_cons_succ]
                      refine wpAnyH_ready (rs := [10]) (by kernel_rfl) (by simp) ?_
                      refine AllReadyH.cons (o := ?og3x) ?hog3x (fun K' hK => ?_) AllReadyH.nil
                      case hog3x => simp only [List.getElem?_toArray, List.getElem?_cons_zero, List.getElem?_cons_succ]; rfl
                      go_simp
                      refine hK.out _ _ (hold_set lt1 lt2 hH3 _ _) (fun hH4 => ?_)
                      clear hK K'
                      (try simp only [Act.put, List.setIfInBounds_toArray, List.set_cons_zero, List.set_cons_succ])
                      refine wpAnyH_done (by kernel_rfl) ?_ _
                      go_wp2_with fail
                      go_roundw
                      case rel =>
                        refine ⟨k + 1, r1, r2, .slice (some ⟨gg, 0, none⟩) (((V.boot.take k).eraseIdx i).length + 1) cap, by omega, by go_num, ?_, ?_, ?_, ?_⟩
                        rotate_left
                        · have k1 := (HRA.out.app3 rfl HOWN.out hgrow HAT.out).set g0 3 (by omega) (.slice (some ⟨gg, 0, none⟩) (((V.boot.take k).eraseIdx i).length + 1) cap)
                          rw [← E3.out, ← take_erase_ne hkb hki] at k1
                          exact k1
                        · exact hbl.trans (((HBA.out.mono (show g0 ≤ wx2.heap.size by omega)).grown hgrow (by simp; omega) (fun j hj => show g0 ≤ j by have := hrow j hj; omega)).setCell (p := ⟨g0, 3, none⟩) (Nat.le_refl _) _)
                        · have k1 := hgrow.size
                          simp only [World.size_alloc, World.size_drew, World.size_setCell] at k1 ⊢
                          omega
                        · have k1 := block_set ((hgrow.block g0 (by simp; omega) (fun e => by have := hrow _ e.symm; omega)).trans HGA.out) 3 (.slice (some ⟨gg, 0, none⟩) (((V.boot.take k).eraseIdx i).length + 1) cap)
                          simpa using k1
                      case measure => simp [intOf]; omega
                    · go_simp
                      refine hK.out _ _ (hold_alloc lt1 lt2 hH0 _) (fun hH2 => ?_)
                      clear hK K'
                      (try simp only [Act.put, List.setIfInBounds_toArray, List.set_cons_zero, List.set_cons_succ])
                      refine wpAnyH_ready (rs := [1]) (by kernel_rfl) (by simp) ?_
                      refine AllReadyH.cons (o := ?ob3y) ?hob3y (fun K' hK => ?_) AllReadyH.nil
                      case hob3y => simp only [List.getElem?_toArray, List.getElem?_cons_zero, List.getElem?_cons_succ]; rfl
                      go_simp
                      refine hK.out _ _ hH2 (fun hH5 => ?_)
                      clear hK K'
                      (try simp only [Act.put, List.setIfInBounds_toArray, List.set_cons_zero, List.set_cons_succ])
                      refine wpAnyH_ready (rs := [8]) (by kernel_rfl) (by simp) ?_
                      refine AllReadyH.cons (o := ?oc3y) ?hoc3y (fun K' hK => ?_) AllReadyH.nil
                      case hoc3y => simp only [List.getElem?_toArray, List.getElem?_cons_zero, List.getElem?_cons_succ]; rfl
                      refine step_append_lies _ (by rfl) _ _ _ (by rfl) (g0 + 1) 3 i0 _ 1 8 Try.underlying22 hi0 hz0 hz1 hz2 rfl (by omega) r3 _ _ (by rfl) hra1 ⟨wx2.heap.size, 0, none⟩ 1 1 [.int .i64 yb] (by rfl) (by rfl) (news_one (by simp)) (by simp [Value.oneCell']) (by omega) (by unfold maxLen; omega) (by omega) (by simp; omega) _ rfl ?_
                      intro gg cap W' hown hgrow hat hlt2
                      rw [← icells_snoc] at hown
                      have hc' := (hgrow.cell_far ⟨g0, 3, none⟩ (by simp; omega) (fun e => by have := hrow _ e.symm; simp only at this; omega)).trans hca
                      have hf' := (hgrow.frozen_far ⟨g0, 3, none⟩ (by simp; omega) (fun e => by have := hrow _ e.symm; simp only at this; omega)).trans hfa
                      have HOWN := Lib.hid hown
                      have HAT := Lib.hid hat
                      clear hown hat
                      refine hK.out _ _ (hold_grow lt1 lt2 hH2 hgrow hrow) (fun hH3 => ?_)
                      clear hK K'
                      (try simp only [Act.put, List.setIfInBounds_toArray, List.set_cons_zero, List.set_cons_succ])
                      refine wpAnyH_take (i := 9) (oi := ?oe3y) (v := ?ve3y) ?hie3y (by kernel_rfl) (by kernel_rfl) (by kernel_rfl) ?hQe3y ?hye3y hH3 ?_
                      case hie3y => simp only [List.getElem?_toArray, List.getElem?_cons_zero, List.getElem?_cons_succ]; rfl
                      case hQe3y => exact fun _ _ _ h => h
                      case hye3y => refine Or.inl ⟨by rfl, ?_⟩; intro W hSw; (try dsimp only at hSw); go_simp; try with_reducible rfl
                      simp only [Act.put, List.setIfInBounds_toArray, List.set_cons_zero, List.set_cons_succ]
                      refine wpAnyH_ready (rs := [10]) (by kernel_rfl) (by simp) ?_
                      refine AllReadyH.cons (o := ?og3y) ?hog3y (fun K' hK => ?_) AllReadyH.nil
                      case hog3y => simp only [List.getElem?_toArray, List.getElem?_cons_zero, List.getElem?_cons_succ]; rfl
                      go_simp
                      refine hK.out _ _ (hold_set lt1 lt2 hH3 _ _) (fun hH4 => ?_)
                      clear hK K'
                      (try simp only [Act.put, List.setIfInBounds_toArray, List.set_cons_zero, List.set_cons_succ])
                      refine wpAnyH_done (by kernel_rfl) ?_ _
                      go_wp2_with fail
                      go_roundw
                      case rel =>
                        refine ⟨k + 1, r1, r2, .slice (some ⟨gg, 0, none⟩) (((V.boot.take k).eraseIdx i).length + 1) cap, by omega, by go_num, ?_, ?_, ?_, ?_⟩
                        rotate_left
                        · have k1 := (HRA.out.app3 rfl HOWN.out hgrow HAT.out).set g0 3 (by omega) (.slice (some ⟨gg, 0, none⟩) (((V.boot.take k).eraseIdx i).length + 1) cap)
                          rw [← E3.out, ← take_erase_ne hkb hki] at k1
                          exact k1
                        · exact hbl.trans (((HBA.out.mono (show g0 ≤ wx2.heap.size by omega)).grown hgrow (by simp; omega) (fun j hj => show g0 ≤ j by have := hrow j hj; omega)).setCell (p := ⟨g0, 3, none⟩) (Nat.le_refl _) _)
                        · have k1 := hgrow.size
                          simp only [World.size_alloc, World.size_drew, World.size_setCell] at k1 ⊢
                          omega
                        · have k1 := block_set ((hgrow.block g0 (by simp; omega) (fun e => by have := hrow _ e.symm; omega)).trans HGA.out) 3 (.slice (some ⟨gg, 0, none⟩) (((V.boot.take k).eraseIdx i).length + 1) cap)
                          simpa using k1
                      case measure => simp [intOf]; omega
            · have g : ¬ ((k : Int) < (V.chain.length : Int)) := by omega
              have hke : k = V.chain.length := by omega
              have hfin := hb12.trans (hbl.mono hg0)
              obtain ⟨p1, m1, rfl⟩ := own_form hrows.o1
              obtain ⟨p2, m2, rfl⟩ := own_form hrows.o2
              obtain ⟨p3, m3, rfl⟩ := own_form hrows.o3
              obtain ⟨u0, u1, u2, u3⟩ := block_cells hblk
              obtain ⟨x0, x1, x2, x3⟩ := box_cells hfin
              obtain ⟨z0, z1, z2, z3⟩ := res_cells hfin
              have f0 := res_frozen hfin 0
              have f1 := res_frozen hfin 1
              have f2 := res_frozen hfin 2
              have f3 := res_frozen hfin 3
              have HROWS := Lib.hid hrows
              have Hke := Lib.hid hke
              clear hrows hke
              go_wp2_with fail
              (try simp only [Exit.inBlock, Exit.then])
              refine bodyPost_ret (ret_cell4 rfl _ _ _ _ _ _ _ _ _ _ _ _ _ (by rfl) (res_block hfin) Try.underlying41 rfl rvinfo) rfl ?_
              have k0 := HROWS.out
              rw [Hke.out] at k0
              have t1 : V.chain.take V.chain.length = V.chain := List.take_length
              have t2 : V.since.take V.chain.length = V.since := List.take_of_length_le (by have := Hls.out; omega)
              have t3 : V.boot.take V.chain.length = V.boot := List.take_of_length_le (by have := Hlb.out; omega)
              refine ⟨_, rfl, ⟨⟨by simp only; omega, by simp only; omega⟩, _, _, _, rfl, ?_, ?_, ?_⟩, below_set4 (below_two' hfin) _ (by omega) _ _ _ _⟩
              · have k1 := k0.o1
                rw [t1] at k1
                simp only [Hke.out, t1]
                exact own_ints (own_set4 k1 _ (by omega) _ _ _ _) (fun n hn => H1.out.at_.2.2.2.2.1 n (List.mem_of_mem_eraseIdx hn))
              · have k1 := k0.o2
                rw [t2] at k1
                simp only [Hke.out, t2]
                exact own_ints (own_set4 k1 _ (by omega) _ _ _ _) (fun n hn => H2.out.at_.2.2.2.2.1 n (List.mem_of_mem_eraseIdx hn))
              · have k1 := k0.o3
                rw [t3] at k1
                simp only [Hke.out, t3]
                exact own_ints (own_set4 k1 _ (by omega) _ _ _ _) (fun n hn => H3.out.at_.2.2.2.2.1 n (List.mem_of_mem_eraseIdx hn))
end Go.Proofs.Ytigojackdkaanaa
