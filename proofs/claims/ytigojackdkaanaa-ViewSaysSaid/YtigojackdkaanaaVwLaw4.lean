/-
  The walk of bucketlinelaw18.ViewSays. Printed by gen_vwlaw4.py of this claim's writer.
-/
import Derived.Test.YtigojackdkaanaaVwOf
import Derived.Test.YtigojackdkaanaaVwPut
namespace Go.Proofs.Ytigojackdkaanaa
open Go.RowKit

/-- Nothing is changed but in the blocks from lo up to hi. -/
structure OnlyIn (lo hi : Nat) (a w : World) : Prop where
  size : w.heap.size = a.heap.size
  block : ∀ g, g < lo ∨ hi ≤ g → w.heap[g]? = a.heap[g]?
theorem OnlyIn.refl (lo hi : Nat) (a : World) : OnlyIn lo hi a a := ⟨rfl, fun _ _ => rfl⟩
theorem OnlyIn.cell {lo hi : Nat} {a w : World} (h : OnlyIn lo hi a w) {p : Addr} (hp : p.block < lo ∨ hi ≤ p.block) : w.cell? p = a.cell? p := World.cell?_of_block (h.block p.block hp)
theorem OnlyIn.set {lo hi : Nat} {a w : World} (h : OnlyIn lo hi a w) {g : Nat} (h1 : lo ≤ g) (h2 : g < hi) (o : Nat) (x : Value) : OnlyIn lo hi a (w.setCell ⟨g, o, none⟩ x) where
  size := by rw [World.size_setCell]; exact h.size
  block := fun g' hg => by
    rw [← h.block g' hg]
    simp only [World.setCell]
    rw [Array.getElem?_modify, if_neg (by omega)]
theorem ints_only {B lo hi : Nat} {a w : World} {v : Value} {l : List Int} (h : IsInts B a v l) (hf : ∀ j, v.ownBlock = some j → hi ≤ j) (ho : OnlyIn lo hi a w) : IsInts B w v l := by
  obtain ⟨ad, cap, rfl, h1, h2, h3, h4, h5⟩ := h
  refine ⟨ad, cap, rfl, h1, h2, h3, h4, fun hp => ?_⟩
  obtain ⟨b, off, rfl, hlt, hc⟩ := h5 hp
  exact ⟨b, off, rfl, hlt, fun i hi' => by rw [ho.cell (p := ⟨b, off + i, none⟩) (.inr (hf b rfl))]; exact hc i hi'⟩
theorem view_only {B lo lo' hi : Nat} {a w : World} {v : Value} {V : VW} (h : IsView B a v V) (hf : FreshV lo' v) (hl : hi ≤ lo') (ho : OnlyIn lo hi a w) : IsView B w v V := by
  obtain ⟨h0, c, s, b, rfl, h1, h2, h3⟩ := h
  obtain ⟨_, _, _, _, e, f1, f2, f3⟩ := hf
  injection e with e
  simp only [Array.mk.injEq, List.cons.injEq, and_true] at e
  obtain ⟨_, rfl, rfl, rfl⟩ := e
  exact ⟨h0, _, _, _, rfl, ints_only h1 (fun j hj => Nat.le_trans hl (f1 j hj)) ho, ints_only h2 (fun j hj => Nat.le_trans hl (f2 j hj)) ho, ints_only h3 (fun j hj => Nat.le_trans hl (f3 j hj)) ho⟩

set_option maxRecDepth 100000 in
set_option maxHeartbeats 6400000 in
theorem walkViewSays (v : Value) (x : Int) (_wx : (Lit.int .i64 x).wf = true) (W : World) (h : ∃ V, IsView W.heap.size W v V) :
    Calls Try.prog 6 #[v, .int .i64 x] W fun e W' => e = .returned (.bool true) ∧ Below W.heap.size W W' := by
  obtain ⟨V, hv⟩ := h
  have HV := Lib.hid hv
  have C1 := Lib.hid shown_any
  have C2' := Lib.hid (fun (b : Bool) (hb : b = decide (SmallV V)) (w1 : World) (hb1 : Below W.heap.size W w1) => smallV_any W.heap.size v V b hb w1 (hv.keep hb1 (Nat.le_refl _)))
  obtain ⟨he64, cc, s, bt, rfl, h1, h2, h3⟩ := hv
  obtain ⟨a1, k1, rfl⟩ := h1.form
  obtain ⟨a2, k2, rfl⟩ := h2.form
  obtain ⟨a3, k3, rfl⟩ := h3.form
  clear h1 h2 h3
  by_cases hs : SmallV V
  · have C2 := Lib.hid (C2'.out true (decide_eq_true hs).symm)
    have hs1 := hs.1
    have hs2 := hs.2.1
    have hs3 := hs.2.2
    obtain ⟨P, hP⟩ : ∃ P, putV V = P := ⟨_, rfl⟩
    have HPV := Lib.hid hP
    have CP := Lib.hid (fun (w1 : World) (hb1 : Below W.heap.size W w1) => vput_any W.heap.size _ V P HPV.out w1 (HV.out.keep hb1 (Nat.le_refl _)) hb1.size hs)
    have CR' := Lib.hid (fun (b : Bool) (hb : b = rightB V) (w1 : World) (hb1 : Below W.heap.size W w1) => right_any W.heap.size _ V w1 (HV.out.keep hb1 (Nat.le_refl _)) hb1.size hs b hb)
    clear hP
    cases hr0 : rightB V with
    | true =>
      have CR := Lib.hid (CR'.out true hr0.symm)
      have hr := Lib.hid hr0
      clear hr0 CR' C2'
      go_enter Try.func6, Try.ntmps6
      go_wp2_with fail
      refine (C1.out _).mono ?_
      rintro e w1 ⟨rfl, hb1⟩
      have bx1 : Below (W.heap.size + 1) _ w1 := hb1.mono (by simp)
      obtain ⟨y0, y1, y2, y3⟩ := box4 bx1
      have hz1 : W.heap.size + 1 ≤ w1.heap.size := by have := bx1.size; simpa using this
      go_wp2_with fail
      refine (C2.out _ (below_one' bx1)).mono ?_
      rintro e w2 ⟨rfl, hb2⟩
      have bx2 := below_more bx1 hz1 hb2
      obtain ⟨y0, y1, y2, y3⟩ := box4 bx2
      have hz2 : W.heap.size + 1 ≤ w2.heap.size := Nat.le_trans hz1 hb2.size
      go_wp2_with fail
      refine (message_any W.heap.size _ V w2 (HV.out.keep (below_one' bx2) (Nat.le_refl _)) (below_one' bx2).size hs).mono ?_
      rintro e w3 ⟨c, s', b', rfl, hm, hb3, u1, u2, u3⟩
      have bx3 := below_more bx2 hz2 hb3
      have hz3 : W.heap.size + 1 ≤ w3.heap.size := Nat.le_trans hz2 hb3.size
      have hz23 := hb3.size
      obtain ⟨c1, n1, rfl, _⟩ := id u1
      obtain ⟨c2, n2, rfl, _⟩ := id u2
      obtain ⟨c3, n3, rfl, _⟩ := id u3
      have HM := Lib.hid hm
      clear hm
      go_wp2_with fail
      refine (of_true w3.heap.size _ V _ (view_alloc HM.out (Nat.le_refl _) (.cells #[.int .i64 V.epoch, .slice c1 V.chain.length n1, .slice c2 V.since.length n2, .slice c3 V.boot.length n3] 36)) (le_alloc (Nat.le_refl _) (.cells #[.int .i64 V.epoch, .slice c1 V.chain.length n1, .slice c2 V.since.length n2, .slice c3 V.boot.length n3] 36)) hs hr.out).mono ?_
      rintro e w4 ⟨vw, rfl, hvw, hb4, hfw⟩
      obtain ⟨d1, l1, d2, l2, d3, l3, rfl⟩ := hvw.form
      have HVW := Lib.hid hvw
      have HFW := Lib.hid (fresh_mono' hfw (show w3.heap.size ≤ (w3.alloc (.cells #[.int .i64 V.epoch, .slice c1 V.chain.length n1, .slice c2 V.since.length n2, .slice c3 V.boot.length n3] 36)).heap.size by rw [World.size_alloc]; omega))
      clear hvw hfw
      have bm4 : Below (w3.heap.size + 1) (w3.alloc (.cells #[.int .i64 V.epoch, .slice c1 V.chain.length n1, .slice c2 V.since.length n2, .slice c3 V.boot.length n3] 36)) w4 := hb4.mono (by simp)
      have hz34 : w3.heap.size + 1 ≤ w4.heap.size := by have := bm4.size; simpa using this
      have bx4 := below_more (bx3.alloc hz3 (.cells #[.int .i64 V.epoch, .slice c1 V.chain.length n1, .slice c2 V.since.length n2, .slice c3 V.boot.length n3] 36)) (by rw [World.size_alloc]; omega) hb4
      have bx4' := bx4.alloc (by omega) (.cells #[.int .i64 V.epoch, .slice d1 V.chain.length l1, .slice d2 V.since.length l2, .slice d3 V.boot.length l3] 24)
      have bm4' := bm4.alloc hz34 (.cells #[.int .i64 V.epoch, .slice d1 V.chain.length l1, .slice d2 V.since.length l2, .slice d3 V.boot.length l3] 24)
      have bv4' := Below.refl (w4.heap.size + 1) (w4.alloc (.cells #[.int .i64 V.epoch, .slice d1 V.chain.length l1, .slice d2 V.since.length l2, .slice d3 V.boot.length l3] 24))
      obtain ⟨y0, y1, y2, y3⟩ := box4 bx4'
      go_wp2_with fail
      refine (CR.out _ (below_one' bx4')).mono ?_
      rintro e w5 ⟨rfl, hb5⟩
      have bx5 := below_more bx4' (by rw [World.size_alloc]; omega) hb5
      have bm5 := below_more bm4' (by rw [World.size_alloc]; omega) hb5
      have bv5 := below_more bv4' (by rw [World.size_alloc]; omega) hb5
      obtain ⟨y0, y1, y2, y3⟩ := box4 bx5
      obtain ⟨z0, z1, z2, z3⟩ := box4 bv5
      have hz5 : w4.heap.size + 1 ≤ w5.heap.size := by have := bv5.size; simpa using this
      go_wp2_with fail
      refine (CP.out _ (below_one' bx5)).mono ?_
      rintro e w6 ⟨rfl, hb6⟩
      have bx6 := below_more bx5 (by omega) hb6
      have bm6 := below_more bm5 (by omega) hb6
      have bv6 := below_more bv5 (by omega) hb6
      obtain ⟨y60, y61, y62, y63⟩ := box4 bx6
      obtain ⟨x60, x61, x62, x63⟩ := box4 bm6
      obtain ⟨z60, z61, z62, z63⟩ := box4 bv6
      have hz6 : w4.heap.size + 1 ≤ w6.heap.size := Nat.le_trans hz5 hb6.size
      have hbW6 := below_one' bx6
      have HVW6 := Lib.hid ((HVW.out.keep (below_one' bv6) (Nat.le_refl _)).up (show w4.heap.size ≤ w6.heap.size by omega))
      replace u1 := writable_keep u1 (below_one' bm6)
      replace u2 := writable_keep u2 (below_one' bm6)
      replace u3 := writable_keep u3 (below_one' bm6)
      clear y0 y1 y2 y3 z0 z1 z2 z3
      go_wp2_with fail
      go_loopw [11] (fun t11 wr => ∃ k : Nat, k ≤ V.chain.length ∧ t11 = .int .i64 k ∧ OnlyIn w2.heap.size w3.heap.size w6 wr ∧ Below W.heap.size W wr ∧
        Writable wr w2.heap.size w3.heap.size (.slice c1 V.chain.length n1) V.chain.length ∧ Writable wr w2.heap.size w3.heap.size (.slice c2 V.since.length n2) V.since.length ∧ Writable wr w2.heap.size w3.heap.size (.slice c3 V.boot.length n3) V.boot.length)
        (fun t11 _ => V.chain.length - (intOf t11).toNat)
      case atStart => exact ⟨0, Nat.zero_le _, rfl, OnlyIn.refl _ _ _, hbW6, u1, u2, u3⟩
      case round =>
        obtain ⟨k, hk, rfl, ho, hbW, u1, u2, u3⟩ := hrel
        have x0 := (ho.cell (p := ⟨w3.heap.size, 0, none⟩) (.inr (Nat.le_refl _))).trans x60
        have x1 := (ho.cell (p := ⟨w3.heap.size, 1, none⟩) (.inr (Nat.le_refl _))).trans x61
        have x2 := (ho.cell (p := ⟨w3.heap.size, 2, none⟩) (.inr (Nat.le_refl _))).trans x62
        have x3 := (ho.cell (p := ⟨w3.heap.size, 3, none⟩) (.inr (Nat.le_refl _))).trans x63
        by_cases hlt : k < V.chain.length
        · obtain ⟨ga, gcap, ge, _, gw⟩ := u1
          obtain ⟨gg, rfl, gl, gh, gc⟩ := gw (by omega)
          obtain ⟨rfl, -, rfl⟩ : c1 = some ⟨gg, 0, none⟩ ∧ V.chain.length = V.chain.length ∧ n1 = gcap := by injection ge with e1 e2 e3; exact ⟨e1, e2, e3⟩
          obtain ⟨old, hold⟩ := Option.isSome_iff_exists.1 (gc k hlt).1
          have hfz := (gc k hlt).2
          have j1 : (0 : Int) ≤ (k : Int) := by omega
          have j2 : (k : Int) < (V.chain.length : Int) := by omega
          have u1 : Writable wr w2.heap.size w3.heap.size (.slice (some ⟨gg, 0, none⟩) V.chain.length n1) V.chain.length := ⟨_, _, rfl, by assumption, gw⟩
          have GC := Lib.hid gc
          have GW := Lib.hid gw
          have U1 := Lib.hid u1
          have U2 := Lib.hid u2
          have U3 := Lib.hid u3
          clear gc gw u1 u2 u3 ge
          go_wp2_with fail
          go_roundw
          case rel => exact ⟨k + 1, by omega, by go_num, ho.set gl gh k _, hbW.setCell (p := ⟨gg, k, none⟩) (Nat.le_trans (by omega) gl) _, writable_set U1.out _ _, writable_set U2.out _ _, writable_set U3.out _ _⟩
          case measure => simp [intOf]; omega
        · have g : ¬ ((k : Int) < (V.chain.length : Int)) := by omega
          go_wp2_with fail
          go_loopw [12] (fun t12 wr => ∃ k : Nat, k ≤ V.since.length ∧ t12 = .int .i64 k ∧ OnlyIn w2.heap.size w3.heap.size w6 wr ∧ Below W.heap.size W wr ∧
            Writable wr w2.heap.size w3.heap.size (.slice c1 V.chain.length n1) V.chain.length ∧ Writable wr w2.heap.size w3.heap.size (.slice c2 V.since.length n2) V.since.length ∧ Writable wr w2.heap.size w3.heap.size (.slice c3 V.boot.length n3) V.boot.length)
            (fun t12 _ => V.since.length - (intOf t12).toNat)
          case atStart => exact ⟨0, Nat.zero_le _, rfl, ho, hbW, u1, u2, u3⟩
          case round =>
            obtain ⟨k, hk, rfl, ho, hbW, u1, u2, u3⟩ := hrel
            have x0 := (ho.cell (p := ⟨w3.heap.size, 0, none⟩) (.inr (Nat.le_refl _))).trans x60
            have x1 := (ho.cell (p := ⟨w3.heap.size, 1, none⟩) (.inr (Nat.le_refl _))).trans x61
            have x2 := (ho.cell (p := ⟨w3.heap.size, 2, none⟩) (.inr (Nat.le_refl _))).trans x62
            have x3 := (ho.cell (p := ⟨w3.heap.size, 3, none⟩) (.inr (Nat.le_refl _))).trans x63
            by_cases hlt : k < V.since.length
            · obtain ⟨ga, gcap, ge, _, gw⟩ := u2
              obtain ⟨gg, rfl, gl, gh, gc⟩ := gw (by omega)
              obtain ⟨rfl, -, rfl⟩ : c2 = some ⟨gg, 0, none⟩ ∧ V.since.length = V.since.length ∧ n2 = gcap := by injection ge with e1 e2 e3; exact ⟨e1, e2, e3⟩
              obtain ⟨old, hold⟩ := Option.isSome_iff_exists.1 (gc k hlt).1
              have hfz := (gc k hlt).2
              have j1 : (0 : Int) ≤ (k : Int) := by omega
              have j2 : (k : Int) < (V.since.length : Int) := by omega
              have u2 : Writable wr w2.heap.size w3.heap.size (.slice (some ⟨gg, 0, none⟩) V.since.length n2) V.since.length := ⟨_, _, rfl, by assumption, gw⟩
              have GC := Lib.hid gc
              have GW := Lib.hid gw
              have U1 := Lib.hid u1
              have U2 := Lib.hid u2
              have U3 := Lib.hid u3
              clear gc gw u1 u2 u3 ge
              go_wp2_with fail
              go_roundw
              case rel => exact ⟨k + 1, by omega, by go_num, ho.set gl gh k _, hbW.setCell (p := ⟨gg, k, none⟩) (Nat.le_trans (by omega) gl) _, writable_set U1.out _ _, writable_set U2.out _ _, writable_set U3.out _ _⟩
              case measure => simp [intOf]; omega
            · have g : ¬ ((k : Int) < (V.since.length : Int)) := by omega
              go_wp2_with fail
              go_loopw [13] (fun t13 wr => ∃ k : Nat, k ≤ V.boot.length ∧ t13 = .int .i64 k ∧ OnlyIn w2.heap.size w3.heap.size w6 wr ∧ Below W.heap.size W wr ∧
                Writable wr w2.heap.size w3.heap.size (.slice c1 V.chain.length n1) V.chain.length ∧ Writable wr w2.heap.size w3.heap.size (.slice c2 V.since.length n2) V.since.length ∧ Writable wr w2.heap.size w3.heap.size (.slice c3 V.boot.length n3) V.boot.length)
                (fun t13 _ => V.boot.length - (intOf t13).toNat)
              case atStart => exact ⟨0, Nat.zero_le _, rfl, ho, hbW, u1, u2, u3⟩
              case round =>
                obtain ⟨k, hk, rfl, ho, hbW, u1, u2, u3⟩ := hrel
                have x0 := (ho.cell (p := ⟨w3.heap.size, 0, none⟩) (.inr (Nat.le_refl _))).trans x60
                have x1 := (ho.cell (p := ⟨w3.heap.size, 1, none⟩) (.inr (Nat.le_refl _))).trans x61
                have x2 := (ho.cell (p := ⟨w3.heap.size, 2, none⟩) (.inr (Nat.le_refl _))).trans x62
                have x3 := (ho.cell (p := ⟨w3.heap.size, 3, none⟩) (.inr (Nat.le_refl _))).trans x63
                by_cases hlt : k < V.boot.length
                · obtain ⟨ga, gcap, ge, _, gw⟩ := u3
                  obtain ⟨gg, rfl, gl, gh, gc⟩ := gw (by omega)
                  obtain ⟨rfl, -, rfl⟩ : c3 = some ⟨gg, 0, none⟩ ∧ V.boot.length = V.boot.length ∧ n3 = gcap := by injection ge with e1 e2 e3; exact ⟨e1, e2, e3⟩
                  obtain ⟨old, hold⟩ := Option.isSome_iff_exists.1 (gc k hlt).1
                  have hfz := (gc k hlt).2
                  have j1 : (0 : Int) ≤ (k : Int) := by omega
                  have j2 : (k : Int) < (V.boot.length : Int) := by omega
                  have u3 : Writable wr w2.heap.size w3.heap.size (.slice (some ⟨gg, 0, none⟩) V.boot.length n3) V.boot.length := ⟨_, _, rfl, by assumption, gw⟩
                  have GC := Lib.hid gc
                  have GW := Lib.hid gw
                  have U1 := Lib.hid u1
                  have U2 := Lib.hid u2
                  have U3 := Lib.hid u3
                  clear gc gw u1 u2 u3 ge
                  go_wp2_with fail
                  go_roundw
                  case rel => exact ⟨k + 1, by omega, by go_num, ho.set gl gh k _, hbW.setCell (p := ⟨gg, k, none⟩) (Nat.le_trans (by omega) gl) _, writable_set U1.out _ _, writable_set U2.out _ _, writable_set U3.out _ _⟩
                  case measure => simp [intOf]; omega
                · have g : ¬ ((k : Int) < (V.boot.length : Int)) := by omega
                  have v0 := (ho.cell (p := ⟨W.heap.size, 0, none⟩) (.inl (by simp only; omega))).trans y60
                  have v1 := (ho.cell (p := ⟨W.heap.size, 1, none⟩) (.inl (by simp only; omega))).trans y61
                  have v2 := (ho.cell (p := ⟨W.heap.size, 2, none⟩) (.inl (by simp only; omega))).trans y62
                  have v3 := (ho.cell (p := ⟨W.heap.size, 3, none⟩) (.inl (by simp only; omega))).trans y63
                  go_wp2_with fail
                  refine (CP.out _ hbW).mono ?_
                  rintro e w8 ⟨rfl, hb8⟩
                  have hb8' : Below wr.heap.size wr w8 := hb8
                  have q0 := ((hb8'.cell (p := ⟨w4.heap.size, 0, none⟩) (by simp only; have := ho.size; omega)).trans (ho.cell (p := ⟨w4.heap.size, 0, none⟩) (.inr (by simp only; omega)))).trans z60
                  have q1 := ((hb8'.cell (p := ⟨w4.heap.size, 1, none⟩) (by simp only; have := ho.size; omega)).trans (ho.cell (p := ⟨w4.heap.size, 1, none⟩) (.inr (by simp only; omega)))).trans z61
                  have q2 := ((hb8'.cell (p := ⟨w4.heap.size, 2, none⟩) (by simp only; have := ho.size; omega)).trans (ho.cell (p := ⟨w4.heap.size, 2, none⟩) (.inr (by simp only; omega)))).trans z62
                  have q3 := ((hb8'.cell (p := ⟨w4.heap.size, 3, none⟩) (by simp only; have := ho.size; omega)).trans (ho.cell (p := ⟨w4.heap.size, 3, none⟩) (.inr (by simp only; omega)))).trans z63
                  have hvw8 := ((view_only HVW6.out HFW.out (by omega) ho).up (Nat.le_of_eq ho.size.symm)).keep hb8' (Nat.le_refl _)
                  go_wp2_with fail
                  refine (vput_any _ _ V _ HPV.out _ hvw8 hb8'.size hs).mono ?_
                  rintro e w9 ⟨rfl, hb9⟩
                  go_wp2_with fail
                  go_ret
                  exact ⟨rfl, bstep (bstep hbW hb8) hb9⟩
    | false =>
      have CR := Lib.hid (CR'.out false hr0.symm)
      have hr := Lib.hid hr0
      clear hr0 CR' C2'
      go_enter Try.func6, Try.ntmps6
      go_wp2_with fail
      refine (C1.out _).mono ?_
      rintro e w1 ⟨rfl, hb1⟩
      have bx1 : Below (W.heap.size + 1) _ w1 := hb1.mono (by simp)
      obtain ⟨y0, y1, y2, y3⟩ := box4 bx1
      have hz1 : W.heap.size + 1 ≤ w1.heap.size := by have := bx1.size; simpa using this
      go_wp2_with fail
      refine (C2.out _ (below_one' bx1)).mono ?_
      rintro e w2 ⟨rfl, hb2⟩
      have bx2 := below_more bx1 hz1 hb2
      obtain ⟨y0, y1, y2, y3⟩ := box4 bx2
      have hz2 : W.heap.size + 1 ≤ w2.heap.size := Nat.le_trans hz1 hb2.size
      go_wp2_with fail
      refine (message_any W.heap.size _ V w2 (HV.out.keep (below_one' bx2) (Nat.le_refl _)) (below_one' bx2).size hs).mono ?_
      rintro e w3 ⟨c, s', b', rfl, hm, hb3, u1, u2, u3⟩
      have bx3 := below_more bx2 hz2 hb3
      have hz3 : W.heap.size + 1 ≤ w3.heap.size := Nat.le_trans hz2 hb3.size
      have hz23 := hb3.size
      obtain ⟨c1, n1, rfl, _⟩ := id u1
      obtain ⟨c2, n2, rfl, _⟩ := id u2
      obtain ⟨c3, n3, rfl, _⟩ := id u3
      have HM := Lib.hid hm
      clear hm
      go_wp2_with fail
      refine (of_false w3.heap.size _ V _ (view_alloc HM.out (Nat.le_refl _) (.cells #[.int .i64 V.epoch, .slice c1 V.chain.length n1, .slice c2 V.since.length n2, .slice c3 V.boot.length n3] 36)) (le_alloc (Nat.le_refl _) (.cells #[.int .i64 V.epoch, .slice c1 V.chain.length n1, .slice c2 V.since.length n2, .slice c3 V.boot.length n3] 36)) hs hr.out).mono ?_
      rintro e w4 ⟨vw, rfl, hvw, hb4, hfw⟩
      obtain ⟨d1, l1, d2, l2, d3, l3, rfl⟩ := hvw.form
      have HVW := Lib.hid hvw
      have HFW := Lib.hid (fresh_mono' hfw (show w3.heap.size ≤ (w3.alloc (.cells #[.int .i64 V.epoch, .slice c1 V.chain.length n1, .slice c2 V.since.length n2, .slice c3 V.boot.length n3] 36)).heap.size by rw [World.size_alloc]; omega))
      clear hvw hfw
      have bm4 : Below (w3.heap.size + 1) (w3.alloc (.cells #[.int .i64 V.epoch, .slice c1 V.chain.length n1, .slice c2 V.since.length n2, .slice c3 V.boot.length n3] 36)) w4 := hb4.mono (by simp)
      have hz34 : w3.heap.size + 1 ≤ w4.heap.size := by have := bm4.size; simpa using this
      have bx4 := below_more (bx3.alloc hz3 (.cells #[.int .i64 V.epoch, .slice c1 V.chain.length n1, .slice c2 V.since.length n2, .slice c3 V.boot.length n3] 36)) (by rw [World.size_alloc]; omega) hb4
      have bx4' := bx4.alloc (by omega) (.cells #[.int .i64 zeroV.epoch, .slice d1 zeroV.chain.length l1, .slice d2 zeroV.since.length l2, .slice d3 zeroV.boot.length l3] 24)
      have bm4' := bm4.alloc hz34 (.cells #[.int .i64 zeroV.epoch, .slice d1 zeroV.chain.length l1, .slice d2 zeroV.since.length l2, .slice d3 zeroV.boot.length l3] 24)
      have bv4' := Below.refl (w4.heap.size + 1) (w4.alloc (.cells #[.int .i64 zeroV.epoch, .slice d1 zeroV.chain.length l1, .slice d2 zeroV.since.length l2, .slice d3 zeroV.boot.length l3] 24))
      obtain ⟨y0, y1, y2, y3⟩ := box4 bx4'
      go_wp2_with fail
      refine (CR.out _ (below_one' bx4')).mono ?_
      rintro e w5 ⟨rfl, hb5⟩
      have bx5 := below_more bx4' (by rw [World.size_alloc]; omega) hb5
      have bm5 := below_more bm4' (by rw [World.size_alloc]; omega) hb5
      have bv5 := below_more bv4' (by rw [World.size_alloc]; omega) hb5
      obtain ⟨y0, y1, y2, y3⟩ := box4 bx5
      obtain ⟨z0, z1, z2, z3⟩ := box4 bv5
      have hz5 : w4.heap.size + 1 ≤ w5.heap.size := by have := bv5.size; simpa using this
      have ezE : zeroV.epoch = 0 := rfl
      have ez1 : zeroV.chain.length = 0 := rfl
      have ez2 : zeroV.since.length = 0 := rfl
      have ez3 : zeroV.boot.length = 0 := rfl
      go_wp2_with fail
      refine (CP.out _ (below_one' bx5)).mono ?_
      rintro e w6 ⟨rfl, hb6⟩
      have bx6 := below_more bx5 (by omega) hb6
      have bm6 := below_more bm5 (by omega) hb6
      have bv6 := below_more bv5 (by omega) hb6
      obtain ⟨y60, y61, y62, y63⟩ := box4 bx6
      obtain ⟨x60, x61, x62, x63⟩ := box4 bm6
      obtain ⟨z60, z61, z62, z63⟩ := box4 bv6
      have hz6 : w4.heap.size + 1 ≤ w6.heap.size := Nat.le_trans hz5 hb6.size
      have hbW6 := below_one' bx6
      have HVW6 := Lib.hid ((HVW.out.keep (below_one' bv6) (Nat.le_refl _)).up (show w4.heap.size ≤ w6.heap.size by omega))
      replace u1 := writable_keep u1 (below_one' bm6)
      replace u2 := writable_keep u2 (below_one' bm6)
      replace u3 := writable_keep u3 (below_one' bm6)
      clear y0 y1 y2 y3 z0 z1 z2 z3
      go_wp2_with fail
      go_loopw [11] (fun t11 wr => ∃ k : Nat, k ≤ V.chain.length ∧ t11 = .int .i64 k ∧ OnlyIn w2.heap.size w3.heap.size w6 wr ∧ Below W.heap.size W wr ∧
        Writable wr w2.heap.size w3.heap.size (.slice c1 V.chain.length n1) V.chain.length ∧ Writable wr w2.heap.size w3.heap.size (.slice c2 V.since.length n2) V.since.length ∧ Writable wr w2.heap.size w3.heap.size (.slice c3 V.boot.length n3) V.boot.length)
        (fun t11 _ => V.chain.length - (intOf t11).toNat)
      case atStart => exact ⟨0, Nat.zero_le _, rfl, OnlyIn.refl _ _ _, hbW6, u1, u2, u3⟩
      case round =>
        obtain ⟨k, hk, rfl, ho, hbW, u1, u2, u3⟩ := hrel
        have x0 := (ho.cell (p := ⟨w3.heap.size, 0, none⟩) (.inr (Nat.le_refl _))).trans x60
        have x1 := (ho.cell (p := ⟨w3.heap.size, 1, none⟩) (.inr (Nat.le_refl _))).trans x61
        have x2 := (ho.cell (p := ⟨w3.heap.size, 2, none⟩) (.inr (Nat.le_refl _))).trans x62
        have x3 := (ho.cell (p := ⟨w3.heap.size, 3, none⟩) (.inr (Nat.le_refl _))).trans x63
        by_cases hlt : k < V.chain.length
        · obtain ⟨ga, gcap, ge, _, gw⟩ := u1
          obtain ⟨gg, rfl, gl, gh, gc⟩ := gw (by omega)
          obtain ⟨rfl, -, rfl⟩ : c1 = some ⟨gg, 0, none⟩ ∧ V.chain.length = V.chain.length ∧ n1 = gcap := by injection ge with e1 e2 e3; exact ⟨e1, e2, e3⟩
          obtain ⟨old, hold⟩ := Option.isSome_iff_exists.1 (gc k hlt).1
          have hfz := (gc k hlt).2
          have j1 : (0 : Int) ≤ (k : Int) := by omega
          have j2 : (k : Int) < (V.chain.length : Int) := by omega
          have u1 : Writable wr w2.heap.size w3.heap.size (.slice (some ⟨gg, 0, none⟩) V.chain.length n1) V.chain.length := ⟨_, _, rfl, by assumption, gw⟩
          have GC := Lib.hid gc
          have GW := Lib.hid gw
          have U1 := Lib.hid u1
          have U2 := Lib.hid u2
          have U3 := Lib.hid u3
          clear gc gw u1 u2 u3 ge
          go_wp2_with fail
          go_roundw
          case rel => exact ⟨k + 1, by omega, by go_num, ho.set gl gh k _, hbW.setCell (p := ⟨gg, k, none⟩) (Nat.le_trans (by omega) gl) _, writable_set U1.out _ _, writable_set U2.out _ _, writable_set U3.out _ _⟩
          case measure => simp [intOf]; omega
        · have g : ¬ ((k : Int) < (V.chain.length : Int)) := by omega
          go_wp2_with fail
          go_loopw [12] (fun t12 wr => ∃ k : Nat, k ≤ V.since.length ∧ t12 = .int .i64 k ∧ OnlyIn w2.heap.size w3.heap.size w6 wr ∧ Below W.heap.size W wr ∧
            Writable wr w2.heap.size w3.heap.size (.slice c1 V.chain.length n1) V.chain.length ∧ Writable wr w2.heap.size w3.heap.size (.slice c2 V.since.length n2) V.since.length ∧ Writable wr w2.heap.size w3.heap.size (.slice c3 V.boot.length n3) V.boot.length)
            (fun t12 _ => V.since.length - (intOf t12).toNat)
          case atStart => exact ⟨0, Nat.zero_le _, rfl, ho, hbW, u1, u2, u3⟩
          case round =>
            obtain ⟨k, hk, rfl, ho, hbW, u1, u2, u3⟩ := hrel
            have x0 := (ho.cell (p := ⟨w3.heap.size, 0, none⟩) (.inr (Nat.le_refl _))).trans x60
            have x1 := (ho.cell (p := ⟨w3.heap.size, 1, none⟩) (.inr (Nat.le_refl _))).trans x61
            have x2 := (ho.cell (p := ⟨w3.heap.size, 2, none⟩) (.inr (Nat.le_refl _))).trans x62
            have x3 := (ho.cell (p := ⟨w3.heap.size, 3, none⟩) (.inr (Nat.le_refl _))).trans x63
            by_cases hlt : k < V.since.length
            · obtain ⟨ga, gcap, ge, _, gw⟩ := u2
              obtain ⟨gg, rfl, gl, gh, gc⟩ := gw (by omega)
              obtain ⟨rfl, -, rfl⟩ : c2 = some ⟨gg, 0, none⟩ ∧ V.since.length = V.since.length ∧ n2 = gcap := by injection ge with e1 e2 e3; exact ⟨e1, e2, e3⟩
              obtain ⟨old, hold⟩ := Option.isSome_iff_exists.1 (gc k hlt).1
              have hfz := (gc k hlt).2
              have j1 : (0 : Int) ≤ (k : Int) := by omega
              have j2 : (k : Int) < (V.since.length : Int) := by omega
              have u2 : Writable wr w2.heap.size w3.heap.size (.slice (some ⟨gg, 0, none⟩) V.since.length n2) V.since.length := ⟨_, _, rfl, by assumption, gw⟩
              have GC := Lib.hid gc
              have GW := Lib.hid gw
              have U1 := Lib.hid u1
              have U2 := Lib.hid u2
              have U3 := Lib.hid u3
              clear gc gw u1 u2 u3 ge
              go_wp2_with fail
              go_roundw
              case rel => exact ⟨k + 1, by omega, by go_num, ho.set gl gh k _, hbW.setCell (p := ⟨gg, k, none⟩) (Nat.le_trans (by omega) gl) _, writable_set U1.out _ _, writable_set U2.out _ _, writable_set U3.out _ _⟩
              case measure => simp [intOf]; omega
            · have g : ¬ ((k : Int) < (V.since.length : Int)) := by omega
              go_wp2_with fail
              go_loopw [13] (fun t13 wr => ∃ k : Nat, k ≤ V.boot.length ∧ t13 = .int .i64 k ∧ OnlyIn w2.heap.size w3.heap.size w6 wr ∧ Below W.heap.size W wr ∧
                Writable wr w2.heap.size w3.heap.size (.slice c1 V.chain.length n1) V.chain.length ∧ Writable wr w2.heap.size w3.heap.size (.slice c2 V.since.length n2) V.since.length ∧ Writable wr w2.heap.size w3.heap.size (.slice c3 V.boot.length n3) V.boot.length)
                (fun t13 _ => V.boot.length - (intOf t13).toNat)
              case atStart => exact ⟨0, Nat.zero_le _, rfl, ho, hbW, u1, u2, u3⟩
              case round =>
                obtain ⟨k, hk, rfl, ho, hbW, u1, u2, u3⟩ := hrel
                have x0 := (ho.cell (p := ⟨w3.heap.size, 0, none⟩) (.inr (Nat.le_refl _))).trans x60
                have x1 := (ho.cell (p := ⟨w3.heap.size, 1, none⟩) (.inr (Nat.le_refl _))).trans x61
                have x2 := (ho.cell (p := ⟨w3.heap.size, 2, none⟩) (.inr (Nat.le_refl _))).trans x62
                have x3 := (ho.cell (p := ⟨w3.heap.size, 3, none⟩) (.inr (Nat.le_refl _))).trans x63
                by_cases hlt : k < V.boot.length
                · obtain ⟨ga, gcap, ge, _, gw⟩ := u3
                  obtain ⟨gg, rfl, gl, gh, gc⟩ := gw (by omega)
                  obtain ⟨rfl, -, rfl⟩ : c3 = some ⟨gg, 0, none⟩ ∧ V.boot.length = V.boot.length ∧ n3 = gcap := by injection ge with e1 e2 e3; exact ⟨e1, e2, e3⟩
                  obtain ⟨old, hold⟩ := Option.isSome_iff_exists.1 (gc k hlt).1
                  have hfz := (gc k hlt).2
                  have j1 : (0 : Int) ≤ (k : Int) := by omega
                  have j2 : (k : Int) < (V.boot.length : Int) := by omega
                  have u3 : Writable wr w2.heap.size w3.heap.size (.slice (some ⟨gg, 0, none⟩) V.boot.length n3) V.boot.length := ⟨_, _, rfl, by assumption, gw⟩
                  have GC := Lib.hid gc
                  have GW := Lib.hid gw
                  have U1 := Lib.hid u1
                  have U2 := Lib.hid u2
                  have U3 := Lib.hid u3
                  clear gc gw u1 u2 u3 ge
                  go_wp2_with fail
                  go_roundw
                  case rel => exact ⟨k + 1, by omega, by go_num, ho.set gl gh k _, hbW.setCell (p := ⟨gg, k, none⟩) (Nat.le_trans (by omega) gl) _, writable_set U1.out _ _, writable_set U2.out _ _, writable_set U3.out _ _⟩
                  case measure => simp [intOf]; omega
                · have g : ¬ ((k : Int) < (V.boot.length : Int)) := by omega
                  have v0 := (ho.cell (p := ⟨W.heap.size, 0, none⟩) (.inl (by simp only; omega))).trans y60
                  have v1 := (ho.cell (p := ⟨W.heap.size, 1, none⟩) (.inl (by simp only; omega))).trans y61
                  have v2 := (ho.cell (p := ⟨W.heap.size, 2, none⟩) (.inl (by simp only; omega))).trans y62
                  have v3 := (ho.cell (p := ⟨W.heap.size, 3, none⟩) (.inl (by simp only; omega))).trans y63
                  go_wp2_with fail
                  refine (CP.out _ hbW).mono ?_
                  rintro e w8 ⟨rfl, hb8⟩
                  go_wp2_with fail
                  go_ret
                  exact ⟨rfl, bstep hbW hb8⟩
  · have C2 := Lib.hid (C2'.out false (decide_eq_false hs).symm)
    go_enter Try.func6, Try.ntmps6
    go_wp2_with fail
    refine (C1.out _).mono ?_
    rintro e w1 ⟨rfl, hb1⟩
    have bx1 : Below (W.heap.size + 1) _ w1 := hb1.mono (by simp)
    obtain ⟨y0, y1, y2, y3⟩ := box4 bx1
    have hz1 : W.heap.size + 1 ≤ w1.heap.size := by have := bx1.size; simpa using this
    go_wp2_with fail
    refine (C2.out _ (below_one' bx1)).mono ?_
    rintro e w2 ⟨rfl, hb2⟩
    have bx2 := below_more bx1 hz1 hb2
    obtain ⟨y0, y1, y2, y3⟩ := box4 bx2
    have hz2 : W.heap.size + 1 ≤ w2.heap.size := Nat.le_trans hz1 hb2.size
    go_wp2_with fail
    go_ret
    exact ⟨rfl, below_one' bx2⟩
end Go.Proofs.Ytigojackdkaanaa
