/-
  What the walk of bucketlinelaw12.TimerPlays carries along.
-/
import Derived.Test.YtpadbkplknnopaaTmRef3
import Derived.Test.YtpadbkplknnopaaTmOpen
namespace Go.Proofs.Ytpadbkplknnopaa
set_option linter.unusedSimpArgs false
set_option linter.unusedVariables false
open Go.RowKit Go.ChangeShapes Go.WideShapes Go.ChangeAt

theorem open_acells2 {H : Type} {enc : TypeId × Value → H} {w : World} {n : Nat} {cs : List Value} {x : DataW H × List MemPlace}
    (h : DataW.trod enc Try.prog w 0 (fun _ => true) true n 40 cs = some x) : ∃ b : AC, cs = [.int .i64 b.op, .int .i64 b.at_, .string b.name] ∧ (Lit.int .i64 b.op).wf = true := by
  obtain ⟨xs, k, _, _, hl, hxl, hf⟩ := DataW.trod_struct Try.underlying40 h
  rw [cOf_act] at hl
  match cs, hl, xs, hxl with
  | [v0, v1, v2], _, [y0, y1, y2], _ =>
    have g0 := hf 0 _ rfl
    have g1 := hf 1 _ rfl
    have g2 := hf 2 _ rfl
    simp [cOf_string, cOf_int] at g0 g1 g2
    obtain ⟨s0, e0, _, hw0⟩ := DataW.trod_int Try.underlying3 g0
    obtain ⟨s1, e1, _⟩ := DataW.trod_int Try.underlying3 g1
    obtain ⟨s2, e2, _⟩ := DataW.trod_string Try.underlying9 g2
    simp only [List.cons.injEq, and_true] at e0 e1 e2
    subst e0 e1 e2
    exact ⟨⟨s0, s1, s2⟩, rfl, hw0⟩

theorem open_acts2 {H : Type} {enc : TypeId × Value → H} {w : World} {base : Nat} {v : Value} {d : DataW H} {p : List MemPlace}
    (hv : Value.okWide Try.prog w .any base 37 v) (h : DataW.Trod enc Try.prog w 0 (fun _ => true) true 37 v d p) : ∃ l, IsActs w.heap.size w v l ∧ ∀ i (h : i < l.length), (Lit.int .i64 l[i].op).wf = true := by
  obtain ⟨a0, len0, cap0, rfl⟩ := okWide_slice Try.underlying37 hv
  obtain ⟨fuel, hf⟩ := h
  have hf' : DataW.trod enc Try.prog w 0 (fun _ => true) true fuel 37 [.slice a0 len0 cap0] = some (d, p) := by simpa [Value.cells] using hf
  rcases Go.Deep.open_slice Try.underlying37 hf' with ⟨hcs, _⟩ | ⟨a, len, cap, m, n, D, Pl, hcs, _, hl, hm, hmm, _, hx⟩
  · injection hcs with e1
    injection e1 with e1 e2 e3
    subst e1 e2 e3
    exact ⟨[], ⟨none, 0, rfl, Nat.le_refl _, by unfold maxLen; omega, fun h => absurd h (by simp)⟩, fun i h => absurd h (by simp)⟩
  · injection hcs with e1
    injection e1 with e1 e2 e3
    subst e1 e2 e3
    have hmc : m = cap0 := by rw [hmm]; rfl
    subst hmc
    have each : ∀ i, i < m → ∃ q : AC, w.cell? (a.add (i * 3)) = some (.int .i64 q.op) ∧ w.cell? (a.add (i * 3 + 1)) = some (.int .i64 q.at_) ∧ w.cell? (a.add (i * 3 + 2)) = some (.string q.name) ∧ (Lit.int .i64 q.op).wf = true := fun i hi => by
      obtain ⟨cs', h1, h2⟩ := hx i hi
      obtain ⟨b, hcs', hwf⟩ := open_acells2 h2
      rw [cOf_act] at h1
      obtain ⟨_, hlen, hcell⟩ := World.cells?_some h1
      subst hcs'
      have e0 := hcell 0 (by omega)
      have e1 := hcell 1 (by omega)
      have e2 := hcell 2 (by omega)
      rw [Go.Deep.add_add] at e0 e1 e2
      exact ⟨b, by simpa using e0, by simpa using e1, by simpa using e2, hwf⟩
    have hBi : Inhabited AC := ⟨⟨0, 0, ⟨#[]⟩⟩⟩
    obtain ⟨E, hE⟩ := Go.Deep.choose_lt each
    have hlen : ((List.range len0).map E).length = len0 := by simp
    refine ⟨(List.range len0).map E, ⟨some a, m, by rw [hlen], by rw [hlen]; exact hl, hm, fun hp => ?_⟩, fun i hi => ?_⟩
    · rw [hlen] at hp
      have hsp : a.spot = none := by
        have := World.cell?_spot (hE 0 (by omega)).1
        simpa [Addr.add] using this
      refine ⟨a.block, a.off, congrArg some (by cases a; simp only at hsp; subst hsp; rfl), ?_, fun i hi => ?_⟩
      · have := World.block_lt_of_cell? w _ (hE 0 (by omega)).1
        rw [spotE hsp] at this
        exact this
      · rw [hlen] at hi
        obtain ⟨h0, h1, h2, _⟩ := hE i (by omega)
        rw [spotE hsp] at h0 h1 h2
        simp only [List.getElem_map, List.getElem_range]
        exact ⟨h0, by rw [Nat.add_assoc]; exact h1, by rw [Nat.add_assoc]; exact h2⟩
    · rw [hlen] at hi
      simp only [List.getElem_map, List.getElem_range]
      exact (hE i (by omega)).2.2.2

theorem set_blk_ne {z : World} {p q o : Nat} {v : Value} (h : p ≠ q) : (z.setCell ⟨q, o, none⟩ v).heap[p]? = z.heap[p]? := by
  simp only [World.setCell]
  rw [Array.getElem?_modify, if_neg (fun e => h e.symm)]
theorem own_ne {w : World} {b g o n sz : Nat} {e : TypeId} {v x : Value} {xs : List Value} (h : w.ownsRow b e sz v n xs) (hne : ∀ k, v.ownBlock = some k → k ≠ g) : (w.setCell ⟨g, o, none⟩ x).ownsRow b e sz v n xs :=
  own_blk h (fun k hk => set_blk_ne (hne k hk))
/-- The two rows of timers in their cells. -/
structure TmM (w1 : World) (p0 : Nat) (va ma : Value) (L : List TM) (z : World) : Prop where
  ga : z.heap[p0]? = some (.cells #[va] 26)
  gb : z.heap[p0 + 1]? = some (.cells #[ma] 34)
  oa : OwnT z (p0 + 2) va L
  ob : OwnR z (p0 + 2) ma L
  bl : Below p0 w1 z
theorem TmM.size {w1 z : World} {p0 : Nat} {va ma : Value} {L : List TM} (h : TmM w1 p0 va ma L z) : p0 + 2 ≤ z.heap.size := (Array.getElem?_eq_some_iff.1 h.gb).1
theorem TmM.keep {w1 z z' : World} {p0 : Nat} {va ma : Value} {L : List TM} (h : TmM w1 p0 va ma L z) (hb : Below z.heap.size z z') : TmM w1 p0 va ma L z' := by
  have hz := h.size
  exact ⟨(hb.block p0 (by omega)).trans h.ga, (hb.block (p0 + 1) (by omega)).trans h.gb, OwnT.keep h.oa hb, OwnR.keep h.ob hb, h.bl.trans (hb.mono (by omega))⟩
/-- All that is there in a round: the act in block q, what was in block s, and the two rows to be in the blocks behind. -/
structure Pl (w1 : World) (p0 q s : Nat) (va ma : Value) (L : List TM) (y : AC) (was ua : Value) (U : List TM) (vb : Value) (V : List TM) (z : World) : Prop where
  m : TmM w1 p0 va ma L z
  g8 : z.heap[q]? = some (.cells #[.int .i64 y.op, .int .i64 y.at_, .string y.name] 40)
  g9 : z.heap[s]? = some (.cells #[was] 34)
  g10 : z.heap[s + 1]? = some (.cells #[ua] 26)
  g11 : z.heap[s + 2]? = some (.cells #[vb] 34)
  ow : OwnR z (p0 + 2) was L
  ou : OwnT z (p0 + 2) ua U
  ov : OwnR z (p0 + 2) vb V
  na : ∀ v, v = va ∨ v = ma ∨ v = was ∨ v = ua ∨ v = vb → ∀ k, v.ownBlock = some k → k ≠ s + 1 ∧ k ≠ s + 2
  hq : p0 + 2 ≤ q ∧ q < s
theorem Pl.size {w1 z : World} {p0 q s : Nat} {va ma was ua vb : Value} {L U V : List TM} {y : AC} (h : Pl w1 p0 q s va ma L y was ua U vb V z) : s + 3 ≤ z.heap.size := (Array.getElem?_eq_some_iff.1 h.g11).1
theorem Pl.keep {w1 z z' : World} {p0 q s : Nat} {va ma was ua vb : Value} {L U V : List TM} {y : AC} (h : Pl w1 p0 q s va ma L y was ua U vb V z) (hb : Below z.heap.size z z') : Pl w1 p0 q s va ma L y was ua U vb V z' := by
  have hz := h.size
  have hq := h.hq
  exact ⟨h.m.keep hb, (hb.block q (by omega)).trans h.g8, (hb.block s (by omega)).trans h.g9, (hb.block (s + 1) (by omega)).trans h.g10, (hb.block (s + 2) (by omega)).trans h.g11, OwnR.keep h.ow hb, OwnT.keep h.ou hb, OwnR.keep h.ov hb, h.na, h.hq⟩
theorem TmM.set {w1 z : World} {p0 k : Nat} {va ma x : Value} {L : List TM} (h : TmM w1 p0 va ma L z) (hk : p0 + 2 ≤ k) (h1 : ∀ j, va.ownBlock = some j → j ≠ k) (h2 : ∀ j, ma.ownBlock = some j → j ≠ k) : TmM w1 p0 va ma L (z.setCell ⟨k, 0, none⟩ x) :=
  ⟨by rw [set_blk_ne (by omega)]; exact h.ga, by rw [set_blk_ne (by omega)]; exact h.gb, own_ne h.oa h1, own_ne h.ob h2, ⟨h.bl.os, h.bl.tape, h.bl.output, by rw [World.size_setCell]; exact h.bl.size, fun q hq => by rw [set_blk_ne (by omega)]; exact h.bl.block q hq⟩⟩
theorem Pl.setU {w1 z : World} {p0 q s : Nat} {va ma was ua vb u2 : Value} {L U V U2 : List TM} {y : AC} (h : Pl w1 p0 q s va ma L y was ua U vb V z) (ho : OwnT z (s + 3) u2 U2) : Pl w1 p0 q s va ma L y was u2 U2 vb V (z.setCell ⟨s + 1, 0, none⟩ u2) := by
  have hz := h.size
  have hq := h.hq
  have n := h.na
  refine ⟨h.m.set (by omega) (fun k hk => (n va (.inl rfl) k hk).1) (fun k hk => (n ma (.inr (.inl rfl)) k hk).1), by rw [set_blk_ne (by omega)]; exact h.g8, by rw [set_blk_ne (by omega)]; exact h.g9, blk_set h.g10 0 _, by rw [set_blk_ne (by omega)]; exact h.g11,
    own_ne h.ow (fun k hk => (n was (.inr (.inr (.inl rfl))) k hk).1), OwnT.less (show p0 + 2 ≤ s + 3 by omega) (OwnT.set ho (show s + 1 < s + 3 by omega)), own_ne h.ov (fun k hk => (n vb (.inr (.inr (.inr (.inr rfl)))) k hk).1), ?_, h.hq⟩
  rintro v (rfl | rfl | rfl | rfl | rfl) k hk
  · exact n _ (.inl rfl) k hk
  · exact n _ (.inr (.inl rfl)) k hk
  · exact n _ (.inr (.inr (.inl rfl))) k hk
  · have := (World.ownsRow.lt ho k hk).1
    omega
  · exact n _ (.inr (.inr (.inr (.inr rfl)))) k hk
theorem Pl.setV {w1 z : World} {p0 q s : Nat} {va ma was ua vb v2 : Value} {L U V V2 : List TM} {y : AC} (h : Pl w1 p0 q s va ma L y was ua U vb V z) (ho : OwnR z (s + 3) v2 V2) : Pl w1 p0 q s va ma L y was ua U v2 V2 (z.setCell ⟨s + 2, 0, none⟩ v2) := by
  have hz := h.size
  have hq := h.hq
  have n := h.na
  refine ⟨h.m.set (by omega) (fun k hk => (n va (.inl rfl) k hk).2) (fun k hk => (n ma (.inr (.inl rfl)) k hk).2), by rw [set_blk_ne (by omega)]; exact h.g8, by rw [set_blk_ne (by omega)]; exact h.g9, by rw [set_blk_ne (by omega)]; exact h.g10, blk_set h.g11 0 _,
    own_ne h.ow (fun k hk => (n was (.inr (.inr (.inl rfl))) k hk).2), own_ne h.ou (fun k hk => (n ua (.inr (.inr (.inr (.inl rfl)))) k hk).2), OwnR.less (show p0 + 2 ≤ s + 3 by omega) (OwnR.set ho (show s + 2 < s + 3 by omega)), ?_, h.hq⟩
  rintro v (rfl | rfl | rfl | rfl | rfl) k hk
  · exact n _ (.inl rfl) k hk
  · exact n _ (.inr (.inl rfl)) k hk
  · exact n _ (.inr (.inr (.inl rfl))) k hk
  · exact n _ (.inr (.inr (.inr (.inl rfl)))) k hk
  · have := (World.ownsRow.lt ho k hk).1
    omega
/-- The round's end: what is to be, is. -/
theorem Pl.fin {w1 z : World} {p0 q s : Nat} {va ma was ua vb : Value} {L U V : List TM} {y : AC} (h : Pl w1 p0 q s va ma L y was ua U vb V z) (hv : V = U) : TmM w1 p0 ua vb U ((z.setCell ⟨p0, 0, none⟩ ua).setCell ⟨p0 + 1, 0, none⟩ vb) := by
  subst hv
  have hgb : (z.setCell ⟨p0, 0, none⟩ ua).heap[p0 + 1]? = some (.cells #[ma] 34) := by rw [set_blk_ne (by omega)]; exact h.m.gb
  refine ⟨by rw [set_blk_ne (by omega)]; exact blk_set h.m.ga 0 _, blk_set hgb 0 _, OwnT.set (OwnT.set h.ou (by omega)) (by omega), OwnR.set (OwnR.set h.ov (by omega)) (by omega), ⟨h.m.bl.os, h.m.bl.tape, h.m.bl.output, by rw [World.size_setCell, World.size_setCell]; exact h.m.bl.size, fun k hk => by rw [set_blk_ne (by omega), set_blk_ne (by omega)]; exact h.m.bl.block k hk⟩⟩
/-- How it begins. -/
theorem Pl.start {w1 z0 z1 z2 z4 : World} {p0 q s : Nat} {va ma was : Value} {L : List TM} {y : AC} (h : TmM w1 p0 va ma L z0) (hz : z1 = z0.alloc (.cells #[.int .i64 y.op, .int .i64 y.at_, .string y.name] 40)) (hq : q = z0.heap.size)
    (hb : Below z1.heap.size z1 z2) (ho : OwnR z2 z1.heap.size was L) (hs : s = z2.heap.size) (h4 : z4 = ((z2.alloc (.cells #[was] 34)).alloc (.cells #[va] 26)).alloc (.cells #[ma] 34)) : Pl w1 p0 q s va ma L y was va L ma L z4 := by
  have hz0 := h.size
  have hz1 : z1.heap.size = z0.heap.size + 1 := by rw [hz, World.size_alloc]
  have hz2 := hb.size
  have g8 : z1.heap[q]? = some (.cells #[.int .i64 y.op, .int .i64 y.at_, .string y.name] 40) := by rw [hz, hq]; exact heap_alloc_new _ _
  have k1 : Below z0.heap.size z0 z1 := by rw [hz]; exact (Below.refl _ _).alloc (Nat.le_refl _) _
  have m2 := (h.keep k1).keep hb
  have e1 : (z2.alloc (.cells #[was] 34)).heap.size = s + 1 := by rw [World.size_alloc, hs]
  have e2 : ((z2.alloc (.cells #[was] 34)).alloc (.cells #[va] 26)).heap.size = s + 2 := by rw [World.size_alloc, e1]
  have g9 := heap_alloc_new z2 (.cells #[was] 34)
  have g10 := heap_alloc_new (z2.alloc (.cells #[was] 34)) (.cells #[va] 26)
  have g11 := heap_alloc_new ((z2.alloc (.cells #[was] 34)).alloc (.cells #[va] 26)) (.cells #[ma] 34)
  rw [e1] at g10
  rw [e2] at g11
  rw [← hs] at g9
  have j1 : Below z2.heap.size z2 (z2.alloc (.cells #[was] 34)) := (Below.refl _ _).alloc (Nat.le_refl _) _
  have j2 : Below (s + 1) (z2.alloc (.cells #[was] 34)) ((z2.alloc (.cells #[was] 34)).alloc (.cells #[va] 26)) := (Below.refl _ _).alloc (by omega) _
  have j3 : Below (s + 2) ((z2.alloc (.cells #[was] 34)).alloc (.cells #[va] 26)) z4 := by rw [h4]; exact (Below.refl _ _).alloc (by omega) _
  have jj : Below z2.heap.size z2 z4 := j1.trans ((j2.mono (by omega)).trans (j3.mono (by omega)))
  have m4 := m2.keep jj
  have hw := own_below jj ho
  refine ⟨m4, (jj.block q (by omega)).trans ((hb.block q (by omega)).trans g8), (j3.block s (show s < s + 2 by omega)).trans ((j2.block s (show s < s + 1 by omega)).trans g9), (j3.block (s + 1) (show s + 1 < s + 2 by omega)).trans g10, by rw [h4]; exact g11, OwnR.less (show p0 + 2 ≤ z1.heap.size by omega) hw, m4.oa, m4.ob, ?_, by omega⟩
  have ha : ∀ k, va.ownBlock = some k → k < s := fun k hk => by have := (World.ownsRow.lt m2.oa k hk).2; omega
  have hm : ∀ k, ma.ownBlock = some k → k < s := fun k hk => by have := (World.ownsRow.lt m2.ob k hk).2; omega
  have hww : ∀ k, was.ownBlock = some k → k < s := fun k hk => by have := (World.ownsRow.lt ho k hk).2; omega
  rintro v (rfl | rfl | rfl | rfl | rfl) k hk
  · have := ha k hk; omega
  · have := hm k hk; omega
  · have := hww k hk; omega
  · have := ha k hk; omega
  · have := hm k hk; omega
end Go.Proofs.Ytpadbkplknnopaa
